/-
  The target machine: what the reference's instructions read; the statement MachineOperands.
  Conditions: none.
-/
import Derived.Test.YtfmcdageaananaaDoorC29
import Derived.KernelRfl
set_option linter.unusedVariables false
set_option linter.unusedSimpArgs false
namespace Go.Proofs.YtfmcdageaananaaDoor
open Go.Pv Go.M29
def insInv (l : List Int) (n : Int) : Inv' := atX Nat (fun i => [(0, .v (.vslice none 0 l.length 1 (l.map (IV.int .i64)))), (1, .v (.int .i64 n)), (5, .v (.int .i64 i))]) (fun _ => []) (fun _ => Heap.empty)
  (fun i => i ≤ l.length ∧ ∀ j (h : j < l.length), j < i → l[j] < n) (fun i => l.length - i)
def insCut (l : List Int) (n : Int) : Inv' := atX Nat (fun i => [(0, .v (.vslice none 0 l.length 1 (l.map (IV.int .i64)))), (1, .v (.int .i64 n)), (5, .v (.int .i64 i))]) (fun _ => []) (fun _ => Heap.empty)
  (fun i => i ≤ l.length ∧ (∀ j (h : j < l.length), j < i → l[j] < n) ∧ ∀ h : i < l.length, n ≤ l[i]) (fun i => 0)
def insCut2 (l : List Int) (n : Int) : Inv' := atX Nat (fun i => [(0, .v (.vslice none 0 l.length 1 (l.map (IV.int .i64)))), (1, .v (.int .i64 n)), (5, .v (.int .i64 i))]) (fun _ => []) (fun _ => Heap.empty)
  (fun i => i ≤ l.length ∧ insI l n = l.take i ++ n :: l.drop i) (fun i => 0)
def kInsert (xs : List IV) (h : Heap) (K : IV → Heap → Prop) : Prop := match xs with
  | [.vslice none e1 n1 1 c1, .int .i64 n] => ∃ l : List Int, (n1 = l.length ∧ c1 = l.map (IV.int .i64)) ∧ l.length ≤ 100 ∧ K (.vslice none 0 (insI l n).length 1 ((insI l n).map (IV.int .i64))) h
  | _ => False
set_option maxRecDepth 100000 in
theorem vInsert (l : List Int) (e1 : Nat) (n : Int) (h : Heap) (Q : IV → Heap → Prop) : dF (stdS cReads) env 45 noU (ic1 3 (insInv l n)) (icA 5 (insCut l n) (ic1 7 (insCut2 l n))) [.vslice none e1 (l).length 1 ((l).map (IV.int .i64)), .int .i64 n] h Q = (
  needS (pureL [IV.vslice none (0 : Nat) (List.length l) (1 : Nat) (List.map (IV.int IntKind.i64) l), IV.int IntKind.i64 n])
    (((∃ (x : Nat),
          some (TV.v (IV.vslice none (0 : Nat) (List.length l) (1 : Nat) (List.map (IV.int IntKind.i64) l))) = some (TV.v (IV.vslice none (0 : Nat) (List.length l) (1 : Nat) (List.map (IV.int IntKind.i64) l))) ∧
            some (TV.v (IV.int IntKind.i64 n)) = some (TV.v (IV.int IntKind.i64 n)) ∧
              some (TV.v (IV.int IntKind.i64 (0 : Int))) = some (TV.v (IV.int IntKind.i64 (↑x : Int))) ∧
                Heap.mk PT.nil (0 : Nat) = Heap.mk PT.nil (0 : Nat) ∧ (x ≤ List.length l ∧ ∀ (j : Nat) (h : j < List.length l), j < x → l[j] < n) ∧ True) ∧
        ∀ (x : Nat) (b : FF),
          (x ≤ List.length l ∧ ∀ (j : Nat) (h : j < List.length l), j < x → l[j] < n) →
            brS (decide ((↑x : Int) < (↑(List.length l) : Int)))
              (needS (decide ((0 : Int) ≤ (↑x : Int)) && decide ((↑x : Int) < (↑(List.length l) : Int)))
                (ldIS IntKind.i64 (List.map (IV.int IntKind.i64) l) (Int.toNat (↑x : Int) * (1 : Nat)) fun (n0 : Int) =>
                  brS (decide (n0 < n))
                    (∃ (x_1 : Nat),
                      some (TV.v (IV.vslice none (0 : Nat) (List.length l) (1 : Nat) (List.map (IV.int IntKind.i64) l))) = some (TV.v (IV.vslice none (0 : Nat) (List.length l) (1 : Nat) (List.map (IV.int IntKind.i64) l))) ∧
                        some (TV.v (IV.int IntKind.i64 n)) = some (TV.v (IV.int IntKind.i64 n)) ∧
                          some (TV.v (IV.int IntKind.i64 (IntKind.wrap IntKind.i64 ((↑x : Int) + (1 : Int))))) = some (TV.v (IV.int IntKind.i64 (↑x_1 : Int))) ∧
                            Heap.mk PT.nil (0 : Nat) = Heap.mk PT.nil (0 : Nat) ∧ (x_1 ≤ List.length l ∧ ∀ (j : Nat) (h : j < List.length l), j < x_1 → l[j] < n) ∧ List.length l - x_1 < List.length l - x)
                    (∃ (x_1 : Nat),
                      some (TV.v (IV.vslice none (0 : Nat) (List.length l) (1 : Nat) (List.map (IV.int IntKind.i64) l))) = some (TV.v (IV.vslice none (0 : Nat) (List.length l) (1 : Nat) (List.map (IV.int IntKind.i64) l))) ∧
                        some (TV.v (IV.int IntKind.i64 n)) = some (TV.v (IV.int IntKind.i64 n)) ∧
                          some (TV.v (IV.int IntKind.i64 (↑x : Int))) = some (TV.v (IV.int IntKind.i64 (↑x_1 : Int))) ∧
                            Heap.mk PT.nil (0 : Nat) = Heap.mk PT.nil (0 : Nat) ∧ (x_1 ≤ List.length l ∧ (∀ (j : Nat) (h : j < List.length l), j < x_1 → l[j] < n) ∧ ∀ (h : x_1 < List.length l), n ≤ l[x_1]) ∧ True)))
              (∃ (x_1 : Nat),
                some (TV.v (IV.vslice none (0 : Nat) (List.length l) (1 : Nat) (List.map (IV.int IntKind.i64) l))) = some (TV.v (IV.vslice none (0 : Nat) (List.length l) (1 : Nat) (List.map (IV.int IntKind.i64) l))) ∧
                  some (TV.v (IV.int IntKind.i64 n)) = some (TV.v (IV.int IntKind.i64 n)) ∧
                    some (TV.v (IV.int IntKind.i64 (↑x : Int))) = some (TV.v (IV.int IntKind.i64 (↑x_1 : Int))) ∧
                      Heap.mk PT.nil (0 : Nat) = Heap.mk PT.nil (0 : Nat) ∧ (x_1 ≤ List.length l ∧ (∀ (j : Nat) (h : j < List.length l), j < x_1 → l[j] < n) ∧ ∀ (h : x_1 < List.length l), n ≤ l[x_1]) ∧ True)) ∧
      ∀ (x : Nat) (b : FF),
        (x ≤ List.length l ∧ (∀ (j : Nat) (h : j < List.length l), j < x → l[j] < n) ∧ ∀ (h : x < List.length l), n ≤ l[x]) →
          brS (decide ((↑x : Int) < (↑(List.length l) : Int)))
              (needS (decide ((0 : Int) ≤ (↑x : Int)) && decide ((↑x : Int) < (↑(List.length l) : Int)))
                (ldIS IntKind.i64 (List.map (IV.int IntKind.i64) l) (Int.toNat (↑x : Int) * (1 : Nat)) fun (n1 : Int) =>
                  brS (n1 == n) (needS (pureL [IV.vslice none (0 : Nat) (List.length l) (1 : Nat) (List.map (IV.int IntKind.i64) l)]) (Q (IV.vslice none (0 : Nat) (List.length l) (1 : Nat) (List.map (IV.int IntKind.i64) l)) h))
                    (∃ (x_1 : Nat),
                      some (TV.v (IV.vslice none (0 : Nat) (List.length l) (1 : Nat) (List.map (IV.int IntKind.i64) l))) = some (TV.v (IV.vslice none (0 : Nat) (List.length l) (1 : Nat) (List.map (IV.int IntKind.i64) l))) ∧
                        some (TV.v (IV.int IntKind.i64 n)) = some (TV.v (IV.int IntKind.i64 n)) ∧
                          some (TV.v (IV.int IntKind.i64 (↑x : Int))) = some (TV.v (IV.int IntKind.i64 (↑x_1 : Int))) ∧
                            Heap.mk PT.nil (0 : Nat) = Heap.mk PT.nil (0 : Nat) ∧ (x_1 ≤ List.length l ∧ insI l n = List.take x_1 l ++ n :: List.drop x_1 l) ∧ True)))
              (∃ (x_1 : Nat),
                some (TV.v (IV.vslice none (0 : Nat) (List.length l) (1 : Nat) (List.map (IV.int IntKind.i64) l))) = some (TV.v (IV.vslice none (0 : Nat) (List.length l) (1 : Nat) (List.map (IV.int IntKind.i64) l))) ∧
                  some (TV.v (IV.int IntKind.i64 n)) = some (TV.v (IV.int IntKind.i64 n)) ∧
                    some (TV.v (IV.int IntKind.i64 (↑x : Int))) = some (TV.v (IV.int IntKind.i64 (↑x_1 : Int))) ∧
                      Heap.mk PT.nil (0 : Nat) = Heap.mk PT.nil (0 : Nat) ∧ (x_1 ≤ List.length l ∧ insI l n = List.take x_1 l ++ n :: List.drop x_1 l) ∧ True) ∧
            ∀ (x : Nat) (b : FF),
              x ≤ List.length l ∧ insI l n = List.take x l ++ n :: List.drop x l →
                needS (true && (decide ((0 : Int) ≤ (↑x : Int)) && decide ((↑x : Int) ≤ (↑(List.length l) : Int))))
                  (brS (Nat.beq (Int.toNat (↑x : Int) - (0 : Nat)) (0 : Nat))
                    (needS (decide ((0 : Int) ≤ (↑x : Int)) && (decide ((↑x : Int) ≤ (↑(List.length l) : Int)) && decide ((↑(List.length l) : Int) ≤ (↑(List.length l) : Int))))
                      (brS (Nat.beq (Int.toNat (↑(List.length l) : Int) - Int.toNat (↑x : Int)) (0 : Nat)) (Q (IV.vslice none (0 : Nat) (1 : Nat) (1 : Nat) [IV.int IntKind.i64 n]) h)
                        (needS (true && Nat.ble (((1 : Nat) + (Int.toNat (↑(List.length l) : Int) - Int.toNat (↑x : Int))) * (8 : Nat)) (140737488355328 : Nat))
                          (needS
                            (pureL
                              [IV.vslice none (0 : Nat) ((1 : Nat) + (Int.toNat (↑(List.length l) : Int) - Int.toNat (↑x : Int))) (1 : Nat)
                                  (IV.int IntKind.i64 n :: List.take ((Int.toNat (↑(List.length l) : Int) - Int.toNat (↑x : Int)) * (1 : Nat)) (List.drop (Int.toNat (↑x : Int) * (1 : Nat)) (List.map (IV.int IntKind.i64) l)))])
                            (Q
                              (IV.vslice none (0 : Nat) ((1 : Nat) + (Int.toNat (↑(List.length l) : Int) - Int.toNat (↑x : Int))) (1 : Nat)
                                (IV.int IntKind.i64 n :: List.take ((Int.toNat (↑(List.length l) : Int) - Int.toNat (↑x : Int)) * (1 : Nat)) (List.drop (Int.toNat (↑x : Int) * (1 : Nat)) (List.map (IV.int IntKind.i64) l))))
                              h)))))
                    (needS (Nat.ble ((Int.toNat (↑x : Int) - (0 : Nat)) * (8 : Nat)) (140737488355328 : Nat))
                      (needS (Nat.beq ((Int.toNat (↑x : Int) - (0 : Nat)) * (1 : Nat)) ((Int.toNat (↑x : Int) - (0 : Nat)) * (1 : Nat)) && Nat.ble ((Int.toNat (↑x : Int) - (0 : Nat) + (1 : Nat)) * (8 : Nat)) (140737488355328 : Nat))
                        (needS (decide ((0 : Int) ≤ (↑x : Int)) && (decide ((↑x : Int) ≤ (↑(List.length l) : Int)) && decide ((↑(List.length l) : Int) ≤ (↑(List.length l) : Int))))
                          (brS (Nat.beq (Int.toNat (↑(List.length l) : Int) - Int.toNat (↑x : Int)) (0 : Nat))
                            (needS
                              (pureL
                                [IV.vslice none (0 : Nat) (Int.toNat (↑x : Int) - (0 : Nat) + (1 : Nat)) (1 : Nat)
                                    (List.take ((Int.toNat (↑x : Int) - (0 : Nat)) * (1 : Nat)) (List.drop (0 : Nat) (List.map (IV.int IntKind.i64) l)) ++ [IV.int IntKind.i64 n])])
                              (Q
                                (IV.vslice none (0 : Nat) (Int.toNat (↑x : Int) - (0 : Nat) + (1 : Nat)) (1 : Nat)
                                  (List.take ((Int.toNat (↑x : Int) - (0 : Nat)) * (1 : Nat)) (List.drop (0 : Nat) (List.map (IV.int IntKind.i64) l)) ++ [IV.int IntKind.i64 n]))
                                h))
                            (needS
                              (Nat.beq ((Int.toNat (↑x : Int) - (0 : Nat)) * (1 : Nat) + (1 : Nat)) ((Int.toNat (↑x : Int) - (0 : Nat)) * (1 : Nat) + (1 : Nat)) &&
                                Nat.ble ((Int.toNat (↑x : Int) - (0 : Nat) + (1 : Nat) + (Int.toNat (↑(List.length l) : Int) - Int.toNat (↑x : Int))) * (8 : Nat)) (140737488355328 : Nat))
                              (needS
                                (pureL
                                  [IV.vslice none (0 : Nat) (Int.toNat (↑x : Int) - (0 : Nat) + (1 : Nat) + (Int.toNat (↑(List.length l) : Int) - Int.toNat (↑x : Int))) (1 : Nat)
                                      (List.take ((Int.toNat (↑x : Int) - (0 : Nat)) * (1 : Nat)) (List.drop (0 : Nat) (List.map (IV.int IntKind.i64) l)) ++ [IV.int IntKind.i64 n] ++
                                        List.take ((Int.toNat (↑(List.length l) : Int) - Int.toNat (↑x : Int)) * (1 : Nat)) (List.drop (Int.toNat (↑x : Int) * (1 : Nat)) (List.map (IV.int IntKind.i64) l)))])
                                (Q
                                  (IV.vslice none (0 : Nat) (Int.toNat (↑x : Int) - (0 : Nat) + (1 : Nat) + (Int.toNat (↑(List.length l) : Int) - Int.toNat (↑x : Int))) (1 : Nat)
                                    (List.take ((Int.toNat (↑x : Int) - (0 : Nat)) * (1 : Nat)) (List.drop (0 : Nat) (List.map (IV.int IntKind.i64) l)) ++ [IV.int IntKind.i64 n] ++
                                      List.take ((Int.toNat (↑(List.length l) : Int) - Int.toNat (↑x : Int)) * (1 : Nat)) (List.drop (Int.toNat (↑x : Int) * (1 : Nat)) (List.map (IV.int IntKind.i64) l))))
                                  h)))))))))) := by kernel_rfl
theorem sInsert : ∀ xs h Q, kInsert xs h Q → CallW env 45 xs h Q := by
  intro xs h Q hk
  unfold kInsert at hk
  split at hk
  · rename_i e1 n1 c1 n
    obtain ⟨l, ⟨rfl, rfl⟩, hb, hk⟩ := hk
    refine dF_sound (okReads) (mp_eq (vInsert l e1 n h Q) ?_)
    refine needS_intro (by simp only [pureL, pureB, pureL_ints, Bool.and_true]) ?_
    have tn : ∀ x : Nat, (x : Int).toNat = x := Int.toNat_natCast
    refine ⟨⟨⟨0, rfl, rfl, rfl, rfl, ⟨by omega, fun j _ hj => by omega⟩, trivial⟩, fun i _ hi => brS_intro (fun c1 => ?_) (fun c1 => ?_)⟩, fun i _ hi => ⟨brS_intro (fun c1 => ?_) (fun c1 => ?_), fun i _ hi => ?_⟩⟩
    · simp only [decide_eq_true_eq] at c1
      have hi1 : i < l.length := by omega
      simp only [tn, Nat.mul_one]
      refine needS_intro (by simp; omega) (ldIS_map hi1 (brS_intro (fun c2 => ?_) (fun c2 => ?_)))
      · simp only [decide_eq_true_eq] at c2
        have e2 : IntKind.i64.wrap ((i : Int) + 1) = ((i + 1 : Nat) : Int) := by rw [IntWalk.i64_in _ (by omega)]; rfl
        refine ⟨i + 1, (by first | rfl | trivial), (by first | rfl | trivial), by rw [e2], (by first | rfl | trivial), ⟨by omega, fun j h hj => ?_⟩, by omega⟩
        rcases Nat.lt_or_ge j i with q | q
        · exact hi.2 j h q
        · obtain rfl : j = i := by omega
          exact c2
      · simp only [decide_eq_false_iff_not] at c2
        exact ⟨i, (by first | rfl | trivial), (by first | rfl | trivial), (by first | rfl | trivial), (by first | rfl | trivial), ⟨hi.1, hi.2, fun _ => by omega⟩, trivial⟩
    · simp only [decide_eq_false_iff_not] at c1
      exact ⟨i, (by first | rfl | trivial), (by first | rfl | trivial), (by first | rfl | trivial), (by first | rfl | trivial), ⟨hi.1, hi.2, fun _ => by omega⟩, trivial⟩
    · simp only [decide_eq_true_eq] at c1
      have hi1 : i < l.length := by omega
      simp only [tn, Nat.mul_one]
      refine needS_intro (by simp; omega) (ldIS_map hi1 (brS_intro (fun c2 => ?_) (fun c2 => ?_)))
      · rw [beq_iff_eq] at c2
        rw [insI_mem hi1 hi.2.1 c2] at hk
        exact slQ hk rfl rfl
      · rw [beq_eq_false_iff_ne] at c2
        exact ⟨i, (by first | rfl | trivial), (by first | rfl | trivial), (by first | rfl | trivial), (by first | rfl | trivial), ⟨hi.1, insI_at hi.1 hi.2.1 fun h => by have := hi.2.2 h; omega⟩, trivial⟩
    · simp only [decide_eq_false_iff_not] at c1
      exact ⟨i, (by first | rfl | trivial), (by first | rfl | trivial), (by first | rfl | trivial), (by first | rfl | trivial), ⟨hi.1, insI_at hi.1 hi.2.1 fun h => by omega⟩, trivial⟩
    · obtain ⟨h1, h2⟩ := hi
      have hd : List.take (l.length - i) (List.drop i (l.map (IV.int .i64))) = (l.drop i).map (IV.int .i64) := by rw [List.take_of_length_le (by simp), List.map_drop]
      have hlen : (insI l n).length = l.length + 1 := by rw [h2]; simp; omega
      simp only [tn, Nat.mul_one, Nat.sub_zero, List.drop_zero, hd]
      have ht : List.take i (l.map (IV.int .i64)) = (l.take i).map (IV.int .i64) := List.map_take.symm
      simp only [ht]
      refine needS_intro (by simp; omega) (brS_intro (fun c1 => needS_intro (by simp; omega) (brS_intro (fun c2 => ?_) (fun c2 => needS_intro (by simp; omega) (slQ hk ?_ ?_)))) (fun c1 => needS_intro (by simp; omega) (needS_intro (by simp; omega) (needS_intro (by simp; omega) (brS_intro (fun c2 => slQ hk ?_ ?_) (fun c2 => needS_intro (by simp; omega) (slQ hk ?_ ?_)))))))
      all_goals simp only [nbeq_t, nbeq_f] at c1 c2
      · obtain rfl : l = [] := List.eq_nil_of_length_eq_zero (by omega)
        exact hk
      · subst c1; rw [h2]; simp
      · rw [hlen]; omega
      · rw [h2, List.drop_eq_nil_of_le (by omega)]; simp
      · rw [hlen]; omega
      · rw [h2]; simp
      · rw [hlen]; omega
  · exact hk.elim
def cInsert := addC 45 kInsert cReads
theorem okInsert : Sound env cInsert := sound_add sInsert (okReads)

def rrInv (op a b c n : Int) : Inv' := .or
  (atX Nat (fun k => [(1, .l 1 0), (3, .v .nilslice), (6, .v (.int .i64 k))]) (fun _ => [(1, [.int .i64 op, .int .i64 a, .int .i64 b, .int .i64 c, .int .i64 n])]) (fun _ => Heap.empty) (fun k => validI op a b c n = true ∧ lst (rdk op a b c k) = [] ∧ (op = 6 → (k : Int) ≤ a)) (fun k => a.toNat - k))
  (atX Nat (fun k => [(1, .l 1 0), (3, .v (.vslice none 0 (lst (rdk op a b c k)).length 1 ((lst (rdk op a b c k)).map (IV.int .i64)))), (6, .v (.int .i64 k))]) (fun _ => [(1, [.int .i64 op, .int .i64 a, .int .i64 b, .int .i64 c, .int .i64 n])]) (fun _ => Heap.empty) (fun k => validI op a b c n = true ∧ (op = 6 → (k : Int) ≤ a)) (fun k => a.toNat - k))
def kRReads (xs : List IV) (h : Heap) (K : IV → Heap → Prop) : Prop := match xs with
  | [.agg [.int .i64 op, .int .i64 a, .int .i64 b, .int .i64 c, .int .i64 n]] => K (.vslice none 0 (rdI op a b c n).length 1 ((rdI op a b c n).map (IV.int .i64))) h
  | _ => False
set_option maxRecDepth 100000 in
theorem vRReads (op a b c n : Int) (h : Heap) (Q : IV → Heap → Prop) : dF (stdS cInsert) env 27 noU (ic1 13 (rrInv op a b c n)) (icS (icA 8 (.or (atP (validI op a b c n = true ∧ lst (rd1 op a) = []) [(1, .l 1 0), (3, .v .nilslice), (4, .l 4 0)] [(1, [.int .i64 op, .int .i64 a, .int .i64 b, .int .i64 c, .int .i64 n]), (4, [.str (rowOf op).nm, .int .i64 (rowOf op).fm, .bool (rowOf op).ra, .bool (rowOf op).wa, .bool (rowOf op).rb, .bool (rowOf op).mt, .int .i64 (rowOf op).wd])] Heap.empty) (atP (validI op a b c n = true) [(1, .l 1 0), (3, .v (.vslice none 0 (lst (rd1 op a)).length 1 ((lst (rd1 op a)).map (IV.int .i64)))), (4, .l 4 0)] [(1, [.int .i64 op, .int .i64 a, .int .i64 b, .int .i64 c, .int .i64 n]), (4, [.str (rowOf op).nm, .int .i64 (rowOf op).fm, .bool (rowOf op).ra, .bool (rowOf op).wa, .bool (rowOf op).rb, .bool (rowOf op).mt, .int .i64 (rowOf op).wd])] Heap.empty)) (icA 10 (.or (atP (validI op a b c n = true ∧ lst (rd2 op a b) = []) [(1, .l 1 0), (3, .v .nilslice), (4, .l 4 0)] [(1, [.int .i64 op, .int .i64 a, .int .i64 b, .int .i64 c, .int .i64 n]), (4, [.str (rowOf op).nm, .int .i64 (rowOf op).fm, .bool (rowOf op).ra, .bool (rowOf op).wa, .bool (rowOf op).rb, .bool (rowOf op).mt, .int .i64 (rowOf op).wd])] Heap.empty) (atP (validI op a b c n = true) [(1, .l 1 0), (3, .v (.vslice none 0 (lst (rd2 op a b)).length 1 ((lst (rd2 op a b)).map (IV.int .i64)))), (4, .l 4 0)] [(1, [.int .i64 op, .int .i64 a, .int .i64 b, .int .i64 c, .int .i64 n]), (4, [.str (rowOf op).nm, .int .i64 (rowOf op).fm, .bool (rowOf op).ra, .bool (rowOf op).wa, .bool (rowOf op).rb, .bool (rowOf op).mt, .int .i64 (rowOf op).wd])] Heap.empty)) (icA 12 (.or (atP (validI op a b c n = true ∧ lst (rd3 op a b c) = []) [(1, .l 1 0), (3, .v .nilslice)] [(1, [.int .i64 op, .int .i64 a, .int .i64 b, .int .i64 c, .int .i64 n])] Heap.empty) (atP (validI op a b c n = true) [(1, .l 1 0), (3, .v (.vslice none 0 (lst (rd3 op a b c)).length 1 ((lst (rd3 op a b c)).map (IV.int .i64))))] [(1, [.int .i64 op, .int .i64 a, .int .i64 b, .int .i64 c, .int .i64 n])] Heap.empty)) (ic1 16 (.or (atP (validI op a b c n = true ∧ lst (rd4 op a b c) = []) [(1, .l 1 0), (3, .v .nilslice)] [(1, [.int .i64 op, .int .i64 a, .int .i64 b, .int .i64 c, .int .i64 n])] Heap.empty) (atP (validI op a b c n = true) [(1, .l 1 0), (3, .v (.vslice none 0 (lst (rd4 op a b c)).length 1 ((lst (rd4 op a b c)).map (IV.int .i64))))] [(1, [.int .i64 op, .int .i64 a, .int .i64 b, .int .i64 c, .int .i64 n])] Heap.empty))))))) [.agg [.int .i64 op, .int .i64 a, .int .i64 b, .int .i64 c, .int .i64 n]] h Q = (
  brS (!validI op a b c n) (Q (IV.vslice none (0 : Nat) (0 : Nat) (1 : Nat) []) h)
      (brS (Row.ra (rowOf op))
        (∃ (l : List Int),
          ((0 : Nat) = List.length l ∧ [] = List.map (IV.int IntKind.i64) l) ∧
            List.length l ≤ (100 : Nat) ∧
              (some (TV.l (1 : Nat) (0 : Nat)) = some (TV.l (1 : Nat) (0 : Nat)) ∧
                  some (TV.v (IV.vslice none (0 : Nat) (List.length (insI l a)) (1 : Nat) (List.map (IV.int IntKind.i64) (insI l a)))) = some (TV.v IV.nilslice) ∧
                    some (TV.l (4 : Nat) (0 : Nat)) = some (TV.l (4 : Nat) (0 : Nat)) ∧
                      some [IV.int IntKind.i64 op, IV.int IntKind.i64 a, IV.int IntKind.i64 b, IV.int IntKind.i64 c, IV.int IntKind.i64 n] =
                          some [IV.int IntKind.i64 op, IV.int IntKind.i64 a, IV.int IntKind.i64 b, IV.int IntKind.i64 c, IV.int IntKind.i64 n] ∧
                        some
                              [IV.str (Row.nm (rowOf op)), IV.int IntKind.i64 (Row.fm (rowOf op)), IV.bool (Row.ra (rowOf op)), IV.bool (Row.wa (rowOf op)), IV.bool (Row.rb (rowOf op)), IV.bool (Row.mt (rowOf op)),
                                IV.int IntKind.i64 (Row.wd (rowOf op))] =
                            some
                              [IV.str (Row.nm (rowOf op)), IV.int IntKind.i64 (Row.fm (rowOf op)), IV.bool (Row.ra (rowOf op)), IV.bool (Row.wa (rowOf op)), IV.bool (Row.rb (rowOf op)), IV.bool (Row.mt (rowOf op)),
                                IV.int IntKind.i64 (Row.wd (rowOf op))] ∧
                          Heap.mk PT.nil (0 : Nat) = Heap.mk PT.nil (0 : Nat) ∧ (validI op a b c n = true ∧ lst (rd1 op a) = []) ∧ True ∨
                some (TV.l (1 : Nat) (0 : Nat)) = some (TV.l (1 : Nat) (0 : Nat)) ∧
                  some (TV.v (IV.vslice none (0 : Nat) (List.length (insI l a)) (1 : Nat) (List.map (IV.int IntKind.i64) (insI l a)))) =
                      some (TV.v (IV.vslice none (0 : Nat) (List.length (lst (rd1 op a))) (1 : Nat) (List.map (IV.int IntKind.i64) (lst (rd1 op a))))) ∧
                    some (TV.l (4 : Nat) (0 : Nat)) = some (TV.l (4 : Nat) (0 : Nat)) ∧
                      some [IV.int IntKind.i64 op, IV.int IntKind.i64 a, IV.int IntKind.i64 b, IV.int IntKind.i64 c, IV.int IntKind.i64 n] =
                          some [IV.int IntKind.i64 op, IV.int IntKind.i64 a, IV.int IntKind.i64 b, IV.int IntKind.i64 c, IV.int IntKind.i64 n] ∧
                        some
                              [IV.str (Row.nm (rowOf op)), IV.int IntKind.i64 (Row.fm (rowOf op)), IV.bool (Row.ra (rowOf op)), IV.bool (Row.wa (rowOf op)), IV.bool (Row.rb (rowOf op)), IV.bool (Row.mt (rowOf op)),
                                IV.int IntKind.i64 (Row.wd (rowOf op))] =
                            some
                              [IV.str (Row.nm (rowOf op)), IV.int IntKind.i64 (Row.fm (rowOf op)), IV.bool (Row.ra (rowOf op)), IV.bool (Row.wa (rowOf op)), IV.bool (Row.rb (rowOf op)), IV.bool (Row.mt (rowOf op)),
                                IV.int IntKind.i64 (Row.wd (rowOf op))] ∧
                          Heap.mk PT.nil (0 : Nat) = Heap.mk PT.nil (0 : Nat) ∧ validI op a b c n = true ∧ True))
        (some (TV.l (1 : Nat) (0 : Nat)) = some (TV.l (1 : Nat) (0 : Nat)) ∧
            some (TV.v IV.nilslice) = some (TV.v IV.nilslice) ∧
              some (TV.l (4 : Nat) (0 : Nat)) = some (TV.l (4 : Nat) (0 : Nat)) ∧
                some [IV.int IntKind.i64 op, IV.int IntKind.i64 a, IV.int IntKind.i64 b, IV.int IntKind.i64 c, IV.int IntKind.i64 n] =
                    some [IV.int IntKind.i64 op, IV.int IntKind.i64 a, IV.int IntKind.i64 b, IV.int IntKind.i64 c, IV.int IntKind.i64 n] ∧
                  some
                        [IV.str (Row.nm (rowOf op)), IV.int IntKind.i64 (Row.fm (rowOf op)), IV.bool (Row.ra (rowOf op)), IV.bool (Row.wa (rowOf op)), IV.bool (Row.rb (rowOf op)), IV.bool (Row.mt (rowOf op)),
                          IV.int IntKind.i64 (Row.wd (rowOf op))] =
                      some
                        [IV.str (Row.nm (rowOf op)), IV.int IntKind.i64 (Row.fm (rowOf op)), IV.bool (Row.ra (rowOf op)), IV.bool (Row.wa (rowOf op)), IV.bool (Row.rb (rowOf op)), IV.bool (Row.mt (rowOf op)),
                          IV.int IntKind.i64 (Row.wd (rowOf op))] ∧
                    Heap.mk PT.nil (0 : Nat) = Heap.mk PT.nil (0 : Nat) ∧ (validI op a b c n = true ∧ lst (rd1 op a) = []) ∧ True ∨
          some (TV.l (1 : Nat) (0 : Nat)) = some (TV.l (1 : Nat) (0 : Nat)) ∧
            some (TV.v IV.nilslice) = some (TV.v (IV.vslice none (0 : Nat) (List.length (lst (rd1 op a))) (1 : Nat) (List.map (IV.int IntKind.i64) (lst (rd1 op a))))) ∧
              some (TV.l (4 : Nat) (0 : Nat)) = some (TV.l (4 : Nat) (0 : Nat)) ∧
                some [IV.int IntKind.i64 op, IV.int IntKind.i64 a, IV.int IntKind.i64 b, IV.int IntKind.i64 c, IV.int IntKind.i64 n] =
                    some [IV.int IntKind.i64 op, IV.int IntKind.i64 a, IV.int IntKind.i64 b, IV.int IntKind.i64 c, IV.int IntKind.i64 n] ∧
                  some
                        [IV.str (Row.nm (rowOf op)), IV.int IntKind.i64 (Row.fm (rowOf op)), IV.bool (Row.ra (rowOf op)), IV.bool (Row.wa (rowOf op)), IV.bool (Row.rb (rowOf op)), IV.bool (Row.mt (rowOf op)),
                          IV.int IntKind.i64 (Row.wd (rowOf op))] =
                      some
                        [IV.str (Row.nm (rowOf op)), IV.int IntKind.i64 (Row.fm (rowOf op)), IV.bool (Row.ra (rowOf op)), IV.bool (Row.wa (rowOf op)), IV.bool (Row.rb (rowOf op)), IV.bool (Row.mt (rowOf op)),
                          IV.int IntKind.i64 (Row.wd (rowOf op))] ∧
                    Heap.mk PT.nil (0 : Nat) = Heap.mk PT.nil (0 : Nat) ∧ validI op a b c n = true ∧ True)) ∧
    ((∀ (x : Unit) (b_1 : FF),
          validI op a b c n = true ∧ lst (rd1 op a) = [] →
            brS (Row.rb (rowOf op))
              (∃ (l : List Int),
                ((0 : Nat) = List.length l ∧ [] = List.map (IV.int IntKind.i64) l) ∧
                  List.length l ≤ (100 : Nat) ∧
                    (some (TV.l (1 : Nat) (0 : Nat)) = some (TV.l (1 : Nat) (0 : Nat)) ∧
                        some (TV.v (IV.vslice none (0 : Nat) (List.length (insI l b)) (1 : Nat) (List.map (IV.int IntKind.i64) (insI l b)))) = some (TV.v IV.nilslice) ∧
                          some (TV.l (4 : Nat) (0 : Nat)) = some (TV.l (4 : Nat) (0 : Nat)) ∧
                            some [IV.int IntKind.i64 op, IV.int IntKind.i64 a, IV.int IntKind.i64 b, IV.int IntKind.i64 c, IV.int IntKind.i64 n] =
                                some [IV.int IntKind.i64 op, IV.int IntKind.i64 a, IV.int IntKind.i64 b, IV.int IntKind.i64 c, IV.int IntKind.i64 n] ∧
                              some
                                    [IV.str (Row.nm (rowOf op)), IV.int IntKind.i64 (Row.fm (rowOf op)), IV.bool (Row.ra (rowOf op)), IV.bool (Row.wa (rowOf op)), IV.bool (Row.rb (rowOf op)), IV.bool (Row.mt (rowOf op)),
                                      IV.int IntKind.i64 (Row.wd (rowOf op))] =
                                  some
                                    [IV.str (Row.nm (rowOf op)), IV.int IntKind.i64 (Row.fm (rowOf op)), IV.bool (Row.ra (rowOf op)), IV.bool (Row.wa (rowOf op)), IV.bool (Row.rb (rowOf op)), IV.bool (Row.mt (rowOf op)),
                                      IV.int IntKind.i64 (Row.wd (rowOf op))] ∧
                                Heap.mk PT.nil (0 : Nat) = Heap.mk PT.nil (0 : Nat) ∧ (validI op a b c n = true ∧ lst (rd2 op a b) = []) ∧ True ∨
                      some (TV.l (1 : Nat) (0 : Nat)) = some (TV.l (1 : Nat) (0 : Nat)) ∧
                        some (TV.v (IV.vslice none (0 : Nat) (List.length (insI l b)) (1 : Nat) (List.map (IV.int IntKind.i64) (insI l b)))) =
                            some (TV.v (IV.vslice none (0 : Nat) (List.length (lst (rd2 op a b))) (1 : Nat) (List.map (IV.int IntKind.i64) (lst (rd2 op a b))))) ∧
                          some (TV.l (4 : Nat) (0 : Nat)) = some (TV.l (4 : Nat) (0 : Nat)) ∧
                            some [IV.int IntKind.i64 op, IV.int IntKind.i64 a, IV.int IntKind.i64 b, IV.int IntKind.i64 c, IV.int IntKind.i64 n] =
                                some [IV.int IntKind.i64 op, IV.int IntKind.i64 a, IV.int IntKind.i64 b, IV.int IntKind.i64 c, IV.int IntKind.i64 n] ∧
                              some
                                    [IV.str (Row.nm (rowOf op)), IV.int IntKind.i64 (Row.fm (rowOf op)), IV.bool (Row.ra (rowOf op)), IV.bool (Row.wa (rowOf op)), IV.bool (Row.rb (rowOf op)), IV.bool (Row.mt (rowOf op)),
                                      IV.int IntKind.i64 (Row.wd (rowOf op))] =
                                  some
                                    [IV.str (Row.nm (rowOf op)), IV.int IntKind.i64 (Row.fm (rowOf op)), IV.bool (Row.ra (rowOf op)), IV.bool (Row.wa (rowOf op)), IV.bool (Row.rb (rowOf op)), IV.bool (Row.mt (rowOf op)),
                                      IV.int IntKind.i64 (Row.wd (rowOf op))] ∧
                                Heap.mk PT.nil (0 : Nat) = Heap.mk PT.nil (0 : Nat) ∧ validI op a b c n = true ∧ True))
              (some (TV.l (1 : Nat) (0 : Nat)) = some (TV.l (1 : Nat) (0 : Nat)) ∧
                  some (TV.v IV.nilslice) = some (TV.v IV.nilslice) ∧
                    some (TV.l (4 : Nat) (0 : Nat)) = some (TV.l (4 : Nat) (0 : Nat)) ∧
                      some [IV.int IntKind.i64 op, IV.int IntKind.i64 a, IV.int IntKind.i64 b, IV.int IntKind.i64 c, IV.int IntKind.i64 n] =
                          some [IV.int IntKind.i64 op, IV.int IntKind.i64 a, IV.int IntKind.i64 b, IV.int IntKind.i64 c, IV.int IntKind.i64 n] ∧
                        some
                              [IV.str (Row.nm (rowOf op)), IV.int IntKind.i64 (Row.fm (rowOf op)), IV.bool (Row.ra (rowOf op)), IV.bool (Row.wa (rowOf op)), IV.bool (Row.rb (rowOf op)), IV.bool (Row.mt (rowOf op)),
                                IV.int IntKind.i64 (Row.wd (rowOf op))] =
                            some
                              [IV.str (Row.nm (rowOf op)), IV.int IntKind.i64 (Row.fm (rowOf op)), IV.bool (Row.ra (rowOf op)), IV.bool (Row.wa (rowOf op)), IV.bool (Row.rb (rowOf op)), IV.bool (Row.mt (rowOf op)),
                                IV.int IntKind.i64 (Row.wd (rowOf op))] ∧
                          Heap.mk PT.nil (0 : Nat) = Heap.mk PT.nil (0 : Nat) ∧ (validI op a b c n = true ∧ lst (rd2 op a b) = []) ∧ True ∨
                some (TV.l (1 : Nat) (0 : Nat)) = some (TV.l (1 : Nat) (0 : Nat)) ∧
                  some (TV.v IV.nilslice) = some (TV.v (IV.vslice none (0 : Nat) (List.length (lst (rd2 op a b))) (1 : Nat) (List.map (IV.int IntKind.i64) (lst (rd2 op a b))))) ∧
                    some (TV.l (4 : Nat) (0 : Nat)) = some (TV.l (4 : Nat) (0 : Nat)) ∧
                      some [IV.int IntKind.i64 op, IV.int IntKind.i64 a, IV.int IntKind.i64 b, IV.int IntKind.i64 c, IV.int IntKind.i64 n] =
                          some [IV.int IntKind.i64 op, IV.int IntKind.i64 a, IV.int IntKind.i64 b, IV.int IntKind.i64 c, IV.int IntKind.i64 n] ∧
                        some
                              [IV.str (Row.nm (rowOf op)), IV.int IntKind.i64 (Row.fm (rowOf op)), IV.bool (Row.ra (rowOf op)), IV.bool (Row.wa (rowOf op)), IV.bool (Row.rb (rowOf op)), IV.bool (Row.mt (rowOf op)),
                                IV.int IntKind.i64 (Row.wd (rowOf op))] =
                            some
                              [IV.str (Row.nm (rowOf op)), IV.int IntKind.i64 (Row.fm (rowOf op)), IV.bool (Row.ra (rowOf op)), IV.bool (Row.wa (rowOf op)), IV.bool (Row.rb (rowOf op)), IV.bool (Row.mt (rowOf op)),
                                IV.int IntKind.i64 (Row.wd (rowOf op))] ∧
                          Heap.mk PT.nil (0 : Nat) = Heap.mk PT.nil (0 : Nat) ∧ validI op a b c n = true ∧ True)) ∧
        ∀ (x : Unit) (b_1 : FF),
          validI op a b c n = true →
            brS (Row.rb (rowOf op))
              (∃ (l : List Int),
                (List.length (lst (rd1 op a)) = List.length l ∧ List.map (IV.int IntKind.i64) (lst (rd1 op a)) = List.map (IV.int IntKind.i64) l) ∧
                  List.length l ≤ (100 : Nat) ∧
                    (some (TV.l (1 : Nat) (0 : Nat)) = some (TV.l (1 : Nat) (0 : Nat)) ∧
                        some (TV.v (IV.vslice none (0 : Nat) (List.length (insI l b)) (1 : Nat) (List.map (IV.int IntKind.i64) (insI l b)))) = some (TV.v IV.nilslice) ∧
                          some (TV.l (4 : Nat) (0 : Nat)) = some (TV.l (4 : Nat) (0 : Nat)) ∧
                            some [IV.int IntKind.i64 op, IV.int IntKind.i64 a, IV.int IntKind.i64 b, IV.int IntKind.i64 c, IV.int IntKind.i64 n] =
                                some [IV.int IntKind.i64 op, IV.int IntKind.i64 a, IV.int IntKind.i64 b, IV.int IntKind.i64 c, IV.int IntKind.i64 n] ∧
                              some
                                    [IV.str (Row.nm (rowOf op)), IV.int IntKind.i64 (Row.fm (rowOf op)), IV.bool (Row.ra (rowOf op)), IV.bool (Row.wa (rowOf op)), IV.bool (Row.rb (rowOf op)), IV.bool (Row.mt (rowOf op)),
                                      IV.int IntKind.i64 (Row.wd (rowOf op))] =
                                  some
                                    [IV.str (Row.nm (rowOf op)), IV.int IntKind.i64 (Row.fm (rowOf op)), IV.bool (Row.ra (rowOf op)), IV.bool (Row.wa (rowOf op)), IV.bool (Row.rb (rowOf op)), IV.bool (Row.mt (rowOf op)),
                                      IV.int IntKind.i64 (Row.wd (rowOf op))] ∧
                                Heap.mk PT.nil (0 : Nat) = Heap.mk PT.nil (0 : Nat) ∧ (validI op a b c n = true ∧ lst (rd2 op a b) = []) ∧ True ∨
                      some (TV.l (1 : Nat) (0 : Nat)) = some (TV.l (1 : Nat) (0 : Nat)) ∧
                        some (TV.v (IV.vslice none (0 : Nat) (List.length (insI l b)) (1 : Nat) (List.map (IV.int IntKind.i64) (insI l b)))) =
                            some (TV.v (IV.vslice none (0 : Nat) (List.length (lst (rd2 op a b))) (1 : Nat) (List.map (IV.int IntKind.i64) (lst (rd2 op a b))))) ∧
                          some (TV.l (4 : Nat) (0 : Nat)) = some (TV.l (4 : Nat) (0 : Nat)) ∧
                            some [IV.int IntKind.i64 op, IV.int IntKind.i64 a, IV.int IntKind.i64 b, IV.int IntKind.i64 c, IV.int IntKind.i64 n] =
                                some [IV.int IntKind.i64 op, IV.int IntKind.i64 a, IV.int IntKind.i64 b, IV.int IntKind.i64 c, IV.int IntKind.i64 n] ∧
                              some
                                    [IV.str (Row.nm (rowOf op)), IV.int IntKind.i64 (Row.fm (rowOf op)), IV.bool (Row.ra (rowOf op)), IV.bool (Row.wa (rowOf op)), IV.bool (Row.rb (rowOf op)), IV.bool (Row.mt (rowOf op)),
                                      IV.int IntKind.i64 (Row.wd (rowOf op))] =
                                  some
                                    [IV.str (Row.nm (rowOf op)), IV.int IntKind.i64 (Row.fm (rowOf op)), IV.bool (Row.ra (rowOf op)), IV.bool (Row.wa (rowOf op)), IV.bool (Row.rb (rowOf op)), IV.bool (Row.mt (rowOf op)),
                                      IV.int IntKind.i64 (Row.wd (rowOf op))] ∧
                                Heap.mk PT.nil (0 : Nat) = Heap.mk PT.nil (0 : Nat) ∧ validI op a b c n = true ∧ True))
              (some (TV.l (1 : Nat) (0 : Nat)) = some (TV.l (1 : Nat) (0 : Nat)) ∧
                  some (TV.v (IV.vslice none (0 : Nat) (List.length (lst (rd1 op a))) (1 : Nat) (List.map (IV.int IntKind.i64) (lst (rd1 op a))))) = some (TV.v IV.nilslice) ∧
                    some (TV.l (4 : Nat) (0 : Nat)) = some (TV.l (4 : Nat) (0 : Nat)) ∧
                      some [IV.int IntKind.i64 op, IV.int IntKind.i64 a, IV.int IntKind.i64 b, IV.int IntKind.i64 c, IV.int IntKind.i64 n] =
                          some [IV.int IntKind.i64 op, IV.int IntKind.i64 a, IV.int IntKind.i64 b, IV.int IntKind.i64 c, IV.int IntKind.i64 n] ∧
                        some
                              [IV.str (Row.nm (rowOf op)), IV.int IntKind.i64 (Row.fm (rowOf op)), IV.bool (Row.ra (rowOf op)), IV.bool (Row.wa (rowOf op)), IV.bool (Row.rb (rowOf op)), IV.bool (Row.mt (rowOf op)),
                                IV.int IntKind.i64 (Row.wd (rowOf op))] =
                            some
                              [IV.str (Row.nm (rowOf op)), IV.int IntKind.i64 (Row.fm (rowOf op)), IV.bool (Row.ra (rowOf op)), IV.bool (Row.wa (rowOf op)), IV.bool (Row.rb (rowOf op)), IV.bool (Row.mt (rowOf op)),
                                IV.int IntKind.i64 (Row.wd (rowOf op))] ∧
                          Heap.mk PT.nil (0 : Nat) = Heap.mk PT.nil (0 : Nat) ∧ (validI op a b c n = true ∧ lst (rd2 op a b) = []) ∧ True ∨
                some (TV.l (1 : Nat) (0 : Nat)) = some (TV.l (1 : Nat) (0 : Nat)) ∧
                  some (TV.v (IV.vslice none (0 : Nat) (List.length (lst (rd1 op a))) (1 : Nat) (List.map (IV.int IntKind.i64) (lst (rd1 op a))))) =
                      some (TV.v (IV.vslice none (0 : Nat) (List.length (lst (rd2 op a b))) (1 : Nat) (List.map (IV.int IntKind.i64) (lst (rd2 op a b))))) ∧
                    some (TV.l (4 : Nat) (0 : Nat)) = some (TV.l (4 : Nat) (0 : Nat)) ∧
                      some [IV.int IntKind.i64 op, IV.int IntKind.i64 a, IV.int IntKind.i64 b, IV.int IntKind.i64 c, IV.int IntKind.i64 n] =
                          some [IV.int IntKind.i64 op, IV.int IntKind.i64 a, IV.int IntKind.i64 b, IV.int IntKind.i64 c, IV.int IntKind.i64 n] ∧
                        some
                              [IV.str (Row.nm (rowOf op)), IV.int IntKind.i64 (Row.fm (rowOf op)), IV.bool (Row.ra (rowOf op)), IV.bool (Row.wa (rowOf op)), IV.bool (Row.rb (rowOf op)), IV.bool (Row.mt (rowOf op)),
                                IV.int IntKind.i64 (Row.wd (rowOf op))] =
                            some
                              [IV.str (Row.nm (rowOf op)), IV.int IntKind.i64 (Row.fm (rowOf op)), IV.bool (Row.ra (rowOf op)), IV.bool (Row.wa (rowOf op)), IV.bool (Row.rb (rowOf op)), IV.bool (Row.mt (rowOf op)),
                                IV.int IntKind.i64 (Row.wd (rowOf op))] ∧
                          Heap.mk PT.nil (0 : Nat) = Heap.mk PT.nil (0 : Nat) ∧ validI op a b c n = true ∧ True)) ∧
      ((∀ (x : Unit) (b_1 : FF),
            validI op a b c n = true ∧ lst (rd2 op a b) = [] →
              brS (Row.fm (rowOf op) == (4 : Int))
                (∃ (l : List Int),
                  ((0 : Nat) = List.length l ∧ [] = List.map (IV.int IntKind.i64) l) ∧
                    List.length l ≤ (100 : Nat) ∧
                      (some (TV.l (1 : Nat) (0 : Nat)) = some (TV.l (1 : Nat) (0 : Nat)) ∧
                          some (TV.v (IV.vslice none (0 : Nat) (List.length (insI l c)) (1 : Nat) (List.map (IV.int IntKind.i64) (insI l c)))) = some (TV.v IV.nilslice) ∧
                            some [IV.int IntKind.i64 op, IV.int IntKind.i64 a, IV.int IntKind.i64 b, IV.int IntKind.i64 c, IV.int IntKind.i64 n] =
                                some [IV.int IntKind.i64 op, IV.int IntKind.i64 a, IV.int IntKind.i64 b, IV.int IntKind.i64 c, IV.int IntKind.i64 n] ∧
                              Heap.mk PT.nil (0 : Nat) = Heap.mk PT.nil (0 : Nat) ∧ (validI op a b c n = true ∧ lst (rd3 op a b c) = []) ∧ True ∨
                        some (TV.l (1 : Nat) (0 : Nat)) = some (TV.l (1 : Nat) (0 : Nat)) ∧
                          some (TV.v (IV.vslice none (0 : Nat) (List.length (insI l c)) (1 : Nat) (List.map (IV.int IntKind.i64) (insI l c)))) =
                              some (TV.v (IV.vslice none (0 : Nat) (List.length (lst (rd3 op a b c))) (1 : Nat) (List.map (IV.int IntKind.i64) (lst (rd3 op a b c))))) ∧
                            some [IV.int IntKind.i64 op, IV.int IntKind.i64 a, IV.int IntKind.i64 b, IV.int IntKind.i64 c, IV.int IntKind.i64 n] =
                                some [IV.int IntKind.i64 op, IV.int IntKind.i64 a, IV.int IntKind.i64 b, IV.int IntKind.i64 c, IV.int IntKind.i64 n] ∧
                              Heap.mk PT.nil (0 : Nat) = Heap.mk PT.nil (0 : Nat) ∧ validI op a b c n = true ∧ True))
                (some (TV.l (1 : Nat) (0 : Nat)) = some (TV.l (1 : Nat) (0 : Nat)) ∧
                    some (TV.v IV.nilslice) = some (TV.v IV.nilslice) ∧
                      some [IV.int IntKind.i64 op, IV.int IntKind.i64 a, IV.int IntKind.i64 b, IV.int IntKind.i64 c, IV.int IntKind.i64 n] =
                          some [IV.int IntKind.i64 op, IV.int IntKind.i64 a, IV.int IntKind.i64 b, IV.int IntKind.i64 c, IV.int IntKind.i64 n] ∧
                        Heap.mk PT.nil (0 : Nat) = Heap.mk PT.nil (0 : Nat) ∧ (validI op a b c n = true ∧ lst (rd3 op a b c) = []) ∧ True ∨
                  some (TV.l (1 : Nat) (0 : Nat)) = some (TV.l (1 : Nat) (0 : Nat)) ∧
                    some (TV.v IV.nilslice) = some (TV.v (IV.vslice none (0 : Nat) (List.length (lst (rd3 op a b c))) (1 : Nat) (List.map (IV.int IntKind.i64) (lst (rd3 op a b c))))) ∧
                      some [IV.int IntKind.i64 op, IV.int IntKind.i64 a, IV.int IntKind.i64 b, IV.int IntKind.i64 c, IV.int IntKind.i64 n] =
                          some [IV.int IntKind.i64 op, IV.int IntKind.i64 a, IV.int IntKind.i64 b, IV.int IntKind.i64 c, IV.int IntKind.i64 n] ∧
                        Heap.mk PT.nil (0 : Nat) = Heap.mk PT.nil (0 : Nat) ∧ validI op a b c n = true ∧ True)) ∧
          ∀ (x : Unit) (b_1 : FF),
            validI op a b c n = true →
              brS (Row.fm (rowOf op) == (4 : Int))
                (∃ (l : List Int),
                  (List.length (lst (rd2 op a b)) = List.length l ∧ List.map (IV.int IntKind.i64) (lst (rd2 op a b)) = List.map (IV.int IntKind.i64) l) ∧
                    List.length l ≤ (100 : Nat) ∧
                      (some (TV.l (1 : Nat) (0 : Nat)) = some (TV.l (1 : Nat) (0 : Nat)) ∧
                          some (TV.v (IV.vslice none (0 : Nat) (List.length (insI l c)) (1 : Nat) (List.map (IV.int IntKind.i64) (insI l c)))) = some (TV.v IV.nilslice) ∧
                            some [IV.int IntKind.i64 op, IV.int IntKind.i64 a, IV.int IntKind.i64 b, IV.int IntKind.i64 c, IV.int IntKind.i64 n] =
                                some [IV.int IntKind.i64 op, IV.int IntKind.i64 a, IV.int IntKind.i64 b, IV.int IntKind.i64 c, IV.int IntKind.i64 n] ∧
                              Heap.mk PT.nil (0 : Nat) = Heap.mk PT.nil (0 : Nat) ∧ (validI op a b c n = true ∧ lst (rd3 op a b c) = []) ∧ True ∨
                        some (TV.l (1 : Nat) (0 : Nat)) = some (TV.l (1 : Nat) (0 : Nat)) ∧
                          some (TV.v (IV.vslice none (0 : Nat) (List.length (insI l c)) (1 : Nat) (List.map (IV.int IntKind.i64) (insI l c)))) =
                              some (TV.v (IV.vslice none (0 : Nat) (List.length (lst (rd3 op a b c))) (1 : Nat) (List.map (IV.int IntKind.i64) (lst (rd3 op a b c))))) ∧
                            some [IV.int IntKind.i64 op, IV.int IntKind.i64 a, IV.int IntKind.i64 b, IV.int IntKind.i64 c, IV.int IntKind.i64 n] =
                                some [IV.int IntKind.i64 op, IV.int IntKind.i64 a, IV.int IntKind.i64 b, IV.int IntKind.i64 c, IV.int IntKind.i64 n] ∧
                              Heap.mk PT.nil (0 : Nat) = Heap.mk PT.nil (0 : Nat) ∧ validI op a b c n = true ∧ True))
                (some (TV.l (1 : Nat) (0 : Nat)) = some (TV.l (1 : Nat) (0 : Nat)) ∧
                    some (TV.v (IV.vslice none (0 : Nat) (List.length (lst (rd2 op a b))) (1 : Nat) (List.map (IV.int IntKind.i64) (lst (rd2 op a b))))) = some (TV.v IV.nilslice) ∧
                      some [IV.int IntKind.i64 op, IV.int IntKind.i64 a, IV.int IntKind.i64 b, IV.int IntKind.i64 c, IV.int IntKind.i64 n] =
                          some [IV.int IntKind.i64 op, IV.int IntKind.i64 a, IV.int IntKind.i64 b, IV.int IntKind.i64 c, IV.int IntKind.i64 n] ∧
                        Heap.mk PT.nil (0 : Nat) = Heap.mk PT.nil (0 : Nat) ∧ (validI op a b c n = true ∧ lst (rd3 op a b c) = []) ∧ True ∨
                  some (TV.l (1 : Nat) (0 : Nat)) = some (TV.l (1 : Nat) (0 : Nat)) ∧
                    some (TV.v (IV.vslice none (0 : Nat) (List.length (lst (rd2 op a b))) (1 : Nat) (List.map (IV.int IntKind.i64) (lst (rd2 op a b))))) =
                        some (TV.v (IV.vslice none (0 : Nat) (List.length (lst (rd3 op a b c))) (1 : Nat) (List.map (IV.int IntKind.i64) (lst (rd3 op a b c))))) ∧
                      some [IV.int IntKind.i64 op, IV.int IntKind.i64 a, IV.int IntKind.i64 b, IV.int IntKind.i64 c, IV.int IntKind.i64 n] =
                          some [IV.int IntKind.i64 op, IV.int IntKind.i64 a, IV.int IntKind.i64 b, IV.int IntKind.i64 c, IV.int IntKind.i64 n] ∧
                        Heap.mk PT.nil (0 : Nat) = Heap.mk PT.nil (0 : Nat) ∧ validI op a b c n = true ∧ True)) ∧
        ((∀ (x : Unit) (b_1 : FF),
              validI op a b c n = true ∧ lst (rd3 op a b c) = [] →
                ((∃ (x : Nat),
                      some (TV.l (1 : Nat) (0 : Nat)) = some (TV.l (1 : Nat) (0 : Nat)) ∧
                        some (TV.v IV.nilslice) = some (TV.v IV.nilslice) ∧
                          some (TV.v (IV.int IntKind.i64 (0 : Int))) = some (TV.v (IV.int IntKind.i64 (↑x : Int))) ∧
                            some [IV.int IntKind.i64 op, IV.int IntKind.i64 a, IV.int IntKind.i64 b, IV.int IntKind.i64 c, IV.int IntKind.i64 n] =
                                some [IV.int IntKind.i64 op, IV.int IntKind.i64 a, IV.int IntKind.i64 b, IV.int IntKind.i64 c, IV.int IntKind.i64 n] ∧
                              Heap.mk PT.nil (0 : Nat) = Heap.mk PT.nil (0 : Nat) ∧ (validI op a b c n = true ∧ lst (rdk op a b c (↑x : Int)) = [] ∧ (op = (6 : Int) → (↑x : Int) ≤ a)) ∧ True) ∨
                    ∃ (x : Nat),
                      some (TV.l (1 : Nat) (0 : Nat)) = some (TV.l (1 : Nat) (0 : Nat)) ∧
                        some (TV.v IV.nilslice) = some (TV.v (IV.vslice none (0 : Nat) (List.length (lst (rdk op a b c (↑x : Int)))) (1 : Nat) (List.map (IV.int IntKind.i64) (lst (rdk op a b c (↑x : Int)))))) ∧
                          some (TV.v (IV.int IntKind.i64 (0 : Int))) = some (TV.v (IV.int IntKind.i64 (↑x : Int))) ∧
                            some [IV.int IntKind.i64 op, IV.int IntKind.i64 a, IV.int IntKind.i64 b, IV.int IntKind.i64 c, IV.int IntKind.i64 n] =
                                some [IV.int IntKind.i64 op, IV.int IntKind.i64 a, IV.int IntKind.i64 b, IV.int IntKind.i64 c, IV.int IntKind.i64 n] ∧
                              Heap.mk PT.nil (0 : Nat) = Heap.mk PT.nil (0 : Nat) ∧ (validI op a b c n = true ∧ (op = (6 : Int) → (↑x : Int) ≤ a)) ∧ True) ∧
                  (∀ (x : Nat) (b_2 : FF),
                      validI op a b c n = true ∧ lst (rdk op a b c (↑x : Int)) = [] ∧ (op = (6 : Int) → (↑x : Int) ≤ a) →
                        brS (decide ((↑x : Int) < a))
                          (brS (op == (6 : Int))
                            (∃ (l : List Int),
                              ((0 : Nat) = List.length l ∧ [] = List.map (IV.int IntKind.i64) l) ∧
                                List.length l ≤ (100 : Nat) ∧
                                  ((∃ (x_1 : Nat),
                                      some (TV.l (1 : Nat) (0 : Nat)) = some (TV.l (1 : Nat) (0 : Nat)) ∧
                                        some (TV.v (IV.vslice none (0 : Nat) (List.length (insI l (↑x : Int))) (1 : Nat) (List.map (IV.int IntKind.i64) (insI l (↑x : Int))))) = some (TV.v IV.nilslice) ∧
                                          some (TV.v (IV.int IntKind.i64 (IntKind.wrap IntKind.i64 ((↑x : Int) + (1 : Int))))) = some (TV.v (IV.int IntKind.i64 (↑x_1 : Int))) ∧
                                            some [IV.int IntKind.i64 op, IV.int IntKind.i64 a, IV.int IntKind.i64 b, IV.int IntKind.i64 c, IV.int IntKind.i64 n] =
                                                some [IV.int IntKind.i64 op, IV.int IntKind.i64 a, IV.int IntKind.i64 b, IV.int IntKind.i64 c, IV.int IntKind.i64 n] ∧
                                              Heap.mk PT.nil (0 : Nat) = Heap.mk PT.nil (0 : Nat) ∧
                                                (validI op a b c n = true ∧ lst (rdk op a b c (↑x_1 : Int)) = [] ∧ (op = (6 : Int) → (↑x_1 : Int) ≤ a)) ∧ Int.toNat a - x_1 < Int.toNat a - x) ∨
                                    ∃ (x_1 : Nat),
                                      some (TV.l (1 : Nat) (0 : Nat)) = some (TV.l (1 : Nat) (0 : Nat)) ∧
                                        some (TV.v (IV.vslice none (0 : Nat) (List.length (insI l (↑x : Int))) (1 : Nat) (List.map (IV.int IntKind.i64) (insI l (↑x : Int))))) =
                                            some (TV.v (IV.vslice none (0 : Nat) (List.length (lst (rdk op a b c (↑x_1 : Int)))) (1 : Nat) (List.map (IV.int IntKind.i64) (lst (rdk op a b c (↑x_1 : Int)))))) ∧
                                          some (TV.v (IV.int IntKind.i64 (IntKind.wrap IntKind.i64 ((↑x : Int) + (1 : Int))))) = some (TV.v (IV.int IntKind.i64 (↑x_1 : Int))) ∧
                                            some [IV.int IntKind.i64 op, IV.int IntKind.i64 a, IV.int IntKind.i64 b, IV.int IntKind.i64 c, IV.int IntKind.i64 n] =
                                                some [IV.int IntKind.i64 op, IV.int IntKind.i64 a, IV.int IntKind.i64 b, IV.int IntKind.i64 c, IV.int IntKind.i64 n] ∧
                                              Heap.mk PT.nil (0 : Nat) = Heap.mk PT.nil (0 : Nat) ∧ (validI op a b c n = true ∧ (op = (6 : Int) → (↑x_1 : Int) ≤ a)) ∧ Int.toNat a - x_1 < Int.toNat a - x))
                            (some (TV.l (1 : Nat) (0 : Nat)) = some (TV.l (1 : Nat) (0 : Nat)) ∧
                                some (TV.v IV.nilslice) = some (TV.v IV.nilslice) ∧
                                  some [IV.int IntKind.i64 op, IV.int IntKind.i64 a, IV.int IntKind.i64 b, IV.int IntKind.i64 c, IV.int IntKind.i64 n] =
                                      some [IV.int IntKind.i64 op, IV.int IntKind.i64 a, IV.int IntKind.i64 b, IV.int IntKind.i64 c, IV.int IntKind.i64 n] ∧
                                    Heap.mk PT.nil (0 : Nat) = Heap.mk PT.nil (0 : Nat) ∧ (validI op a b c n = true ∧ lst (rd4 op a b c) = []) ∧ True ∨
                              some (TV.l (1 : Nat) (0 : Nat)) = some (TV.l (1 : Nat) (0 : Nat)) ∧
                                some (TV.v IV.nilslice) = some (TV.v (IV.vslice none (0 : Nat) (List.length (lst (rd4 op a b c))) (1 : Nat) (List.map (IV.int IntKind.i64) (lst (rd4 op a b c))))) ∧
                                  some [IV.int IntKind.i64 op, IV.int IntKind.i64 a, IV.int IntKind.i64 b, IV.int IntKind.i64 c, IV.int IntKind.i64 n] =
                                      some [IV.int IntKind.i64 op, IV.int IntKind.i64 a, IV.int IntKind.i64 b, IV.int IntKind.i64 c, IV.int IntKind.i64 n] ∧
                                    Heap.mk PT.nil (0 : Nat) = Heap.mk PT.nil (0 : Nat) ∧ validI op a b c n = true ∧ True))
                          (some (TV.l (1 : Nat) (0 : Nat)) = some (TV.l (1 : Nat) (0 : Nat)) ∧
                              some (TV.v IV.nilslice) = some (TV.v IV.nilslice) ∧
                                some [IV.int IntKind.i64 op, IV.int IntKind.i64 a, IV.int IntKind.i64 b, IV.int IntKind.i64 c, IV.int IntKind.i64 n] =
                                    some [IV.int IntKind.i64 op, IV.int IntKind.i64 a, IV.int IntKind.i64 b, IV.int IntKind.i64 c, IV.int IntKind.i64 n] ∧
                                  Heap.mk PT.nil (0 : Nat) = Heap.mk PT.nil (0 : Nat) ∧ (validI op a b c n = true ∧ lst (rd4 op a b c) = []) ∧ True ∨
                            some (TV.l (1 : Nat) (0 : Nat)) = some (TV.l (1 : Nat) (0 : Nat)) ∧
                              some (TV.v IV.nilslice) = some (TV.v (IV.vslice none (0 : Nat) (List.length (lst (rd4 op a b c))) (1 : Nat) (List.map (IV.int IntKind.i64) (lst (rd4 op a b c))))) ∧
                                some [IV.int IntKind.i64 op, IV.int IntKind.i64 a, IV.int IntKind.i64 b, IV.int IntKind.i64 c, IV.int IntKind.i64 n] =
                                    some [IV.int IntKind.i64 op, IV.int IntKind.i64 a, IV.int IntKind.i64 b, IV.int IntKind.i64 c, IV.int IntKind.i64 n] ∧
                                  Heap.mk PT.nil (0 : Nat) = Heap.mk PT.nil (0 : Nat) ∧ validI op a b c n = true ∧ True)) ∧
                    ∀ (x : Nat) (b_2 : FF),
                      validI op a b c n = true ∧ (op = (6 : Int) → (↑x : Int) ≤ a) →
                        brS (decide ((↑x : Int) < a))
                          (brS (op == (6 : Int))
                            (∃ (l : List Int),
                              (List.length (lst (rdk op a b c (↑x : Int))) = List.length l ∧ List.map (IV.int IntKind.i64) (lst (rdk op a b c (↑x : Int))) = List.map (IV.int IntKind.i64) l) ∧
                                List.length l ≤ (100 : Nat) ∧
                                  ((∃ (x_1 : Nat),
                                      some (TV.l (1 : Nat) (0 : Nat)) = some (TV.l (1 : Nat) (0 : Nat)) ∧
                                        some (TV.v (IV.vslice none (0 : Nat) (List.length (insI l (↑x : Int))) (1 : Nat) (List.map (IV.int IntKind.i64) (insI l (↑x : Int))))) = some (TV.v IV.nilslice) ∧
                                          some (TV.v (IV.int IntKind.i64 (IntKind.wrap IntKind.i64 ((↑x : Int) + (1 : Int))))) = some (TV.v (IV.int IntKind.i64 (↑x_1 : Int))) ∧
                                            some [IV.int IntKind.i64 op, IV.int IntKind.i64 a, IV.int IntKind.i64 b, IV.int IntKind.i64 c, IV.int IntKind.i64 n] =
                                                some [IV.int IntKind.i64 op, IV.int IntKind.i64 a, IV.int IntKind.i64 b, IV.int IntKind.i64 c, IV.int IntKind.i64 n] ∧
                                              Heap.mk PT.nil (0 : Nat) = Heap.mk PT.nil (0 : Nat) ∧
                                                (validI op a b c n = true ∧ lst (rdk op a b c (↑x_1 : Int)) = [] ∧ (op = (6 : Int) → (↑x_1 : Int) ≤ a)) ∧ Int.toNat a - x_1 < Int.toNat a - x) ∨
                                    ∃ (x_1 : Nat),
                                      some (TV.l (1 : Nat) (0 : Nat)) = some (TV.l (1 : Nat) (0 : Nat)) ∧
                                        some (TV.v (IV.vslice none (0 : Nat) (List.length (insI l (↑x : Int))) (1 : Nat) (List.map (IV.int IntKind.i64) (insI l (↑x : Int))))) =
                                            some (TV.v (IV.vslice none (0 : Nat) (List.length (lst (rdk op a b c (↑x_1 : Int)))) (1 : Nat) (List.map (IV.int IntKind.i64) (lst (rdk op a b c (↑x_1 : Int)))))) ∧
                                          some (TV.v (IV.int IntKind.i64 (IntKind.wrap IntKind.i64 ((↑x : Int) + (1 : Int))))) = some (TV.v (IV.int IntKind.i64 (↑x_1 : Int))) ∧
                                            some [IV.int IntKind.i64 op, IV.int IntKind.i64 a, IV.int IntKind.i64 b, IV.int IntKind.i64 c, IV.int IntKind.i64 n] =
                                                some [IV.int IntKind.i64 op, IV.int IntKind.i64 a, IV.int IntKind.i64 b, IV.int IntKind.i64 c, IV.int IntKind.i64 n] ∧
                                              Heap.mk PT.nil (0 : Nat) = Heap.mk PT.nil (0 : Nat) ∧ (validI op a b c n = true ∧ (op = (6 : Int) → (↑x_1 : Int) ≤ a)) ∧ Int.toNat a - x_1 < Int.toNat a - x))
                            (some (TV.l (1 : Nat) (0 : Nat)) = some (TV.l (1 : Nat) (0 : Nat)) ∧
                                some (TV.v (IV.vslice none (0 : Nat) (List.length (lst (rdk op a b c (↑x : Int)))) (1 : Nat) (List.map (IV.int IntKind.i64) (lst (rdk op a b c (↑x : Int)))))) = some (TV.v IV.nilslice) ∧
                                  some [IV.int IntKind.i64 op, IV.int IntKind.i64 a, IV.int IntKind.i64 b, IV.int IntKind.i64 c, IV.int IntKind.i64 n] =
                                      some [IV.int IntKind.i64 op, IV.int IntKind.i64 a, IV.int IntKind.i64 b, IV.int IntKind.i64 c, IV.int IntKind.i64 n] ∧
                                    Heap.mk PT.nil (0 : Nat) = Heap.mk PT.nil (0 : Nat) ∧ (validI op a b c n = true ∧ lst (rd4 op a b c) = []) ∧ True ∨
                              some (TV.l (1 : Nat) (0 : Nat)) = some (TV.l (1 : Nat) (0 : Nat)) ∧
                                some (TV.v (IV.vslice none (0 : Nat) (List.length (lst (rdk op a b c (↑x : Int)))) (1 : Nat) (List.map (IV.int IntKind.i64) (lst (rdk op a b c (↑x : Int)))))) =
                                    some (TV.v (IV.vslice none (0 : Nat) (List.length (lst (rd4 op a b c))) (1 : Nat) (List.map (IV.int IntKind.i64) (lst (rd4 op a b c))))) ∧
                                  some [IV.int IntKind.i64 op, IV.int IntKind.i64 a, IV.int IntKind.i64 b, IV.int IntKind.i64 c, IV.int IntKind.i64 n] =
                                      some [IV.int IntKind.i64 op, IV.int IntKind.i64 a, IV.int IntKind.i64 b, IV.int IntKind.i64 c, IV.int IntKind.i64 n] ∧
                                    Heap.mk PT.nil (0 : Nat) = Heap.mk PT.nil (0 : Nat) ∧ validI op a b c n = true ∧ True))
                          (some (TV.l (1 : Nat) (0 : Nat)) = some (TV.l (1 : Nat) (0 : Nat)) ∧
                              some (TV.v (IV.vslice none (0 : Nat) (List.length (lst (rdk op a b c (↑x : Int)))) (1 : Nat) (List.map (IV.int IntKind.i64) (lst (rdk op a b c (↑x : Int)))))) = some (TV.v IV.nilslice) ∧
                                some [IV.int IntKind.i64 op, IV.int IntKind.i64 a, IV.int IntKind.i64 b, IV.int IntKind.i64 c, IV.int IntKind.i64 n] =
                                    some [IV.int IntKind.i64 op, IV.int IntKind.i64 a, IV.int IntKind.i64 b, IV.int IntKind.i64 c, IV.int IntKind.i64 n] ∧
                                  Heap.mk PT.nil (0 : Nat) = Heap.mk PT.nil (0 : Nat) ∧ (validI op a b c n = true ∧ lst (rd4 op a b c) = []) ∧ True ∨
                            some (TV.l (1 : Nat) (0 : Nat)) = some (TV.l (1 : Nat) (0 : Nat)) ∧
                              some (TV.v (IV.vslice none (0 : Nat) (List.length (lst (rdk op a b c (↑x : Int)))) (1 : Nat) (List.map (IV.int IntKind.i64) (lst (rdk op a b c (↑x : Int)))))) =
                                  some (TV.v (IV.vslice none (0 : Nat) (List.length (lst (rd4 op a b c))) (1 : Nat) (List.map (IV.int IntKind.i64) (lst (rd4 op a b c))))) ∧
                                some [IV.int IntKind.i64 op, IV.int IntKind.i64 a, IV.int IntKind.i64 b, IV.int IntKind.i64 c, IV.int IntKind.i64 n] =
                                    some [IV.int IntKind.i64 op, IV.int IntKind.i64 a, IV.int IntKind.i64 b, IV.int IntKind.i64 c, IV.int IntKind.i64 n] ∧
                                  Heap.mk PT.nil (0 : Nat) = Heap.mk PT.nil (0 : Nat) ∧ validI op a b c n = true ∧ True)) ∧
            ∀ (x : Unit) (b_1 : FF),
              validI op a b c n = true →
                ((∃ (x : Nat),
                      some (TV.l (1 : Nat) (0 : Nat)) = some (TV.l (1 : Nat) (0 : Nat)) ∧
                        some (TV.v (IV.vslice none (0 : Nat) (List.length (lst (rd3 op a b c))) (1 : Nat) (List.map (IV.int IntKind.i64) (lst (rd3 op a b c))))) = some (TV.v IV.nilslice) ∧
                          some (TV.v (IV.int IntKind.i64 (0 : Int))) = some (TV.v (IV.int IntKind.i64 (↑x : Int))) ∧
                            some [IV.int IntKind.i64 op, IV.int IntKind.i64 a, IV.int IntKind.i64 b, IV.int IntKind.i64 c, IV.int IntKind.i64 n] =
                                some [IV.int IntKind.i64 op, IV.int IntKind.i64 a, IV.int IntKind.i64 b, IV.int IntKind.i64 c, IV.int IntKind.i64 n] ∧
                              Heap.mk PT.nil (0 : Nat) = Heap.mk PT.nil (0 : Nat) ∧ (validI op a b c n = true ∧ lst (rdk op a b c (↑x : Int)) = [] ∧ (op = (6 : Int) → (↑x : Int) ≤ a)) ∧ True) ∨
                    ∃ (x : Nat),
                      some (TV.l (1 : Nat) (0 : Nat)) = some (TV.l (1 : Nat) (0 : Nat)) ∧
                        some (TV.v (IV.vslice none (0 : Nat) (List.length (lst (rd3 op a b c))) (1 : Nat) (List.map (IV.int IntKind.i64) (lst (rd3 op a b c))))) =
                            some (TV.v (IV.vslice none (0 : Nat) (List.length (lst (rdk op a b c (↑x : Int)))) (1 : Nat) (List.map (IV.int IntKind.i64) (lst (rdk op a b c (↑x : Int)))))) ∧
                          some (TV.v (IV.int IntKind.i64 (0 : Int))) = some (TV.v (IV.int IntKind.i64 (↑x : Int))) ∧
                            some [IV.int IntKind.i64 op, IV.int IntKind.i64 a, IV.int IntKind.i64 b, IV.int IntKind.i64 c, IV.int IntKind.i64 n] =
                                some [IV.int IntKind.i64 op, IV.int IntKind.i64 a, IV.int IntKind.i64 b, IV.int IntKind.i64 c, IV.int IntKind.i64 n] ∧
                              Heap.mk PT.nil (0 : Nat) = Heap.mk PT.nil (0 : Nat) ∧ (validI op a b c n = true ∧ (op = (6 : Int) → (↑x : Int) ≤ a)) ∧ True) ∧
                  (∀ (x : Nat) (b_2 : FF),
                      validI op a b c n = true ∧ lst (rdk op a b c (↑x : Int)) = [] ∧ (op = (6 : Int) → (↑x : Int) ≤ a) →
                        brS (decide ((↑x : Int) < a))
                          (brS (op == (6 : Int))
                            (∃ (l : List Int),
                              ((0 : Nat) = List.length l ∧ [] = List.map (IV.int IntKind.i64) l) ∧
                                List.length l ≤ (100 : Nat) ∧
                                  ((∃ (x_1 : Nat),
                                      some (TV.l (1 : Nat) (0 : Nat)) = some (TV.l (1 : Nat) (0 : Nat)) ∧
                                        some (TV.v (IV.vslice none (0 : Nat) (List.length (insI l (↑x : Int))) (1 : Nat) (List.map (IV.int IntKind.i64) (insI l (↑x : Int))))) = some (TV.v IV.nilslice) ∧
                                          some (TV.v (IV.int IntKind.i64 (IntKind.wrap IntKind.i64 ((↑x : Int) + (1 : Int))))) = some (TV.v (IV.int IntKind.i64 (↑x_1 : Int))) ∧
                                            some [IV.int IntKind.i64 op, IV.int IntKind.i64 a, IV.int IntKind.i64 b, IV.int IntKind.i64 c, IV.int IntKind.i64 n] =
                                                some [IV.int IntKind.i64 op, IV.int IntKind.i64 a, IV.int IntKind.i64 b, IV.int IntKind.i64 c, IV.int IntKind.i64 n] ∧
                                              Heap.mk PT.nil (0 : Nat) = Heap.mk PT.nil (0 : Nat) ∧
                                                (validI op a b c n = true ∧ lst (rdk op a b c (↑x_1 : Int)) = [] ∧ (op = (6 : Int) → (↑x_1 : Int) ≤ a)) ∧ Int.toNat a - x_1 < Int.toNat a - x) ∨
                                    ∃ (x_1 : Nat),
                                      some (TV.l (1 : Nat) (0 : Nat)) = some (TV.l (1 : Nat) (0 : Nat)) ∧
                                        some (TV.v (IV.vslice none (0 : Nat) (List.length (insI l (↑x : Int))) (1 : Nat) (List.map (IV.int IntKind.i64) (insI l (↑x : Int))))) =
                                            some (TV.v (IV.vslice none (0 : Nat) (List.length (lst (rdk op a b c (↑x_1 : Int)))) (1 : Nat) (List.map (IV.int IntKind.i64) (lst (rdk op a b c (↑x_1 : Int)))))) ∧
                                          some (TV.v (IV.int IntKind.i64 (IntKind.wrap IntKind.i64 ((↑x : Int) + (1 : Int))))) = some (TV.v (IV.int IntKind.i64 (↑x_1 : Int))) ∧
                                            some [IV.int IntKind.i64 op, IV.int IntKind.i64 a, IV.int IntKind.i64 b, IV.int IntKind.i64 c, IV.int IntKind.i64 n] =
                                                some [IV.int IntKind.i64 op, IV.int IntKind.i64 a, IV.int IntKind.i64 b, IV.int IntKind.i64 c, IV.int IntKind.i64 n] ∧
                                              Heap.mk PT.nil (0 : Nat) = Heap.mk PT.nil (0 : Nat) ∧ (validI op a b c n = true ∧ (op = (6 : Int) → (↑x_1 : Int) ≤ a)) ∧ Int.toNat a - x_1 < Int.toNat a - x))
                            (some (TV.l (1 : Nat) (0 : Nat)) = some (TV.l (1 : Nat) (0 : Nat)) ∧
                                some (TV.v IV.nilslice) = some (TV.v IV.nilslice) ∧
                                  some [IV.int IntKind.i64 op, IV.int IntKind.i64 a, IV.int IntKind.i64 b, IV.int IntKind.i64 c, IV.int IntKind.i64 n] =
                                      some [IV.int IntKind.i64 op, IV.int IntKind.i64 a, IV.int IntKind.i64 b, IV.int IntKind.i64 c, IV.int IntKind.i64 n] ∧
                                    Heap.mk PT.nil (0 : Nat) = Heap.mk PT.nil (0 : Nat) ∧ (validI op a b c n = true ∧ lst (rd4 op a b c) = []) ∧ True ∨
                              some (TV.l (1 : Nat) (0 : Nat)) = some (TV.l (1 : Nat) (0 : Nat)) ∧
                                some (TV.v IV.nilslice) = some (TV.v (IV.vslice none (0 : Nat) (List.length (lst (rd4 op a b c))) (1 : Nat) (List.map (IV.int IntKind.i64) (lst (rd4 op a b c))))) ∧
                                  some [IV.int IntKind.i64 op, IV.int IntKind.i64 a, IV.int IntKind.i64 b, IV.int IntKind.i64 c, IV.int IntKind.i64 n] =
                                      some [IV.int IntKind.i64 op, IV.int IntKind.i64 a, IV.int IntKind.i64 b, IV.int IntKind.i64 c, IV.int IntKind.i64 n] ∧
                                    Heap.mk PT.nil (0 : Nat) = Heap.mk PT.nil (0 : Nat) ∧ validI op a b c n = true ∧ True))
                          (some (TV.l (1 : Nat) (0 : Nat)) = some (TV.l (1 : Nat) (0 : Nat)) ∧
                              some (TV.v IV.nilslice) = some (TV.v IV.nilslice) ∧
                                some [IV.int IntKind.i64 op, IV.int IntKind.i64 a, IV.int IntKind.i64 b, IV.int IntKind.i64 c, IV.int IntKind.i64 n] =
                                    some [IV.int IntKind.i64 op, IV.int IntKind.i64 a, IV.int IntKind.i64 b, IV.int IntKind.i64 c, IV.int IntKind.i64 n] ∧
                                  Heap.mk PT.nil (0 : Nat) = Heap.mk PT.nil (0 : Nat) ∧ (validI op a b c n = true ∧ lst (rd4 op a b c) = []) ∧ True ∨
                            some (TV.l (1 : Nat) (0 : Nat)) = some (TV.l (1 : Nat) (0 : Nat)) ∧
                              some (TV.v IV.nilslice) = some (TV.v (IV.vslice none (0 : Nat) (List.length (lst (rd4 op a b c))) (1 : Nat) (List.map (IV.int IntKind.i64) (lst (rd4 op a b c))))) ∧
                                some [IV.int IntKind.i64 op, IV.int IntKind.i64 a, IV.int IntKind.i64 b, IV.int IntKind.i64 c, IV.int IntKind.i64 n] =
                                    some [IV.int IntKind.i64 op, IV.int IntKind.i64 a, IV.int IntKind.i64 b, IV.int IntKind.i64 c, IV.int IntKind.i64 n] ∧
                                  Heap.mk PT.nil (0 : Nat) = Heap.mk PT.nil (0 : Nat) ∧ validI op a b c n = true ∧ True)) ∧
                    ∀ (x : Nat) (b_2 : FF),
                      validI op a b c n = true ∧ (op = (6 : Int) → (↑x : Int) ≤ a) →
                        brS (decide ((↑x : Int) < a))
                          (brS (op == (6 : Int))
                            (∃ (l : List Int),
                              (List.length (lst (rdk op a b c (↑x : Int))) = List.length l ∧ List.map (IV.int IntKind.i64) (lst (rdk op a b c (↑x : Int))) = List.map (IV.int IntKind.i64) l) ∧
                                List.length l ≤ (100 : Nat) ∧
                                  ((∃ (x_1 : Nat),
                                      some (TV.l (1 : Nat) (0 : Nat)) = some (TV.l (1 : Nat) (0 : Nat)) ∧
                                        some (TV.v (IV.vslice none (0 : Nat) (List.length (insI l (↑x : Int))) (1 : Nat) (List.map (IV.int IntKind.i64) (insI l (↑x : Int))))) = some (TV.v IV.nilslice) ∧
                                          some (TV.v (IV.int IntKind.i64 (IntKind.wrap IntKind.i64 ((↑x : Int) + (1 : Int))))) = some (TV.v (IV.int IntKind.i64 (↑x_1 : Int))) ∧
                                            some [IV.int IntKind.i64 op, IV.int IntKind.i64 a, IV.int IntKind.i64 b, IV.int IntKind.i64 c, IV.int IntKind.i64 n] =
                                                some [IV.int IntKind.i64 op, IV.int IntKind.i64 a, IV.int IntKind.i64 b, IV.int IntKind.i64 c, IV.int IntKind.i64 n] ∧
                                              Heap.mk PT.nil (0 : Nat) = Heap.mk PT.nil (0 : Nat) ∧
                                                (validI op a b c n = true ∧ lst (rdk op a b c (↑x_1 : Int)) = [] ∧ (op = (6 : Int) → (↑x_1 : Int) ≤ a)) ∧ Int.toNat a - x_1 < Int.toNat a - x) ∨
                                    ∃ (x_1 : Nat),
                                      some (TV.l (1 : Nat) (0 : Nat)) = some (TV.l (1 : Nat) (0 : Nat)) ∧
                                        some (TV.v (IV.vslice none (0 : Nat) (List.length (insI l (↑x : Int))) (1 : Nat) (List.map (IV.int IntKind.i64) (insI l (↑x : Int))))) =
                                            some (TV.v (IV.vslice none (0 : Nat) (List.length (lst (rdk op a b c (↑x_1 : Int)))) (1 : Nat) (List.map (IV.int IntKind.i64) (lst (rdk op a b c (↑x_1 : Int)))))) ∧
                                          some (TV.v (IV.int IntKind.i64 (IntKind.wrap IntKind.i64 ((↑x : Int) + (1 : Int))))) = some (TV.v (IV.int IntKind.i64 (↑x_1 : Int))) ∧
                                            some [IV.int IntKind.i64 op, IV.int IntKind.i64 a, IV.int IntKind.i64 b, IV.int IntKind.i64 c, IV.int IntKind.i64 n] =
                                                some [IV.int IntKind.i64 op, IV.int IntKind.i64 a, IV.int IntKind.i64 b, IV.int IntKind.i64 c, IV.int IntKind.i64 n] ∧
                                              Heap.mk PT.nil (0 : Nat) = Heap.mk PT.nil (0 : Nat) ∧ (validI op a b c n = true ∧ (op = (6 : Int) → (↑x_1 : Int) ≤ a)) ∧ Int.toNat a - x_1 < Int.toNat a - x))
                            (some (TV.l (1 : Nat) (0 : Nat)) = some (TV.l (1 : Nat) (0 : Nat)) ∧
                                some (TV.v (IV.vslice none (0 : Nat) (List.length (lst (rdk op a b c (↑x : Int)))) (1 : Nat) (List.map (IV.int IntKind.i64) (lst (rdk op a b c (↑x : Int)))))) = some (TV.v IV.nilslice) ∧
                                  some [IV.int IntKind.i64 op, IV.int IntKind.i64 a, IV.int IntKind.i64 b, IV.int IntKind.i64 c, IV.int IntKind.i64 n] =
                                      some [IV.int IntKind.i64 op, IV.int IntKind.i64 a, IV.int IntKind.i64 b, IV.int IntKind.i64 c, IV.int IntKind.i64 n] ∧
                                    Heap.mk PT.nil (0 : Nat) = Heap.mk PT.nil (0 : Nat) ∧ (validI op a b c n = true ∧ lst (rd4 op a b c) = []) ∧ True ∨
                              some (TV.l (1 : Nat) (0 : Nat)) = some (TV.l (1 : Nat) (0 : Nat)) ∧
                                some (TV.v (IV.vslice none (0 : Nat) (List.length (lst (rdk op a b c (↑x : Int)))) (1 : Nat) (List.map (IV.int IntKind.i64) (lst (rdk op a b c (↑x : Int)))))) =
                                    some (TV.v (IV.vslice none (0 : Nat) (List.length (lst (rd4 op a b c))) (1 : Nat) (List.map (IV.int IntKind.i64) (lst (rd4 op a b c))))) ∧
                                  some [IV.int IntKind.i64 op, IV.int IntKind.i64 a, IV.int IntKind.i64 b, IV.int IntKind.i64 c, IV.int IntKind.i64 n] =
                                      some [IV.int IntKind.i64 op, IV.int IntKind.i64 a, IV.int IntKind.i64 b, IV.int IntKind.i64 c, IV.int IntKind.i64 n] ∧
                                    Heap.mk PT.nil (0 : Nat) = Heap.mk PT.nil (0 : Nat) ∧ validI op a b c n = true ∧ True))
                          (some (TV.l (1 : Nat) (0 : Nat)) = some (TV.l (1 : Nat) (0 : Nat)) ∧
                              some (TV.v (IV.vslice none (0 : Nat) (List.length (lst (rdk op a b c (↑x : Int)))) (1 : Nat) (List.map (IV.int IntKind.i64) (lst (rdk op a b c (↑x : Int)))))) = some (TV.v IV.nilslice) ∧
                                some [IV.int IntKind.i64 op, IV.int IntKind.i64 a, IV.int IntKind.i64 b, IV.int IntKind.i64 c, IV.int IntKind.i64 n] =
                                    some [IV.int IntKind.i64 op, IV.int IntKind.i64 a, IV.int IntKind.i64 b, IV.int IntKind.i64 c, IV.int IntKind.i64 n] ∧
                                  Heap.mk PT.nil (0 : Nat) = Heap.mk PT.nil (0 : Nat) ∧ (validI op a b c n = true ∧ lst (rd4 op a b c) = []) ∧ True ∨
                            some (TV.l (1 : Nat) (0 : Nat)) = some (TV.l (1 : Nat) (0 : Nat)) ∧
                              some (TV.v (IV.vslice none (0 : Nat) (List.length (lst (rdk op a b c (↑x : Int)))) (1 : Nat) (List.map (IV.int IntKind.i64) (lst (rdk op a b c (↑x : Int)))))) =
                                  some (TV.v (IV.vslice none (0 : Nat) (List.length (lst (rd4 op a b c))) (1 : Nat) (List.map (IV.int IntKind.i64) (lst (rd4 op a b c))))) ∧
                                some [IV.int IntKind.i64 op, IV.int IntKind.i64 a, IV.int IntKind.i64 b, IV.int IntKind.i64 c, IV.int IntKind.i64 n] =
                                    some [IV.int IntKind.i64 op, IV.int IntKind.i64 a, IV.int IntKind.i64 b, IV.int IntKind.i64 c, IV.int IntKind.i64 n] ∧
                                  Heap.mk PT.nil (0 : Nat) = Heap.mk PT.nil (0 : Nat) ∧ validI op a b c n = true ∧ True)) ∧
          ((∀ (x : Unit) (b_1 : FF),
                validI op a b c n = true ∧ lst (rd4 op a b c) = [] →
                  brS (op == (2 : Int))
                    (∃ (l : List Int),
                      ((0 : Nat) = List.length l ∧ [] = List.map (IV.int IntKind.i64) l) ∧
                        List.length l ≤ (100 : Nat) ∧
                          needS (pureL [IV.vslice none (0 : Nat) (List.length (insI l (0 : Int))) (1 : Nat) (List.map (IV.int IntKind.i64) (insI l (0 : Int)))])
                            (Q (IV.vslice none (0 : Nat) (List.length (insI l (0 : Int))) (1 : Nat) (List.map (IV.int IntKind.i64) (insI l (0 : Int)))) h))
                    (Q (IV.vslice none (0 : Nat) (0 : Nat) (1 : Nat) []) h)) ∧
              ∀ (x : Unit) (b_1 : FF),
                validI op a b c n = true →
                  brS (op == (2 : Int))
                    (∃ (l : List Int),
                      (List.length (lst (rd4 op a b c)) = List.length l ∧ List.map (IV.int IntKind.i64) (lst (rd4 op a b c)) = List.map (IV.int IntKind.i64) l) ∧
                        List.length l ≤ (100 : Nat) ∧
                          needS (pureL [IV.vslice none (0 : Nat) (List.length (insI l (0 : Int))) (1 : Nat) (List.map (IV.int IntKind.i64) (insI l (0 : Int)))])
                            (Q (IV.vslice none (0 : Nat) (List.length (insI l (0 : Int))) (1 : Nat) (List.map (IV.int IntKind.i64) (insI l (0 : Int)))) h))
                    (needS (pureL [IV.vslice none (0 : Nat) (List.length (lst (rd4 op a b c))) (1 : Nat) (List.map (IV.int IntKind.i64) (lst (rd4 op a b c)))])
                      (Q (IV.vslice none (0 : Nat) (List.length (lst (rd4 op a b c))) (1 : Nat) (List.map (IV.int IntKind.i64) (lst (rd4 op a b c)))) h))) ∧
            True) := by kernel_rfl
set_option maxHeartbeats 4000000 in
theorem sRReads : ∀ xs h Q, kRReads xs h Q → CallW env 27 xs h Q := by
  intro xs h Q hk
  unfold kRReads at hk
  split at hk
  · rename_i op a b c n
    refine dF_sound (okInsert) (mp_eq (vRReads op a b c n h Q) ?_)
    refine ⟨brS_intro (fun hv => ?_) (fun hv => ?_), ?_⟩
    · simp only [Bool.not_eq_true'] at hv
      unfold rdI at hk; rw [hv] at hk; exact hk
    · simp only [Bool.not_eq_false'] at hv
      obtain ⟨ha, hb, hc, h6⟩ := valid_abc hv
      refine brS_intro (fun c1 => ⟨[], ⟨rfl, rfl⟩, by simp, .inr ⟨rfl, ?_, rfl, rfl, rfl, rfl, hv, trivial⟩⟩) (fun c1 => .inl ⟨rfl, rfl, rfl, rfl, rfl, rfl, ⟨hv, lst_none fun k _ _ => by simp [rd1, c1]⟩, trivial⟩)
      rw [show insI [] a = lst (rd1 op a) from (ins_lst (p := fun _ => false) ha).trans (lst_congr fun k _ _ => by simp [rd1, c1])]
    have key : validI op a b c n = true → (0 ≤ a ∧ a ≤ 7) ∧ (0 ≤ b ∧ b ≤ 7) ∧ (0 ≤ c ∧ c ≤ 7) ∧ (op = 6 → a ≤ 6) := valid_abc
    have S2 : validI op a b c n = true → (rowOf op).rb = true → insI (lst (rd1 op a)) b = lst (rd2 op a b) := fun hv h => (ins_lst (key hv).2.1).trans (lst_congr fun k _ _ => by simp [rd2, h])
    have S2n : (rowOf op).rb = false → lst (rd2 op a b) = lst (rd1 op a) := fun h => lst_congr fun k _ _ => by simp [rd2, h]
    have S3 : validI op a b c n = true → ((rowOf op).fm == 4) = true → insI (lst (rd2 op a b)) c = lst (rd3 op a b c) := fun hv h => (ins_lst (key hv).2.2.1).trans (lst_congr fun k _ _ => by rw [fm_eq] at h; simp [rd3, h])
    have S3n : ((rowOf op).fm == 4) = false → lst (rd3 op a b c) = lst (rd2 op a b) := fun h => lst_congr fun k _ _ => by rw [fm_eq] at h; simp [rd3, h]
    have S40 : lst (rdk op a b c ((0 : Nat) : Int)) = lst (rd3 op a b c) := lst_congr fun k h _ => by simp only [rdk, Bool.or_eq_left_iff_imp]; simp; omega
    have S4 : ∀ k : Nat, op = 6 → (k : Int) < 7 → insI (lst (rdk op a b c k)) k = lst (rdk op a b c ((k + 1 : Nat) : Int)) := fun k h hk => (ins_lst (by omega)).trans (lst_congr fun j _ _ => by
      subst h
      unfold rdk
      cases rd3 6 a b c j
      · simp only [Bool.false_or, beq_self_eq_true, Bool.true_and]
        rw [Bool.eq_iff_iff]
        simp only [Bool.or_eq_true, decide_eq_true_eq, beq_iff_eq]
        omega
      · simp)
    have S4n : ∀ k : Nat, (¬ (k : Int) < a ∨ op ≠ 6) → (op = 6 → (k : Int) ≤ a) → lst (rdk op a b c k) = lst (rd4 op a b c) := fun k h h' => lst_congr fun j _ _ => by
      unfold rdk rd4
      by_cases h6 : op = 6
      · have : (k : Int) = a := by have := h' h6; omega
        rw [this]
      · have hb : (op == 6) = false := beq_eq_false_iff_ne.2 h6
        rw [hb, Bool.false_and, Bool.false_and]
    have S5 : op = 2 → insI (lst (rd4 op a b c)) 0 = lst (rdB op a b c) := fun h => (ins_lst (by omega)).trans (lst_congr fun k _ _ => by simp [rdB, h])
    have S5n : op ≠ 2 → lst (rdB op a b c) = lst (rd4 op a b c) := fun h => lst_congr fun k _ _ => by simp [rdB, h]
    refine ⟨⟨fun _ _ hp => ?_, fun _ _ hv => ?_⟩, ⟨fun _ _ hp => ?_, fun _ _ hv => ?_⟩, ⟨fun _ _ hp => ?_, fun _ _ hv => ?_⟩, ⟨fun _ _ hp => ?_, fun _ _ hv => ?_⟩, trivial⟩
    · obtain ⟨hv, hn⟩ := hp
      refine brS_intro (fun c1 => ⟨[], ⟨rfl, rfl⟩, by simp, .inr ⟨rfl, ?_, rfl, rfl, rfl, rfl, hv, trivial⟩⟩) (fun c1 => .inl ⟨rfl, rfl, rfl, rfl, rfl, rfl, ⟨hv, (S2n c1).trans hn⟩, trivial⟩)
      rw [← hn, S2 hv c1]
    · refine brS_intro (fun c1 => ⟨lst (rd1 op a), ⟨rfl, rfl⟩, lst_len _, .inr ⟨rfl, ?_, rfl, rfl, rfl, rfl, hv, trivial⟩⟩) (fun c1 => .inr ⟨rfl, ?_, rfl, rfl, rfl, rfl, hv, trivial⟩)
      · rw [S2 hv c1]
      · rw [S2n c1]
    · obtain ⟨hv, hn⟩ := hp
      refine brS_intro (fun c1 => ⟨[], ⟨rfl, rfl⟩, by simp, .inr ⟨rfl, ?_, rfl, rfl, hv, trivial⟩⟩) (fun c1 => .inl ⟨rfl, rfl, rfl, rfl, ⟨hv, (S3n c1).trans hn⟩, trivial⟩)
      rw [← hn, S3 hv c1]
    · refine brS_intro (fun c1 => ⟨lst (rd2 op a b), ⟨rfl, rfl⟩, lst_len _, .inr ⟨rfl, ?_, rfl, rfl, hv, trivial⟩⟩) (fun c1 => .inr ⟨rfl, ?_, rfl, rfl, hv, trivial⟩)
      · rw [S3 hv c1]
      · rw [S3n c1]
    · obtain ⟨hv, hn⟩ := hp
      exact ⟨.inl ⟨0, rfl, rfl, rfl, rfl, rfl, ⟨hv, S40.trans hn, fun _ => by have := key hv; omega⟩, trivial⟩, 
      fun k _ hq => by
        obtain ⟨hv, hn, h3⟩ := hq
        refine brS_intro (fun c1 => brS_intro (fun c2 => ⟨[], ⟨rfl, rfl⟩, by simp, .inr ⟨k + 1, rfl, ?_, ?_, rfl, rfl, ⟨hv, fun h => ?_⟩, ?_⟩⟩) (fun c2 => .inl ⟨rfl, rfl, rfl, rfl, ⟨hv, ?_⟩, trivial⟩)) (fun c1 => .inl ⟨rfl, rfl, rfl, rfl, ⟨hv, ?_⟩, trivial⟩)
        all_goals try simp only [decide_eq_true_eq, decide_eq_false_iff_not, beq_iff_eq, beq_eq_false_iff_ne, ne_eq] at c1
        all_goals try simp only [beq_iff_eq, beq_eq_false_iff_ne, ne_eq] at c2
        · have := key hv
          rw [← hn, S4 k c2 (by omega)]
        · have := key hv
          rw [IntWalk.i64_in _ (by omega)]; rfl
        · omega
        · omega
        · exact (S4n k (.inr c2) h3).symm.trans hn
        · exact (S4n k (.inl c1) h3).symm.trans hn,
      fun k _ hq => by
        obtain ⟨hv, h3⟩ := hq
        refine brS_intro (fun c1 => brS_intro (fun c2 => ⟨lst (rdk op a b c k), ⟨rfl, rfl⟩, lst_len _, .inr ⟨k + 1, rfl, ?_, ?_, rfl, rfl, ⟨hv, fun h => ?_⟩, ?_⟩⟩) (fun c2 => .inr ⟨rfl, ?_, rfl, rfl, hv, trivial⟩)) (fun c1 => .inr ⟨rfl, ?_, rfl, rfl, hv, trivial⟩)
        all_goals try simp only [decide_eq_true_eq, decide_eq_false_iff_not, beq_iff_eq, beq_eq_false_iff_ne, ne_eq] at c1
        all_goals try simp only [beq_iff_eq, beq_eq_false_iff_ne, ne_eq] at c2
        · have := key hv
          rw [S4 k c2 (by omega)]
        · have := key hv
          rw [IntWalk.i64_in _ (by omega)]; rfl
        · omega
        · omega
        · rw [S4n k (.inr c2) h3]
        · rw [S4n k (.inl c1) h3]⟩
    · exact ⟨.inr ⟨0, rfl, by rw [S40], rfl, rfl, rfl, ⟨hv, fun _ => by have := key hv; omega⟩, trivial⟩, 
      fun k _ hq => by
        obtain ⟨hv, hn, h3⟩ := hq
        refine brS_intro (fun c1 => brS_intro (fun c2 => ⟨[], ⟨rfl, rfl⟩, by simp, .inr ⟨k + 1, rfl, ?_, ?_, rfl, rfl, ⟨hv, fun h => ?_⟩, ?_⟩⟩) (fun c2 => .inl ⟨rfl, rfl, rfl, rfl, ⟨hv, ?_⟩, trivial⟩)) (fun c1 => .inl ⟨rfl, rfl, rfl, rfl, ⟨hv, ?_⟩, trivial⟩)
        all_goals try simp only [decide_eq_true_eq, decide_eq_false_iff_not, beq_iff_eq, beq_eq_false_iff_ne, ne_eq] at c1
        all_goals try simp only [beq_iff_eq, beq_eq_false_iff_ne, ne_eq] at c2
        · have := key hv
          rw [← hn, S4 k c2 (by omega)]
        · have := key hv
          rw [IntWalk.i64_in _ (by omega)]; rfl
        · omega
        · omega
        · exact (S4n k (.inr c2) h3).symm.trans hn
        · exact (S4n k (.inl c1) h3).symm.trans hn,
      fun k _ hq => by
        obtain ⟨hv, h3⟩ := hq
        refine brS_intro (fun c1 => brS_intro (fun c2 => ⟨lst (rdk op a b c k), ⟨rfl, rfl⟩, lst_len _, .inr ⟨k + 1, rfl, ?_, ?_, rfl, rfl, ⟨hv, fun h => ?_⟩, ?_⟩⟩) (fun c2 => .inr ⟨rfl, ?_, rfl, rfl, hv, trivial⟩)) (fun c1 => .inr ⟨rfl, ?_, rfl, rfl, hv, trivial⟩)
        all_goals try simp only [decide_eq_true_eq, decide_eq_false_iff_not, beq_iff_eq, beq_eq_false_iff_ne, ne_eq] at c1
        all_goals try simp only [beq_iff_eq, beq_eq_false_iff_ne, ne_eq] at c2
        · have := key hv
          rw [S4 k c2 (by omega)]
        · have := key hv
          rw [IntWalk.i64_in _ (by omega)]; rfl
        · omega
        · omega
        · rw [S4n k (.inr c2) h3]
        · rw [S4n k (.inl c1) h3]⟩
    · obtain ⟨hv, hn⟩ := hp
      refine brS_intro (fun c1 => ⟨[], ⟨rfl, rfl⟩, by simp, ?_⟩) (fun c1 => ?_)
      · rw [beq_iff_eq] at c1
        rw [← hn, S5 c1]
        unfold rdI at hk; rw [if_pos hv] at hk
        exact slQ hk rfl rfl
      · rw [beq_eq_false_iff_ne] at c1
        unfold rdI at hk; rw [if_pos hv, S5n c1, hn] at hk
        exact hk
    · refine brS_intro (fun c1 => ⟨lst (rd4 op a b c), ⟨rfl, rfl⟩, lst_len _, ?_⟩) (fun c1 => ?_)
      · rw [beq_iff_eq] at c1
        rw [S5 c1]
        unfold rdI at hk; rw [if_pos hv] at hk
        exact slQ hk rfl rfl
      · rw [beq_eq_false_iff_ne] at c1
        unfold rdI at hk; rw [if_pos hv, S5n c1] at hk
        exact slQ hk rfl rfl
  · exact hk.elim
def cRReads := addC 27 kRReads cInsert
theorem okRReads : Sound env cRReads := sound_add sRReads (okInsert)

end Go.Proofs.YtfmcdageaananaaDoor
