/-
  Machine words: Encode of the program and of the reference.
  Conditions: none.
-/
import Derived.Test.YtiecmbfcgjaflaaDoorC30
import Derived.KernelRfl
set_option linter.unusedVariables false
set_option linter.unusedSimpArgs false
namespace Go.Proofs.YtiecmbfcgjaflaaDoor
open Go.Pv Go.M29 Go.M30
def kApp (xs : List IV) (h : Heap) (K : IV → Heap → Prop) : Prop := match xs with
  | .nilslice :: _ => kAppNil xs h K
  | _ => kAppRow xs h K
def cBase := addC 29 kApp cAppRow
theorem sApp : ∀ xs h Q, kApp xs h Q → CallW env 29 xs h Q := by
  intro xs h Q hk
  unfold kApp at hk
  split at hk
  · exact sAppNil _ _ _ hk
  · exact sAppRow _ _ _ hk
theorem okBase : Sound env cBase := sound_add sApp okAppRow
def encInv (l : List In) : Inv' := .or
  (atX Unit (fun _ => [(4, .v .nilslice), (7, .v (.vslice none 0 (l).length 5 ((l).flatMap cIns))), (8, .v (.int .i64 l.length)), (9, .v (.int .i64 0))]) (fun _ => []) (fun _ => Heap.empty) (fun _ => True) (fun _ => l.length))
  (atX Nat (fun i => [(4, .v (.vslice (some 0) (encT l i).length (encT l i).length 1 ((encT l i).map (IV.int .u32)))), (7, .v (.vslice none 0 (l).length 5 ((l).flatMap cIns))), (8, .v (.int .i64 l.length)), (9, .v (.int .i64 i))]) (fun _ => []) (fun i => ⟨.node .nil (some (.tip (encT l i).length)) .nil, 1⟩) (fun i => (1 ≤ i ∧ i ≤ l.length) ∧ ∀ j (q : j < l.length), j < i → okIn l[j] = true) (fun i => l.length - i))
def kEncode (xs : List IV) (h : Heap) (K : IV → Heap → Prop) : Prop := match xs with
  | [.vslice none e1 n1 5 c1] => ∃ l : List In, (n1 = l.length ∧ c1 = l.flatMap cIns) ∧ l.length ≤ 3600000000000 ∧ K (.tuple [.vslice none 0 ((encR l).1).length 1 (((encR l).1).map (IV.int .u32)), .int .i64 (encR l).2]) h
  | _ => False
set_option maxRecDepth 100000 in
theorem vEncode (l : List In) (e1 : Nat) (h : Heap) (Q : IV → Heap → Prop) : dF (stdS cBase) env 10 noU (ic1 4 (encInv l)) noI [.vslice none e1 (l).length 5 ((l).flatMap cIns)] h Q = (
  needS (pureL [IV.vslice none (0 : Nat) (List.length l) (5 : Nat) (List.flatMap cIns l)])
    (((∃ (x : Unit),
          some (TV.v IV.nilslice) = some (TV.v IV.nilslice) ∧
            some (TV.v (IV.vslice none (0 : Nat) (List.length l) (5 : Nat) (List.flatMap cIns l))) = some (TV.v (IV.vslice none (0 : Nat) (List.length l) (5 : Nat) (List.flatMap cIns l))) ∧
              some (TV.v (IV.int IntKind.i64 (↑(List.length l) : Int))) = some (TV.v (IV.int IntKind.i64 (↑(List.length l) : Int))) ∧
                some (TV.v (IV.int IntKind.i64 (0 : Int))) = some (TV.v (IV.int IntKind.i64 (0 : Int))) ∧ Heap.mk PT.nil (0 : Nat) = Heap.mk PT.nil (0 : Nat) ∧ True ∧ True) ∨
        ∃ (x : Nat),
          some (TV.v IV.nilslice) = some (TV.v (IV.vslice (some (0 : Nat)) (List.length (encT l x)) (List.length (encT l x)) (1 : Nat) (List.map (IV.int IntKind.u32) (encT l x)))) ∧
            some (TV.v (IV.vslice none (0 : Nat) (List.length l) (5 : Nat) (List.flatMap cIns l))) = some (TV.v (IV.vslice none (0 : Nat) (List.length l) (5 : Nat) (List.flatMap cIns l))) ∧
              some (TV.v (IV.int IntKind.i64 (↑(List.length l) : Int))) = some (TV.v (IV.int IntKind.i64 (↑(List.length l) : Int))) ∧
                some (TV.v (IV.int IntKind.i64 (0 : Int))) = some (TV.v (IV.int IntKind.i64 (↑x : Int))) ∧
                  Heap.mk PT.nil (0 : Nat) = Heap.mk (PT.node PT.nil (some (IObj.tip (List.length (encT l x)))) PT.nil) (1 : Nat) ∧
                    (((1 : Nat) ≤ x ∧ x ≤ List.length l) ∧ ∀ (j : Nat) (q : j < List.length l), j < x → okIn l[j] = true) ∧ True) ∧
      (∀ (x : Unit) (b : FF),
          True →
            brS (decide ((0 : Int) < (↑(List.length l) : Int)))
              (needS (true && decide ((0 : Int) < (↑(List.length l) : Int)))
                (ldIS IntKind.i64 (List.flatMap cIns l) (0 : Nat) fun (n0 : Int) =>
                  ldIS IntKind.i64 (List.flatMap cIns l) (1 : Nat) fun (n1 : Int) =>
                    ldIS IntKind.i64 (List.flatMap cIns l) (2 : Nat) fun (n2 : Int) =>
                      ldIS IntKind.i64 (List.flatMap cIns l) (3 : Nat) fun (n3 : Int) =>
                        ldIS IntKind.i64 (List.flatMap cIns l) (4 : Nat) fun (n4 : Int) =>
                          brS (!validI n0 n1 n2 n3 n4) (Q (IV.tuple [IV.vslice none (0 : Nat) (0 : Nat) (1 : Nat) [], IV.int IntKind.i64 (204 : Int)]) h)
                            (validI n0 n1 n2 n3 n4 = true ∧
                              ((∃ (x : Unit),
                                  some (TV.v (IV.vslice (some (0 : Nat)) (List.length (encW (In.mk n0 n1 n2 n3 n4))) (List.length (encW (In.mk n0 n1 n2 n3 n4))) (1 : Nat) (List.map (IV.int IntKind.u32) (encW (In.mk n0 n1 n2 n3 n4))))) =
                                      some (TV.v IV.nilslice) ∧
                                    some (TV.v (IV.vslice none (0 : Nat) (List.length l) (5 : Nat) (List.flatMap cIns l))) = some (TV.v (IV.vslice none (0 : Nat) (List.length l) (5 : Nat) (List.flatMap cIns l))) ∧
                                      some (TV.v (IV.int IntKind.i64 (↑(List.length l) : Int))) = some (TV.v (IV.int IntKind.i64 (↑(List.length l) : Int))) ∧
                                        some (TV.v (IV.int IntKind.i64 (1 : Int))) = some (TV.v (IV.int IntKind.i64 (0 : Int))) ∧
                                          Heap.mk (PT.node PT.nil (some (IObj.tip (List.length (encW (In.mk n0 n1 n2 n3 n4))))) PT.nil) ((0 : Nat) + (1 : Nat)) = Heap.mk PT.nil (0 : Nat) ∧ True ∧ List.length l < List.length l) ∨
                                ∃ (x : Nat),
                                  some (TV.v (IV.vslice (some (0 : Nat)) (List.length (encW (In.mk n0 n1 n2 n3 n4))) (List.length (encW (In.mk n0 n1 n2 n3 n4))) (1 : Nat) (List.map (IV.int IntKind.u32) (encW (In.mk n0 n1 n2 n3 n4))))) =
                                      some (TV.v (IV.vslice (some (0 : Nat)) (List.length (encT l x)) (List.length (encT l x)) (1 : Nat) (List.map (IV.int IntKind.u32) (encT l x)))) ∧
                                    some (TV.v (IV.vslice none (0 : Nat) (List.length l) (5 : Nat) (List.flatMap cIns l))) = some (TV.v (IV.vslice none (0 : Nat) (List.length l) (5 : Nat) (List.flatMap cIns l))) ∧
                                      some (TV.v (IV.int IntKind.i64 (↑(List.length l) : Int))) = some (TV.v (IV.int IntKind.i64 (↑(List.length l) : Int))) ∧
                                        some (TV.v (IV.int IntKind.i64 (1 : Int))) = some (TV.v (IV.int IntKind.i64 (↑x : Int))) ∧
                                          Heap.mk (PT.node PT.nil (some (IObj.tip (List.length (encW (In.mk n0 n1 n2 n3 n4))))) PT.nil) ((0 : Nat) + (1 : Nat)) =
                                              Heap.mk (PT.node PT.nil (some (IObj.tip (List.length (encT l x)))) PT.nil) (1 : Nat) ∧
                                            (((1 : Nat) ≤ x ∧ x ≤ List.length l) ∧ ∀ (j : Nat) (q : j < List.length l), j < x → okIn l[j] = true) ∧ List.length l - x < List.length l))))
              (Q (IV.tuple [IV.vslice none (0 : Nat) (0 : Nat) (1 : Nat) [], IV.int IntKind.i64 (0 : Int)]) h)) ∧
        ∀ (x : Nat) (b : FF),
          (((1 : Nat) ≤ x ∧ x ≤ List.length l) ∧ ∀ (j : Nat) (q : j < List.length l), j < x → okIn l[j] = true) →
            brS (decide ((↑x : Int) < (↑(List.length l) : Int)))
              (needS (decide ((0 : Int) ≤ (↑x : Int)) && decide ((↑x : Int) < (↑(List.length l) : Int)))
                (ldIS IntKind.i64 (List.flatMap cIns l) (Int.toNat (↑x : Int) * (5 : Nat)) fun (n5 : Int) =>
                  ldIS IntKind.i64 (List.flatMap cIns l) (Int.toNat (↑x : Int) * (5 : Nat) + (1 : Nat)) fun (n6 : Int) =>
                    ldIS IntKind.i64 (List.flatMap cIns l) (Int.toNat (↑x : Int) * (5 : Nat) + (1 : Nat) + (1 : Nat)) fun (n7 : Int) =>
                      ldIS IntKind.i64 (List.flatMap cIns l) (Int.toNat (↑x : Int) * (5 : Nat) + (1 : Nat) + (1 : Nat) + (1 : Nat)) fun (n8 : Int) =>
                        ldIS IntKind.i64 (List.flatMap cIns l) (Int.toNat (↑x : Int) * (5 : Nat) + (1 : Nat) + (1 : Nat) + (1 : Nat) + (1 : Nat)) fun (n9 : Int) =>
                          brS (!validI n5 n6 n7 n8 n9) (Q (IV.tuple [IV.vslice none (0 : Nat) (0 : Nat) (1 : Nat) [], IV.int IntKind.i64 (204 : Int)]) h)
                            ((List.length (encT l x) = List.length (encT l x) ∧ (↑(List.length (encT l x)) : Int) ≤ (20000000000000 : Int) ∧ validI n5 n6 n7 n8 n9 = true) ∧
                              ((∃ (x_1 : Unit),
                                  some
                                        (TV.v
                                          (IV.vslice (some (0 : Nat)) (List.length (encT l x) + List.length (encW (In.mk n5 n6 n7 n8 n9))) (List.length (encT l x) + List.length (encW (In.mk n5 n6 n7 n8 n9))) (1 : Nat)
                                            (List.map (IV.int IntKind.u32) (encT l x) ++ List.map (IV.int IntKind.u32) (encW (In.mk n5 n6 n7 n8 n9))))) =
                                      some (TV.v IV.nilslice) ∧
                                    some (TV.v (IV.vslice none (0 : Nat) (List.length l) (5 : Nat) (List.flatMap cIns l))) = some (TV.v (IV.vslice none (0 : Nat) (List.length l) (5 : Nat) (List.flatMap cIns l))) ∧
                                      some (TV.v (IV.int IntKind.i64 (↑(List.length l) : Int))) = some (TV.v (IV.int IntKind.i64 (↑(List.length l) : Int))) ∧
                                        some (TV.v (IV.int IntKind.i64 (IntKind.wrap IntKind.i64 ((↑x : Int) + (1 : Int))))) = some (TV.v (IV.int IntKind.i64 (0 : Int))) ∧
                                          Heap.mk (PT.node PT.nil (some (IObj.tip (List.length (encT l x) + List.length (encW (In.mk n5 n6 n7 n8 n9))))) PT.nil) (1 : Nat) = Heap.mk PT.nil (0 : Nat) ∧
                                            True ∧ List.length l < List.length l - x) ∨
                                ∃ (x_1 : Nat),
                                  some
                                        (TV.v
                                          (IV.vslice (some (0 : Nat)) (List.length (encT l x) + List.length (encW (In.mk n5 n6 n7 n8 n9))) (List.length (encT l x) + List.length (encW (In.mk n5 n6 n7 n8 n9))) (1 : Nat)
                                            (List.map (IV.int IntKind.u32) (encT l x) ++ List.map (IV.int IntKind.u32) (encW (In.mk n5 n6 n7 n8 n9))))) =
                                      some (TV.v (IV.vslice (some (0 : Nat)) (List.length (encT l x_1)) (List.length (encT l x_1)) (1 : Nat) (List.map (IV.int IntKind.u32) (encT l x_1)))) ∧
                                    some (TV.v (IV.vslice none (0 : Nat) (List.length l) (5 : Nat) (List.flatMap cIns l))) = some (TV.v (IV.vslice none (0 : Nat) (List.length l) (5 : Nat) (List.flatMap cIns l))) ∧
                                      some (TV.v (IV.int IntKind.i64 (↑(List.length l) : Int))) = some (TV.v (IV.int IntKind.i64 (↑(List.length l) : Int))) ∧
                                        some (TV.v (IV.int IntKind.i64 (IntKind.wrap IntKind.i64 ((↑x : Int) + (1 : Int))))) = some (TV.v (IV.int IntKind.i64 (↑x_1 : Int))) ∧
                                          Heap.mk (PT.node PT.nil (some (IObj.tip (List.length (encT l x) + List.length (encW (In.mk n5 n6 n7 n8 n9))))) PT.nil) (1 : Nat) =
                                              Heap.mk (PT.node PT.nil (some (IObj.tip (List.length (encT l x_1)))) PT.nil) (1 : Nat) ∧
                                            (((1 : Nat) ≤ x_1 ∧ x_1 ≤ List.length l) ∧ ∀ (j : Nat) (q : j < List.length l), j < x_1 → okIn l[j] = true) ∧ List.length l - x_1 < List.length l - x))))
              (needS (pureL [IV.vslice none (0 : Nat) (List.length (encT l x)) (1 : Nat) (List.map (IV.int IntKind.u32) (encT l x)), IV.int IntKind.i64 (0 : Int)])
                (Q (IV.tuple [IV.vslice none (0 : Nat) (List.length (encT l x)) (1 : Nat) (List.map (IV.int IntKind.u32) (encT l x)), IV.int IntKind.i64 (0 : Int)]) h)))) := by kernel_rfl
set_option maxHeartbeats 2000000 in
theorem sEncode : ∀ xs h Q, kEncode xs h Q → CallW env 10 xs h Q := by
  intro xs h Q hk
  unfold kEncode at hk
  split at hk
  · rename_i e1 n1 c1
    obtain ⟨l, ⟨rfl, rfl⟩, hb, hk⟩ := hk
    refine dF_sound (okBase) (mp_eq (vEncode l e1 h Q) ?_)
    refine needS_intro (by simp only [pureL, pureB, pureL_in, Bool.and_true]) ⟨.inl ⟨(), rfl, rfl, rfl, rfl, rfl, trivial, trivial⟩, fun _ _ _ => ?_, fun i _ hi => ?_⟩
    · refine brS_intro (fun c1 => needS_intro (by simpa using c1) ?_) (fun c1 => ?_)
      · simp only [decide_eq_true_eq] at c1
        have h0 : 0 < l.length := by omega
        refine ldIn (i := 0) (o := 0) h0 rfl (brS_intro (fun c2 => ?_) (fun c2 => ⟨by simpa using c2, .inr ⟨1, ?_, rfl, rfl, rfl, ?_, ⟨⟨by omega, by omega⟩, fun j q hj => ?_⟩, by omega⟩⟩))
        · rw [Bool.not_eq_true'] at c2
          rw [show encR l = ([], 204) by unfold encR; rw [not_all h0 c2]; rfl] at hk
          exact hk
        · rw [encT_succ h0]; rfl
        · rw [encT_succ h0]; rfl
        · obtain rfl : j = 0 := by omega
          rw [Bool.not_eq_false'] at c2; exact c2
      · simp only [decide_eq_false_iff_not] at c1
        obtain rfl : l = [] := List.eq_nil_of_length_eq_zero (by omega)
        exact hk
    · obtain ⟨⟨h1, h2⟩, h3⟩ := hi
      have tn : ∀ x : Nat, (x : Int).toNat = x := Int.toNat_natCast
      refine brS_intro (fun c1 => ?_) (fun c1 => ?_)
      · simp only [decide_eq_true_eq] at c1
        have h0 : i < l.length := by omega
        refine needS_intro (by simp; omega) (ldIn (i := i) h0 (by rw [tn]) (brS_intro (fun c2 => ?_) (fun c2 => ⟨⟨rfl, by have := encT_le l i; omega, by simpa using c2⟩, .inr ⟨i + 1, ?_, rfl, rfl, ?_, ?_, ⟨⟨by omega, by omega⟩, fun j q hj => ?_⟩, by omega⟩⟩)))
        · rw [Bool.not_eq_true'] at c2
          rw [show encR l = ([], 204) by unfold encR; rw [not_all h0 c2]; rfl] at hk
          exact hk
        · rw [encT_succ h0, List.length_append, List.map_append]
        · rw [IntWalk.i64_in _ (by omega)]; rfl
        · rw [encT_succ h0, List.length_append]
        · rcases Nat.lt_or_ge j i with z | z
          · exact h3 j q z
          · obtain rfl : j = i := by omega
            rw [Bool.not_eq_false'] at c2; exact c2
      · simp only [decide_eq_false_iff_not] at c1
        obtain rfl : i = l.length := by omega
        rw [encT_all]
        rw [show encR l = (l.flatMap encW, 0) by unfold encR; rw [all_of fun j q => h3 j q q]; rfl] at hk
        exact needS_intro (by simp only [pureL, pureB, pureL_ints, Bool.and_true]) hk
  · exact hk.elim
def cEncode := addC 10 kEncode cBase
theorem okEncode : Sound env cEncode := sound_add sEncode (okBase)

def rencInv (l : List In) : Inv' := .or
  (atX Unit (fun _ => [(4, .v .nilslice), (0, .v (.vslice none 0 (l).length 5 ((l).flatMap cIns))), (5, .v (.int .i64 0))]) (fun _ => []) (fun _ => Heap.empty) (fun _ => True) (fun _ => l.length))
  (atX Nat (fun i => [(4, .v (.vslice (some 0) (encT l i).length (encT l i).length 1 ((encT l i).map (IV.int .u32)))), (0, .v (.vslice none 0 (l).length 5 ((l).flatMap cIns))), (5, .v (.int .i64 i))]) (fun _ => []) (fun i => ⟨.node .nil (some (.tip (encT l i).length)) .nil, 1⟩) (fun i => (1 ≤ i ∧ i ≤ l.length) ∧ ∀ j (q : j < l.length), j < i → okIn l[j] = true) (fun i => l.length - i))
def kREncode (xs : List IV) (h : Heap) (K : IV → Heap → Prop) : Prop := match xs with
  | [.vslice none e1 n1 5 c1] => ∃ l : List In, (n1 = l.length ∧ c1 = l.flatMap cIns) ∧ l.length ≤ 3600000000000 ∧ K (.tuple [.vslice none 0 ((encR l).1).length 1 (((encR l).1).map (IV.int .u32)), .int .i64 (encR l).2]) h
  | _ => False
set_option maxRecDepth 100000 in
theorem vREncode (l : List In) (e1 : Nat) (h : Heap) (Q : IV → Heap → Prop) : dF (stdS cEncode) env 14 noU (ic1 4 (rencInv l)) noI [.vslice none e1 (l).length 5 ((l).flatMap cIns)] h Q = (
  needS (pureL [IV.vslice none (0 : Nat) (List.length l) (5 : Nat) (List.flatMap cIns l)])
    (((∃ (x : Unit),
          some (TV.v IV.nilslice) = some (TV.v IV.nilslice) ∧
            some (TV.v (IV.vslice none (0 : Nat) (List.length l) (5 : Nat) (List.flatMap cIns l))) = some (TV.v (IV.vslice none (0 : Nat) (List.length l) (5 : Nat) (List.flatMap cIns l))) ∧
              some (TV.v (IV.int IntKind.i64 (0 : Int))) = some (TV.v (IV.int IntKind.i64 (0 : Int))) ∧ Heap.mk PT.nil (0 : Nat) = Heap.mk PT.nil (0 : Nat) ∧ True ∧ True) ∨
        ∃ (x : Nat),
          some (TV.v IV.nilslice) = some (TV.v (IV.vslice (some (0 : Nat)) (List.length (encT l x)) (List.length (encT l x)) (1 : Nat) (List.map (IV.int IntKind.u32) (encT l x)))) ∧
            some (TV.v (IV.vslice none (0 : Nat) (List.length l) (5 : Nat) (List.flatMap cIns l))) = some (TV.v (IV.vslice none (0 : Nat) (List.length l) (5 : Nat) (List.flatMap cIns l))) ∧
              some (TV.v (IV.int IntKind.i64 (0 : Int))) = some (TV.v (IV.int IntKind.i64 (↑x : Int))) ∧
                Heap.mk PT.nil (0 : Nat) = Heap.mk (PT.node PT.nil (some (IObj.tip (List.length (encT l x)))) PT.nil) (1 : Nat) ∧ (((1 : Nat) ≤ x ∧ x ≤ List.length l) ∧ ∀ (j : Nat) (q : j < List.length l), j < x → okIn l[j] = true) ∧ True) ∧
      (∀ (x : Unit) (b : FF),
          True →
            brS (decide ((0 : Int) < (↑(List.length l) : Int)))
              (needS (true && decide ((0 : Int) < (↑(List.length l) : Int)))
                (ldIS IntKind.i64 (List.flatMap cIns l) (0 : Nat) fun (n0 : Int) =>
                  ldIS IntKind.i64 (List.flatMap cIns l) (1 : Nat) fun (n1 : Int) =>
                    ldIS IntKind.i64 (List.flatMap cIns l) (2 : Nat) fun (n2 : Int) =>
                      ldIS IntKind.i64 (List.flatMap cIns l) (3 : Nat) fun (n3 : Int) =>
                        ldIS IntKind.i64 (List.flatMap cIns l) (4 : Nat) fun (n4 : Int) =>
                          brS (!validI n0 n1 n2 n3 n4) (Q (IV.tuple [IV.vslice none (0 : Nat) (0 : Nat) (1 : Nat) [], IV.int IntKind.i64 (204 : Int)]) h)
                            (brS (decide (nbI (fmI n0) > (0 : Int)))
                              (needS (decide ((0 : Int) ≤ nbI (fmI n0)))
                                (needS (decide ((0 : Int) ≤ atI (fmI n0)))
                                  (brS (n0 == (14 : Int))
                                    ((∃ (x : Unit),
                                        some
                                              (TV.v
                                                (IV.vslice (some (0 : Nat)) (3 : Nat) (3 : Nat) (1 : Nat)
                                                  [IV.int IntKind.u32
                                                      (bvOr IntKind.u32
                                                        (bvOr IntKind.u32
                                                          (bvOr IntKind.u32 (bvOr IntKind.u32 (IntKind.wrap IntKind.u32 n0) (IntKind.wrap IntKind.u32 (IntKind.wrap IntKind.u32 n1 * (64 : Int))))
                                                            (IntKind.wrap IntKind.u32 (IntKind.wrap IntKind.u32 n2 * (512 : Int))))
                                                          (IntKind.wrap IntKind.u32 (IntKind.wrap IntKind.u32 n3 * (4096 : Int))))
                                                        (IntKind.wrap IntKind.u32
                                                          (IntKind.wrap IntKind.u32
                                                              (bvAnd IntKind.u64 (IntKind.wrap IntKind.u64 n4)
                                                                (IntKind.wrap IntKind.u64 (IntKind.wrap IntKind.u64 ((1 : Int) * (2 : Int) ^ min (Int.toNat (nbI (fmI n0))) (64 : Nat)) - (1 : Int)))) *
                                                            (2 : Int) ^ min (Int.toNat (atI (fmI n0))) (32 : Nat)))),
                                                    IV.int IntKind.u32 (IntKind.wrap IntKind.u32 (IntKind.wrap IntKind.u64 n4)), IV.int IntKind.u32 (IntKind.wrap IntKind.u32 (Int.fdiv (IntKind.wrap IntKind.u64 n4) (4294967296 : Int)))])) =
                                            some (TV.v IV.nilslice) ∧
                                          some (TV.v (IV.vslice none (0 : Nat) (List.length l) (5 : Nat) (List.flatMap cIns l))) = some (TV.v (IV.vslice none (0 : Nat) (List.length l) (5 : Nat) (List.flatMap cIns l))) ∧
                                            some (TV.v (IV.int IntKind.i64 (1 : Int))) = some (TV.v (IV.int IntKind.i64 (0 : Int))) ∧
                                              Heap.mk (PT.node PT.nil (some (IObj.tip (3 : Nat))) PT.nil) ((0 : Nat) + (1 : Nat)) = Heap.mk PT.nil (0 : Nat) ∧ True ∧ List.length l < List.length l) ∨
                                      ∃ (x : Nat),
                                        some
                                              (TV.v
                                                (IV.vslice (some (0 : Nat)) (3 : Nat) (3 : Nat) (1 : Nat)
                                                  [IV.int IntKind.u32
                                                      (bvOr IntKind.u32
                                                        (bvOr IntKind.u32
                                                          (bvOr IntKind.u32 (bvOr IntKind.u32 (IntKind.wrap IntKind.u32 n0) (IntKind.wrap IntKind.u32 (IntKind.wrap IntKind.u32 n1 * (64 : Int))))
                                                            (IntKind.wrap IntKind.u32 (IntKind.wrap IntKind.u32 n2 * (512 : Int))))
                                                          (IntKind.wrap IntKind.u32 (IntKind.wrap IntKind.u32 n3 * (4096 : Int))))
                                                        (IntKind.wrap IntKind.u32
                                                          (IntKind.wrap IntKind.u32
                                                              (bvAnd IntKind.u64 (IntKind.wrap IntKind.u64 n4)
                                                                (IntKind.wrap IntKind.u64 (IntKind.wrap IntKind.u64 ((1 : Int) * (2 : Int) ^ min (Int.toNat (nbI (fmI n0))) (64 : Nat)) - (1 : Int)))) *
                                                            (2 : Int) ^ min (Int.toNat (atI (fmI n0))) (32 : Nat)))),
                                                    IV.int IntKind.u32 (IntKind.wrap IntKind.u32 (IntKind.wrap IntKind.u64 n4)), IV.int IntKind.u32 (IntKind.wrap IntKind.u32 (Int.fdiv (IntKind.wrap IntKind.u64 n4) (4294967296 : Int)))])) =
                                            some (TV.v (IV.vslice (some (0 : Nat)) (List.length (encT l x)) (List.length (encT l x)) (1 : Nat) (List.map (IV.int IntKind.u32) (encT l x)))) ∧
                                          some (TV.v (IV.vslice none (0 : Nat) (List.length l) (5 : Nat) (List.flatMap cIns l))) = some (TV.v (IV.vslice none (0 : Nat) (List.length l) (5 : Nat) (List.flatMap cIns l))) ∧
                                            some (TV.v (IV.int IntKind.i64 (1 : Int))) = some (TV.v (IV.int IntKind.i64 (↑x : Int))) ∧
                                              Heap.mk (PT.node PT.nil (some (IObj.tip (3 : Nat))) PT.nil) ((0 : Nat) + (1 : Nat)) = Heap.mk (PT.node PT.nil (some (IObj.tip (List.length (encT l x)))) PT.nil) (1 : Nat) ∧
                                                (((1 : Nat) ≤ x ∧ x ≤ List.length l) ∧ ∀ (j : Nat) (q : j < List.length l), j < x → okIn l[j] = true) ∧ List.length l - x < List.length l)
                                    ((∃ (x : Unit),
                                        some
                                              (TV.v
                                                (IV.vslice (some (0 : Nat)) (1 : Nat) (1 : Nat) (1 : Nat)
                                                  [IV.int IntKind.u32
                                                      (bvOr IntKind.u32
                                                        (bvOr IntKind.u32
                                                          (bvOr IntKind.u32 (bvOr IntKind.u32 (IntKind.wrap IntKind.u32 n0) (IntKind.wrap IntKind.u32 (IntKind.wrap IntKind.u32 n1 * (64 : Int))))
                                                            (IntKind.wrap IntKind.u32 (IntKind.wrap IntKind.u32 n2 * (512 : Int))))
                                                          (IntKind.wrap IntKind.u32 (IntKind.wrap IntKind.u32 n3 * (4096 : Int))))
                                                        (IntKind.wrap IntKind.u32
                                                          (IntKind.wrap IntKind.u32
                                                              (bvAnd IntKind.u64 (IntKind.wrap IntKind.u64 n4)
                                                                (IntKind.wrap IntKind.u64 (IntKind.wrap IntKind.u64 ((1 : Int) * (2 : Int) ^ min (Int.toNat (nbI (fmI n0))) (64 : Nat)) - (1 : Int)))) *
                                                            (2 : Int) ^ min (Int.toNat (atI (fmI n0))) (32 : Nat))))])) =
                                            some (TV.v IV.nilslice) ∧
                                          some (TV.v (IV.vslice none (0 : Nat) (List.length l) (5 : Nat) (List.flatMap cIns l))) = some (TV.v (IV.vslice none (0 : Nat) (List.length l) (5 : Nat) (List.flatMap cIns l))) ∧
                                            some (TV.v (IV.int IntKind.i64 (1 : Int))) = some (TV.v (IV.int IntKind.i64 (0 : Int))) ∧
                                              Heap.mk (PT.node PT.nil (some (IObj.tip (1 : Nat))) PT.nil) ((0 : Nat) + (1 : Nat)) = Heap.mk PT.nil (0 : Nat) ∧ True ∧ List.length l < List.length l) ∨
                                      ∃ (x : Nat),
                                        some
                                              (TV.v
                                                (IV.vslice (some (0 : Nat)) (1 : Nat) (1 : Nat) (1 : Nat)
                                                  [IV.int IntKind.u32
                                                      (bvOr IntKind.u32
                                                        (bvOr IntKind.u32
                                                          (bvOr IntKind.u32 (bvOr IntKind.u32 (IntKind.wrap IntKind.u32 n0) (IntKind.wrap IntKind.u32 (IntKind.wrap IntKind.u32 n1 * (64 : Int))))
                                                            (IntKind.wrap IntKind.u32 (IntKind.wrap IntKind.u32 n2 * (512 : Int))))
                                                          (IntKind.wrap IntKind.u32 (IntKind.wrap IntKind.u32 n3 * (4096 : Int))))
                                                        (IntKind.wrap IntKind.u32
                                                          (IntKind.wrap IntKind.u32
                                                              (bvAnd IntKind.u64 (IntKind.wrap IntKind.u64 n4)
                                                                (IntKind.wrap IntKind.u64 (IntKind.wrap IntKind.u64 ((1 : Int) * (2 : Int) ^ min (Int.toNat (nbI (fmI n0))) (64 : Nat)) - (1 : Int)))) *
                                                            (2 : Int) ^ min (Int.toNat (atI (fmI n0))) (32 : Nat))))])) =
                                            some (TV.v (IV.vslice (some (0 : Nat)) (List.length (encT l x)) (List.length (encT l x)) (1 : Nat) (List.map (IV.int IntKind.u32) (encT l x)))) ∧
                                          some (TV.v (IV.vslice none (0 : Nat) (List.length l) (5 : Nat) (List.flatMap cIns l))) = some (TV.v (IV.vslice none (0 : Nat) (List.length l) (5 : Nat) (List.flatMap cIns l))) ∧
                                            some (TV.v (IV.int IntKind.i64 (1 : Int))) = some (TV.v (IV.int IntKind.i64 (↑x : Int))) ∧
                                              Heap.mk (PT.node PT.nil (some (IObj.tip (1 : Nat))) PT.nil) ((0 : Nat) + (1 : Nat)) = Heap.mk (PT.node PT.nil (some (IObj.tip (List.length (encT l x)))) PT.nil) (1 : Nat) ∧
                                                (((1 : Nat) ≤ x ∧ x ≤ List.length l) ∧ ∀ (j : Nat) (q : j < List.length l), j < x → okIn l[j] = true) ∧ List.length l - x < List.length l))))
                              (brS (n0 == (14 : Int))
                                ((∃ (x : Unit),
                                    some
                                          (TV.v
                                            (IV.vslice (some (0 : Nat)) (3 : Nat) (3 : Nat) (1 : Nat)
                                              [IV.int IntKind.u32
                                                  (bvOr IntKind.u32
                                                    (bvOr IntKind.u32 (bvOr IntKind.u32 (IntKind.wrap IntKind.u32 n0) (IntKind.wrap IntKind.u32 (IntKind.wrap IntKind.u32 n1 * (64 : Int))))
                                                      (IntKind.wrap IntKind.u32 (IntKind.wrap IntKind.u32 n2 * (512 : Int))))
                                                    (IntKind.wrap IntKind.u32 (IntKind.wrap IntKind.u32 n3 * (4096 : Int)))),
                                                IV.int IntKind.u32 (IntKind.wrap IntKind.u32 (IntKind.wrap IntKind.u64 n4)), IV.int IntKind.u32 (IntKind.wrap IntKind.u32 (Int.fdiv (IntKind.wrap IntKind.u64 n4) (4294967296 : Int)))])) =
                                        some (TV.v IV.nilslice) ∧
                                      some (TV.v (IV.vslice none (0 : Nat) (List.length l) (5 : Nat) (List.flatMap cIns l))) = some (TV.v (IV.vslice none (0 : Nat) (List.length l) (5 : Nat) (List.flatMap cIns l))) ∧
                                        some (TV.v (IV.int IntKind.i64 (1 : Int))) = some (TV.v (IV.int IntKind.i64 (0 : Int))) ∧
                                          Heap.mk (PT.node PT.nil (some (IObj.tip (3 : Nat))) PT.nil) ((0 : Nat) + (1 : Nat)) = Heap.mk PT.nil (0 : Nat) ∧ True ∧ List.length l < List.length l) ∨
                                  ∃ (x : Nat),
                                    some
                                          (TV.v
                                            (IV.vslice (some (0 : Nat)) (3 : Nat) (3 : Nat) (1 : Nat)
                                              [IV.int IntKind.u32
                                                  (bvOr IntKind.u32
                                                    (bvOr IntKind.u32 (bvOr IntKind.u32 (IntKind.wrap IntKind.u32 n0) (IntKind.wrap IntKind.u32 (IntKind.wrap IntKind.u32 n1 * (64 : Int))))
                                                      (IntKind.wrap IntKind.u32 (IntKind.wrap IntKind.u32 n2 * (512 : Int))))
                                                    (IntKind.wrap IntKind.u32 (IntKind.wrap IntKind.u32 n3 * (4096 : Int)))),
                                                IV.int IntKind.u32 (IntKind.wrap IntKind.u32 (IntKind.wrap IntKind.u64 n4)), IV.int IntKind.u32 (IntKind.wrap IntKind.u32 (Int.fdiv (IntKind.wrap IntKind.u64 n4) (4294967296 : Int)))])) =
                                        some (TV.v (IV.vslice (some (0 : Nat)) (List.length (encT l x)) (List.length (encT l x)) (1 : Nat) (List.map (IV.int IntKind.u32) (encT l x)))) ∧
                                      some (TV.v (IV.vslice none (0 : Nat) (List.length l) (5 : Nat) (List.flatMap cIns l))) = some (TV.v (IV.vslice none (0 : Nat) (List.length l) (5 : Nat) (List.flatMap cIns l))) ∧
                                        some (TV.v (IV.int IntKind.i64 (1 : Int))) = some (TV.v (IV.int IntKind.i64 (↑x : Int))) ∧
                                          Heap.mk (PT.node PT.nil (some (IObj.tip (3 : Nat))) PT.nil) ((0 : Nat) + (1 : Nat)) = Heap.mk (PT.node PT.nil (some (IObj.tip (List.length (encT l x)))) PT.nil) (1 : Nat) ∧
                                            (((1 : Nat) ≤ x ∧ x ≤ List.length l) ∧ ∀ (j : Nat) (q : j < List.length l), j < x → okIn l[j] = true) ∧ List.length l - x < List.length l)
                                ((∃ (x : Unit),
                                    some
                                          (TV.v
                                            (IV.vslice (some (0 : Nat)) (1 : Nat) (1 : Nat) (1 : Nat)
                                              [IV.int IntKind.u32
                                                  (bvOr IntKind.u32
                                                    (bvOr IntKind.u32 (bvOr IntKind.u32 (IntKind.wrap IntKind.u32 n0) (IntKind.wrap IntKind.u32 (IntKind.wrap IntKind.u32 n1 * (64 : Int))))
                                                      (IntKind.wrap IntKind.u32 (IntKind.wrap IntKind.u32 n2 * (512 : Int))))
                                                    (IntKind.wrap IntKind.u32 (IntKind.wrap IntKind.u32 n3 * (4096 : Int))))])) =
                                        some (TV.v IV.nilslice) ∧
                                      some (TV.v (IV.vslice none (0 : Nat) (List.length l) (5 : Nat) (List.flatMap cIns l))) = some (TV.v (IV.vslice none (0 : Nat) (List.length l) (5 : Nat) (List.flatMap cIns l))) ∧
                                        some (TV.v (IV.int IntKind.i64 (1 : Int))) = some (TV.v (IV.int IntKind.i64 (0 : Int))) ∧
                                          Heap.mk (PT.node PT.nil (some (IObj.tip (1 : Nat))) PT.nil) ((0 : Nat) + (1 : Nat)) = Heap.mk PT.nil (0 : Nat) ∧ True ∧ List.length l < List.length l) ∨
                                  ∃ (x : Nat),
                                    some
                                          (TV.v
                                            (IV.vslice (some (0 : Nat)) (1 : Nat) (1 : Nat) (1 : Nat)
                                              [IV.int IntKind.u32
                                                  (bvOr IntKind.u32
                                                    (bvOr IntKind.u32 (bvOr IntKind.u32 (IntKind.wrap IntKind.u32 n0) (IntKind.wrap IntKind.u32 (IntKind.wrap IntKind.u32 n1 * (64 : Int))))
                                                      (IntKind.wrap IntKind.u32 (IntKind.wrap IntKind.u32 n2 * (512 : Int))))
                                                    (IntKind.wrap IntKind.u32 (IntKind.wrap IntKind.u32 n3 * (4096 : Int))))])) =
                                        some (TV.v (IV.vslice (some (0 : Nat)) (List.length (encT l x)) (List.length (encT l x)) (1 : Nat) (List.map (IV.int IntKind.u32) (encT l x)))) ∧
                                      some (TV.v (IV.vslice none (0 : Nat) (List.length l) (5 : Nat) (List.flatMap cIns l))) = some (TV.v (IV.vslice none (0 : Nat) (List.length l) (5 : Nat) (List.flatMap cIns l))) ∧
                                        some (TV.v (IV.int IntKind.i64 (1 : Int))) = some (TV.v (IV.int IntKind.i64 (↑x : Int))) ∧
                                          Heap.mk (PT.node PT.nil (some (IObj.tip (1 : Nat))) PT.nil) ((0 : Nat) + (1 : Nat)) = Heap.mk (PT.node PT.nil (some (IObj.tip (List.length (encT l x)))) PT.nil) (1 : Nat) ∧
                                            (((1 : Nat) ≤ x ∧ x ≤ List.length l) ∧ ∀ (j : Nat) (q : j < List.length l), j < x → okIn l[j] = true) ∧ List.length l - x < List.length l)))))
              (Q (IV.tuple [IV.vslice none (0 : Nat) (0 : Nat) (1 : Nat) [], IV.int IntKind.i64 (0 : Int)]) h)) ∧
        ∀ (x : Nat) (b : FF),
          (((1 : Nat) ≤ x ∧ x ≤ List.length l) ∧ ∀ (j : Nat) (q : j < List.length l), j < x → okIn l[j] = true) →
            brS (decide ((↑x : Int) < (↑(List.length l) : Int)))
              (needS (decide ((0 : Int) ≤ (↑x : Int)) && decide ((↑x : Int) < (↑(List.length l) : Int)))
                (ldIS IntKind.i64 (List.flatMap cIns l) (Int.toNat (↑x : Int) * (5 : Nat)) fun (n5 : Int) =>
                  ldIS IntKind.i64 (List.flatMap cIns l) (Int.toNat (↑x : Int) * (5 : Nat) + (1 : Nat)) fun (n6 : Int) =>
                    ldIS IntKind.i64 (List.flatMap cIns l) (Int.toNat (↑x : Int) * (5 : Nat) + (1 : Nat) + (1 : Nat)) fun (n7 : Int) =>
                      ldIS IntKind.i64 (List.flatMap cIns l) (Int.toNat (↑x : Int) * (5 : Nat) + (1 : Nat) + (1 : Nat) + (1 : Nat)) fun (n8 : Int) =>
                        ldIS IntKind.i64 (List.flatMap cIns l) (Int.toNat (↑x : Int) * (5 : Nat) + (1 : Nat) + (1 : Nat) + (1 : Nat) + (1 : Nat)) fun (n9 : Int) =>
                          brS (!validI n5 n6 n7 n8 n9) (Q (IV.tuple [IV.vslice none (0 : Nat) (0 : Nat) (1 : Nat) [], IV.int IntKind.i64 (204 : Int)]) h)
                            (brS (decide (nbI (fmI n5) > (0 : Int)))
                              (needS (decide ((0 : Int) ≤ nbI (fmI n5)))
                                (needS (decide ((0 : Int) ≤ atI (fmI n5)))
                                  (needS (Nat.beq (List.length (encT l x)) (List.length (encT l x)) && Nat.ble ((List.length (encT l x) + (1 : Nat)) * (4 : Nat)) (140737488355328 : Nat))
                                    (brS (n5 == (14 : Int))
                                      (needS (Nat.beq (List.length (encT l x) + (1 : Nat)) (List.length (encT l x) + (1 : Nat)) && Nat.ble ((List.length (encT l x) + (1 : Nat) + (2 : Nat)) * (4 : Nat)) (140737488355328 : Nat))
                                        ((∃ (x_1 : Unit),
                                            some
                                                  (TV.v
                                                    (IV.vslice (some (0 : Nat)) (List.length (encT l x) + (1 : Nat) + (2 : Nat)) (List.length (encT l x) + (1 : Nat) + (2 : Nat)) (1 : Nat)
                                                      (List.map (IV.int IntKind.u32) (encT l x) ++
                                                          [IV.int IntKind.u32
                                                              (bvOr IntKind.u32
                                                                (bvOr IntKind.u32
                                                                  (bvOr IntKind.u32 (bvOr IntKind.u32 (IntKind.wrap IntKind.u32 n5) (IntKind.wrap IntKind.u32 (IntKind.wrap IntKind.u32 n6 * (64 : Int))))
                                                                    (IntKind.wrap IntKind.u32 (IntKind.wrap IntKind.u32 n7 * (512 : Int))))
                                                                  (IntKind.wrap IntKind.u32 (IntKind.wrap IntKind.u32 n8 * (4096 : Int))))
                                                                (IntKind.wrap IntKind.u32
                                                                  (IntKind.wrap IntKind.u32
                                                                      (bvAnd IntKind.u64 (IntKind.wrap IntKind.u64 n9)
                                                                        (IntKind.wrap IntKind.u64 (IntKind.wrap IntKind.u64 ((1 : Int) * (2 : Int) ^ min (Int.toNat (nbI (fmI n5))) (64 : Nat)) - (1 : Int)))) *
                                                                    (2 : Int) ^ min (Int.toNat (atI (fmI n5))) (32 : Nat))))] ++
                                                        [IV.int IntKind.u32 (IntKind.wrap IntKind.u32 (IntKind.wrap IntKind.u64 n9)),
                                                          IV.int IntKind.u32 (IntKind.wrap IntKind.u32 (Int.fdiv (IntKind.wrap IntKind.u64 n9) (4294967296 : Int)))]))) =
                                                some (TV.v IV.nilslice) ∧
                                              some (TV.v (IV.vslice none (0 : Nat) (List.length l) (5 : Nat) (List.flatMap cIns l))) = some (TV.v (IV.vslice none (0 : Nat) (List.length l) (5 : Nat) (List.flatMap cIns l))) ∧
                                                some (TV.v (IV.int IntKind.i64 (IntKind.wrap IntKind.i64 ((↑x : Int) + (1 : Int))))) = some (TV.v (IV.int IntKind.i64 (0 : Int))) ∧
                                                  Heap.mk (PT.node PT.nil (some (IObj.tip (List.length (encT l x) + (1 : Nat) + (2 : Nat)))) PT.nil) (1 : Nat) = Heap.mk PT.nil (0 : Nat) ∧ True ∧ List.length l < List.length l - x) ∨
                                          ∃ (x_1 : Nat),
                                            some
                                                  (TV.v
                                                    (IV.vslice (some (0 : Nat)) (List.length (encT l x) + (1 : Nat) + (2 : Nat)) (List.length (encT l x) + (1 : Nat) + (2 : Nat)) (1 : Nat)
                                                      (List.map (IV.int IntKind.u32) (encT l x) ++
                                                          [IV.int IntKind.u32
                                                              (bvOr IntKind.u32
                                                                (bvOr IntKind.u32
                                                                  (bvOr IntKind.u32 (bvOr IntKind.u32 (IntKind.wrap IntKind.u32 n5) (IntKind.wrap IntKind.u32 (IntKind.wrap IntKind.u32 n6 * (64 : Int))))
                                                                    (IntKind.wrap IntKind.u32 (IntKind.wrap IntKind.u32 n7 * (512 : Int))))
                                                                  (IntKind.wrap IntKind.u32 (IntKind.wrap IntKind.u32 n8 * (4096 : Int))))
                                                                (IntKind.wrap IntKind.u32
                                                                  (IntKind.wrap IntKind.u32
                                                                      (bvAnd IntKind.u64 (IntKind.wrap IntKind.u64 n9)
                                                                        (IntKind.wrap IntKind.u64 (IntKind.wrap IntKind.u64 ((1 : Int) * (2 : Int) ^ min (Int.toNat (nbI (fmI n5))) (64 : Nat)) - (1 : Int)))) *
                                                                    (2 : Int) ^ min (Int.toNat (atI (fmI n5))) (32 : Nat))))] ++
                                                        [IV.int IntKind.u32 (IntKind.wrap IntKind.u32 (IntKind.wrap IntKind.u64 n9)),
                                                          IV.int IntKind.u32 (IntKind.wrap IntKind.u32 (Int.fdiv (IntKind.wrap IntKind.u64 n9) (4294967296 : Int)))]))) =
                                                some (TV.v (IV.vslice (some (0 : Nat)) (List.length (encT l x_1)) (List.length (encT l x_1)) (1 : Nat) (List.map (IV.int IntKind.u32) (encT l x_1)))) ∧
                                              some (TV.v (IV.vslice none (0 : Nat) (List.length l) (5 : Nat) (List.flatMap cIns l))) = some (TV.v (IV.vslice none (0 : Nat) (List.length l) (5 : Nat) (List.flatMap cIns l))) ∧
                                                some (TV.v (IV.int IntKind.i64 (IntKind.wrap IntKind.i64 ((↑x : Int) + (1 : Int))))) = some (TV.v (IV.int IntKind.i64 (↑x_1 : Int))) ∧
                                                  Heap.mk (PT.node PT.nil (some (IObj.tip (List.length (encT l x) + (1 : Nat) + (2 : Nat)))) PT.nil) (1 : Nat) =
                                                      Heap.mk (PT.node PT.nil (some (IObj.tip (List.length (encT l x_1)))) PT.nil) (1 : Nat) ∧
                                                    (((1 : Nat) ≤ x_1 ∧ x_1 ≤ List.length l) ∧ ∀ (j : Nat) (q : j < List.length l), j < x_1 → okIn l[j] = true) ∧ List.length l - x_1 < List.length l - x))
                                      ((∃ (x_1 : Unit),
                                          some
                                                (TV.v
                                                  (IV.vslice (some (0 : Nat)) (List.length (encT l x) + (1 : Nat)) (List.length (encT l x) + (1 : Nat)) (1 : Nat)
                                                    (List.map (IV.int IntKind.u32) (encT l x) ++
                                                      [IV.int IntKind.u32
                                                          (bvOr IntKind.u32
                                                            (bvOr IntKind.u32
                                                              (bvOr IntKind.u32 (bvOr IntKind.u32 (IntKind.wrap IntKind.u32 n5) (IntKind.wrap IntKind.u32 (IntKind.wrap IntKind.u32 n6 * (64 : Int))))
                                                                (IntKind.wrap IntKind.u32 (IntKind.wrap IntKind.u32 n7 * (512 : Int))))
                                                              (IntKind.wrap IntKind.u32 (IntKind.wrap IntKind.u32 n8 * (4096 : Int))))
                                                            (IntKind.wrap IntKind.u32
                                                              (IntKind.wrap IntKind.u32
                                                                  (bvAnd IntKind.u64 (IntKind.wrap IntKind.u64 n9)
                                                                    (IntKind.wrap IntKind.u64 (IntKind.wrap IntKind.u64 ((1 : Int) * (2 : Int) ^ min (Int.toNat (nbI (fmI n5))) (64 : Nat)) - (1 : Int)))) *
                                                                (2 : Int) ^ min (Int.toNat (atI (fmI n5))) (32 : Nat))))]))) =
                                              some (TV.v IV.nilslice) ∧
                                            some (TV.v (IV.vslice none (0 : Nat) (List.length l) (5 : Nat) (List.flatMap cIns l))) = some (TV.v (IV.vslice none (0 : Nat) (List.length l) (5 : Nat) (List.flatMap cIns l))) ∧
                                              some (TV.v (IV.int IntKind.i64 (IntKind.wrap IntKind.i64 ((↑x : Int) + (1 : Int))))) = some (TV.v (IV.int IntKind.i64 (0 : Int))) ∧
                                                Heap.mk (PT.node PT.nil (some (IObj.tip (List.length (encT l x) + (1 : Nat)))) PT.nil) (1 : Nat) = Heap.mk PT.nil (0 : Nat) ∧ True ∧ List.length l < List.length l - x) ∨
                                        ∃ (x_1 : Nat),
                                          some
                                                (TV.v
                                                  (IV.vslice (some (0 : Nat)) (List.length (encT l x) + (1 : Nat)) (List.length (encT l x) + (1 : Nat)) (1 : Nat)
                                                    (List.map (IV.int IntKind.u32) (encT l x) ++
                                                      [IV.int IntKind.u32
                                                          (bvOr IntKind.u32
                                                            (bvOr IntKind.u32
                                                              (bvOr IntKind.u32 (bvOr IntKind.u32 (IntKind.wrap IntKind.u32 n5) (IntKind.wrap IntKind.u32 (IntKind.wrap IntKind.u32 n6 * (64 : Int))))
                                                                (IntKind.wrap IntKind.u32 (IntKind.wrap IntKind.u32 n7 * (512 : Int))))
                                                              (IntKind.wrap IntKind.u32 (IntKind.wrap IntKind.u32 n8 * (4096 : Int))))
                                                            (IntKind.wrap IntKind.u32
                                                              (IntKind.wrap IntKind.u32
                                                                  (bvAnd IntKind.u64 (IntKind.wrap IntKind.u64 n9)
                                                                    (IntKind.wrap IntKind.u64 (IntKind.wrap IntKind.u64 ((1 : Int) * (2 : Int) ^ min (Int.toNat (nbI (fmI n5))) (64 : Nat)) - (1 : Int)))) *
                                                                (2 : Int) ^ min (Int.toNat (atI (fmI n5))) (32 : Nat))))]))) =
                                              some (TV.v (IV.vslice (some (0 : Nat)) (List.length (encT l x_1)) (List.length (encT l x_1)) (1 : Nat) (List.map (IV.int IntKind.u32) (encT l x_1)))) ∧
                                            some (TV.v (IV.vslice none (0 : Nat) (List.length l) (5 : Nat) (List.flatMap cIns l))) = some (TV.v (IV.vslice none (0 : Nat) (List.length l) (5 : Nat) (List.flatMap cIns l))) ∧
                                              some (TV.v (IV.int IntKind.i64 (IntKind.wrap IntKind.i64 ((↑x : Int) + (1 : Int))))) = some (TV.v (IV.int IntKind.i64 (↑x_1 : Int))) ∧
                                                Heap.mk (PT.node PT.nil (some (IObj.tip (List.length (encT l x) + (1 : Nat)))) PT.nil) (1 : Nat) = Heap.mk (PT.node PT.nil (some (IObj.tip (List.length (encT l x_1)))) PT.nil) (1 : Nat) ∧
                                                  (((1 : Nat) ≤ x_1 ∧ x_1 ≤ List.length l) ∧ ∀ (j : Nat) (q : j < List.length l), j < x_1 → okIn l[j] = true) ∧ List.length l - x_1 < List.length l - x)))))
                              (needS (Nat.beq (List.length (encT l x)) (List.length (encT l x)) && Nat.ble ((List.length (encT l x) + (1 : Nat)) * (4 : Nat)) (140737488355328 : Nat))
                                (brS (n5 == (14 : Int))
                                  (needS (Nat.beq (List.length (encT l x) + (1 : Nat)) (List.length (encT l x) + (1 : Nat)) && Nat.ble ((List.length (encT l x) + (1 : Nat) + (2 : Nat)) * (4 : Nat)) (140737488355328 : Nat))
                                    ((∃ (x_1 : Unit),
                                        some
                                              (TV.v
                                                (IV.vslice (some (0 : Nat)) (List.length (encT l x) + (1 : Nat) + (2 : Nat)) (List.length (encT l x) + (1 : Nat) + (2 : Nat)) (1 : Nat)
                                                  (List.map (IV.int IntKind.u32) (encT l x) ++
                                                      [IV.int IntKind.u32
                                                          (bvOr IntKind.u32
                                                            (bvOr IntKind.u32 (bvOr IntKind.u32 (IntKind.wrap IntKind.u32 n5) (IntKind.wrap IntKind.u32 (IntKind.wrap IntKind.u32 n6 * (64 : Int))))
                                                              (IntKind.wrap IntKind.u32 (IntKind.wrap IntKind.u32 n7 * (512 : Int))))
                                                            (IntKind.wrap IntKind.u32 (IntKind.wrap IntKind.u32 n8 * (4096 : Int))))] ++
                                                    [IV.int IntKind.u32 (IntKind.wrap IntKind.u32 (IntKind.wrap IntKind.u64 n9)), IV.int IntKind.u32 (IntKind.wrap IntKind.u32 (Int.fdiv (IntKind.wrap IntKind.u64 n9) (4294967296 : Int)))]))) =
                                            some (TV.v IV.nilslice) ∧
                                          some (TV.v (IV.vslice none (0 : Nat) (List.length l) (5 : Nat) (List.flatMap cIns l))) = some (TV.v (IV.vslice none (0 : Nat) (List.length l) (5 : Nat) (List.flatMap cIns l))) ∧
                                            some (TV.v (IV.int IntKind.i64 (IntKind.wrap IntKind.i64 ((↑x : Int) + (1 : Int))))) = some (TV.v (IV.int IntKind.i64 (0 : Int))) ∧
                                              Heap.mk (PT.node PT.nil (some (IObj.tip (List.length (encT l x) + (1 : Nat) + (2 : Nat)))) PT.nil) (1 : Nat) = Heap.mk PT.nil (0 : Nat) ∧ True ∧ List.length l < List.length l - x) ∨
                                      ∃ (x_1 : Nat),
                                        some
                                              (TV.v
                                                (IV.vslice (some (0 : Nat)) (List.length (encT l x) + (1 : Nat) + (2 : Nat)) (List.length (encT l x) + (1 : Nat) + (2 : Nat)) (1 : Nat)
                                                  (List.map (IV.int IntKind.u32) (encT l x) ++
                                                      [IV.int IntKind.u32
                                                          (bvOr IntKind.u32
                                                            (bvOr IntKind.u32 (bvOr IntKind.u32 (IntKind.wrap IntKind.u32 n5) (IntKind.wrap IntKind.u32 (IntKind.wrap IntKind.u32 n6 * (64 : Int))))
                                                              (IntKind.wrap IntKind.u32 (IntKind.wrap IntKind.u32 n7 * (512 : Int))))
                                                            (IntKind.wrap IntKind.u32 (IntKind.wrap IntKind.u32 n8 * (4096 : Int))))] ++
                                                    [IV.int IntKind.u32 (IntKind.wrap IntKind.u32 (IntKind.wrap IntKind.u64 n9)), IV.int IntKind.u32 (IntKind.wrap IntKind.u32 (Int.fdiv (IntKind.wrap IntKind.u64 n9) (4294967296 : Int)))]))) =
                                            some (TV.v (IV.vslice (some (0 : Nat)) (List.length (encT l x_1)) (List.length (encT l x_1)) (1 : Nat) (List.map (IV.int IntKind.u32) (encT l x_1)))) ∧
                                          some (TV.v (IV.vslice none (0 : Nat) (List.length l) (5 : Nat) (List.flatMap cIns l))) = some (TV.v (IV.vslice none (0 : Nat) (List.length l) (5 : Nat) (List.flatMap cIns l))) ∧
                                            some (TV.v (IV.int IntKind.i64 (IntKind.wrap IntKind.i64 ((↑x : Int) + (1 : Int))))) = some (TV.v (IV.int IntKind.i64 (↑x_1 : Int))) ∧
                                              Heap.mk (PT.node PT.nil (some (IObj.tip (List.length (encT l x) + (1 : Nat) + (2 : Nat)))) PT.nil) (1 : Nat) =
                                                  Heap.mk (PT.node PT.nil (some (IObj.tip (List.length (encT l x_1)))) PT.nil) (1 : Nat) ∧
                                                (((1 : Nat) ≤ x_1 ∧ x_1 ≤ List.length l) ∧ ∀ (j : Nat) (q : j < List.length l), j < x_1 → okIn l[j] = true) ∧ List.length l - x_1 < List.length l - x))
                                  ((∃ (x_1 : Unit),
                                      some
                                            (TV.v
                                              (IV.vslice (some (0 : Nat)) (List.length (encT l x) + (1 : Nat)) (List.length (encT l x) + (1 : Nat)) (1 : Nat)
                                                (List.map (IV.int IntKind.u32) (encT l x) ++
                                                  [IV.int IntKind.u32
                                                      (bvOr IntKind.u32
                                                        (bvOr IntKind.u32 (bvOr IntKind.u32 (IntKind.wrap IntKind.u32 n5) (IntKind.wrap IntKind.u32 (IntKind.wrap IntKind.u32 n6 * (64 : Int))))
                                                          (IntKind.wrap IntKind.u32 (IntKind.wrap IntKind.u32 n7 * (512 : Int))))
                                                        (IntKind.wrap IntKind.u32 (IntKind.wrap IntKind.u32 n8 * (4096 : Int))))]))) =
                                          some (TV.v IV.nilslice) ∧
                                        some (TV.v (IV.vslice none (0 : Nat) (List.length l) (5 : Nat) (List.flatMap cIns l))) = some (TV.v (IV.vslice none (0 : Nat) (List.length l) (5 : Nat) (List.flatMap cIns l))) ∧
                                          some (TV.v (IV.int IntKind.i64 (IntKind.wrap IntKind.i64 ((↑x : Int) + (1 : Int))))) = some (TV.v (IV.int IntKind.i64 (0 : Int))) ∧
                                            Heap.mk (PT.node PT.nil (some (IObj.tip (List.length (encT l x) + (1 : Nat)))) PT.nil) (1 : Nat) = Heap.mk PT.nil (0 : Nat) ∧ True ∧ List.length l < List.length l - x) ∨
                                    ∃ (x_1 : Nat),
                                      some
                                            (TV.v
                                              (IV.vslice (some (0 : Nat)) (List.length (encT l x) + (1 : Nat)) (List.length (encT l x) + (1 : Nat)) (1 : Nat)
                                                (List.map (IV.int IntKind.u32) (encT l x) ++
                                                  [IV.int IntKind.u32
                                                      (bvOr IntKind.u32
                                                        (bvOr IntKind.u32 (bvOr IntKind.u32 (IntKind.wrap IntKind.u32 n5) (IntKind.wrap IntKind.u32 (IntKind.wrap IntKind.u32 n6 * (64 : Int))))
                                                          (IntKind.wrap IntKind.u32 (IntKind.wrap IntKind.u32 n7 * (512 : Int))))
                                                        (IntKind.wrap IntKind.u32 (IntKind.wrap IntKind.u32 n8 * (4096 : Int))))]))) =
                                          some (TV.v (IV.vslice (some (0 : Nat)) (List.length (encT l x_1)) (List.length (encT l x_1)) (1 : Nat) (List.map (IV.int IntKind.u32) (encT l x_1)))) ∧
                                        some (TV.v (IV.vslice none (0 : Nat) (List.length l) (5 : Nat) (List.flatMap cIns l))) = some (TV.v (IV.vslice none (0 : Nat) (List.length l) (5 : Nat) (List.flatMap cIns l))) ∧
                                          some (TV.v (IV.int IntKind.i64 (IntKind.wrap IntKind.i64 ((↑x : Int) + (1 : Int))))) = some (TV.v (IV.int IntKind.i64 (↑x_1 : Int))) ∧
                                            Heap.mk (PT.node PT.nil (some (IObj.tip (List.length (encT l x) + (1 : Nat)))) PT.nil) (1 : Nat) = Heap.mk (PT.node PT.nil (some (IObj.tip (List.length (encT l x_1)))) PT.nil) (1 : Nat) ∧
                                              (((1 : Nat) ≤ x_1 ∧ x_1 ≤ List.length l) ∧ ∀ (j : Nat) (q : j < List.length l), j < x_1 → okIn l[j] = true) ∧ List.length l - x_1 < List.length l - x))))))
              (needS (pureL [IV.vslice none (0 : Nat) (List.length (encT l x)) (1 : Nat) (List.map (IV.int IntKind.u32) (encT l x)), IV.int IntKind.i64 (0 : Int)])
                (Q (IV.tuple [IV.vslice none (0 : Nat) (List.length (encT l x)) (1 : Nat) (List.map (IV.int IntKind.u32) (encT l x)), IV.int IntKind.i64 (0 : Int)]) h)))) := by kernel_rfl
set_option maxHeartbeats 4000000 in
theorem sREncode : ∀ xs h Q, kREncode xs h Q → CallW env 14 xs h Q := by
  intro xs h Q hk
  unfold kREncode at hk
  split at hk
  · rename_i e1 n1 c1
    obtain ⟨l, ⟨rfl, rfl⟩, hb, hk⟩ := hk
    refine dF_sound (okEncode) (mp_eq (vREncode l e1 h Q) ?_)
    refine needS_intro (by simp only [pureL, pureB, pureL_in, Bool.and_true]) ⟨.inl ⟨(), rfl, rfl, rfl, rfl, trivial, trivial⟩, fun _ _ _ => ?_, fun i _ hi => ?_⟩
    · refine brS_intro (fun c1 => needS_intro (by simpa using c1) ?_) (fun c1 => ?_)
      · simp only [decide_eq_true_eq] at c1
        have h0 : 0 < l.length := by omega
        refine ldIn (i := 0) (o := 0) h0 rfl (brS_intro (fun c2 => ?_) (fun c2 => ?_))
        · rw [Bool.not_eq_true'] at c2
          rw [show encR l = ([], 204) by unfold encR; rw [not_all h0 c2]; rfl] at hk
          exact hk
        · rw [Bool.not_eq_false'] at c2
          have hv : okIn l[0] = true := c2
          obtain ⟨w1, w2⟩ := renc_words c2
          refine brS_intro (fun c3 => needS_intro (by simp [nb_nonneg]) (needS_intro (by simp [nb_nonneg]) (brS_intro (fun c4 => ?_) (fun c4 => ?_)))) (fun c3 => (brS_intro (fun c4 => ?_) (fun c4 => ?_)))
          all_goals simp only [decide_eq_true_eq, decide_eq_false_iff_not, beq_iff_eq, beq_eq_false_iff_ne, ne_eq] at c3 c4
          · exact absurd c4 (w1 c3).1
          · have hE := (w1 c3).2
            refine .inr ⟨1, ?_, rfl, rfl, ?_, ⟨⟨by omega, by omega⟩, fun j q hj => ?_⟩, by omega⟩
            · rw [encT_succ h0, hE]; rfl
            · rw [encT_succ h0, hE]; rfl
            · obtain rfl : j = 0 := by omega
              exact hv
          · have hE := (w2 c3).1 c4
            refine .inr ⟨1, ?_, rfl, rfl, ?_, ⟨⟨by omega, by omega⟩, fun j q hj => ?_⟩, by omega⟩
            · rw [encT_succ h0, hE]; rfl
            · rw [encT_succ h0, hE]; rfl
            · obtain rfl : j = 0 := by omega
              exact hv
          · have hE := (w2 c3).2 c4
            refine .inr ⟨1, ?_, rfl, rfl, ?_, ⟨⟨by omega, by omega⟩, fun j q hj => ?_⟩, by omega⟩
            · rw [encT_succ h0, hE]; rfl
            · rw [encT_succ h0, hE]; rfl
            · obtain rfl : j = 0 := by omega
              exact hv
      · simp only [decide_eq_false_iff_not] at c1
        obtain rfl : l = [] := List.eq_nil_of_length_eq_zero (by omega)
        exact hk
    · obtain ⟨⟨h1, h2⟩, h3⟩ := hi
      have tn : ∀ x : Nat, (x : Int).toNat = x := Int.toNat_natCast
      have hle := encT_le l i
      refine brS_intro (fun c1 => ?_) (fun c1 => ?_)
      · simp only [decide_eq_true_eq] at c1
        have h0 : i < l.length := by omega
        refine needS_intro (by simp; omega) (ldIn (i := i) h0 (by rw [tn]) (brS_intro (fun c2 => ?_) (fun c2 => ?_)))
        · rw [Bool.not_eq_true'] at c2
          rw [show encR l = ([], 204) by unfold encR; rw [not_all h0 c2]; rfl] at hk
          exact hk
        · rw [Bool.not_eq_false'] at c2
          have hv : okIn l[i] = true := c2
          obtain ⟨w1, w2⟩ := renc_words c2
          refine brS_intro (fun c3 => needS_intro (by simp [nb_nonneg]) (needS_intro (by simp [nb_nonneg]) (needS_intro (by simp [nbeq_t]; omega) <| brS_intro (fun c4 => absurd (beq_iff_eq.1 c4) (w1 (by simpa using c3)).1) (fun c4 => ?_)))) (fun c3 => (needS_intro (by simp [nbeq_t]; omega) <| brS_intro (fun c4 => needS_intro (by simp [nbeq_t]; omega) ?_) (fun c4 => ?_)))
          all_goals simp only [decide_eq_true_eq, decide_eq_false_iff_not, beq_iff_eq, beq_eq_false_iff_ne, ne_eq] at c3 c4
          · have hE := (w1 c3).2
            refine .inr ⟨i + 1, ?_, rfl, ?_, ?_, ⟨⟨by omega, by omega⟩, fun j q hj => ?_⟩, by omega⟩
            · rw [encT_succ h0, hE, List.length_append, List.map_append]; simp [Nat.add_assoc]
            · rw [IntWalk.i64_in _ (by omega)]; rfl
            · rw [encT_succ h0, hE, List.length_append]; simp [Nat.add_assoc]
            · rcases Nat.lt_or_ge j i with z | z
              · exact h3 j q z
              · obtain rfl : j = i := by omega
                exact hv
          · have hE := (w2 c3).1 c4
            refine .inr ⟨i + 1, ?_, rfl, ?_, ?_, ⟨⟨by omega, by omega⟩, fun j q hj => ?_⟩, by omega⟩
            · rw [encT_succ h0, hE, List.length_append, List.map_append]; simp [Nat.add_assoc]
            · rw [IntWalk.i64_in _ (by omega)]; rfl
            · rw [encT_succ h0, hE, List.length_append]; simp [Nat.add_assoc]
            · rcases Nat.lt_or_ge j i with z | z
              · exact h3 j q z
              · obtain rfl : j = i := by omega
                exact hv
          · have hE := (w2 c3).2 c4
            refine .inr ⟨i + 1, ?_, rfl, ?_, ?_, ⟨⟨by omega, by omega⟩, fun j q hj => ?_⟩, by omega⟩
            · rw [encT_succ h0, hE, List.length_append, List.map_append]; simp [Nat.add_assoc]
            · rw [IntWalk.i64_in _ (by omega)]; rfl
            · rw [encT_succ h0, hE, List.length_append]; simp [Nat.add_assoc]
            · rcases Nat.lt_or_ge j i with z | z
              · exact h3 j q z
              · obtain rfl : j = i := by omega
                exact hv
      · simp only [decide_eq_false_iff_not] at c1
        obtain rfl : i = l.length := by omega
        rw [encT_all]
        rw [show encR l = (l.flatMap encW, 0) by unfold encR; rw [all_of fun j q => h3 j q q]; rfl] at hk
        exact needS_intro (by simp only [pureL, pureB, pureL_ints, Bool.and_true]) hk
  · exact hk.elim
def cREncode := addC 14 kREncode cEncode
theorem okREncode : Sound env cREncode := sound_add sREncode (okEncode)

end Go.Proofs.YtiecmbfcgjaflaaDoor
