/-
  Machine words: the statement EncodingRoundTrip.
  Conditions: none.
-/
import Derived.Test.YtiecmbfcgjaflaaDoorK30
import Derived.KernelRfl
set_option linter.unusedVariables false
set_option linter.unusedSimpArgs false
namespace Go.Proofs.YtiecmbfcgjaflaaDoor
open Go.Pv Go.M29 Go.M30
def rtInv (l : List Int) : Inv' := atX Nat (fun k => [(7, .v (.vslice none 0 (places 0 (insK l 30)).length 1 ((places 0 (insK l 30)).map (IV.int .i64)))), (9, .v (.int .i64 k))]) (fun _ => []) (fun _ => Heap.empty) (fun k => k ≤ (insK l 30).length) (fun k => (insK l 30).length - k)
def kRTripL (xs : List IV) (h : Heap) (K : IV → Heap → Prop) : Prop := match xs with
  | [.vslice none e1 n1 1 c1] => ∃ l : List Int, (n1 = l.length ∧ c1 = l.map (IV.int .i64)) ∧ ((∀ x ∈ l, IntKind.i64.has x) ∧ l.length < 4611686018427387904) ∧ K (.bool true) h
  | _ => False
set_option maxRecDepth 100000 in
theorem vRTripL (l : List Int) (e1 : Nat) (h : Heap) (Q : IV → Heap → Prop) : dF (stdS cRDecAll) env 8 noU (ic1 8 (rtInv l)) noI [.vslice none e1 (l).length 1 ((l).map (IV.int .i64))] h Q = (
  needS (pureL [IV.vslice none (0 : Nat) (List.length l) (1 : Nat) (List.map (IV.int IntKind.i64) l)])
    (∃ (l_1 : List Int),
      (List.length l = List.length l_1 ∧ List.map (IV.int IntKind.i64) l = List.map (IV.int IntKind.i64) l_1) ∧
        (List.length l_1 < (4611686018427387904 : Nat) ∧ (30 : Int) ≤ (1000000 : Int)) ∧
          ∃ (l_2 : List In),
            (List.length (insK l_1 (30 : Int)) = List.length l_2 ∧ List.flatMap cIns (insK l_1 (30 : Int)) = List.flatMap cIns l_2) ∧
              List.length l_2 ≤ (3600000000000 : Nat) ∧
                ∃ (w : List Int),
                  (List.length (Prod.fst (encR l_2)) = List.length w ∧ List.map (IV.int IntKind.u32) (Prod.fst (encR l_2)) = List.map (IV.int IntKind.u32) w) ∧
                    ((∀ (x : Int), x ∈ w → u32b x) ∧ List.length w ≤ (1000000 : Nat)) ∧
                      brS (Prod.snd (encR l_2) != (0 : Int)) (Q (IV.bool false) h)
                        (brS (Prod.snd (Prod.snd (decA w)) != (0 : Int)) (Q (IV.bool false) h)
                          (∃ (l_3 : List In),
                            ∃ (m : List In),
                              (List.length (insK l_1 (30 : Int)) = List.length l_3 ∧ List.flatMap cIns (insK l_1 (30 : Int)) = List.flatMap cIns l_3) ∧
                                (List.length (Prod.fst (decA w)) = List.length m ∧ List.flatMap cIns (Prod.fst (decA w)) = List.flatMap cIns m) ∧
                                  List.length l_3 < (4611686018427387904 : Nat) ∧
                                    brS (!decide (l_3 = m)) (Q (IV.bool false) h)
                                      (brS ((↑(List.length (Prod.fst (Prod.snd (decA w)))) : Int) != (↑(List.length (insK l_1 (30 : Int))) : Int)) (Q (IV.bool false) h)
                                        ((∃ (x : Nat),
                                            some (TV.v (IV.vslice none (0 : Nat) (List.length (Prod.fst (Prod.snd (decA w)))) (1 : Nat) (List.map (IV.int IntKind.i64) (Prod.fst (Prod.snd (decA w)))))) =
                                                some (TV.v (IV.vslice none (0 : Nat) (List.length (places (0 : Int) (insK l (30 : Int)))) (1 : Nat) (List.map (IV.int IntKind.i64) (places (0 : Int) (insK l (30 : Int)))))) ∧
                                              some (TV.v (IV.int IntKind.i64 (0 : Int))) = some (TV.v (IV.int IntKind.i64 (↑x : Int))) ∧
                                                Heap.mk PT.nil (0 : Nat) = Heap.mk PT.nil (0 : Nat) ∧ Nat.le x (List.length (insK l (30 : Int))) ∧ True) ∧
                                          ∀ (x : Nat) (b : FF),
                                            x ≤ List.length (insK l (30 : Int)) →
                                              brS (decide ((↑x : Int) < (↑(List.length (places (0 : Int) (insK l (30 : Int)))) : Int)))
                                                (brS (decide ((↑x : Int) > (0 : Int)))
                                                  (needS (decide ((0 : Int) ≤ (↑x : Int)) && decide ((↑x : Int) < (↑(List.length (places (0 : Int) (insK l (30 : Int)))) : Int)))
                                                    (ldIS IntKind.i64 (List.map (IV.int IntKind.i64) (places (0 : Int) (insK l (30 : Int)))) (Int.toNat (↑x : Int) * (1 : Nat)) fun (n0 : Int) =>
                                                      needS
                                                        (decide ((0 : Int) ≤ IntKind.wrap IntKind.i64 ((↑x : Int) - (1 : Int))) &&
                                                          decide (IntKind.wrap IntKind.i64 ((↑x : Int) - (1 : Int)) < (↑(List.length (places (0 : Int) (insK l (30 : Int)))) : Int)))
                                                        (ldIS IntKind.i64 (List.map (IV.int IntKind.i64) (places (0 : Int) (insK l (30 : Int)))) (Int.toNat (IntKind.wrap IntKind.i64 ((↑x : Int) - (1 : Int))) * (1 : Nat)) fun (n1 : Int) =>
                                                          brS (decide (n0 ≤ n1)) (Q (IV.bool false) h)
                                                            (brS ((↑x : Int) == (0 : Int))
                                                              (needS (decide ((0 : Int) ≤ (↑x : Int)) && decide ((↑x : Int) < (↑(List.length (places (0 : Int) (insK l (30 : Int)))) : Int)))
                                                                (ldIS IntKind.i64 (List.map (IV.int IntKind.i64) (places (0 : Int) (insK l (30 : Int)))) (Int.toNat (↑x : Int) * (1 : Nat)) fun (n2 : Int) =>
                                                                  brS (n2 != (0 : Int)) (Q (IV.bool false) h)
                                                                    (∃ (x_1 : Nat),
                                                                      some
                                                                            (TV.v
                                                                              (IV.vslice none (0 : Nat) (List.length (places (0 : Int) (insK l (30 : Int)))) (1 : Nat) (List.map (IV.int IntKind.i64) (places (0 : Int) (insK l (30 : Int)))))) =
                                                                          some
                                                                            (TV.v
                                                                              (IV.vslice none (0 : Nat) (List.length (places (0 : Int) (insK l (30 : Int)))) (1 : Nat) (List.map (IV.int IntKind.i64) (places (0 : Int) (insK l (30 : Int)))))) ∧
                                                                        some (TV.v (IV.int IntKind.i64 (IntKind.wrap IntKind.i64 ((↑x : Int) + (1 : Int))))) = some (TV.v (IV.int IntKind.i64 (↑x_1 : Int))) ∧
                                                                          Heap.mk PT.nil (0 : Nat) = Heap.mk PT.nil (0 : Nat) ∧
                                                                            Nat.le x_1 (List.length (insK l (30 : Int))) ∧ List.length (insK l (30 : Int)) - x_1 < List.length (insK l (30 : Int)) - x)))
                                                              (∃ (x_1 : Nat),
                                                                some (TV.v (IV.vslice none (0 : Nat) (List.length (places (0 : Int) (insK l (30 : Int)))) (1 : Nat) (List.map (IV.int IntKind.i64) (places (0 : Int) (insK l (30 : Int)))))) =
                                                                    some (TV.v (IV.vslice none (0 : Nat) (List.length (places (0 : Int) (insK l (30 : Int)))) (1 : Nat) (List.map (IV.int IntKind.i64) (places (0 : Int) (insK l (30 : Int)))))) ∧
                                                                  some (TV.v (IV.int IntKind.i64 (IntKind.wrap IntKind.i64 ((↑x : Int) + (1 : Int))))) = some (TV.v (IV.int IntKind.i64 (↑x_1 : Int))) ∧
                                                                    Heap.mk PT.nil (0 : Nat) = Heap.mk PT.nil (0 : Nat) ∧
                                                                      Nat.le x_1 (List.length (insK l (30 : Int))) ∧ List.length (insK l (30 : Int)) - x_1 < List.length (insK l (30 : Int)) - x)))))
                                                  (brS ((↑x : Int) == (0 : Int))
                                                    (needS (decide ((0 : Int) ≤ (↑x : Int)) && decide ((↑x : Int) < (↑(List.length (places (0 : Int) (insK l (30 : Int)))) : Int)))
                                                      (ldIS IntKind.i64 (List.map (IV.int IntKind.i64) (places (0 : Int) (insK l (30 : Int)))) (Int.toNat (↑x : Int) * (1 : Nat)) fun (n3 : Int) =>
                                                        brS (n3 != (0 : Int)) (Q (IV.bool false) h)
                                                          (∃ (x_1 : Nat),
                                                            some (TV.v (IV.vslice none (0 : Nat) (List.length (places (0 : Int) (insK l (30 : Int)))) (1 : Nat) (List.map (IV.int IntKind.i64) (places (0 : Int) (insK l (30 : Int)))))) =
                                                                some (TV.v (IV.vslice none (0 : Nat) (List.length (places (0 : Int) (insK l (30 : Int)))) (1 : Nat) (List.map (IV.int IntKind.i64) (places (0 : Int) (insK l (30 : Int)))))) ∧
                                                              some (TV.v (IV.int IntKind.i64 (IntKind.wrap IntKind.i64 ((↑x : Int) + (1 : Int))))) = some (TV.v (IV.int IntKind.i64 (↑x_1 : Int))) ∧
                                                                Heap.mk PT.nil (0 : Nat) = Heap.mk PT.nil (0 : Nat) ∧
                                                                  Nat.le x_1 (List.length (insK l (30 : Int))) ∧ List.length (insK l (30 : Int)) - x_1 < List.length (insK l (30 : Int)) - x)))
                                                    (∃ (x_1 : Nat),
                                                      some (TV.v (IV.vslice none (0 : Nat) (List.length (places (0 : Int) (insK l (30 : Int)))) (1 : Nat) (List.map (IV.int IntKind.i64) (places (0 : Int) (insK l (30 : Int)))))) =
                                                          some (TV.v (IV.vslice none (0 : Nat) (List.length (places (0 : Int) (insK l (30 : Int)))) (1 : Nat) (List.map (IV.int IntKind.i64) (places (0 : Int) (insK l (30 : Int)))))) ∧
                                                        some (TV.v (IV.int IntKind.i64 (IntKind.wrap IntKind.i64 ((↑x : Int) + (1 : Int))))) = some (TV.v (IV.int IntKind.i64 (↑x_1 : Int))) ∧
                                                          Heap.mk PT.nil (0 : Nat) = Heap.mk PT.nil (0 : Nat) ∧ Nat.le x_1 (List.length (insK l (30 : Int))) ∧ List.length (insK l (30 : Int)) - x_1 < List.length (insK l (30 : Int)) - x)))
                                                (Q (IV.bool true) h))))))) := by kernel_rfl
set_option maxHeartbeats 4000000 in
theorem sRTripL : ∀ xs h Q, kRTripL xs h Q → CallW env 8 xs h Q := by
  intro xs h Q hk
  unfold kRTripL at hk
  split at hk
  · rename_i e1 n1 c1
    obtain ⟨l, ⟨rfl, rfl⟩, hb, hk⟩ := hk
    refine dF_sound (okRDecAll) (mp_eq (vRTripL l e1 h Q) ?_)
    obtain ⟨hi64, hl⟩ := hb
    have hall : ∀ i ∈ insK l 30, okIn i = true := fun i hi => by
      unfold insK at hi
      obtain ⟨a, ha, rfl⟩ := List.mem_map.1 hi
      have := hi64 a (List.mem_of_mem_take ha)
      exact kin_valid a (by simpa [IntKind.has, IntKind.min, IntKind.max, IntKind.bits, IntKind.signed] using this)
    have hlen := insK_len l 30
    have hE : encR (insK l 30) = ((insK l 30).flatMap encW, 0) := by
      unfold encR
      rw [if_pos (List.all_eq_true.2 hall)]
    have hEl := encR_len (insK l 30)
    have hD := decA_enc hall
    have hb : ∀ x ∈ (insK l 30).flatMap encW, u32b x := fun x hx => by
      obtain ⟨i, hi, hx⟩ := List.mem_flatMap.1 hx
      exact encW_b (hall i hi) x hx
    refine needS_intro (by simp only [pureL, pureB, pureL_ints, Bool.and_true]) ⟨l, ⟨rfl, rfl⟩, ⟨hl, by omega⟩, insK l 30, ⟨rfl, rfl⟩, by simp at hlen; omega, (insK l 30).flatMap encW, ?_⟩
    rw [hE] at hEl ⊢
    simp only at hEl ⊢
    rw [hD]
    refine ⟨⟨(by first | rfl | trivial), (by first | rfl | trivial)⟩, ⟨hb, by simp at hlen; omega⟩, brS_intro (fun c => by simp at c) (fun _ => brS_intro (fun c => by simp at c) (fun _ => ⟨insK l 30, insK l 30, ⟨(by first | rfl | trivial), (by first | rfl | trivial)⟩, ⟨(by first | rfl | trivial), (by first | rfl | trivial)⟩, by simp at hlen; omega, brS_intro (fun c => by simp at c) (fun _ => brS_intro (fun c => ?_) (fun _ => ⟨⟨0, (by first | rfl | trivial), (by first | rfl | trivial), (by first | rfl | trivial), Nat.zero_le _, trivial⟩, fun i _ hi => ?_⟩))⟩))⟩
    · rw [bne_iff_ne] at c
      exact absurd (by rw [places_len]) c
    have hPl := places_len 0 (insK l 30)
    have hup := fun (j : Nat) (h : j + 1 < (places 0 (insK l 30)).length) => places_up (l := insK l 30) (k := 0) h
    have hhd := fun (h : 0 < (places 0 (insK l 30)).length) => places_head (l := insK l 30) (k := 0) h
    have tn : ∀ x : Nat, (x : Int).toNat = x := Int.toNat_natCast
    have h30 : (insK l 30).length ≤ 30 := by simpa using hlen
    have e2 : IntKind.i64.wrap ((i : Int) + 1) = ((i + 1 : Nat) : Int) := by rw [IntWalk.i64_in _ (by omega)]; rfl
    refine brS_intro (fun c1 => ?_) (fun _ => hk)
    rw [decide_eq_true_eq] at c1
    have hiP : i < (places 0 (insK l 30)).length := by omega
    refine brS_intro (fun c2 => needS_intro (by simp; omega) ?_) (fun c2 => brS_intro (fun c3 => needS_intro (by simp; omega) ?_) (fun c3 => ?_))
    · rw [decide_eq_true_eq] at c2
      have hw1 : IntKind.i64.wrap ((i : Int) - 1) = ((i - 1 : Nat) : Int) := by rw [IntWalk.i64_in _ (by omega)]; omega
      rw [tn, Nat.mul_one]
      refine ldIS_map hiP ?_
      rw [hw1, tn, Nat.mul_one]
      refine needS_intro (by simp; omega) (ldIS_map (i := i - 1) (by omega) (brS_intro (fun c4 => ?_) (fun _ => brS_intro (fun c5 => ?_) (fun _ => ⟨i + 1, (by first | rfl | trivial), by rw [e2], (by first | rfl | trivial), (show i + 1 ≤ _ by omega), by omega⟩))))
      · rw [decide_eq_true_eq] at c4
        have := hup (i - 1) (by omega)
        simp only [show i - 1 + 1 = i by omega] at this
        omega
      · rw [beq_iff_eq] at c5
        omega
    · rw [beq_iff_eq] at c3
      obtain rfl : i = 0 := by omega
      rw [tn, Nat.mul_one]
      refine ldIS_map hiP (brS_intro (fun c4 => ?_) (fun _ => ⟨1, (by first | rfl | trivial), by rw [e2], (by first | rfl | trivial), (show 1 ≤ _ by omega), by omega⟩))
      rw [bne_iff_ne] at c4
      exact absurd (hhd hiP) c4
    · rw [beq_eq_false_iff_ne] at c3
      rw [decide_eq_false_iff_not] at c2
      omega
  · exact hk.elim
def cRTripL := addC 8 kRTripL cRDecAll
theorem okRTripL : Sound env cRTripL := sound_add sRTripL (okRDecAll)

end Go.Proofs.YtiecmbfcgjaflaaDoor
