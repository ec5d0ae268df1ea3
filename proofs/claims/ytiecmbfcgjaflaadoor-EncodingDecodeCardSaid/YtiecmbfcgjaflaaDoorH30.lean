/-
  Machine words: the statement EncodingUnique.
  Conditions: none.
-/
import Derived.Test.YtiecmbfcgjaflaaDoorG30
import Derived.KernelRfl
set_option linter.unusedVariables false
set_option linter.unusedSimpArgs false
namespace Go.Proofs.YtiecmbfcgjaflaaDoor
open Go.Pv Go.M29 Go.M30
theorem ldVS_w {C : List IV} {i o : Nat} {K : Option Nat → Nat → Nat → List IV → Prop} (h : i < C.length) (ho : o = i) (hc : ∀ c ∈ C, wordsC c)
    (hk : ∀ id e (ws : List Int), (∀ x ∈ ws, u32b x) → (ws.length : Int) ≤ 9223372036854775807 → K id e ws.length (ws.map (IV.int .u32))) : ldVS 1 C o K := by
  subst ho
  unfold ldVS
  rw [List.getElem?_eq_getElem h]
  obtain ⟨id, e, ws, h1, h2, h3⟩ := hc _ (List.getElem_mem h)
  rw [h1]
  exact hk id e ws h2 h3
def uqInv : Inv' := atX (Nat × List IV × Heap) (fun x => [(39, .v (.vslice none 1 4 1 x.2.1)), (40, .v (.int .i64 4)), (41, .v (.int .i64 x.1))]) (fun _ => []) (fun x => x.2.2) (fun x => (x.1 ≤ 4 ∧ x.2.1.length = 4) ∧ ∀ c ∈ x.2.1, wordsC c) (fun x => 4 - x.1)
def kUniqL (xs : List IV) (h : Heap) (K : IV → Heap → Prop) : Prop := match xs with
  | [.vslice none e1 n1 1 c1, .int .u32 op, .int .u32 bits, .int .i64 n] => ∃ raw : List Int, (n1 = raw.length ∧ c1 = raw.map (IV.int .u32)) ∧ ((∀ x ∈ raw, u32b x) ∧ (raw.length : Int) ≤ 9223372036854775807 ∧ u32b op ∧ u32b bits) ∧ K (.bool true) h
  | _ => False
set_option maxRecDepth 100000 in
theorem vUniqL (raw : List Int) (e1 : Nat) (op bits n : Int) (h : Heap) (Q : IV → Heap → Prop) : dF (stdS cExG) env 5 noU (ic1 4 uqInv) noI [.vslice none e1 (raw).length 1 ((raw).map (IV.int .u32)), .int .u32 op, .int .u32 bits, .int .i64 n] h Q = (
  needS (pureL [IV.vslice none (0 : Nat) (List.length raw) (1 : Nat) (List.map (IV.int IntKind.u32) raw), IV.int IntKind.u32 op, IV.int IntKind.u32 bits, IV.int IntKind.i64 n])
    (needS
      (true &&
        (decide ((0 : Int) ≤ if (2 : Int) < (↑(List.length raw) : Int) then (2 : Int) else (↑(List.length raw) : Int)) &&
          decide ((if (2 : Int) < (↑(List.length raw) : Int) then (2 : Int) else (↑(List.length raw) : Int)) ≤ (↑(List.length raw) : Int))))
      (brS (Nat.beq (Int.toNat (if (2 : Int) < (↑(List.length raw) : Int) then (2 : Int) else (↑(List.length raw) : Int)) - (0 : Nat)) (0 : Nat))
        ((∃ (x : Nat × List IV × Heap),
            some
                  (TV.v
                    (IV.vslice none (1 : Nat) (4 : Nat) (1 : Nat)
                      [IV.vslice none (0 : Nat) (List.length raw) (1 : Nat) (List.map (IV.int IntKind.u32) raw),
                        IV.vslice none (0 : Nat) (1 : Nat) (1 : Nat) [IV.int IntKind.u32 (bvOr IntKind.u32 (Int.tmod op (38 : Int)) (bvAndNot IntKind.u32 bits (63 : Int)))],
                        IV.vslice none (0 : Nat) (3 : Nat) (1 : Nat) [IV.int IntKind.u32 (Int.tmod op (38 : Int)), IV.int IntKind.u32 bits, IV.int IntKind.u32 bits],
                        IV.vslice none (0 : Nat) (1 : Nat) (1 : Nat) [IV.int IntKind.u32 (IntKind.wrap IntKind.u32 n)]])) =
                some (TV.v (IV.vslice none (1 : Nat) (4 : Nat) (1 : Nat) (Prod.fst (Prod.snd x)))) ∧
              some (TV.v (IV.int IntKind.i64 (4 : Int))) = some (TV.v (IV.int IntKind.i64 (4 : Int))) ∧
                some (TV.v (IV.int IntKind.i64 (0 : Int))) = some (TV.v (IV.int IntKind.i64 (↑(Prod.fst x) : Int))) ∧
                  Heap.mk PT.nil (0 : Nat) = Prod.snd (Prod.snd x) ∧ ((Prod.fst x ≤ (4 : Nat) ∧ List.length (Prod.fst (Prod.snd x)) = (4 : Nat)) ∧ ∀ (c : IV), c ∈ Prod.fst (Prod.snd x) → wordsC c) ∧ True) ∧
          ∀ (x : Nat × List IV × Heap) (b : FF),
            ((Prod.fst x ≤ (4 : Nat) ∧ List.length (Prod.fst (Prod.snd x)) = (4 : Nat)) ∧ ∀ (c : IV), c ∈ Prod.fst (Prod.snd x) → wordsC c) →
              brS (decide ((↑(Prod.fst x) : Int) < (4 : Int)))
                (needS (decide ((0 : Int) ≤ (↑(Prod.fst x) : Int)) && decide ((↑(Prod.fst x) : Int) < (4 : Int)))
                  (ldVS (1 : Nat) (Prod.fst (Prod.snd x)) (Int.toNat (↑(Prod.fst x) : Int) * (1 : Nat)) fun (i0 : Option Nat) (e1 l2 : Nat) (c3 : List IV) =>
                    ∃ (w : List Int),
                      (l2 = List.length w ∧ c3 = List.map (IV.int IntKind.u32) w) ∧
                        ((∀ (x : Int), x ∈ w → u32b x) ∧ (↑(List.length w) : Int) ≤ (9223372036854775807 : Int) ∧ (-9223372036854775808 : Int) ≤ (0 : Int)) ∧
                          brS (Prod.snd (Prod.snd (decR w (0 : Int))) != (0 : Int))
                            (∃ (x_1 : Nat × List IV × Heap),
                              some (TV.v (IV.vslice none (1 : Nat) (4 : Nat) (1 : Nat) (Prod.fst (Prod.snd x)))) = some (TV.v (IV.vslice none (1 : Nat) (4 : Nat) (1 : Nat) (Prod.fst (Prod.snd x_1)))) ∧
                                some (TV.v (IV.int IntKind.i64 (4 : Int))) = some (TV.v (IV.int IntKind.i64 (4 : Int))) ∧
                                  some (TV.v (IV.int IntKind.i64 (IntKind.wrap IntKind.i64 ((↑(Prod.fst x) : Int) + (1 : Int))))) = some (TV.v (IV.int IntKind.i64 (↑(Prod.fst x_1) : Int))) ∧
                                    Prod.snd (Prod.snd x) = Prod.snd (Prod.snd x_1) ∧
                                      ((Prod.fst x_1 ≤ (4 : Nat) ∧ List.length (Prod.fst (Prod.snd x_1)) = (4 : Nat)) ∧ ∀ (c : IV), c ∈ Prod.fst (Prod.snd x_1) → wordsC c) ∧ (4 : Nat) - Prod.fst x_1 < (4 : Nat) - Prod.fst x)
                            (∃ (l : List In),
                              ((1 : Nat) = List.length l ∧
                                  [IV.int IntKind.i64 (In.op (Prod.fst (decR w (0 : Int)))), IV.int IntKind.i64 (In.a (Prod.fst (decR w (0 : Int)))), IV.int IntKind.i64 (In.b (Prod.fst (decR w (0 : Int)))),
                                      IV.int IntKind.i64 (In.c (Prod.fst (decR w (0 : Int)))), IV.int IntKind.i64 (In.n (Prod.fst (decR w (0 : Int))))] =
                                    List.flatMap cIns l) ∧
                                List.length l ≤ (3600000000000 : Nat) ∧
                                  brS (Prod.snd (encR l) != (0 : Int)) (Q (IV.bool false) h)
                                    (brS (Prod.fst (Prod.snd (decR w (0 : Int))) != (↑(List.length (Prod.fst (encR l))) : Int)) (Q (IV.bool false) h)
                                      (brS (decide (Prod.fst (Prod.snd (decR w (0 : Int))) > (↑l2 : Int))) (Q (IV.bool false) h)
                                        (needS (true && (decide ((0 : Int) ≤ Prod.fst (Prod.snd (decR w (0 : Int)))) && decide (Prod.fst (Prod.snd (decR w (0 : Int))) ≤ (↑l2 : Int))))
                                          (∃ (l_1 : List Int),
                                            ∃ (m : List Int),
                                              (List.length (Prod.fst (encR l)) = List.length l_1 ∧ List.map (IV.int IntKind.u32) (Prod.fst (encR l)) = List.map (IV.int IntKind.u32) l_1) ∧
                                                (Int.toNat (Prod.fst (Prod.snd (decR w (0 : Int)))) - (0 : Nat) = List.length m ∧
                                                    List.take ((Int.toNat (Prod.fst (Prod.snd (decR w (0 : Int)))) - (0 : Nat)) * (1 : Nat)) c3 = List.map (IV.int IntKind.u32) m) ∧
                                                  List.length l_1 < (4611686018427387904 : Nat) ∧
                                                    brS (!l_1 == m) (Q (IV.bool false) h)
                                                      (brS
                                                        (!validI (In.op (Prod.fst (decR w (0 : Int)))) (In.a (Prod.fst (decR w (0 : Int)))) (In.b (Prod.fst (decR w (0 : Int)))) (In.c (Prod.fst (decR w (0 : Int))))
                                                            (In.n (Prod.fst (decR w (0 : Int)))))
                                                        (Q (IV.bool false) h)
                                                        (∃ (x_1 : Nat × List IV × Heap),
                                                          some (TV.v (IV.vslice none (1 : Nat) (4 : Nat) (1 : Nat) (Prod.fst (Prod.snd x)))) = some (TV.v (IV.vslice none (1 : Nat) (4 : Nat) (1 : Nat) (Prod.fst (Prod.snd x_1)))) ∧
                                                            some (TV.v (IV.int IntKind.i64 (4 : Int))) = some (TV.v (IV.int IntKind.i64 (4 : Int))) ∧
                                                              some (TV.v (IV.int IntKind.i64 (IntKind.wrap IntKind.i64 ((↑(Prod.fst x) : Int) + (1 : Int))))) = some (TV.v (IV.int IntKind.i64 (↑(Prod.fst x_1) : Int))) ∧
                                                                Prod.snd (Prod.snd x) = Prod.snd (Prod.snd x_1) ∧
                                                                  ((Prod.fst x_1 ≤ (4 : Nat) ∧ List.length (Prod.fst (Prod.snd x_1)) = (4 : Nat)) ∧ ∀ (c : IV), c ∈ Prod.fst (Prod.snd x_1) → wordsC c) ∧
                                                                    (4 : Nat) - Prod.fst x_1 < (4 : Nat) - Prod.fst x)))))))))
                (Q (IV.bool true) h))
        (needS (Nat.ble (((1 : Nat) + (Int.toNat (if (2 : Int) < (↑(List.length raw) : Int) then (2 : Int) else (↑(List.length raw) : Int)) - (0 : Nat))) * (4 : Nat)) (140737488355328 : Nat))
          ((∃ (x : Nat × List IV × Heap),
              some
                    (TV.v
                      (IV.vslice none (1 : Nat) (4 : Nat) (1 : Nat)
                        [IV.vslice none (0 : Nat) (List.length raw) (1 : Nat) (List.map (IV.int IntKind.u32) raw),
                          IV.vslice none (0 : Nat) ((1 : Nat) + (Int.toNat (if (2 : Int) < (↑(List.length raw) : Int) then (2 : Int) else (↑(List.length raw) : Int)) - (0 : Nat))) (1 : Nat)
                            (IV.int IntKind.u32 (bvOr IntKind.u32 (Int.tmod op (38 : Int)) (bvAndNot IntKind.u32 bits (63 : Int))) ::
                              List.take ((Int.toNat (if (2 : Int) < (↑(List.length raw) : Int) then (2 : Int) else (↑(List.length raw) : Int)) - (0 : Nat)) * (1 : Nat)) (List.drop (0 : Nat) (List.map (IV.int IntKind.u32) raw))),
                          IV.vslice none (0 : Nat) (3 : Nat) (1 : Nat) [IV.int IntKind.u32 (Int.tmod op (38 : Int)), IV.int IntKind.u32 bits, IV.int IntKind.u32 bits],
                          IV.vslice none (0 : Nat) (1 : Nat) (1 : Nat) [IV.int IntKind.u32 (IntKind.wrap IntKind.u32 n)]])) =
                  some (TV.v (IV.vslice none (1 : Nat) (4 : Nat) (1 : Nat) (Prod.fst (Prod.snd x)))) ∧
                some (TV.v (IV.int IntKind.i64 (4 : Int))) = some (TV.v (IV.int IntKind.i64 (4 : Int))) ∧
                  some (TV.v (IV.int IntKind.i64 (0 : Int))) = some (TV.v (IV.int IntKind.i64 (↑(Prod.fst x) : Int))) ∧
                    Heap.mk (PT.node PT.nil (some (IObj.tip (((1 : Nat) + (Int.toNat (if (2 : Int) < (↑(List.length raw) : Int) then (2 : Int) else (↑(List.length raw) : Int)) - (0 : Nat))) * (1 : Nat)))) PT.nil) ((0 : Nat) + (1 : Nat)) =
                        Prod.snd (Prod.snd x) ∧
                      ((Prod.fst x ≤ (4 : Nat) ∧ List.length (Prod.fst (Prod.snd x)) = (4 : Nat)) ∧ ∀ (c : IV), c ∈ Prod.fst (Prod.snd x) → wordsC c) ∧ True) ∧
            ∀ (x : Nat × List IV × Heap) (b : FF),
              ((Prod.fst x ≤ (4 : Nat) ∧ List.length (Prod.fst (Prod.snd x)) = (4 : Nat)) ∧ ∀ (c : IV), c ∈ Prod.fst (Prod.snd x) → wordsC c) →
                brS (decide ((↑(Prod.fst x) : Int) < (4 : Int)))
                  (needS (decide ((0 : Int) ≤ (↑(Prod.fst x) : Int)) && decide ((↑(Prod.fst x) : Int) < (4 : Int)))
                    (ldVS (1 : Nat) (Prod.fst (Prod.snd x)) (Int.toNat (↑(Prod.fst x) : Int) * (1 : Nat)) fun (i4 : Option Nat) (e5 l6 : Nat) (c7 : List IV) =>
                      ∃ (w : List Int),
                        (l6 = List.length w ∧ c7 = List.map (IV.int IntKind.u32) w) ∧
                          ((∀ (x : Int), x ∈ w → u32b x) ∧ (↑(List.length w) : Int) ≤ (9223372036854775807 : Int) ∧ (-9223372036854775808 : Int) ≤ (0 : Int)) ∧
                            brS (Prod.snd (Prod.snd (decR w (0 : Int))) != (0 : Int))
                              (∃ (x_1 : Nat × List IV × Heap),
                                some (TV.v (IV.vslice none (1 : Nat) (4 : Nat) (1 : Nat) (Prod.fst (Prod.snd x)))) = some (TV.v (IV.vslice none (1 : Nat) (4 : Nat) (1 : Nat) (Prod.fst (Prod.snd x_1)))) ∧
                                  some (TV.v (IV.int IntKind.i64 (4 : Int))) = some (TV.v (IV.int IntKind.i64 (4 : Int))) ∧
                                    some (TV.v (IV.int IntKind.i64 (IntKind.wrap IntKind.i64 ((↑(Prod.fst x) : Int) + (1 : Int))))) = some (TV.v (IV.int IntKind.i64 (↑(Prod.fst x_1) : Int))) ∧
                                      Prod.snd (Prod.snd x) = Prod.snd (Prod.snd x_1) ∧
                                        ((Prod.fst x_1 ≤ (4 : Nat) ∧ List.length (Prod.fst (Prod.snd x_1)) = (4 : Nat)) ∧ ∀ (c : IV), c ∈ Prod.fst (Prod.snd x_1) → wordsC c) ∧ (4 : Nat) - Prod.fst x_1 < (4 : Nat) - Prod.fst x)
                              (∃ (l : List In),
                                ((1 : Nat) = List.length l ∧
                                    [IV.int IntKind.i64 (In.op (Prod.fst (decR w (0 : Int)))), IV.int IntKind.i64 (In.a (Prod.fst (decR w (0 : Int)))), IV.int IntKind.i64 (In.b (Prod.fst (decR w (0 : Int)))),
                                        IV.int IntKind.i64 (In.c (Prod.fst (decR w (0 : Int)))), IV.int IntKind.i64 (In.n (Prod.fst (decR w (0 : Int))))] =
                                      List.flatMap cIns l) ∧
                                  List.length l ≤ (3600000000000 : Nat) ∧
                                    brS (Prod.snd (encR l) != (0 : Int)) (Q (IV.bool false) h)
                                      (brS (Prod.fst (Prod.snd (decR w (0 : Int))) != (↑(List.length (Prod.fst (encR l))) : Int)) (Q (IV.bool false) h)
                                        (brS (decide (Prod.fst (Prod.snd (decR w (0 : Int))) > (↑l6 : Int))) (Q (IV.bool false) h)
                                          (needS (true && (decide ((0 : Int) ≤ Prod.fst (Prod.snd (decR w (0 : Int)))) && decide (Prod.fst (Prod.snd (decR w (0 : Int))) ≤ (↑l6 : Int))))
                                            (∃ (l_1 : List Int),
                                              ∃ (m : List Int),
                                                (List.length (Prod.fst (encR l)) = List.length l_1 ∧ List.map (IV.int IntKind.u32) (Prod.fst (encR l)) = List.map (IV.int IntKind.u32) l_1) ∧
                                                  (Int.toNat (Prod.fst (Prod.snd (decR w (0 : Int)))) - (0 : Nat) = List.length m ∧
                                                      List.take ((Int.toNat (Prod.fst (Prod.snd (decR w (0 : Int)))) - (0 : Nat)) * (1 : Nat)) c7 = List.map (IV.int IntKind.u32) m) ∧
                                                    List.length l_1 < (4611686018427387904 : Nat) ∧
                                                      brS (!l_1 == m) (Q (IV.bool false) h)
                                                        (brS
                                                          (!validI (In.op (Prod.fst (decR w (0 : Int)))) (In.a (Prod.fst (decR w (0 : Int)))) (In.b (Prod.fst (decR w (0 : Int)))) (In.c (Prod.fst (decR w (0 : Int))))
                                                              (In.n (Prod.fst (decR w (0 : Int)))))
                                                          (Q (IV.bool false) h)
                                                          (∃ (x_1 : Nat × List IV × Heap),
                                                            some (TV.v (IV.vslice none (1 : Nat) (4 : Nat) (1 : Nat) (Prod.fst (Prod.snd x)))) = some (TV.v (IV.vslice none (1 : Nat) (4 : Nat) (1 : Nat) (Prod.fst (Prod.snd x_1)))) ∧
                                                              some (TV.v (IV.int IntKind.i64 (4 : Int))) = some (TV.v (IV.int IntKind.i64 (4 : Int))) ∧
                                                                some (TV.v (IV.int IntKind.i64 (IntKind.wrap IntKind.i64 ((↑(Prod.fst x) : Int) + (1 : Int))))) = some (TV.v (IV.int IntKind.i64 (↑(Prod.fst x_1) : Int))) ∧
                                                                  Prod.snd (Prod.snd x) = Prod.snd (Prod.snd x_1) ∧
                                                                    ((Prod.fst x_1 ≤ (4 : Nat) ∧ List.length (Prod.fst (Prod.snd x_1)) = (4 : Nat)) ∧ ∀ (c : IV), c ∈ Prod.fst (Prod.snd x_1) → wordsC c) ∧
                                                                      (4 : Nat) - Prod.fst x_1 < (4 : Nat) - Prod.fst x)))))))))
                  (Q (IV.bool true) h)))))) := by kernel_rfl
set_option maxHeartbeats 4000000 in
theorem sUniqL : ∀ xs h Q, kUniqL xs h Q → CallW env 5 xs h Q := by
  intro xs h Q hk
  unfold kUniqL at hk
  split at hk
  · rename_i e1 n1 c1 op bits n
    obtain ⟨raw, ⟨rfl, rfl⟩, hb, hk⟩ := hk
    refine dF_sound (okExG) (mp_eq (vUniqL raw e1 op bits n h Q) ?_)
    obtain ⟨hw, hl, ho, hbi⟩ := hb
    have hm : (0 : Int) ≤ (if (2 : Int) < (raw.length : Int) then (2 : Int) else (raw.length : Int)) ∧ (if (2 : Int) < (raw.length : Int) then (2 : Int) else (raw.length : Int)) ≤ 2 ∧ (if (2 : Int) < (raw.length : Int) then (2 : Int) else (raw.length : Int)) ≤ raw.length := by split <;> omega
    generalize (if (2 : Int) < (raw.length : Int) then (2 : Int) else (raw.length : Int)) = m at *
    refine needS_intro (by simp only [pureL, pureB, pureL_ints, Bool.and_true]) (needS_intro (by simp; omega) (brS_intro (fun c0 => ⟨⟨(0, _, _), rfl, rfl, rfl, rfl, ⟨⟨by simp only; omega, rfl⟩, fun c hc => ?_⟩, trivial⟩, ?_⟩) (fun c0 => needS_intro (by rw [Nat.ble_eq]; omega) ⟨⟨(0, _, _), rfl, rfl, rfl, rfl, ⟨⟨by simp only; omega, rfl⟩, fun c hc => ?_⟩, trivial⟩, ?_⟩)))
    · simp only [List.mem_cons, List.not_mem_nil, or_false] at hc
      rcases hc with rfl | rfl | rfl | rfl
      · exact ⟨none, 0, raw, rfl, hw, hl⟩
      · exact ⟨none, 0, [_], rfl, by simp; exact bvOr_b _ _, by simp⟩
      · exact ⟨none, 0, [_, _, _], rfl, by simp; exact ⟨tmod_b ho, hbi⟩, by simp⟩
      · exact ⟨none, 0, [_], rfl, by simp; exact wrap_b _, by simp⟩
    · intro x _ hx
      obtain ⟨i, C, H⟩ := x
      obtain ⟨⟨hi, hC⟩, hc⟩ := hx
      simp only at hi hC hc ⊢
      have e2 : (i : Int) < 4 → IntKind.i64.wrap ((i : Int) + 1) = ((i + 1 : Nat) : Int) := fun h => by rw [IntWalk.i64_in _ (by omega)]; rfl
      refine brS_intro (fun c1 => ?_) (fun _ => hk)
      rw [decide_eq_true_eq] at c1
      refine needS_intro (by simp; omega) (ldVS_w (i := i) (by omega) (by omega) hc fun id e ws hws hwl => ⟨ws, ⟨rfl, rfl⟩, ⟨hws, hwl, by omega⟩, brS_intro (fun _ => ?_) (fun c2 => ?_)⟩)
      · exact ⟨(i + 1, C, H), (by first | rfl | trivial), (by first | rfl | trivial), by rw [e2 c1], (by first | rfl | trivial), ⟨⟨by simp only; omega, hC⟩, hc⟩, by simp only; omega⟩
      rw [bne_eq_false_iff_eq] at c2
      obtain ⟨h1, h2, h3, h4, h5⟩ := dec_words hws c2
      have ht := dec_take hws c2
      have hl3 := (encW_pos (decR ws 0).1).2
      refine ⟨[(decR ws 0).1], ⟨rfl, rfl⟩, by simp, ?_⟩
      rw [encR_one, if_pos h2]
      refine brS_intro (fun c3 => by simp at c3) (fun _ => brS_intro (fun c3 => ?_) (fun _ => brS_intro (fun c3 => ?_) (fun _ => needS_intro ?_ ⟨encW (decR ws 0).1, encW (decR ws 0).1, ⟨rfl, rfl⟩, ⟨?_, ?_⟩, by omega, brS_intro (fun c3 => by simp at c3) (fun _ => brS_intro (fun c3 => ?_) (fun _ => ?_))⟩)))
      · rw [bne_iff_ne] at c3
        exact absurd h3 c3
      · rw [decide_eq_true_eq] at c3
        omega
      · simp; omega
      · rw [h3]; omega
      · rw [h3, show ((encW (decR ws 0).1).length : Int).toNat = (encW (decR ws 0).1).length from rfl, Nat.sub_zero, Nat.mul_one, ← List.map_take, ht]
      · have h2' : validI (decR ws 0).1.op (decR ws 0).1.a (decR ws 0).1.b (decR ws 0).1.c (decR ws 0).1.n = true := h2
        rw [h2'] at c3
        simp at c3
      · exact ⟨(i + 1, C, H), (by first | rfl | trivial), (by first | rfl | trivial), by rw [e2 c1], (by first | rfl | trivial), ⟨⟨by simp only; omega, hC⟩, hc⟩, by simp only; omega⟩
    · simp only [List.mem_cons, List.not_mem_nil, or_false] at hc
      rcases hc with rfl | rfl | rfl | rfl
      · exact ⟨none, 0, raw, rfl, hw, hl⟩
      · refine ⟨none, 0, bvOr .u32 (op.tmod 38) (bvAndNot .u32 bits 63) :: raw.take m.toNat, ?_, ?_, ?_⟩
        · simp only [Nat.sub_zero, Nat.mul_one, List.drop_zero, List.length_cons, List.length_take, List.map_cons, List.map_take]
          congr 1
          omega
        · intro x hx
          rcases List.mem_cons.1 hx with rfl | hx
          · exact bvOr_b _ _
          · exact hw x (List.mem_of_mem_take hx)
        · simp; omega
      · exact ⟨none, 0, [_, _, _], rfl, by simp; exact ⟨tmod_b ho, hbi⟩, by simp⟩
      · exact ⟨none, 0, [_], rfl, by simp; exact wrap_b _, by simp⟩
    · intro x _ hx
      obtain ⟨i, C, H⟩ := x
      obtain ⟨⟨hi, hC⟩, hc⟩ := hx
      simp only at hi hC hc ⊢
      have e2 : (i : Int) < 4 → IntKind.i64.wrap ((i : Int) + 1) = ((i + 1 : Nat) : Int) := fun h => by rw [IntWalk.i64_in _ (by omega)]; rfl
      refine brS_intro (fun c1 => ?_) (fun _ => hk)
      rw [decide_eq_true_eq] at c1
      refine needS_intro (by simp; omega) (ldVS_w (i := i) (by omega) (by omega) hc fun id e ws hws hwl => ⟨ws, ⟨rfl, rfl⟩, ⟨hws, hwl, by omega⟩, brS_intro (fun _ => ?_) (fun c2 => ?_)⟩)
      · exact ⟨(i + 1, C, H), (by first | rfl | trivial), (by first | rfl | trivial), by rw [e2 c1], (by first | rfl | trivial), ⟨⟨by simp only; omega, hC⟩, hc⟩, by simp only; omega⟩
      rw [bne_eq_false_iff_eq] at c2
      obtain ⟨h1, h2, h3, h4, h5⟩ := dec_words hws c2
      have ht := dec_take hws c2
      have hl3 := (encW_pos (decR ws 0).1).2
      refine ⟨[(decR ws 0).1], ⟨rfl, rfl⟩, by simp, ?_⟩
      rw [encR_one, if_pos h2]
      refine brS_intro (fun c3 => by simp at c3) (fun _ => brS_intro (fun c3 => ?_) (fun _ => brS_intro (fun c3 => ?_) (fun _ => needS_intro ?_ ⟨encW (decR ws 0).1, encW (decR ws 0).1, ⟨rfl, rfl⟩, ⟨?_, ?_⟩, by omega, brS_intro (fun c3 => by simp at c3) (fun _ => brS_intro (fun c3 => ?_) (fun _ => ?_))⟩)))
      · rw [bne_iff_ne] at c3
        exact absurd h3 c3
      · rw [decide_eq_true_eq] at c3
        omega
      · simp; omega
      · rw [h3]; omega
      · rw [h3, show ((encW (decR ws 0).1).length : Int).toNat = (encW (decR ws 0).1).length from rfl, Nat.sub_zero, Nat.mul_one, ← List.map_take, ht]
      · have h2' : validI (decR ws 0).1.op (decR ws 0).1.a (decR ws 0).1.b (decR ws 0).1.c (decR ws 0).1.n = true := h2
        rw [h2'] at c3
        simp at c3
      · exact ⟨(i + 1, C, H), (by first | rfl | trivial), (by first | rfl | trivial), by rw [e2 c1], (by first | rfl | trivial), ⟨⟨by simp only; omega, hC⟩, hc⟩, by simp only; omega⟩
  · exact hk.elim
def cUniqL := addC 5 kUniqL cExG
theorem okUniqL : Sound env cUniqL := sound_add sUniqL (okExG)

end Go.Proofs.YtiecmbfcgjaflaaDoor
