/-
  Machine words: the statement EncodingDecode.
  Conditions: none.
-/
import Derived.Test.YtiecmbfcgjaflaaDoorL30
import Derived.KernelRfl
set_option linter.unusedVariables false
set_option linter.unusedSimpArgs false
namespace Go.Proofs.YtiecmbfcgjaflaaDoor
open Go.Pv Go.M29 Go.M30
theorem decAcc_len (w : List Int) : ∀ (n : Nat) (k : Int) (acc : List In) (pl : List Int), (decAcc w n k acc pl).1.length ≤ acc.length + n ∧ (decAcc w n k acc pl).2.1.length ≤ pl.length + n
  | 0, _, _, _ => by simp [decAcc]
  | n + 1, k, acc, pl => by
    rw [decAcc_succ]
    split
    · split
      · have := decAcc_len w n (k + (decR w k).2.1) (acc ++ [(decR w k).1]) (pl ++ [k])
        simp only [List.length_append, List.length_cons, List.length_nil] at this
        omega
      · simp
    · simp only
      omega
theorem decA_len (w : List Int) : (decA w).1.length ≤ w.length + 1 ∧ (decA w).2.1.length ≤ w.length + 1 := by
  have := decAcc_len w (w.length + 1) 0 [] []
  simpa [decA] using this
theorem ldVS_n {C : List IV} {i o : Nat} {K : Option Nat → Nat → Nat → List IV → Prop} (h : i < C.length) (ho : o = i) (hc : ∀ c ∈ C, ∃ ws : List Int, c = .vslice none 0 ws.length 1 (ws.map (IV.int .u32)) ∧ (∀ x ∈ ws, u32b x) ∧ ws.length < 100000000000000)
    (hk : ∀ (ws : List Int), (∀ x ∈ ws, u32b x) → ws.length < 100000000000000 → K none 0 ws.length (ws.map (IV.int .u32))) : ldVS 1 C o K := by
  subst ho
  unfold ldVS
  rw [List.getElem?_eq_getElem h]
  obtain ⟨ws, h1, h2, h3⟩ := hc _ (List.getElem_mem h)
  rw [h1]
  exact hk ws h2 h3
theorem encR_b {l : List In} : ∀ x ∈ (encR l).1, u32b x := by
  unfold encR
  split
  · rename_i h
    intro x hx
    obtain ⟨i, hi, hx⟩ := List.mem_flatMap.1 hx
    exact encW_b (List.all_eq_true.1 h i hi) x hx
  · intro x hx; cases hx
def ws (w : List Int) : IV := .vslice none 0 w.length 1 (w.map (IV.int .u32))
def dlists (raw e : List Int) (p b : Int) (n : Nat) : List (List Int) := [raw, e, flipW e p b, e.take n]
def cutN (e : List Int) (p : Int) : Nat := (if p % 9 < (e.length : Int) then p % 9 else (e.length : Int)).toNat
def doSl (raw e : List Int) (p b : Int) (k : Nat) : List (Nat × TV) := [(0, .v (.vslice none 0 (raw).length 1 ((raw).map (IV.int .u32)))), (2, .v (.int .i64 p)), (51, .v (.vslice none 1 4 1 ((dlists raw e p b (cutN e p)).map ws))), (52, .v (.int .i64 4)), (53, .v (.int .i64 k))]
def doInv (raw e : List Int) (p b : Int) : Inv' := atX Nat (fun k => doSl raw e p b k) (fun _ => []) (fun _ => Heap.empty) (fun k => k ≤ 4) (fun k => 4 - k)
def diInv (raw e : List Int) (p b : Int) : Inv' := atX (List Int × Nat × Nat) (fun x => (12, .v (.vslice none 0 (x.1).length 1 ((x.1).map (IV.int .u32)))) :: (13, .v (.int .i64 ((x.2.2 : Int) - 1))) :: doSl raw e p b x.2.1) (fun _ => []) (fun _ => Heap.empty) (fun x => (∀ a ∈ x.1, u32b a) ∧ x.1.length ≤ 60 ∧ x.2.1 < 4 ∧ x.2.2 ≤ x.1.length + 2) (fun x => (4 - x.2.1) * 100 + (x.1.length + 2 - x.2.2))
def kDecL (xs : List IV) (h : Heap) (K : IV → Heap → Prop) : Prop := match xs with
  | [.vslice none e1 n1 1 c1, .vslice none e2 n2 1 c2, .int .i64 at_, .int .i64 cut] => ∃ w l : List Int, (n1 = w.length ∧ c1 = w.map (IV.int .u32)) ∧ (n2 = l.length ∧ c2 = l.map (IV.int .i64)) ∧ ((∀ x ∈ w, u32b x) ∧ w.length < 100000000000000 ∧ (∀ x ∈ l, IntKind.i64.has x) ∧ l.length < 4611686018427387904 ∧ -9223372036854775808 ≤ at_) ∧ K (.bool true) h
  | _ => False
set_option maxRecDepth 100000 in
theorem vDecL (raw l : List Int) (e1 e2 : Nat) (at_ cut : Int) (h : Heap) (Q : IV → Heap → Prop) : dF (stdS cRTripL) env 7 noU (icA 4 (doInv raw (encR (insK l 8)).1 at_ cut) (ic1 1000009 (diInv raw (encR (insK l 8)).1 at_ cut))) noI [.vslice none e1 (raw).length 1 ((raw).map (IV.int .u32)), .vslice none e2 (l).length 1 ((l).map (IV.int .i64)), .int .i64 at_, .int .i64 cut] h Q = (
  needS (pureL [IV.vslice none (0 : Nat) (List.length raw) (1 : Nat) (List.map (IV.int IntKind.u32) raw), IV.vslice none (0 : Nat) (List.length l) (1 : Nat) (List.map (IV.int IntKind.i64) l), IV.int IntKind.i64 at_, IV.int IntKind.i64 cut])
    (∃ (l_1 : List Int),
      (List.length l = List.length l_1 ∧ List.map (IV.int IntKind.i64) l = List.map (IV.int IntKind.i64) l_1) ∧
        (List.length l_1 < (4611686018427387904 : Nat) ∧ (8 : Int) ≤ (1000000 : Int)) ∧
          ∃ (l_2 : List In),
            (List.length (insK l_1 (8 : Int)) = List.length l_2 ∧ List.flatMap cIns (insK l_1 (8 : Int)) = List.flatMap cIns l_2) ∧
              List.length l_2 ≤ (3600000000000 : Nat) ∧
                ∃ (w : List Int),
                  (List.length (Prod.fst (encR l_2)) = List.length w ∧ List.map (IV.int IntKind.u32) (Prod.fst (encR l_2)) = List.map (IV.int IntKind.u32) w) ∧
                    List.length w ≤ (1000000000000 : Nat) ∧
                      ((0 : Int) < (9 : Int) ∧ (9 : Int) < (4611686018427387904 : Int)) ∧
                        needS
                          (true &&
                            (decide ((0 : Int) ≤ if at_ % (9 : Int) < (↑(List.length (Prod.fst (encR l_2))) : Int) then at_ % (9 : Int) else (↑(List.length (Prod.fst (encR l_2))) : Int)) &&
                              decide ((if at_ % (9 : Int) < (↑(List.length (Prod.fst (encR l_2))) : Int) then at_ % (9 : Int) else (↑(List.length (Prod.fst (encR l_2))) : Int)) ≤ (↑(List.length (Prod.fst (encR l_2))) : Int))))
                          ((∃ (x : Nat),
                              some (TV.v (IV.vslice none (0 : Nat) (List.length raw) (1 : Nat) (List.map (IV.int IntKind.u32) raw))) = some (TV.v (IV.vslice none (0 : Nat) (List.length raw) (1 : Nat) (List.map (IV.int IntKind.u32) raw))) ∧
                                some (TV.v (IV.int IntKind.i64 at_)) = some (TV.v (IV.int IntKind.i64 at_)) ∧
                                  some
                                        (TV.v
                                          (IV.vslice none (1 : Nat) (4 : Nat) (1 : Nat)
                                            [IV.vslice none (0 : Nat) (List.length raw) (1 : Nat) (List.map (IV.int IntKind.u32) raw),
                                              IV.vslice none (0 : Nat) (List.length (Prod.fst (encR l_2))) (1 : Nat) (List.map (IV.int IntKind.u32) (Prod.fst (encR l_2))),
                                              IV.vslice none (0 : Nat) (List.length (flipW w at_ cut)) (1 : Nat) (List.map (IV.int IntKind.u32) (flipW w at_ cut)),
                                              IV.vslice none (0 : Nat) (Int.toNat (if at_ % (9 : Int) < (↑(List.length (Prod.fst (encR l_2))) : Int) then at_ % (9 : Int) else (↑(List.length (Prod.fst (encR l_2))) : Int)) - (0 : Nat))
                                                (1 : Nat)
                                                (List.take ((Int.toNat (if at_ % (9 : Int) < (↑(List.length (Prod.fst (encR l_2))) : Int) then at_ % (9 : Int) else (↑(List.length (Prod.fst (encR l_2))) : Int)) - (0 : Nat)) * (1 : Nat))
                                                  (List.drop (0 : Nat) (List.map (IV.int IntKind.u32) (Prod.fst (encR l_2)))))])) =
                                      some
                                        (TV.v
                                          (IV.vslice none (1 : Nat) (4 : Nat) (1 : Nat)
                                            [IV.vslice none (0 : Nat) (List.length raw) (1 : Nat) (List.map (IV.int IntKind.u32) raw),
                                              IV.vslice none (0 : Nat) (List.length (Prod.fst (encR (insK l (8 : Int))))) (1 : Nat) (List.map (IV.int IntKind.u32) (Prod.fst (encR (insK l (8 : Int))))),
                                              IV.vslice none (0 : Nat) (List.length (flipW (Prod.fst (encR (insK l (8 : Int)))) at_ cut)) (1 : Nat) (List.map (IV.int IntKind.u32) (flipW (Prod.fst (encR (insK l (8 : Int)))) at_ cut)),
                                              IV.vslice none (0 : Nat) (List.length (List.take (cutN (Prod.fst (encR (insK l (8 : Int)))) at_) (Prod.fst (encR (insK l (8 : Int)))))) (1 : Nat)
                                                (List.map (IV.int IntKind.u32) (List.take (cutN (Prod.fst (encR (insK l (8 : Int)))) at_) (Prod.fst (encR (insK l (8 : Int))))))])) ∧
                                    some (TV.v (IV.int IntKind.i64 (4 : Int))) = some (TV.v (IV.int IntKind.i64 (4 : Int))) ∧
                                      some (TV.v (IV.int IntKind.i64 (0 : Int))) = some (TV.v (IV.int IntKind.i64 (↑x : Int))) ∧ Heap.mk PT.nil (0 : Nat) = Heap.mk PT.nil (0 : Nat) ∧ Nat.le x (4 : Nat) ∧ True) ∧
                            ∀ (x : Nat) (b : FF),
                              x ≤ (4 : Nat) →
                                brS (decide ((↑x : Int) < (4 : Int)))
                                  (needS (decide ((0 : Int) ≤ (↑x : Int)) && decide ((↑x : Int) < (4 : Int)))
                                    (ldVS (1 : Nat)
                                      [IV.vslice none (0 : Nat) (List.length raw) (1 : Nat) (List.map (IV.int IntKind.u32) raw),
                                        IV.vslice none (0 : Nat) (List.length (Prod.fst (encR (insK l (8 : Int))))) (1 : Nat) (List.map (IV.int IntKind.u32) (Prod.fst (encR (insK l (8 : Int))))),
                                        IV.vslice none (0 : Nat) (List.length (flipW (Prod.fst (encR (insK l (8 : Int)))) at_ cut)) (1 : Nat) (List.map (IV.int IntKind.u32) (flipW (Prod.fst (encR (insK l (8 : Int)))) at_ cut)),
                                        IV.vslice none (0 : Nat) (List.length (List.take (cutN (Prod.fst (encR (insK l (8 : Int)))) at_) (Prod.fst (encR (insK l (8 : Int)))))) (1 : Nat)
                                          (List.map (IV.int IntKind.u32) (List.take (cutN (Prod.fst (encR (insK l (8 : Int)))) at_) (Prod.fst (encR (insK l (8 : Int))))))]
                                      (Int.toNat (↑x : Int) * (1 : Nat)) fun (i0 : Option Nat) (e1 l2 : Nat) (c3 : List IV) =>
                                      brS (decide ((↑l2 : Int) > (60 : Int)))
                                        (needS (true && (true && decide ((60 : Int) ≤ (↑l2 : Int))))
                                          (∃ (M : Nat),
                                            (∃ (x_1 : List Int × Nat × Nat),
                                                some (TV.v (IV.vslice i0 (e1 - (l2 - (60 : Nat)) * (1 : Nat)) (60 : Nat) (1 : Nat) (List.take (60 : Nat) c3))) =
                                                    some (TV.v (IV.vslice none (0 : Nat) (List.length (Prod.fst x_1)) (1 : Nat) (List.map (IV.int IntKind.u32) (Prod.fst x_1)))) ∧
                                                  some (TV.v (IV.int IntKind.i64 (-1 : Int))) = some (TV.v (IV.int IntKind.i64 ((↑(Prod.snd (Prod.snd x_1)) : Int) - (1 : Int)))) ∧
                                                    some (TV.v (IV.vslice none (0 : Nat) (List.length raw) (1 : Nat) (List.map (IV.int IntKind.u32) raw))) =
                                                        some (TV.v (IV.vslice none (0 : Nat) (List.length raw) (1 : Nat) (List.map (IV.int IntKind.u32) raw))) ∧
                                                      some (TV.v (IV.int IntKind.i64 at_)) = some (TV.v (IV.int IntKind.i64 at_)) ∧
                                                        some
                                                              (TV.v
                                                                (IV.vslice none (1 : Nat) (4 : Nat) (1 : Nat)
                                                                  [IV.vslice none (0 : Nat) (List.length raw) (1 : Nat) (List.map (IV.int IntKind.u32) raw),
                                                                    IV.vslice none (0 : Nat) (List.length (Prod.fst (encR (insK l (8 : Int))))) (1 : Nat) (List.map (IV.int IntKind.u32) (Prod.fst (encR (insK l (8 : Int))))),
                                                                    IV.vslice none (0 : Nat) (List.length (flipW (Prod.fst (encR (insK l (8 : Int)))) at_ cut)) (1 : Nat)
                                                                      (List.map (IV.int IntKind.u32) (flipW (Prod.fst (encR (insK l (8 : Int)))) at_ cut)),
                                                                    IV.vslice none (0 : Nat) (List.length (List.take (cutN (Prod.fst (encR (insK l (8 : Int)))) at_) (Prod.fst (encR (insK l (8 : Int)))))) (1 : Nat)
                                                                      (List.map (IV.int IntKind.u32) (List.take (cutN (Prod.fst (encR (insK l (8 : Int)))) at_) (Prod.fst (encR (insK l (8 : Int))))))])) =
                                                            some
                                                              (TV.v
                                                                (IV.vslice none (1 : Nat) (4 : Nat) (1 : Nat)
                                                                  [IV.vslice none (0 : Nat) (List.length raw) (1 : Nat) (List.map (IV.int IntKind.u32) raw),
                                                                    IV.vslice none (0 : Nat) (List.length (Prod.fst (encR (insK l (8 : Int))))) (1 : Nat) (List.map (IV.int IntKind.u32) (Prod.fst (encR (insK l (8 : Int))))),
                                                                    IV.vslice none (0 : Nat) (List.length (flipW (Prod.fst (encR (insK l (8 : Int)))) at_ cut)) (1 : Nat)
                                                                      (List.map (IV.int IntKind.u32) (flipW (Prod.fst (encR (insK l (8 : Int)))) at_ cut)),
                                                                    IV.vslice none (0 : Nat) (List.length (List.take (cutN (Prod.fst (encR (insK l (8 : Int)))) at_) (Prod.fst (encR (insK l (8 : Int)))))) (1 : Nat)
                                                                      (List.map (IV.int IntKind.u32) (List.take (cutN (Prod.fst (encR (insK l (8 : Int)))) at_) (Prod.fst (encR (insK l (8 : Int))))))])) ∧
                                                          some (TV.v (IV.int IntKind.i64 (4 : Int))) = some (TV.v (IV.int IntKind.i64 (4 : Int))) ∧
                                                            some (TV.v (IV.int IntKind.i64 (↑x : Int))) = some (TV.v (IV.int IntKind.i64 (↑(Prod.fst (Prod.snd x_1)) : Int))) ∧
                                                              Heap.mk PT.nil (0 : Nat) = Heap.mk PT.nil (0 : Nat) ∧
                                                                ((∀ (a : Int), a ∈ Prod.fst x_1 → u32b a) ∧
                                                                    List.length (Prod.fst x_1) ≤ (60 : Nat) ∧ Prod.fst (Prod.snd x_1) < (4 : Nat) ∧ Prod.snd (Prod.snd x_1) ≤ List.length (Prod.fst x_1) + (2 : Nat)) ∧
                                                                  ((4 : Nat) - Prod.fst (Prod.snd x_1)) * (100 : Nat) + (List.length (Prod.fst x_1) + (2 : Nat) - Prod.snd (Prod.snd x_1)) ≤ M) ∧
                                              ∀ (x_1 : List Int × Nat × Nat) (b : FF),
                                                (∀ (a : Int), a ∈ Prod.fst x_1 → u32b a) ∧ List.length (Prod.fst x_1) ≤ (60 : Nat) ∧ Prod.fst (Prod.snd x_1) < (4 : Nat) ∧ Prod.snd (Prod.snd x_1) ≤ List.length (Prod.fst x_1) + (2 : Nat) →
                                                  ((4 : Nat) - Prod.fst (Prod.snd x_1)) * (100 : Nat) + (List.length (Prod.fst x_1) + (2 : Nat) - Prod.snd (Prod.snd x_1)) ≤ M →
                                                    brS (decide ((↑(Prod.snd (Prod.snd x_1)) : Int) - (1 : Int) ≤ (↑(List.length (Prod.fst x_1)) : Int)))
                                                      (∃ (w : List Int),
                                                        (List.length (Prod.fst x_1) = List.length w ∧ List.map (IV.int IntKind.u32) (Prod.fst x_1) = List.map (IV.int IntKind.u32) w) ∧
                                                          ((∀ (x : Int), x ∈ w → u32b x) ∧ (↑(List.length w) : Int) ≤ (9223372036854775807 : Int) ∧ (-9223372036854775808 : Int) ≤ (↑(Prod.snd (Prod.snd x_1)) : Int) - (1 : Int)) ∧
                                                            ∃ (w_1 : List Int),
                                                              (List.length (Prod.fst x_1) = List.length w_1 ∧ List.map (IV.int IntKind.u32) (Prod.fst x_1) = List.map (IV.int IntKind.u32) w_1) ∧
                                                                ((∀ (x : Int), x ∈ w_1 → u32b x) ∧ (↑(List.length w_1) : Int) ≤ (4611686018427387904 : Int) ∧ (-9223372036854775808 : Int) ≤ (↑(Prod.snd (Prod.snd x_1)) : Int) - (1 : Int)) ∧
                                                                  brS
                                                                    (!(In.op (Prod.fst (decR w ((↑(Prod.snd (Prod.snd x_1)) : Int) - (1 : Int)))) == In.op (Prod.fst (decR w_1 ((↑(Prod.snd (Prod.snd x_1)) : Int) - (1 : Int)))) &&
                                                                        (In.a (Prod.fst (decR w ((↑(Prod.snd (Prod.snd x_1)) : Int) - (1 : Int)))) == In.a (Prod.fst (decR w_1 ((↑(Prod.snd (Prod.snd x_1)) : Int) - (1 : Int)))) &&
                                                                          (In.b (Prod.fst (decR w ((↑(Prod.snd (Prod.snd x_1)) : Int) - (1 : Int)))) == In.b (Prod.fst (decR w_1 ((↑(Prod.snd (Prod.snd x_1)) : Int) - (1 : Int)))) &&
                                                                            (In.c (Prod.fst (decR w ((↑(Prod.snd (Prod.snd x_1)) : Int) - (1 : Int)))) == In.c (Prod.fst (decR w_1 ((↑(Prod.snd (Prod.snd x_1)) : Int) - (1 : Int)))) &&
                                                                              (In.n (Prod.fst (decR w ((↑(Prod.snd (Prod.snd x_1)) : Int) - (1 : Int)))) == In.n (Prod.fst (decR w_1 ((↑(Prod.snd (Prod.snd x_1)) : Int) - (1 : Int)))) &&
                                                                                true))))))
                                                                    (Q (IV.bool false) h)
                                                                    (brS (Prod.fst (Prod.snd (decR w ((↑(Prod.snd (Prod.snd x_1)) : Int) - (1 : Int)))) != Prod.fst (Prod.snd (decR w_1 ((↑(Prod.snd (Prod.snd x_1)) : Int) - (1 : Int)))))
                                                                      (Q (IV.bool false) h)
                                                                      (brS (Prod.snd (Prod.snd (decR w ((↑(Prod.snd (Prod.snd x_1)) : Int) - (1 : Int)))) != Prod.snd (Prod.snd (decR w_1 ((↑(Prod.snd (Prod.snd x_1)) : Int) - (1 : Int)))))
                                                                        (Q (IV.bool false) h)
                                                                        (∃ (x : List Int × Nat × Nat),
                                                                          some (TV.v (IV.vslice none (0 : Nat) (List.length (Prod.fst x_1)) (1 : Nat) (List.map (IV.int IntKind.u32) (Prod.fst x_1)))) =
                                                                              some (TV.v (IV.vslice none (0 : Nat) (List.length (Prod.fst x)) (1 : Nat) (List.map (IV.int IntKind.u32) (Prod.fst x)))) ∧
                                                                            some (TV.v (IV.int IntKind.i64 (IntKind.wrap IntKind.i64 ((↑(Prod.snd (Prod.snd x_1)) : Int) - (1 : Int) + (1 : Int))))) =
                                                                                some (TV.v (IV.int IntKind.i64 ((↑(Prod.snd (Prod.snd x)) : Int) - (1 : Int)))) ∧
                                                                              some (TV.v (IV.vslice none (0 : Nat) (List.length raw) (1 : Nat) (List.map (IV.int IntKind.u32) raw))) =
                                                                                  some (TV.v (IV.vslice none (0 : Nat) (List.length raw) (1 : Nat) (List.map (IV.int IntKind.u32) raw))) ∧
                                                                                some (TV.v (IV.int IntKind.i64 at_)) = some (TV.v (IV.int IntKind.i64 at_)) ∧
                                                                                  some
                                                                                        (TV.v
                                                                                          (IV.vslice none (1 : Nat) (4 : Nat) (1 : Nat)
                                                                                            [IV.vslice none (0 : Nat) (List.length raw) (1 : Nat) (List.map (IV.int IntKind.u32) raw),
                                                                                              IV.vslice none (0 : Nat) (List.length (Prod.fst (encR (insK l (8 : Int))))) (1 : Nat)
                                                                                                (List.map (IV.int IntKind.u32) (Prod.fst (encR (insK l (8 : Int))))),
                                                                                              IV.vslice none (0 : Nat) (List.length (flipW (Prod.fst (encR (insK l (8 : Int)))) at_ cut)) (1 : Nat)
                                                                                                (List.map (IV.int IntKind.u32) (flipW (Prod.fst (encR (insK l (8 : Int)))) at_ cut)),
                                                                                              IV.vslice none (0 : Nat) (List.length (List.take (cutN (Prod.fst (encR (insK l (8 : Int)))) at_) (Prod.fst (encR (insK l (8 : Int)))))) (1 : Nat)
                                                                                                (List.map (IV.int IntKind.u32) (List.take (cutN (Prod.fst (encR (insK l (8 : Int)))) at_) (Prod.fst (encR (insK l (8 : Int))))))])) =
                                                                                      some
                                                                                        (TV.v
                                                                                          (IV.vslice none (1 : Nat) (4 : Nat) (1 : Nat)
                                                                                            [IV.vslice none (0 : Nat) (List.length raw) (1 : Nat) (List.map (IV.int IntKind.u32) raw),
                                                                                              IV.vslice none (0 : Nat) (List.length (Prod.fst (encR (insK l (8 : Int))))) (1 : Nat)
                                                                                                (List.map (IV.int IntKind.u32) (Prod.fst (encR (insK l (8 : Int))))),
                                                                                              IV.vslice none (0 : Nat) (List.length (flipW (Prod.fst (encR (insK l (8 : Int)))) at_ cut)) (1 : Nat)
                                                                                                (List.map (IV.int IntKind.u32) (flipW (Prod.fst (encR (insK l (8 : Int)))) at_ cut)),
                                                                                              IV.vslice none (0 : Nat) (List.length (List.take (cutN (Prod.fst (encR (insK l (8 : Int)))) at_) (Prod.fst (encR (insK l (8 : Int)))))) (1 : Nat)
                                                                                                (List.map (IV.int IntKind.u32) (List.take (cutN (Prod.fst (encR (insK l (8 : Int)))) at_) (Prod.fst (encR (insK l (8 : Int))))))])) ∧
                                                                                    some (TV.v (IV.int IntKind.i64 (4 : Int))) = some (TV.v (IV.int IntKind.i64 (4 : Int))) ∧
                                                                                      some (TV.v (IV.int IntKind.i64 (↑(Prod.fst (Prod.snd x_1)) : Int))) = some (TV.v (IV.int IntKind.i64 (↑(Prod.fst (Prod.snd x)) : Int))) ∧
                                                                                        Heap.mk PT.nil (0 : Nat) = Heap.mk PT.nil (0 : Nat) ∧
                                                                                          ((∀ (a : Int), a ∈ Prod.fst x → u32b a) ∧
                                                                                              List.length (Prod.fst x) ≤ (60 : Nat) ∧ Prod.fst (Prod.snd x) < (4 : Nat) ∧ Prod.snd (Prod.snd x) ≤ List.length (Prod.fst x) + (2 : Nat)) ∧
                                                                                            ((4 : Nat) - Prod.fst (Prod.snd x)) * (100 : Nat) + (List.length (Prod.fst x) + (2 : Nat) - Prod.snd (Prod.snd x)) <
                                                                                              ((4 : Nat) - Prod.fst (Prod.snd x_1)) * (100 : Nat) + (List.length (Prod.fst x_1) + (2 : Nat) - Prod.snd (Prod.snd x_1))))))
                                                      (∃ (w : List Int),
                                                        (List.length (Prod.fst x_1) = List.length w ∧ List.map (IV.int IntKind.u32) (Prod.fst x_1) = List.map (IV.int IntKind.u32) w) ∧
                                                          ((∀ (x : Int), x ∈ w → u32b x) ∧ List.length w ≤ (1000000 : Nat)) ∧
                                                            ∃ (w_1 : List Int),
                                                              (List.length (Prod.fst x_1) = List.length w_1 ∧ List.map (IV.int IntKind.u32) (Prod.fst x_1) = List.map (IV.int IntKind.u32) w_1) ∧
                                                                ((∀ (x : Int), x ∈ w_1 → u32b x) ∧ List.length w_1 ≤ (1000000 : Nat)) ∧
                                                                  brS (Prod.snd (Prod.snd (decA w)) != Prod.snd (Prod.snd (decA w_1))) (Q (IV.bool false) h)
                                                                    (∃ (l_3 : List In),
                                                                      ∃ (m : List In),
                                                                        (List.length (Prod.fst (decA w)) = List.length l_3 ∧ List.flatMap cIns (Prod.fst (decA w)) = List.flatMap cIns l_3) ∧
                                                                          (List.length (Prod.fst (decA w_1)) = List.length m ∧ List.flatMap cIns (Prod.fst (decA w_1)) = List.flatMap cIns m) ∧
                                                                            List.length l_3 < (4611686018427387904 : Nat) ∧
                                                                              brS (!decide (l_3 = m)) (Q (IV.bool false) h)
                                                                                (∃ (l_4 : List Int),
                                                                                  ∃ (m : List Int),
                                                                                    (List.length (Prod.fst (Prod.snd (decA w))) = List.length l_4 ∧
                                                                                        List.map (IV.int IntKind.i64) (Prod.fst (Prod.snd (decA w))) = List.map (IV.int IntKind.i64) l_4) ∧
                                                                                      (List.length (Prod.fst (Prod.snd (decA w_1))) = List.length m ∧
                                                                                          List.map (IV.int IntKind.i64) (Prod.fst (Prod.snd (decA w_1))) = List.map (IV.int IntKind.i64) m) ∧
                                                                                        List.length l_4 < (4611686018427387904 : Nat) ∧
                                                                                          brS (!l_4 == m) (Q (IV.bool false) h)
                                                                                            (∃ (x_2 : Nat),
                                                                                              some (TV.v (IV.vslice none (0 : Nat) (List.length raw) (1 : Nat) (List.map (IV.int IntKind.u32) raw))) =
                                                                                                  some (TV.v (IV.vslice none (0 : Nat) (List.length raw) (1 : Nat) (List.map (IV.int IntKind.u32) raw))) ∧
                                                                                                some (TV.v (IV.int IntKind.i64 at_)) = some (TV.v (IV.int IntKind.i64 at_)) ∧
                                                                                                  some
                                                                                                        (TV.v
                                                                                                          (IV.vslice none (1 : Nat) (4 : Nat) (1 : Nat)
                                                                                                            [IV.vslice none (0 : Nat) (List.length raw) (1 : Nat) (List.map (IV.int IntKind.u32) raw),
                                                                                                              IV.vslice none (0 : Nat) (List.length (Prod.fst (encR (insK l (8 : Int))))) (1 : Nat)
                                                                                                                (List.map (IV.int IntKind.u32) (Prod.fst (encR (insK l (8 : Int))))),
                                                                                                              IV.vslice none (0 : Nat) (List.length (flipW (Prod.fst (encR (insK l (8 : Int)))) at_ cut)) (1 : Nat)
                                                                                                                (List.map (IV.int IntKind.u32) (flipW (Prod.fst (encR (insK l (8 : Int)))) at_ cut)),
                                                                                                              IV.vslice none (0 : Nat)
                                                                                                                (List.length (List.take (cutN (Prod.fst (encR (insK l (8 : Int)))) at_) (Prod.fst (encR (insK l (8 : Int)))))) (1 : Nat)
                                                                                                                (List.map (IV.int IntKind.u32)
                                                                                                                  (List.take (cutN (Prod.fst (encR (insK l (8 : Int)))) at_) (Prod.fst (encR (insK l (8 : Int))))))])) =
                                                                                                      some
                                                                                                        (TV.v
                                                                                                          (IV.vslice none (1 : Nat) (4 : Nat) (1 : Nat)
                                                                                                            [IV.vslice none (0 : Nat) (List.length raw) (1 : Nat) (List.map (IV.int IntKind.u32) raw),
                                                                                                              IV.vslice none (0 : Nat) (List.length (Prod.fst (encR (insK l (8 : Int))))) (1 : Nat)
                                                                                                                (List.map (IV.int IntKind.u32) (Prod.fst (encR (insK l (8 : Int))))),
                                                                                                              IV.vslice none (0 : Nat) (List.length (flipW (Prod.fst (encR (insK l (8 : Int)))) at_ cut)) (1 : Nat)
                                                                                                                (List.map (IV.int IntKind.u32) (flipW (Prod.fst (encR (insK l (8 : Int)))) at_ cut)),
                                                                                                              IV.vslice none (0 : Nat)
                                                                                                                (List.length (List.take (cutN (Prod.fst (encR (insK l (8 : Int)))) at_) (Prod.fst (encR (insK l (8 : Int)))))) (1 : Nat)
                                                                                                                (List.map (IV.int IntKind.u32)
                                                                                                                  (List.take (cutN (Prod.fst (encR (insK l (8 : Int)))) at_) (Prod.fst (encR (insK l (8 : Int))))))])) ∧
                                                                                                    some (TV.v (IV.int IntKind.i64 (4 : Int))) = some (TV.v (IV.int IntKind.i64 (4 : Int))) ∧
                                                                                                      some (TV.v (IV.int IntKind.i64 (IntKind.wrap IntKind.i64 ((↑(Prod.fst (Prod.snd x_1)) : Int) + (1 : Int))))) =
                                                                                                          some (TV.v (IV.int IntKind.i64 (↑x_2 : Int))) ∧
                                                                                                        Heap.mk PT.nil (0 : Nat) = Heap.mk PT.nil (0 : Nat) ∧ Nat.le x_2 (4 : Nat) ∧ (4 : Nat) - x_2 < (4 : Nat) - x))))))
                                        (∃ (M : Nat),
                                          (∃ (x_1 : List Int × Nat × Nat),
                                              some (TV.v (IV.vslice i0 e1 l2 (1 : Nat) c3)) = some (TV.v (IV.vslice none (0 : Nat) (List.length (Prod.fst x_1)) (1 : Nat) (List.map (IV.int IntKind.u32) (Prod.fst x_1)))) ∧
                                                some (TV.v (IV.int IntKind.i64 (-1 : Int))) = some (TV.v (IV.int IntKind.i64 ((↑(Prod.snd (Prod.snd x_1)) : Int) - (1 : Int)))) ∧
                                                  some (TV.v (IV.vslice none (0 : Nat) (List.length raw) (1 : Nat) (List.map (IV.int IntKind.u32) raw))) =
                                                      some (TV.v (IV.vslice none (0 : Nat) (List.length raw) (1 : Nat) (List.map (IV.int IntKind.u32) raw))) ∧
                                                    some (TV.v (IV.int IntKind.i64 at_)) = some (TV.v (IV.int IntKind.i64 at_)) ∧
                                                      some
                                                            (TV.v
                                                              (IV.vslice none (1 : Nat) (4 : Nat) (1 : Nat)
                                                                [IV.vslice none (0 : Nat) (List.length raw) (1 : Nat) (List.map (IV.int IntKind.u32) raw),
                                                                  IV.vslice none (0 : Nat) (List.length (Prod.fst (encR (insK l (8 : Int))))) (1 : Nat) (List.map (IV.int IntKind.u32) (Prod.fst (encR (insK l (8 : Int))))),
                                                                  IV.vslice none (0 : Nat) (List.length (flipW (Prod.fst (encR (insK l (8 : Int)))) at_ cut)) (1 : Nat)
                                                                    (List.map (IV.int IntKind.u32) (flipW (Prod.fst (encR (insK l (8 : Int)))) at_ cut)),
                                                                  IV.vslice none (0 : Nat) (List.length (List.take (cutN (Prod.fst (encR (insK l (8 : Int)))) at_) (Prod.fst (encR (insK l (8 : Int)))))) (1 : Nat)
                                                                    (List.map (IV.int IntKind.u32) (List.take (cutN (Prod.fst (encR (insK l (8 : Int)))) at_) (Prod.fst (encR (insK l (8 : Int))))))])) =
                                                          some
                                                            (TV.v
                                                              (IV.vslice none (1 : Nat) (4 : Nat) (1 : Nat)
                                                                [IV.vslice none (0 : Nat) (List.length raw) (1 : Nat) (List.map (IV.int IntKind.u32) raw),
                                                                  IV.vslice none (0 : Nat) (List.length (Prod.fst (encR (insK l (8 : Int))))) (1 : Nat) (List.map (IV.int IntKind.u32) (Prod.fst (encR (insK l (8 : Int))))),
                                                                  IV.vslice none (0 : Nat) (List.length (flipW (Prod.fst (encR (insK l (8 : Int)))) at_ cut)) (1 : Nat)
                                                                    (List.map (IV.int IntKind.u32) (flipW (Prod.fst (encR (insK l (8 : Int)))) at_ cut)),
                                                                  IV.vslice none (0 : Nat) (List.length (List.take (cutN (Prod.fst (encR (insK l (8 : Int)))) at_) (Prod.fst (encR (insK l (8 : Int)))))) (1 : Nat)
                                                                    (List.map (IV.int IntKind.u32) (List.take (cutN (Prod.fst (encR (insK l (8 : Int)))) at_) (Prod.fst (encR (insK l (8 : Int))))))])) ∧
                                                        some (TV.v (IV.int IntKind.i64 (4 : Int))) = some (TV.v (IV.int IntKind.i64 (4 : Int))) ∧
                                                          some (TV.v (IV.int IntKind.i64 (↑x : Int))) = some (TV.v (IV.int IntKind.i64 (↑(Prod.fst (Prod.snd x_1)) : Int))) ∧
                                                            Heap.mk PT.nil (0 : Nat) = Heap.mk PT.nil (0 : Nat) ∧
                                                              ((∀ (a : Int), a ∈ Prod.fst x_1 → u32b a) ∧
                                                                  List.length (Prod.fst x_1) ≤ (60 : Nat) ∧ Prod.fst (Prod.snd x_1) < (4 : Nat) ∧ Prod.snd (Prod.snd x_1) ≤ List.length (Prod.fst x_1) + (2 : Nat)) ∧
                                                                ((4 : Nat) - Prod.fst (Prod.snd x_1)) * (100 : Nat) + (List.length (Prod.fst x_1) + (2 : Nat) - Prod.snd (Prod.snd x_1)) ≤ M) ∧
                                            ∀ (x_1 : List Int × Nat × Nat) (b : FF),
                                              (∀ (a : Int), a ∈ Prod.fst x_1 → u32b a) ∧ List.length (Prod.fst x_1) ≤ (60 : Nat) ∧ Prod.fst (Prod.snd x_1) < (4 : Nat) ∧ Prod.snd (Prod.snd x_1) ≤ List.length (Prod.fst x_1) + (2 : Nat) →
                                                ((4 : Nat) - Prod.fst (Prod.snd x_1)) * (100 : Nat) + (List.length (Prod.fst x_1) + (2 : Nat) - Prod.snd (Prod.snd x_1)) ≤ M →
                                                  brS (decide ((↑(Prod.snd (Prod.snd x_1)) : Int) - (1 : Int) ≤ (↑(List.length (Prod.fst x_1)) : Int)))
                                                    (∃ (w : List Int),
                                                      (List.length (Prod.fst x_1) = List.length w ∧ List.map (IV.int IntKind.u32) (Prod.fst x_1) = List.map (IV.int IntKind.u32) w) ∧
                                                        ((∀ (x : Int), x ∈ w → u32b x) ∧ (↑(List.length w) : Int) ≤ (9223372036854775807 : Int) ∧ (-9223372036854775808 : Int) ≤ (↑(Prod.snd (Prod.snd x_1)) : Int) - (1 : Int)) ∧
                                                          ∃ (w_1 : List Int),
                                                            (List.length (Prod.fst x_1) = List.length w_1 ∧ List.map (IV.int IntKind.u32) (Prod.fst x_1) = List.map (IV.int IntKind.u32) w_1) ∧
                                                              ((∀ (x : Int), x ∈ w_1 → u32b x) ∧ (↑(List.length w_1) : Int) ≤ (4611686018427387904 : Int) ∧ (-9223372036854775808 : Int) ≤ (↑(Prod.snd (Prod.snd x_1)) : Int) - (1 : Int)) ∧
                                                                brS
                                                                  (!(In.op (Prod.fst (decR w ((↑(Prod.snd (Prod.snd x_1)) : Int) - (1 : Int)))) == In.op (Prod.fst (decR w_1 ((↑(Prod.snd (Prod.snd x_1)) : Int) - (1 : Int)))) &&
                                                                      (In.a (Prod.fst (decR w ((↑(Prod.snd (Prod.snd x_1)) : Int) - (1 : Int)))) == In.a (Prod.fst (decR w_1 ((↑(Prod.snd (Prod.snd x_1)) : Int) - (1 : Int)))) &&
                                                                        (In.b (Prod.fst (decR w ((↑(Prod.snd (Prod.snd x_1)) : Int) - (1 : Int)))) == In.b (Prod.fst (decR w_1 ((↑(Prod.snd (Prod.snd x_1)) : Int) - (1 : Int)))) &&
                                                                          (In.c (Prod.fst (decR w ((↑(Prod.snd (Prod.snd x_1)) : Int) - (1 : Int)))) == In.c (Prod.fst (decR w_1 ((↑(Prod.snd (Prod.snd x_1)) : Int) - (1 : Int)))) &&
                                                                            (In.n (Prod.fst (decR w ((↑(Prod.snd (Prod.snd x_1)) : Int) - (1 : Int)))) == In.n (Prod.fst (decR w_1 ((↑(Prod.snd (Prod.snd x_1)) : Int) - (1 : Int)))) &&
                                                                              true))))))
                                                                  (Q (IV.bool false) h)
                                                                  (brS (Prod.fst (Prod.snd (decR w ((↑(Prod.snd (Prod.snd x_1)) : Int) - (1 : Int)))) != Prod.fst (Prod.snd (decR w_1 ((↑(Prod.snd (Prod.snd x_1)) : Int) - (1 : Int)))))
                                                                    (Q (IV.bool false) h)
                                                                    (brS (Prod.snd (Prod.snd (decR w ((↑(Prod.snd (Prod.snd x_1)) : Int) - (1 : Int)))) != Prod.snd (Prod.snd (decR w_1 ((↑(Prod.snd (Prod.snd x_1)) : Int) - (1 : Int)))))
                                                                      (Q (IV.bool false) h)
                                                                      (∃ (x : List Int × Nat × Nat),
                                                                        some (TV.v (IV.vslice none (0 : Nat) (List.length (Prod.fst x_1)) (1 : Nat) (List.map (IV.int IntKind.u32) (Prod.fst x_1)))) =
                                                                            some (TV.v (IV.vslice none (0 : Nat) (List.length (Prod.fst x)) (1 : Nat) (List.map (IV.int IntKind.u32) (Prod.fst x)))) ∧
                                                                          some (TV.v (IV.int IntKind.i64 (IntKind.wrap IntKind.i64 ((↑(Prod.snd (Prod.snd x_1)) : Int) - (1 : Int) + (1 : Int))))) =
                                                                              some (TV.v (IV.int IntKind.i64 ((↑(Prod.snd (Prod.snd x)) : Int) - (1 : Int)))) ∧
                                                                            some (TV.v (IV.vslice none (0 : Nat) (List.length raw) (1 : Nat) (List.map (IV.int IntKind.u32) raw))) =
                                                                                some (TV.v (IV.vslice none (0 : Nat) (List.length raw) (1 : Nat) (List.map (IV.int IntKind.u32) raw))) ∧
                                                                              some (TV.v (IV.int IntKind.i64 at_)) = some (TV.v (IV.int IntKind.i64 at_)) ∧
                                                                                some
                                                                                      (TV.v
                                                                                        (IV.vslice none (1 : Nat) (4 : Nat) (1 : Nat)
                                                                                          [IV.vslice none (0 : Nat) (List.length raw) (1 : Nat) (List.map (IV.int IntKind.u32) raw),
                                                                                            IV.vslice none (0 : Nat) (List.length (Prod.fst (encR (insK l (8 : Int))))) (1 : Nat)
                                                                                              (List.map (IV.int IntKind.u32) (Prod.fst (encR (insK l (8 : Int))))),
                                                                                            IV.vslice none (0 : Nat) (List.length (flipW (Prod.fst (encR (insK l (8 : Int)))) at_ cut)) (1 : Nat)
                                                                                              (List.map (IV.int IntKind.u32) (flipW (Prod.fst (encR (insK l (8 : Int)))) at_ cut)),
                                                                                            IV.vslice none (0 : Nat) (List.length (List.take (cutN (Prod.fst (encR (insK l (8 : Int)))) at_) (Prod.fst (encR (insK l (8 : Int)))))) (1 : Nat)
                                                                                              (List.map (IV.int IntKind.u32) (List.take (cutN (Prod.fst (encR (insK l (8 : Int)))) at_) (Prod.fst (encR (insK l (8 : Int))))))])) =
                                                                                    some
                                                                                      (TV.v
                                                                                        (IV.vslice none (1 : Nat) (4 : Nat) (1 : Nat)
                                                                                          [IV.vslice none (0 : Nat) (List.length raw) (1 : Nat) (List.map (IV.int IntKind.u32) raw),
                                                                                            IV.vslice none (0 : Nat) (List.length (Prod.fst (encR (insK l (8 : Int))))) (1 : Nat)
                                                                                              (List.map (IV.int IntKind.u32) (Prod.fst (encR (insK l (8 : Int))))),
                                                                                            IV.vslice none (0 : Nat) (List.length (flipW (Prod.fst (encR (insK l (8 : Int)))) at_ cut)) (1 : Nat)
                                                                                              (List.map (IV.int IntKind.u32) (flipW (Prod.fst (encR (insK l (8 : Int)))) at_ cut)),
                                                                                            IV.vslice none (0 : Nat) (List.length (List.take (cutN (Prod.fst (encR (insK l (8 : Int)))) at_) (Prod.fst (encR (insK l (8 : Int)))))) (1 : Nat)
                                                                                              (List.map (IV.int IntKind.u32) (List.take (cutN (Prod.fst (encR (insK l (8 : Int)))) at_) (Prod.fst (encR (insK l (8 : Int))))))])) ∧
                                                                                  some (TV.v (IV.int IntKind.i64 (4 : Int))) = some (TV.v (IV.int IntKind.i64 (4 : Int))) ∧
                                                                                    some (TV.v (IV.int IntKind.i64 (↑(Prod.fst (Prod.snd x_1)) : Int))) = some (TV.v (IV.int IntKind.i64 (↑(Prod.fst (Prod.snd x)) : Int))) ∧
                                                                                      Heap.mk PT.nil (0 : Nat) = Heap.mk PT.nil (0 : Nat) ∧
                                                                                        ((∀ (a : Int), a ∈ Prod.fst x → u32b a) ∧
                                                                                            List.length (Prod.fst x) ≤ (60 : Nat) ∧ Prod.fst (Prod.snd x) < (4 : Nat) ∧ Prod.snd (Prod.snd x) ≤ List.length (Prod.fst x) + (2 : Nat)) ∧
                                                                                          ((4 : Nat) - Prod.fst (Prod.snd x)) * (100 : Nat) + (List.length (Prod.fst x) + (2 : Nat) - Prod.snd (Prod.snd x)) <
                                                                                            ((4 : Nat) - Prod.fst (Prod.snd x_1)) * (100 : Nat) + (List.length (Prod.fst x_1) + (2 : Nat) - Prod.snd (Prod.snd x_1))))))
                                                    (∃ (w : List Int),
                                                      (List.length (Prod.fst x_1) = List.length w ∧ List.map (IV.int IntKind.u32) (Prod.fst x_1) = List.map (IV.int IntKind.u32) w) ∧
                                                        ((∀ (x : Int), x ∈ w → u32b x) ∧ List.length w ≤ (1000000 : Nat)) ∧
                                                          ∃ (w_1 : List Int),
                                                            (List.length (Prod.fst x_1) = List.length w_1 ∧ List.map (IV.int IntKind.u32) (Prod.fst x_1) = List.map (IV.int IntKind.u32) w_1) ∧
                                                              ((∀ (x : Int), x ∈ w_1 → u32b x) ∧ List.length w_1 ≤ (1000000 : Nat)) ∧
                                                                brS (Prod.snd (Prod.snd (decA w)) != Prod.snd (Prod.snd (decA w_1))) (Q (IV.bool false) h)
                                                                  (∃ (l_3 : List In),
                                                                    ∃ (m : List In),
                                                                      (List.length (Prod.fst (decA w)) = List.length l_3 ∧ List.flatMap cIns (Prod.fst (decA w)) = List.flatMap cIns l_3) ∧
                                                                        (List.length (Prod.fst (decA w_1)) = List.length m ∧ List.flatMap cIns (Prod.fst (decA w_1)) = List.flatMap cIns m) ∧
                                                                          List.length l_3 < (4611686018427387904 : Nat) ∧
                                                                            brS (!decide (l_3 = m)) (Q (IV.bool false) h)
                                                                              (∃ (l_4 : List Int),
                                                                                ∃ (m : List Int),
                                                                                  (List.length (Prod.fst (Prod.snd (decA w))) = List.length l_4 ∧
                                                                                      List.map (IV.int IntKind.i64) (Prod.fst (Prod.snd (decA w))) = List.map (IV.int IntKind.i64) l_4) ∧
                                                                                    (List.length (Prod.fst (Prod.snd (decA w_1))) = List.length m ∧
                                                                                        List.map (IV.int IntKind.i64) (Prod.fst (Prod.snd (decA w_1))) = List.map (IV.int IntKind.i64) m) ∧
                                                                                      List.length l_4 < (4611686018427387904 : Nat) ∧
                                                                                        brS (!l_4 == m) (Q (IV.bool false) h)
                                                                                          (∃ (x_2 : Nat),
                                                                                            some (TV.v (IV.vslice none (0 : Nat) (List.length raw) (1 : Nat) (List.map (IV.int IntKind.u32) raw))) =
                                                                                                some (TV.v (IV.vslice none (0 : Nat) (List.length raw) (1 : Nat) (List.map (IV.int IntKind.u32) raw))) ∧
                                                                                              some (TV.v (IV.int IntKind.i64 at_)) = some (TV.v (IV.int IntKind.i64 at_)) ∧
                                                                                                some
                                                                                                      (TV.v
                                                                                                        (IV.vslice none (1 : Nat) (4 : Nat) (1 : Nat)
                                                                                                          [IV.vslice none (0 : Nat) (List.length raw) (1 : Nat) (List.map (IV.int IntKind.u32) raw),
                                                                                                            IV.vslice none (0 : Nat) (List.length (Prod.fst (encR (insK l (8 : Int))))) (1 : Nat)
                                                                                                              (List.map (IV.int IntKind.u32) (Prod.fst (encR (insK l (8 : Int))))),
                                                                                                            IV.vslice none (0 : Nat) (List.length (flipW (Prod.fst (encR (insK l (8 : Int)))) at_ cut)) (1 : Nat)
                                                                                                              (List.map (IV.int IntKind.u32) (flipW (Prod.fst (encR (insK l (8 : Int)))) at_ cut)),
                                                                                                            IV.vslice none (0 : Nat)
                                                                                                              (List.length (List.take (cutN (Prod.fst (encR (insK l (8 : Int)))) at_) (Prod.fst (encR (insK l (8 : Int)))))) (1 : Nat)
                                                                                                              (List.map (IV.int IntKind.u32)
                                                                                                                (List.take (cutN (Prod.fst (encR (insK l (8 : Int)))) at_) (Prod.fst (encR (insK l (8 : Int))))))])) =
                                                                                                    some
                                                                                                      (TV.v
                                                                                                        (IV.vslice none (1 : Nat) (4 : Nat) (1 : Nat)
                                                                                                          [IV.vslice none (0 : Nat) (List.length raw) (1 : Nat) (List.map (IV.int IntKind.u32) raw),
                                                                                                            IV.vslice none (0 : Nat) (List.length (Prod.fst (encR (insK l (8 : Int))))) (1 : Nat)
                                                                                                              (List.map (IV.int IntKind.u32) (Prod.fst (encR (insK l (8 : Int))))),
                                                                                                            IV.vslice none (0 : Nat) (List.length (flipW (Prod.fst (encR (insK l (8 : Int)))) at_ cut)) (1 : Nat)
                                                                                                              (List.map (IV.int IntKind.u32) (flipW (Prod.fst (encR (insK l (8 : Int)))) at_ cut)),
                                                                                                            IV.vslice none (0 : Nat)
                                                                                                              (List.length (List.take (cutN (Prod.fst (encR (insK l (8 : Int)))) at_) (Prod.fst (encR (insK l (8 : Int)))))) (1 : Nat)
                                                                                                              (List.map (IV.int IntKind.u32)
                                                                                                                (List.take (cutN (Prod.fst (encR (insK l (8 : Int)))) at_) (Prod.fst (encR (insK l (8 : Int))))))])) ∧
                                                                                                  some (TV.v (IV.int IntKind.i64 (4 : Int))) = some (TV.v (IV.int IntKind.i64 (4 : Int))) ∧
                                                                                                    some (TV.v (IV.int IntKind.i64 (IntKind.wrap IntKind.i64 ((↑(Prod.fst (Prod.snd x_1)) : Int) + (1 : Int))))) =
                                                                                                        some (TV.v (IV.int IntKind.i64 (↑x_2 : Int))) ∧
                                                                                                      Heap.mk PT.nil (0 : Nat) = Heap.mk PT.nil (0 : Nat) ∧ Nat.le x_2 (4 : Nat) ∧ (4 : Nat) - x_2 < (4 : Nat) - x)))))))
                                  (∃ (w : List Int),
                                    (List.length raw = List.length w ∧ List.map (IV.int IntKind.u32) raw = List.map (IV.int IntKind.u32) w) ∧
                                      ((∀ (x : Int), x ∈ w → u32b x) ∧ (↑(List.length w) : Int) ≤ (9223372036854775807 : Int) ∧ (-9223372036854775808 : Int) ≤ at_) ∧
                                        ∃ (w_1 : List Int),
                                          (List.length raw = List.length w_1 ∧ List.map (IV.int IntKind.u32) raw = List.map (IV.int IntKind.u32) w_1) ∧
                                            ((∀ (x : Int), x ∈ w_1 → u32b x) ∧ (↑(List.length w_1) : Int) ≤ (4611686018427387904 : Int) ∧ (-9223372036854775808 : Int) ≤ at_) ∧
                                              brS (Prod.snd (Prod.snd (decR w at_)) == Prod.snd (Prod.snd (decR w_1 at_))) (Q (IV.bool true) h) (Q (IV.bool false) h))))) := by kernel_rfl
set_option maxHeartbeats 4000000 in
theorem sDecL : ∀ xs h Q, kDecL xs h Q → CallW env 7 xs h Q := by
  intro xs h Q hk
  unfold kDecL at hk
  split at hk
  · rename_i e1 n1 c1 e2 n2 c2 at_ cut
    obtain ⟨raw, l, ⟨rfl, rfl⟩, ⟨rfl, rfl⟩, hb, hk⟩ := hk
    refine dF_sound (okRTripL) (mp_eq (vDecL raw l e1 e2 at_ cut h Q) ?_)
    obtain ⟨hrb, hrl, hi64, hl, hat⟩ := hb
    have hlen := insK_len l 8
    have hEl := encR_len (insK l 8)
    have h8 : (insK l 8).length ≤ 8 := by simpa using hlen
    have hE : (encR (insK l 8)).1.length ≤ 24 := by omega
    have hEb : ∀ x ∈ (encR (insK l 8)).1, u32b x := encR_b
    refine needS_intro (by simp only [pureL, pureB, pureL_ints, Bool.and_true]) ⟨l, ⟨(by first | rfl | trivial), (by first | rfl | trivial)⟩, ⟨hl, by omega⟩, insK l 8, ⟨(by first | rfl | trivial), (by first | rfl | trivial)⟩, by omega, (encR (insK l 8)).1, ⟨(by first | rfl | trivial), (by first | rfl | trivial)⟩, by omega, by omega, ?_⟩
    have hc0 : 0 ≤ (if at_ % 9 < ((encR (insK l 8)).1.length : Int) then at_ % 9 else ((encR (insK l 8)).1.length : Int)) ∧ (if at_ % 9 < ((encR (insK l 8)).1.length : Int) then at_ % 9 else ((encR (insK l 8)).1.length : Int)) ≤ ((encR (insK l 8)).1.length : Int) := by
      split <;> omega
    refine needS_intro (by simp only [Bool.true_and, Bool.and_eq_true, decide_eq_true_eq]; exact hc0) ⟨⟨0, (by first | rfl | trivial), (by first | rfl | trivial), ?_, (by first | rfl | trivial), (by first | rfl | trivial), (by first | rfl | trivial), (show 0 ≤ 4 by omega), trivial⟩, fun x _ hx => brS_intro (fun c1 => ?_) (fun c1 => ?_)⟩
    · have e1 : (encR (insK l 8)).1.take (cutN (encR (insK l 8)).1 at_) = (encR (insK l 8)).1.take (if at_ % 9 < ((encR (insK l 8)).1.length : Int) then at_ % 9 else ((encR (insK l 8)).1.length : Int)).toNat := rfl
      rw [e1]
      generalize (if at_ % 9 < ((encR (insK l 8)).1.length : Int) then at_ % 9 else ((encR (insK l 8)).1.length : Int)) = z at *
      simp only [Nat.sub_zero, Nat.mul_one, List.drop_zero, List.map_take, List.length_take]
      rw [Nat.min_eq_left (by omega)]
    · rw [decide_eq_true_eq] at c1
      refine needS_intro (by simp; omega) (ldVS_n (i := x) (by simp; omega) (by simp) ?_ fun ws hw hwl => ?_)
      · intro c hc
        simp only [List.mem_cons, List.not_mem_nil, or_false] at hc
        rcases hc with rfl | rfl | rfl | rfl
        · exact ⟨raw, rfl, hrb, hrl⟩
        · exact ⟨_, rfl, hEb, by omega⟩
        · exact ⟨_, rfl, flipW_b hEb, by rw [flipW_len]; omega⟩
        · exact ⟨_, rfl, fun a ha => hEb a (List.mem_of_mem_take ha), by rw [List.length_take]; omega⟩
      refine brS_intro (fun c2 => ?_) (fun c2 => ?_)
      · rw [decide_eq_true_eq] at c2
        refine needS_intro (by simp; omega) ?_
        have ht : (ws.take 60).length = 60 := by simp; omega
        refine ⟨(4 - x) * 100 + 62, ⟨(ws.take 60, x, 0), by simp only [Nat.zero_sub, List.map_take, ht], (by first | rfl | trivial), (by first | rfl | trivial), (by first | rfl | trivial), (by first | rfl | trivial), (by first | rfl | trivial), (by first | rfl | trivial), (by first | rfl | trivial), ⟨fun a ha => hw a (List.mem_of_mem_take ha), by simp only; simp; omega, (show x < 4 from by omega), (show 0 ≤ _ by omega)⟩, (by simp only; simp; omega)⟩, fun y _ hy hM => ?_⟩
        obtain ⟨v, k, j⟩ := y
        obtain ⟨hv, hvl, hk4, hj⟩ := hy
        simp only at hv hvl hk4 hj hM ⊢
        refine brS_intro (fun c3 => ?_) (fun c3 => ?_)
        · rw [decide_eq_true_eq] at c3
          refine ⟨v, ⟨(by first | rfl | trivial), (by first | rfl | trivial)⟩, ⟨hv, by omega, by omega⟩, v, ⟨(by first | rfl | trivial), (by first | rfl | trivial)⟩, ⟨hv, by omega, by omega⟩, ?_⟩
          simp only [beq_self_eq_true, bne_self_eq_false, Bool.and_self, Bool.not_true, brS_f]
          refine ⟨(v, k, j + 1), (by first | rfl | trivial), by simp only; rw [IntWalk.i64_in _ (by omega)]; congr 2; congr 1; omega, (by first | rfl | trivial), (by first | rfl | trivial), (by first | rfl | trivial), (by first | rfl | trivial), (by first | rfl | trivial), (by first | rfl | trivial), ⟨hv, hvl, hk4, (show j + 1 ≤ v.length + 2 by omega)⟩, by simp only; omega⟩
        · have hd := decA_len v
          refine ⟨v, ⟨(by first | rfl | trivial), (by first | rfl | trivial)⟩, ⟨hv, by omega⟩, v, ⟨(by first | rfl | trivial), (by first | rfl | trivial)⟩, ⟨hv, by omega⟩, ?_⟩
          simp only [bne_self_eq_false, brS_f]
          refine ⟨(decA v).1, (decA v).1, ⟨(by first | rfl | trivial), (by first | rfl | trivial)⟩, ⟨(by first | rfl | trivial), (by first | rfl | trivial)⟩, by omega, ?_⟩
          simp only [decide_true, Bool.not_true, brS_f]
          refine ⟨(decA v).2.1, (decA v).2.1, ⟨(by first | rfl | trivial), (by first | rfl | trivial)⟩, ⟨(by first | rfl | trivial), (by first | rfl | trivial)⟩, by omega, ?_⟩
          simp only [beq_self_eq_true, Bool.not_true, brS_f]
          exact ⟨k + 1, (by first | rfl | trivial), (by first | rfl | trivial), (by first | rfl | trivial), (by first | rfl | trivial), by rw [IntWalk.i64_in _ (by omega)]; rfl, (by first | rfl | trivial), (show k + 1 ≤ 4 by omega), by omega⟩
      · rw [decide_eq_false_iff_not] at c2
        refine ⟨(4 - x) * 100 + 62, ⟨(ws, x, 0), (by first | rfl | trivial), (by first | rfl | trivial), (by first | rfl | trivial), (by first | rfl | trivial), (by first | rfl | trivial), (by first | rfl | trivial), (by first | rfl | trivial), (by first | rfl | trivial), ⟨hw, by simp only; omega, (show x < 4 from by omega), (show 0 ≤ _ by omega)⟩, (by simp only; omega)⟩, fun y _ hy hM => ?_⟩
        obtain ⟨v, k, j⟩ := y
        obtain ⟨hv, hvl, hk4, hj⟩ := hy
        simp only at hv hvl hk4 hj hM ⊢
        refine brS_intro (fun c3 => ?_) (fun c3 => ?_)
        · rw [decide_eq_true_eq] at c3
          refine ⟨v, ⟨(by first | rfl | trivial), (by first | rfl | trivial)⟩, ⟨hv, by omega, by omega⟩, v, ⟨(by first | rfl | trivial), (by first | rfl | trivial)⟩, ⟨hv, by omega, by omega⟩, ?_⟩
          simp only [beq_self_eq_true, bne_self_eq_false, Bool.and_self, Bool.not_true, brS_f]
          refine ⟨(v, k, j + 1), (by first | rfl | trivial), by simp only; rw [IntWalk.i64_in _ (by omega)]; congr 2; congr 1; omega, (by first | rfl | trivial), (by first | rfl | trivial), (by first | rfl | trivial), (by first | rfl | trivial), (by first | rfl | trivial), (by first | rfl | trivial), ⟨hv, hvl, hk4, (show j + 1 ≤ v.length + 2 by omega)⟩, by simp only; omega⟩
        · have hd := decA_len v
          refine ⟨v, ⟨(by first | rfl | trivial), (by first | rfl | trivial)⟩, ⟨hv, by omega⟩, v, ⟨(by first | rfl | trivial), (by first | rfl | trivial)⟩, ⟨hv, by omega⟩, ?_⟩
          simp only [bne_self_eq_false, brS_f]
          refine ⟨(decA v).1, (decA v).1, ⟨(by first | rfl | trivial), (by first | rfl | trivial)⟩, ⟨(by first | rfl | trivial), (by first | rfl | trivial)⟩, by omega, ?_⟩
          simp only [decide_true, Bool.not_true, brS_f]
          refine ⟨(decA v).2.1, (decA v).2.1, ⟨(by first | rfl | trivial), (by first | rfl | trivial)⟩, ⟨(by first | rfl | trivial), (by first | rfl | trivial)⟩, by omega, ?_⟩
          simp only [beq_self_eq_true, Bool.not_true, brS_f]
          exact ⟨k + 1, (by first | rfl | trivial), (by first | rfl | trivial), (by first | rfl | trivial), (by first | rfl | trivial), by rw [IntWalk.i64_in _ (by omega)]; rfl, (by first | rfl | trivial), (show k + 1 ≤ 4 by omega), by omega⟩
    · refine ⟨raw, ⟨(by first | rfl | trivial), (by first | rfl | trivial)⟩, ⟨hrb, by omega, hat⟩, raw, ⟨(by first | rfl | trivial), (by first | rfl | trivial)⟩, ⟨hrb, by omega, hat⟩, ?_⟩
      simp only [beq_self_eq_true, brS_t]
      exact hk
  · exact hk.elim
def cDecL := addC 7 kDecL cRTripL
theorem okDecL : Sound env cDecL := sound_add sDecL (okRTripL)

end Go.Proofs.YtiecmbfcgjaflaaDoor
