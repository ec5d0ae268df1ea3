/-
  Machine words: the statement EncodingEncode.
  Conditions: none.
-/
import Derived.Test.YtiecmbfcgjaflaaDoorI30
import Derived.KernelRfl
set_option linter.unusedVariables false
set_option linter.unusedSimpArgs false
namespace Go.Pv
open Go.M29
/-- a cell that is a row of instructions -/
def instrsC (c : IV) : Prop := ∃ (id : Option Nat) (e : Nat) (xs : List In), c = .vslice id e xs.length 5 (xs.flatMap cIns) ∧ xs.length ≤ 3600000000000
theorem ldVS_i {C : List IV} {i o : Nat} {K : Option Nat → Nat → Nat → List IV → Prop} (h : i < C.length) (ho : o = i) (hc : ∀ c ∈ C, instrsC c)
    (hk : ∀ id e (xs : List In), xs.length ≤ 3600000000000 → K id e xs.length (xs.flatMap cIns)) : ldVS 5 C o K := by
  subst ho
  unfold ldVS
  rw [List.getElem?_eq_getElem h]
  obtain ⟨id, e, xs, h1, h2⟩ := hc _ (List.getElem_mem h)
  rw [h1]
  exact hk id e xs h2
end Go.Pv
namespace Go.Proofs.YtiecmbfcgjaflaaDoor
open Go.Pv Go.M29 Go.M30
def enInv : Inv' := atX (Nat × List IV × Heap) (fun x => [(20, .v (.vslice none 1 3 1 x.2.1)), (21, .v (.int .i64 3)), (22, .v (.int .i64 x.1))]) (fun _ => []) (fun x => x.2.2) (fun x => (x.1 ≤ 3 ∧ x.2.1.length = 3) ∧ ∀ c ∈ x.2.1, instrsC c) (fun x => 3 - x.1)
def kEncL (xs : List IV) (h : Heap) (K : IV → Heap → Prop) : Prop := match xs with
  | [.vslice none e1 n1 5 c1, .vslice none e2 n2 1 c2] => ∃ (raw : List In) (l : List Int), (n1 = raw.length ∧ c1 = raw.flatMap cIns) ∧ (n2 = l.length ∧ c2 = l.map (IV.int .i64)) ∧ (raw.length * 40 ≤ 140737488351232 ∧ l.length < 4611686018427387904) ∧ K (.bool true) h
  | _ => False
set_option maxRecDepth 100000 in
theorem vEncL (raw : List In) (e1 : Nat) (l : List Int) (e2 : Nat) (h : Heap) (Q : IV → Heap → Prop) : dF (stdS cSameInstrs) env 4 noU (ic1 4 enInv) (icS (ic1 4 enInv)) [.vslice none e1 (raw).length 5 ((raw).flatMap cIns), .vslice none e2 (l).length 1 ((l).map (IV.int .i64))] h Q = (
  needS (pureL [IV.vslice none (0 : Nat) (List.length raw) (5 : Nat) (List.flatMap cIns raw), IV.vslice none (0 : Nat) (List.length l) (1 : Nat) (List.map (IV.int IntKind.i64) l)])
    ((∃ (l_1 : List Int),
        (List.length l = List.length l_1 ∧ List.map (IV.int IntKind.i64) l = List.map (IV.int IntKind.i64) l_1) ∧
          (List.length l_1 < (4611686018427387904 : Nat) ∧ (12 : Int) ≤ (1000000 : Int)) ∧
            brS (Nat.beq (List.length (insK l_1 (12 : Int))) (0 : Nat))
                (brS (Nat.beq (List.length raw) (0 : Nat))
                  (∃ (x : Nat × List IV × Heap),
                    some
                          (TV.v
                            (IV.vslice none (1 : Nat) (3 : Nat) (1 : Nat)
                              [IV.vslice none (0 : Nat) (List.length raw) (5 : Nat) (List.flatMap cIns raw), IV.vslice none (0 : Nat) (List.length (insK l_1 (12 : Int))) (5 : Nat) (List.flatMap cIns (insK l_1 (12 : Int))),
                                IV.vslice none (0 : Nat) (0 : Nat) (5 : Nat) []])) =
                        some (TV.v (IV.vslice none (1 : Nat) (3 : Nat) (1 : Nat) (Prod.fst (Prod.snd x)))) ∧
                      some (TV.v (IV.int IntKind.i64 (3 : Int))) = some (TV.v (IV.int IntKind.i64 (3 : Int))) ∧
                        some (TV.v (IV.int IntKind.i64 (0 : Int))) = some (TV.v (IV.int IntKind.i64 (↑(Prod.fst x) : Int))) ∧
                          Heap.mk PT.nil (0 : Nat) = Prod.snd (Prod.snd x) ∧
                            ((Prod.fst x ≤ (3 : Nat) ∧ List.length (Prod.fst (Prod.snd x)) = (3 : Nat)) ∧
                                ∀ (c : IV), c ∈ Prod.fst (Prod.snd x) → ∃ (id : Option Nat), ∃ (e : Nat), ∃ (xs : List In), c = IV.vslice id e (List.length xs) (5 : Nat) (List.flatMap cIns xs) ∧ List.length xs ≤ (3600000000000 : Nat)) ∧
                              True)
                  (needS (Nat.ble (List.length raw * (40 : Nat)) (140737488355328 : Nat))
                    (∃ (x : Nat × List IV × Heap),
                      some
                            (TV.v
                              (IV.vslice none (1 : Nat) (3 : Nat) (1 : Nat)
                                [IV.vslice none (0 : Nat) (List.length raw) (5 : Nat) (List.flatMap cIns raw), IV.vslice none (0 : Nat) (List.length (insK l_1 (12 : Int))) (5 : Nat) (List.flatMap cIns (insK l_1 (12 : Int))),
                                  IV.vslice none (0 : Nat) (List.length raw) (5 : Nat) (List.flatMap cIns raw)])) =
                          some (TV.v (IV.vslice none (1 : Nat) (3 : Nat) (1 : Nat) (Prod.fst (Prod.snd x)))) ∧
                        some (TV.v (IV.int IntKind.i64 (3 : Int))) = some (TV.v (IV.int IntKind.i64 (3 : Int))) ∧
                          some (TV.v (IV.int IntKind.i64 (0 : Int))) = some (TV.v (IV.int IntKind.i64 (↑(Prod.fst x) : Int))) ∧
                            Heap.mk (PT.node PT.nil (some (IObj.tip (List.length raw * (5 : Nat)))) PT.nil) ((0 : Nat) + (1 : Nat)) = Prod.snd (Prod.snd x) ∧
                              ((Prod.fst x ≤ (3 : Nat) ∧ List.length (Prod.fst (Prod.snd x)) = (3 : Nat)) ∧
                                  ∀ (c : IV), c ∈ Prod.fst (Prod.snd x) → ∃ (id : Option Nat), ∃ (e : Nat), ∃ (xs : List In), c = IV.vslice id e (List.length xs) (5 : Nat) (List.flatMap cIns xs) ∧ List.length xs ≤ (3600000000000 : Nat)) ∧
                                True)))
                (needS (Nat.ble (List.length (insK l_1 (12 : Int)) * (40 : Nat)) (140737488355328 : Nat))
                  (brS (Nat.beq (List.length raw) (0 : Nat))
                    (∃ (x : Nat × List IV × Heap),
                      some
                            (TV.v
                              (IV.vslice none (1 : Nat) (3 : Nat) (1 : Nat)
                                [IV.vslice none (0 : Nat) (List.length raw) (5 : Nat) (List.flatMap cIns raw), IV.vslice none (0 : Nat) (List.length (insK l_1 (12 : Int))) (5 : Nat) (List.flatMap cIns (insK l_1 (12 : Int))),
                                  IV.vslice none (0 : Nat) (List.length (insK l_1 (12 : Int))) (5 : Nat) (List.flatMap cIns (insK l_1 (12 : Int)))])) =
                          some (TV.v (IV.vslice none (1 : Nat) (3 : Nat) (1 : Nat) (Prod.fst (Prod.snd x)))) ∧
                        some (TV.v (IV.int IntKind.i64 (3 : Int))) = some (TV.v (IV.int IntKind.i64 (3 : Int))) ∧
                          some (TV.v (IV.int IntKind.i64 (0 : Int))) = some (TV.v (IV.int IntKind.i64 (↑(Prod.fst x) : Int))) ∧
                            Heap.mk (PT.node PT.nil (some (IObj.tip (List.length (insK l_1 (12 : Int)) * (5 : Nat)))) PT.nil) ((0 : Nat) + (1 : Nat)) = Prod.snd (Prod.snd x) ∧
                              ((Prod.fst x ≤ (3 : Nat) ∧ List.length (Prod.fst (Prod.snd x)) = (3 : Nat)) ∧
                                  ∀ (c : IV), c ∈ Prod.fst (Prod.snd x) → ∃ (id : Option Nat), ∃ (e : Nat), ∃ (xs : List In), c = IV.vslice id e (List.length xs) (5 : Nat) (List.flatMap cIns xs) ∧ List.length xs ≤ (3600000000000 : Nat)) ∧
                                True)
                    (needS (Nat.beq (List.length (insK l_1 (12 : Int)) * (5 : Nat)) (List.length (insK l_1 (12 : Int)) * (5 : Nat)) && Nat.ble ((List.length (insK l_1 (12 : Int)) + List.length raw) * (40 : Nat)) (140737488355328 : Nat))
                      (∃ (x : Nat × List IV × Heap),
                        some
                              (TV.v
                                (IV.vslice none (1 : Nat) (3 : Nat) (1 : Nat)
                                  [IV.vslice none (0 : Nat) (List.length raw) (5 : Nat) (List.flatMap cIns raw), IV.vslice none (0 : Nat) (List.length (insK l_1 (12 : Int))) (5 : Nat) (List.flatMap cIns (insK l_1 (12 : Int))),
                                    IV.vslice none (0 : Nat) (List.length (insK l_1 (12 : Int)) + List.length raw) (5 : Nat) (List.flatMap cIns (insK l_1 (12 : Int)) ++ List.flatMap cIns raw)])) =
                            some (TV.v (IV.vslice none (1 : Nat) (3 : Nat) (1 : Nat) (Prod.fst (Prod.snd x)))) ∧
                          some (TV.v (IV.int IntKind.i64 (3 : Int))) = some (TV.v (IV.int IntKind.i64 (3 : Int))) ∧
                            some (TV.v (IV.int IntKind.i64 (0 : Int))) = some (TV.v (IV.int IntKind.i64 (↑(Prod.fst x) : Int))) ∧
                              Heap.mk (PT.node PT.nil (some (IObj.tip (List.length (insK l_1 (12 : Int)) * (5 : Nat) + List.length raw * (5 : Nat)))) PT.nil) ((0 : Nat) + (1 : Nat)) = Prod.snd (Prod.snd x) ∧
                                ((Prod.fst x ≤ (3 : Nat) ∧ List.length (Prod.fst (Prod.snd x)) = (3 : Nat)) ∧
                                    ∀ (c : IV), c ∈ Prod.fst (Prod.snd x) → ∃ (id : Option Nat), ∃ (e : Nat), ∃ (xs : List In), c = IV.vslice id e (List.length xs) (5 : Nat) (List.flatMap cIns xs) ∧ List.length xs ≤ (3600000000000 : Nat)) ∧
                                  True)))) ∧
              ∀ (x : Nat × List IV × Heap) (b : FF),
                ((Prod.fst x ≤ (3 : Nat) ∧ List.length (Prod.fst (Prod.snd x)) = (3 : Nat)) ∧ ∀ (c : IV), c ∈ Prod.fst (Prod.snd x) → instrsC c) →
                  (∃ (x_1 : Nat × List IV × Heap),
                      some (TV.v (IV.vslice none (1 : Nat) (3 : Nat) (1 : Nat) (Prod.fst (Prod.snd x)))) = some (TV.v (IV.vslice none (1 : Nat) (3 : Nat) (1 : Nat) (Prod.fst (Prod.snd x_1)))) ∧
                        some (TV.v (IV.int IntKind.i64 (3 : Int))) = some (TV.v (IV.int IntKind.i64 (3 : Int))) ∧
                          some (TV.v (IV.int IntKind.i64 (↑(Prod.fst x) : Int))) = some (TV.v (IV.int IntKind.i64 (↑(Prod.fst x_1) : Int))) ∧
                            Prod.snd (Prod.snd x) = Prod.snd (Prod.snd x_1) ∧
                              ((Prod.fst x_1 ≤ (3 : Nat) ∧ List.length (Prod.fst (Prod.snd x_1)) = (3 : Nat)) ∧
                                  ∀ (c : IV), c ∈ Prod.fst (Prod.snd x_1) → ∃ (id : Option Nat), ∃ (e : Nat), ∃ (xs : List In), c = IV.vslice id e (List.length xs) (5 : Nat) (List.flatMap cIns xs) ∧ List.length xs ≤ (3600000000000 : Nat)) ∧
                                True) ∧
                    ∀ (x : Nat × List IV × Heap) (b : FF),
                      ((Prod.fst x ≤ (3 : Nat) ∧ List.length (Prod.fst (Prod.snd x)) = (3 : Nat)) ∧ ∀ (c : IV), c ∈ Prod.fst (Prod.snd x) → instrsC c) →
                        brS (decide ((↑(Prod.fst x) : Int) < (3 : Int)))
                          (needS (decide ((0 : Int) ≤ (↑(Prod.fst x) : Int)) && decide ((↑(Prod.fst x) : Int) < (3 : Int)))
                            (ldVS (5 : Nat) (Prod.fst (Prod.snd x)) (Int.toNat (↑(Prod.fst x) : Int) * (1 : Nat)) fun (i0 : Option Nat) (e1 l2 : Nat) (c3 : List IV) =>
                              ∃ (l : List In),
                                (l2 = List.length l ∧ c3 = List.flatMap cIns l) ∧
                                  List.length l ≤ (3600000000000 : Nat) ∧
                                    ∃ (l_2 : List In),
                                      (l2 = List.length l_2 ∧ c3 = List.flatMap cIns l_2) ∧
                                        List.length l_2 ≤ (3600000000000 : Nat) ∧
                                          brS (Prod.snd (encR l) != Prod.snd (encR l_2)) (Q (IV.bool false) h)
                                            (∃ (l_3 : List Int),
                                              ∃ (m : List Int),
                                                (List.length (Prod.fst (encR l)) = List.length l_3 ∧ List.map (IV.int IntKind.u32) (Prod.fst (encR l)) = List.map (IV.int IntKind.u32) l_3) ∧
                                                  (List.length (Prod.fst (encR l_2)) = List.length m ∧ List.map (IV.int IntKind.u32) (Prod.fst (encR l_2)) = List.map (IV.int IntKind.u32) m) ∧
                                                    List.length l_3 < (4611686018427387904 : Nat) ∧
                                                      brS (!l_3 == m) (Q (IV.bool false) h)
                                                        (∃ (x_1 : Nat × List IV × Heap),
                                                          some (TV.v (IV.vslice none (1 : Nat) (3 : Nat) (1 : Nat) (Prod.fst (Prod.snd x)))) = some (TV.v (IV.vslice none (1 : Nat) (3 : Nat) (1 : Nat) (Prod.fst (Prod.snd x_1)))) ∧
                                                            some (TV.v (IV.int IntKind.i64 (3 : Int))) = some (TV.v (IV.int IntKind.i64 (3 : Int))) ∧
                                                              some (TV.v (IV.int IntKind.i64 (IntKind.wrap IntKind.i64 ((↑(Prod.fst x) : Int) + (1 : Int))))) = some (TV.v (IV.int IntKind.i64 (↑(Prod.fst x_1) : Int))) ∧
                                                                Prod.snd (Prod.snd x) = Prod.snd (Prod.snd x_1) ∧
                                                                  ((Prod.fst x_1 ≤ (3 : Nat) ∧ List.length (Prod.fst (Prod.snd x_1)) = (3 : Nat)) ∧
                                                                      ∀ (c : IV),
                                                                        c ∈ Prod.fst (Prod.snd x_1) →
                                                                          ∃ (id : Option Nat), ∃ (e : Nat), ∃ (xs : List In), c = IV.vslice id e (List.length xs) (5 : Nat) (List.flatMap cIns xs) ∧ List.length xs ≤ (3600000000000 : Nat)) ∧
                                                                    (3 : Nat) - Prod.fst x_1 < (3 : Nat) - Prod.fst x))))
                          (Q (IV.bool true) h)) ∧
      True)) := by kernel_rfl
set_option maxHeartbeats 4000000 in
theorem sEncL : ∀ xs h Q, kEncL xs h Q → CallW env 4 xs h Q := by
  intro xs h Q hk
  unfold kEncL at hk
  split at hk
  · rename_i e1 n1 c1 e2 n2 c2
    obtain ⟨raw, l, ⟨rfl, rfl⟩, ⟨rfl, rfl⟩, ⟨hb, hl⟩, hk⟩ := hk
    refine dF_sound (okSameInstrs) (mp_eq (vEncL raw e1 l e2 h Q) ?_)
    have hk12 := insK_len l 12
    have hr : raw.length ≤ 3518437208780 := by omega
    refine needS_intro (by simp only [pureL, pureB, pureL_ints, pureL_in, Bool.and_true]) ⟨⟨l, ⟨rfl, rfl⟩, ⟨hl, by omega⟩, brS_intro (fun c0 => brS_intro (fun c1 => ⟨(0, _, _), rfl, rfl, rfl, rfl, ⟨⟨by simp only; omega, rfl⟩, fun c hc => ?_⟩, trivial⟩) (fun c1 => needS_intro (by rw [Nat.ble_eq]; omega) ⟨(0, _, _), rfl, rfl, rfl, rfl, ⟨⟨by simp only; omega, rfl⟩, fun c hc => ?_⟩, trivial⟩)) (fun c0 => needS_intro (by rw [Nat.ble_eq]; simp at hk12; omega) (brS_intro (fun c1 => ⟨(0, _, _), rfl, rfl, rfl, rfl, ⟨⟨by simp only; omega, rfl⟩, fun c hc => ?_⟩, trivial⟩) (fun c1 => needS_intro (by simp [nbeq_t]; simp at hk12; omega) ⟨(0, _, _), rfl, rfl, rfl, rfl, ⟨⟨by simp only; omega, rfl⟩, fun c hc => ?_⟩, trivial⟩))), fun x _ hx => ⟨⟨x, rfl, rfl, rfl, rfl, hx, trivial⟩, ?_⟩⟩, trivial⟩
    · simp only [List.mem_cons, List.not_mem_nil, or_false] at hc
      rcases hc with rfl | rfl | rfl
      · exact ⟨none, 0, raw, rfl, by omega⟩
      · exact ⟨none, 0, insK l 12, rfl, by simp at hk12; omega⟩
      · exact ⟨none, 0, [], rfl, by simp⟩
    · simp only [List.mem_cons, List.not_mem_nil, or_false] at hc
      rcases hc with rfl | rfl | rfl
      · exact ⟨none, 0, raw, rfl, by omega⟩
      · exact ⟨none, 0, insK l 12, rfl, by simp at hk12; omega⟩
      · exact ⟨none, 0, raw, rfl, by omega⟩
    · simp only [List.mem_cons, List.not_mem_nil, or_false] at hc
      rcases hc with rfl | rfl | rfl
      · exact ⟨none, 0, raw, rfl, by omega⟩
      · exact ⟨none, 0, insK l 12, rfl, by simp at hk12; omega⟩
      · exact ⟨none, 0, insK l 12, rfl, by simp at hk12; omega⟩
    · simp only [List.mem_cons, List.not_mem_nil, or_false] at hc
      rcases hc with rfl | rfl | rfl
      · exact ⟨none, 0, raw, rfl, by omega⟩
      · exact ⟨none, 0, insK l 12, rfl, by simp at hk12; omega⟩
      · exact ⟨none, 0, insK l 12 ++ raw, by rw [List.length_append, List.flatMap_append], by rw [List.length_append]; simp at hk12; omega⟩
    intro x _ hx
    obtain ⟨i, C, H⟩ := x
    obtain ⟨⟨hi, hC⟩, hc⟩ := hx
    simp only at hi hC hc ⊢
    have e2 : (i : Int) < 3 → IntKind.i64.wrap ((i : Int) + 1) = ((i + 1 : Nat) : Int) := fun h => by rw [IntWalk.i64_in _ (by omega)]; rfl
    refine brS_intro (fun c1 => ?_) (fun _ => hk)
    rw [decide_eq_true_eq] at c1
    refine needS_intro (by simp; omega) (ldVS_i (i := i) (by omega) (by omega) hc fun id e xs hxs => ⟨xs, ⟨rfl, rfl⟩, hxs, xs, ⟨rfl, rfl⟩, hxs, brS_intro (fun c => by simp at c) (fun _ => ⟨(encR xs).1, (encR xs).1, ⟨rfl, rfl⟩, ⟨rfl, rfl⟩, by have := encR_len xs; omega, brS_intro (fun c => by simp at c) (fun _ => ?_)⟩)⟩)
    exact ⟨(i + 1, C, H), (by first | rfl | trivial), (by first | rfl | trivial), by rw [e2 c1], (by first | rfl | trivial), ⟨⟨by simp only; omega, hC⟩, hc⟩, by simp only; omega⟩
  · exact hk.elim
def cEncL := addC 4 kEncL cSameInstrs
theorem okEncL : Sound env cEncL := sound_add sEncL (okSameInstrs)

end Go.Proofs.YtiecmbfcgjaflaaDoor
