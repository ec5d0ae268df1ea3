/-
  Texts of this proof, one after the other.
  Conditions: none.
-/
import Derived.Test.YtlenjfbmpekabaaDoorE30
import Derived.KernelRfl
import Derived.Test.YtlenjfbmpekabaaDoorU30
section
/-
  Machine words: Decode of the reference.
  Conditions: none.
-/
set_option linter.unusedVariables false
set_option linter.unusedSimpArgs false
namespace Go.Proofs.YtlenjfbmpekabaaDoor
open Go.Pv Go.M29 Go.M30
noncomputable def cRDecode := cDecode
theorem okRDecode : Sound env cRDecode := okDecode
end Go.Proofs.YtlenjfbmpekabaaDoor

end

section
/-
  Machine words: flipped bits, instructions of seeds; the statement EncodingFlip.
  Conditions: none.
-/
set_option linter.unusedVariables false
set_option linter.unusedSimpArgs false
namespace Go.Proofs.YtlenjfbmpekabaaDoor
open Go.Pv Go.M29 Go.M30
def siInv (l m : List Int) : Inv' := atX Nat (fun i => [(0, .v (.vslice none 0 l.length 1 (l.map (IV.int .i64)))), (1, .v (.vslice none 0 m.length 1 (m.map (IV.int .i64)))), (5, .v (.int .i64 i))]) (fun _ => []) (fun _ => Heap.empty)
  (fun i => (l.length = m.length ∧ i ≤ l.length) ∧ ∀ j, j < i → l[j]? = m[j]?) (fun i => l.length - i)
def kSameInts (xs : List IV) (h : Heap) (K : IV → Heap → Prop) : Prop := match xs with
  | [.vslice none e1 n1 1 c1, .vslice none e2 n2 1 c2] => ∃ l m : List Int, (n1 = l.length ∧ c1 = l.map (IV.int .i64)) ∧ (n2 = m.length ∧ c2 = m.map (IV.int .i64)) ∧ l.length < 4611686018427387904 ∧ K (.bool (l == m)) h
  | _ => False
set_option maxRecDepth 100000 in
theorem vSameInts (l m : List Int) (e1 e2 : Nat) (h : Heap) (Q : IV → Heap → Prop) : dF (stdS cRDecode) env 25 noU (ic1 5 (siInv l m)) noI [.vslice none e1 l.length 1 (l.map (IV.int .i64)), .vslice none e2 m.length 1 (m.map (IV.int .i64))] h Q = (
  needS (pureL [IV.vslice none (0 : Nat) (List.length l) (1 : Nat) (List.map (IV.int IntKind.i64) l), IV.vslice none (0 : Nat) (List.length m) (1 : Nat) (List.map (IV.int IntKind.i64) m)])
 (brS ((↑(List.length l) : Int) != (↑(List.length m) : Int)) (Q (IV.bool false) h)
 ((∃ (x : Nat),
 some (TV.v (IV.vslice none (0 : Nat) (List.length l) (1 : Nat) (List.map (IV.int IntKind.i64) l))) = some (TV.v (IV.vslice none (0 : Nat) (List.length l) (1 : Nat) (List.map (IV.int IntKind.i64) l))) ∧
 some (TV.v (IV.vslice none (0 : Nat) (List.length m) (1 : Nat) (List.map (IV.int IntKind.i64) m))) = some (TV.v (IV.vslice none (0 : Nat) (List.length m) (1 : Nat) (List.map (IV.int IntKind.i64) m))) ∧
 some (TV.v (IV.int IntKind.i64 (0 : Int))) = some (TV.v (IV.int IntKind.i64 (↑x : Int))) ∧
 Heap.mk PT.nil (0 : Nat) = Heap.mk PT.nil (0 : Nat) ∧ ((List.length l = List.length m ∧ x ≤ List.length l) ∧ ∀ (j : Nat), j < x → l[j]? = m[j]?) ∧ True) ∧
 ∀ (x : Nat) (b : FF),
 ((List.length l = List.length m ∧ x ≤ List.length l) ∧ ∀ (j : Nat), j < x → l[j]? = m[j]?) →
 brS (decide ((↑x : Int) < (↑(List.length l) : Int)))
 (needS (decide ((0 : Int) ≤ (↑x : Int)) && decide ((↑x : Int) < (↑(List.length l) : Int)))
 (ldIS IntKind.i64 (List.map (IV.int IntKind.i64) l) (Int.toNat (↑x : Int) * (1 : Nat)) fun (n0 : Int) =>
 needS (decide ((0 : Int) ≤ (↑x : Int)) && decide ((↑x : Int) < (↑(List.length m) : Int)))
 (ldIS IntKind.i64 (List.map (IV.int IntKind.i64) m) (Int.toNat (↑x : Int) * (1 : Nat)) fun (n1 : Int) =>
 brS (n0 != n1) (Q (IV.bool false) h)
 (∃ (x_1 : Nat),
 some (TV.v (IV.vslice none (0 : Nat) (List.length l) (1 : Nat) (List.map (IV.int IntKind.i64) l))) = some (TV.v (IV.vslice none (0 : Nat) (List.length l) (1 : Nat) (List.map (IV.int IntKind.i64) l))) ∧
 some (TV.v (IV.vslice none (0 : Nat) (List.length m) (1 : Nat) (List.map (IV.int IntKind.i64) m))) = some (TV.v (IV.vslice none (0 : Nat) (List.length m) (1 : Nat) (List.map (IV.int IntKind.i64) m))) ∧
 some (TV.v (IV.int IntKind.i64 (IntKind.wrap IntKind.i64 ((↑x : Int) + (1 : Int))))) = some (TV.v (IV.int IntKind.i64 (↑x_1 : Int))) ∧
 Heap.mk PT.nil (0 : Nat) = Heap.mk PT.nil (0 : Nat) ∧ ((List.length l = List.length m ∧ x_1 ≤ List.length l) ∧ ∀ (j : Nat), j < x_1 → l[j]? = m[j]?) ∧ List.length l - x_1 < List.length l - x))))
 (Q (IV.bool true) h)))) := by kernel_rfl
theorem sSameInts : ∀ xs h Q, kSameInts xs h Q → CallW env 25 xs h Q := by
  intro xs h Q hk
  unfold kSameInts at hk
  split at hk
  · rename_i e1 n1 c1 e2 n2 c2
    obtain ⟨l, m, ⟨rfl, rfl⟩, ⟨rfl, rfl⟩, hb, hk⟩ := hk
    refine dF_run (okRDecode) (vSameInts l m e1 e2 h Q) ?_
    refine needS_intro (by simp only [pureL, pureB, pureL_ints, Bool.and_true]) (brS_intro (fun hc => q_eq hk ?_) (fun hc => ?_))
    · congr 1
      have : l ≠ m := fun e => by subst e; simp at hc
      simpa using this
    have hl : l.length = m.length := by simp at hc; omega
    refine ⟨⟨0, rfl, rfl, rfl, rfl, ⟨⟨hl, by omega⟩, fun j hj => by omega⟩, trivial⟩, fun i _ hi => brS_intro (fun c1 => ?_) (fun c1 => q_eq hk ?_)⟩
    · simp only [decide_eq_true_eq] at c1
      have hi1 : i < l.length := by omega
      have hi2 : i < m.length := by omega
      have e1 : (i : Int).toNat * 1 = i := by omega
      rw [e1]
      refine needS_intro (by simp; omega) (ldIS_map hi1 (needS_intro (by simp; omega) (ldIS_map hi2 (brS_intro (fun c2 => q_eq hk ?_) (fun c2 => ?_)))))
      · congr 1
        have : l ≠ m := fun e => by subst e; simp at c2
        simpa using this
      · have e2 : IntKind.i64.wrap ((i : Int) + 1) = ((i + 1 : Nat) : Int) := by rw [IntWalk.i64_in _ (by omega)]; rfl
        refine ⟨i + 1, rfl, rfl, by rw [e2], rfl, ⟨⟨hl, by omega⟩, fun j hj => ?_⟩, by omega⟩
        rcases Nat.lt_or_ge j i with q | q
        · exact hi.2 j q
        · obtain rfl : j = i := by omega
          rw [List.getElem?_eq_getElem hi1, List.getElem?_eq_getElem hi2]
          simpa using c2
    · simp only [decide_eq_false_iff_not] at c1
      have : l = m := List.ext_getElem? fun j => by
        rcases Nat.lt_or_ge j i with q | q
        · exact hi.2 j q
        · rw [List.getElem?_eq_none (by omega), List.getElem?_eq_none (by omega)]
      simp [this]
  · exact hk.elim
def cSameInts := addC 25 kSameInts cRDecode
theorem okSameInts : Sound env cSameInts := sound_add sSameInts (okRDecode)

noncomputable def cSameWords := cSameInts
theorem okSameWords : Sound env cSameWords := okSameInts
noncomputable def cFlipBit := cSameWords
theorem okFlipBit : Sound env cFlipBit := okSameWords
noncomputable def cExG := cFlipBit
theorem okExG : Sound env cExG := okFlipBit
end Go.Proofs.YtlenjfbmpekabaaDoor

end

section
/-
  Machine words: instructions of seeds, in a row of the heap.
  Conditions: none.
-/
set_option linter.unusedVariables false
set_option linter.unusedSimpArgs false
namespace Go.Proofs.YtlenjfbmpekabaaDoor
open Go.Pv Go.M29 Go.M30
theorem flatMap_len5 : ∀ (l : List In), (l.flatMap cIns).length = l.length * 5
  | [] => rfl
  | x :: r => by rw [List.flatMap_cons, List.length_append, flatMap_len5 r, List.length_cons, Nat.succ_mul]; simp [cIns]; omega
theorem insK_end' {l : List Int} {i : Nat} {m : Int} (h2 : i ≤ l.length) (h3 : (i : Int) ≤ m) (hc : ¬ (i : Int) < l.length ∨ ¬ (i : Int) < m) : insK l m = insT l i := by
  unfold insK insT
  congr 1
  rcases hc with c | c
  · rw [List.take_of_length_le (by omega), List.take_of_length_le (by omega)]
  · rw [show m.toNat = i by omega]
def insInv3 (l : List Int) (e1 : Nat) (m : Int) (h : Heap) : Inv' := .or
  (atX Unit (fun _ => [(5, .v .nilslice), (0, .v (.vslice none e1 (l).length 1 ((l).map (IV.int .i64)))), (1, .v (.int .i64 m)), (6, .v (.int .i64 0))]) (fun _ => []) (fun _ => h) (fun _ => True) (fun _ => l.length))
  (atX (Nat × Heap × Nat) (fun x => [(5, .v (.hslice x.2.2 0 x.1 5)), (0, .v (.vslice none e1 (l).length 1 ((l).map (IV.int .i64)))), (1, .v (.int .i64 m)), (6, .v (.int .i64 x.1))]) (fun _ => []) (fun x => x.2.1) (fun x => ((1 ≤ x.1 ∧ x.1 ≤ l.length) ∧ (x.1 : Int) ≤ m) ∧ x.2.1.get x.2.2 = .cells ((insT l x.1).flatMap cIns) ∧ x.2.2 < x.2.1.next) (fun x => l.length - x.1))
def kInstrs (xs : List IV) (h : Heap) (K : IV → Heap → Prop) : Prop := match xs with
  | [.vslice none e1 n1 1 c1, .int .i64 m] => ∃ l : List Int, (n1 = l.length ∧ c1 = l.map (IV.int .i64)) ∧ (l.length < 4611686018427387904 ∧ m ≤ 1000000) ∧ (insK l m = [] → K .nilslice h) ∧ (insK l m ≠ [] → ∀ g h', h'.get g = .cells ((insK l m).flatMap cIns) → g < h'.next → K (.hslice g 0 (insK l m).length 5) h')
  | _ => False
set_option maxRecDepth 100000 in
theorem vInstrs (l : List Int) (e1 : Nat) (m : Int) (h : Heap) (Q : IV → Heap → Prop) : dF (stdS cExG) env 39 noU (ic1 4 (insInv3 l e1 m h)) noI [.vslice none e1 (l).length 1 ((l).map (IV.int .i64)), .int .i64 m] h Q = (
  ((∃ (x : Unit),
 some (TV.v IV.nilslice) = some (TV.v IV.nilslice) ∧
 some (TV.v (IV.vslice none e1 (List.length l) (1 : Nat) (List.map (IV.int IntKind.i64) l))) = some (TV.v (IV.vslice none e1 (List.length l) (1 : Nat) (List.map (IV.int IntKind.i64) l))) ∧
 some (TV.v (IV.int IntKind.i64 m)) = some (TV.v (IV.int IntKind.i64 m)) ∧ some (TV.v (IV.int IntKind.i64 (0 : Int))) = some (TV.v (IV.int IntKind.i64 (0 : Int))) ∧ h = h ∧ True ∧ True) ∨
 ∃ (x : Nat × Heap × Nat),
 some (TV.v IV.nilslice) = some (TV.v (IV.hslice (Prod.snd (Prod.snd x)) (0 : Nat) (Prod.fst x) (5 : Nat))) ∧
 some (TV.v (IV.vslice none e1 (List.length l) (1 : Nat) (List.map (IV.int IntKind.i64) l))) = some (TV.v (IV.vslice none e1 (List.length l) (1 : Nat) (List.map (IV.int IntKind.i64) l))) ∧
 some (TV.v (IV.int IntKind.i64 m)) = some (TV.v (IV.int IntKind.i64 m)) ∧
 some (TV.v (IV.int IntKind.i64 (0 : Int))) = some (TV.v (IV.int IntKind.i64 (↑(Prod.fst x) : Int))) ∧
 h = Prod.fst (Prod.snd x) ∧
 ((((1 : Nat) ≤ Prod.fst x ∧ Prod.fst x ≤ List.length l) ∧ (↑(Prod.fst x) : Int) ≤ m) ∧
 Heap.get (Prod.fst (Prod.snd x)) (Prod.snd (Prod.snd x)) = IObj.cells (List.flatMap cIns (insT l (Prod.fst x))) ∧ Prod.snd (Prod.snd x) < Heap.next (Prod.fst (Prod.snd x))) ∧
 True) ∧
 (∀ (x : Unit) (b : FF),
 True →
 brS (decide ((0 : Int) < (↑(List.length l) : Int)))
 (brS (decide ((0 : Int) < m))
 (needS (true && decide ((0 : Int) < (↑(List.length l) : Int)))
 (ldIS IntKind.i64 (List.map (IV.int IntKind.i64) l) (0 : Nat) fun (n0 : Int) =>
 (∃ (x : Unit),
 some (TV.v (IV.hslice (Heap.next h) (0 : Nat) (1 : Nat) (5 : Nat))) = some (TV.v IV.nilslice) ∧
 some (TV.v (IV.vslice none e1 (List.length l) (1 : Nat) (List.map (IV.int IntKind.i64) l))) = some (TV.v (IV.vslice none e1 (List.length l) (1 : Nat) (List.map (IV.int IntKind.i64) l))) ∧
 some (TV.v (IV.int IntKind.i64 m)) = some (TV.v (IV.int IntKind.i64 m)) ∧
 some (TV.v (IV.int IntKind.i64 (1 : Int))) = some (TV.v (IV.int IntKind.i64 (0 : Int))) ∧
 Heap.push h (IObj.cells [IV.int IntKind.i64 (In.op (kin n0)), IV.int IntKind.i64 (In.a (kin n0)), IV.int IntKind.i64 (In.b (kin n0)), IV.int IntKind.i64 (In.c (kin n0)), IV.int IntKind.i64 (In.n (kin n0))]) = h ∧
 True ∧ List.length l < List.length l) ∨
 ∃ (x : Nat × Heap × Nat),
 some (TV.v (IV.hslice (Heap.next h) (0 : Nat) (1 : Nat) (5 : Nat))) = some (TV.v (IV.hslice (Prod.snd (Prod.snd x)) (0 : Nat) (Prod.fst x) (5 : Nat))) ∧
 some (TV.v (IV.vslice none e1 (List.length l) (1 : Nat) (List.map (IV.int IntKind.i64) l))) = some (TV.v (IV.vslice none e1 (List.length l) (1 : Nat) (List.map (IV.int IntKind.i64) l))) ∧
 some (TV.v (IV.int IntKind.i64 m)) = some (TV.v (IV.int IntKind.i64 m)) ∧
 some (TV.v (IV.int IntKind.i64 (1 : Int))) = some (TV.v (IV.int IntKind.i64 (↑(Prod.fst x) : Int))) ∧
 Heap.push h (IObj.cells [IV.int IntKind.i64 (In.op (kin n0)), IV.int IntKind.i64 (In.a (kin n0)), IV.int IntKind.i64 (In.b (kin n0)), IV.int IntKind.i64 (In.c (kin n0)), IV.int IntKind.i64 (In.n (kin n0))]) =
 Prod.fst (Prod.snd x) ∧
 ((((1 : Nat) ≤ Prod.fst x ∧ Prod.fst x ≤ List.length l) ∧ (↑(Prod.fst x) : Int) ≤ m) ∧
 Heap.get (Prod.fst (Prod.snd x)) (Prod.snd (Prod.snd x)) = IObj.cells (List.flatMap cIns (insT l (Prod.fst x))) ∧ Prod.snd (Prod.snd x) < Heap.next (Prod.fst (Prod.snd x))) ∧
 List.length l - Prod.fst x < List.length l))
 (Q IV.nilslice h))
 (Q IV.nilslice h)) ∧
 ∀ (x : Nat × Heap × Nat) (b : FF),
 (((1 : Nat) ≤ Prod.fst x ∧ Prod.fst x ≤ List.length l) ∧ (↑(Prod.fst x) : Int) ≤ m) ∧
 Heap.get (Prod.fst (Prod.snd x)) (Prod.snd (Prod.snd x)) = IObj.cells (List.flatMap cIns (insT l (Prod.fst x))) ∧ Prod.snd (Prod.snd x) < Heap.next (Prod.fst (Prod.snd x)) →
 brS (decide ((↑(Prod.fst x) : Int) < (↑(List.length l) : Int)))
 (brS (decide ((↑(Prod.fst x) : Int) < m))
 (needS (decide ((0 : Int) ≤ (↑(Prod.fst x) : Int)) && decide ((↑(Prod.fst x) : Int) < (↑(List.length l) : Int)))
 (ldIS IntKind.i64 (List.map (IV.int IntKind.i64) l) (Int.toNat (↑(Prod.fst x) : Int) * (1 : Nat)) fun (n1 : Int) =>
 hgetS (Prod.fst (Prod.snd x)) (Prod.snd (Prod.snd x)) fun (r2 : List IV) =>
 needS (true && (Nat.ble (Prod.fst x * (5 : Nat)) (List.length r2) && Nat.ble ((Prod.fst x + (1 : Nat)) * (40 : Nat)) (140737488355328 : Nat)))
 ((∃ (x_1 : Unit),
 some (TV.v (IV.hslice (Heap.next (Prod.fst (Prod.snd x))) (0 : Nat) (Prod.fst x + (1 : Nat)) (5 : Nat))) = some (TV.v IV.nilslice) ∧
 some (TV.v (IV.vslice none e1 (List.length l) (1 : Nat) (List.map (IV.int IntKind.i64) l))) = some (TV.v (IV.vslice none e1 (List.length l) (1 : Nat) (List.map (IV.int IntKind.i64) l))) ∧
 some (TV.v (IV.int IntKind.i64 m)) = some (TV.v (IV.int IntKind.i64 m)) ∧
 some (TV.v (IV.int IntKind.i64 (IntKind.wrap IntKind.i64 ((↑(Prod.fst x) : Int) + (1 : Int))))) = some (TV.v (IV.int IntKind.i64 (0 : Int))) ∧
 Heap.push (Heap.set (Prod.fst (Prod.snd x)) (Prod.snd (Prod.snd x)) IObj.dead)
 (IObj.cells
 (List.take (Prod.fst x * (5 : Nat)) r2 ++
 [IV.int IntKind.i64 (In.op (kin n1)), IV.int IntKind.i64 (In.a (kin n1)), IV.int IntKind.i64 (In.b (kin n1)), IV.int IntKind.i64 (In.c (kin n1)), IV.int IntKind.i64 (In.n (kin n1))])) =
 h ∧
 True ∧ List.length l < List.length l - Prod.fst x) ∨
 ∃ (x_1 : Nat × Heap × Nat),
 some (TV.v (IV.hslice (Heap.next (Prod.fst (Prod.snd x))) (0 : Nat) (Prod.fst x + (1 : Nat)) (5 : Nat))) = some (TV.v (IV.hslice (Prod.snd (Prod.snd x_1)) (0 : Nat) (Prod.fst x_1) (5 : Nat))) ∧
 some (TV.v (IV.vslice none e1 (List.length l) (1 : Nat) (List.map (IV.int IntKind.i64) l))) = some (TV.v (IV.vslice none e1 (List.length l) (1 : Nat) (List.map (IV.int IntKind.i64) l))) ∧
 some (TV.v (IV.int IntKind.i64 m)) = some (TV.v (IV.int IntKind.i64 m)) ∧
 some (TV.v (IV.int IntKind.i64 (IntKind.wrap IntKind.i64 ((↑(Prod.fst x) : Int) + (1 : Int))))) = some (TV.v (IV.int IntKind.i64 (↑(Prod.fst x_1) : Int))) ∧
 Heap.push (Heap.set (Prod.fst (Prod.snd x)) (Prod.snd (Prod.snd x)) IObj.dead)
 (IObj.cells
 (List.take (Prod.fst x * (5 : Nat)) r2 ++
 [IV.int IntKind.i64 (In.op (kin n1)), IV.int IntKind.i64 (In.a (kin n1)), IV.int IntKind.i64 (In.b (kin n1)), IV.int IntKind.i64 (In.c (kin n1)), IV.int IntKind.i64 (In.n (kin n1))])) =
 Prod.fst (Prod.snd x_1) ∧
 ((((1 : Nat) ≤ Prod.fst x_1 ∧ Prod.fst x_1 ≤ List.length l) ∧ (↑(Prod.fst x_1) : Int) ≤ m) ∧
 Heap.get (Prod.fst (Prod.snd x_1)) (Prod.snd (Prod.snd x_1)) = IObj.cells (List.flatMap cIns (insT l (Prod.fst x_1))) ∧ Prod.snd (Prod.snd x_1) < Heap.next (Prod.fst (Prod.snd x_1))) ∧
 List.length l - Prod.fst x_1 < List.length l - Prod.fst x)))
 (Q (IV.hslice (Prod.snd (Prod.snd x)) (0 : Nat) (Prod.fst x) (5 : Nat)) (Prod.fst (Prod.snd x))))
 (Q (IV.hslice (Prod.snd (Prod.snd x)) (0 : Nat) (Prod.fst x) (5 : Nat)) (Prod.fst (Prod.snd x)))) := by kernel_rfl
set_option maxHeartbeats 2000000 in
theorem sInstrs : ∀ xs h Q, kInstrs xs h Q → CallW env 39 xs h Q := by
  intro xs h Q hk
  unfold kInstrs at hk
  split at hk
  · rename_i e1 n1 c1 m
    obtain ⟨l, ⟨rfl, rfl⟩, hb, hk⟩ := hk
    refine dF_run (okExG) (vInstrs l e1 m h Q) ?_
    obtain ⟨hl, hm⟩ := hb
    have tn : ∀ x : Nat, (x : Int).toNat = x := Int.toNat_natCast
    refine ⟨.inl ⟨(), rfl, rfl, rfl, rfl, rfl, trivial, trivial⟩, fun _ _ _ => ?_, fun x _ hx => ?_⟩
    · refine brS_intro (fun c1 => brS_intro (fun c2 => needS_intro (by simpa using c1) ?_) (fun c2 => ?_)) (fun c1 => ?_)
      · rw [decide_eq_true_eq] at c1 c2
        have h0 : 0 < l.length := by omega
        have e1 : insT l 1 = [kin l[0]] := by rw [insT_succ h0]; rfl
        refine ldIS_map (i := 0) h0 (.inr ⟨(1, h.push (.cells (cIns (kin l[0]))), h.next), rfl, rfl, rfl, rfl, rfl, ⟨⟨⟨by omega, by omega⟩, by simp only; omega⟩, ?_, ?_⟩, by simp only; omega⟩)
        · simp only [get_push, if_pos trivial]; rw [e1]; rfl
        · simp only [next_push]; omega
      · rw [decide_eq_false_iff_not] at c2
        rw [insK_nil (.inr (by omega))] at hk
        exact hk.1 rfl
      · rw [decide_eq_false_iff_not] at c1
        rw [insK_nil (.inl (by omega))] at hk
        exact hk.1 rfl
    · obtain ⟨i, hp, g⟩ := x
      obtain ⟨⟨⟨h1, h2⟩, h3⟩, hg, hgn⟩ := hx
      simp only at h1 h2 h3 hg hgn
      have hil := insT_len h2
      refine brS_intro (fun c1 => brS_intro (fun c2 => needS_intro (by simp at c1; simp; omega) ?_) (fun c2 => ?_)) (fun c1 => ?_)
      · rw [decide_eq_true_eq] at c1 c2
        have h0 : i < l.length := by simp only at c1; omega
        have hlen : ((insT l i).flatMap cIns).length = i * 5 := by
          rw [flatMap_len5, hil]
        rw [tn, Nat.mul_one]
        refine ldIS_map (i := i) h0 (hget_i hg (needS_intro (by simp [nbeq_t, hlen]; omega) (.inr ⟨(i + 1, (hp.set g .dead).push (.cells ((insT l i).flatMap cIns ++ cIns (kin l[i]))), hp.next), rfl, rfl, rfl, ?_, ?_, ⟨⟨⟨by simp only; omega, by simp only; omega⟩, by simp only at c2 ⊢; omega⟩, ?_, ?_⟩, by simp only; omega⟩)))
        · simp only; rw [IntWalk.i64_in _ (by omega)]; rfl
        · simp only; rw [List.take_of_length_le (by rw [hlen]; exact Nat.le_refl _)]; rfl
        · simp only [get_push, next_set, if_pos trivial]; rw [insT_succ h0]; simp
        · simp only [next_push, next_set]; omega
      · rw [decide_eq_false_iff_not] at c2
        have e := insK_end' h2 h3 (.inr c2)
        rw [e] at hk
        have hk2 := hk.2 (fun z => by rw [z] at hil; simp at hil; omega) g hp hg hgn
        rw [hil] at hk2
        exact hk2
      · rw [decide_eq_false_iff_not] at c1
        have e := insK_end' h2 h3 (.inl (by simp only at c1; omega))
        rw [e] at hk
        have hk2 := hk.2 (fun z => by rw [z] at hil; simp at hil; omega) g hp hg hgn
        rw [hil] at hk2
        exact hk2
  · exact hk.elim
def cInstrs := addC 39 kInstrs cExG
theorem okInstrs : Sound env cInstrs := sound_add sInstrs (okExG)

end Go.Proofs.YtlenjfbmpekabaaDoor

end

section
/-
  Machine words: DecodeAll of the program and of the reference.
  Conditions: none.
-/
set_option linter.unusedVariables false
set_option linter.unusedSimpArgs false
namespace Go.Proofs.YtlenjfbmpekabaaDoor
open Go.Pv Go.M29 Go.M30
def daDecAll (w : List Int) : Inv' := .or
  (atX Unit (fun _ => [(5, .v .nilslice), (6, .v .nilslice), (0, .v (.vslice none 0 (w).length 1 ((w).map (IV.int .u32)))), (7, .v (.int .i64 0))]) (fun _ => []) (fun _ => Heap.empty) (fun _ => True) (fun _ => w.length + 1))
  (atX (Nat × Int × List In × List Int) (fun x => [(5, .v (.vslice (some 0) ((x.2.2.1).length * 5) (x.2.2.1).length 5 ((x.2.2.1).flatMap cIns))), (6, .v (.vslice (some 1) (x.2.2.2).length (x.2.2.2).length 1 ((x.2.2.2).map (IV.int .i64)))), (0, .v (.vslice none 0 (w).length 1 ((w).map (IV.int .u32)))), (7, .v (.int .i64 x.2.1))]) (fun _ => []) (fun x => ⟨.node (.node .nil (some (.tip x.2.2.2.length)) .nil) (some (.tip (x.2.2.1.length * 5))) .nil, 2⟩)
    (fun x => (decAcc w x.1 x.2.1 x.2.2.1 x.2.2.2 = decA w ∧ (w.length : Int) - x.2.1 < x.1) ∧ (0 ≤ x.2.1 ∧ x.2.1 ≤ w.length) ∧ x.2.2.2.length = x.2.2.1.length ∧ (x.2.2.1.length : Int) ≤ x.2.1) (fun x => ((w.length : Int) - x.2.1).toNat))
def kDecAll (xs : List IV) (h : Heap) (K : IV → Heap → Prop) : Prop := match xs with
  | [.vslice none e1 n1 1 c1] => ∃ w : List Int, (n1 = w.length ∧ c1 = w.map (IV.int .u32)) ∧ ((∀ x ∈ w, u32b x) ∧ w.length ≤ 1000000) ∧ K (.tuple [.vslice none 0 ((decA w).1).length 5 (((decA w).1).flatMap cIns), .vslice none 0 ((decA w).2.1).length 1 (((decA w).2.1).map (IV.int .i64)), .int .i64 (decA w).2.2]) h
  | _ => False
set_option maxRecDepth 100000 in
theorem vDecAll (w : List Int) (e1 : Nat) (h : Heap) (Q : IV → Heap → Prop) : dF (stdS cInstrs) env 48 noU (ic1 5 (daDecAll w)) noI [.vslice none e1 (w).length 1 ((w).map (IV.int .u32))] h Q = (
  needS (pureL [IV.vslice none (0 : Nat) (List.length w) (1 : Nat) (List.map (IV.int IntKind.u32) w)])
 (((∃ (x : Unit),
 some (TV.v IV.nilslice) = some (TV.v IV.nilslice) ∧
 some (TV.v IV.nilslice) = some (TV.v IV.nilslice) ∧
 some (TV.v (IV.vslice none (0 : Nat) (List.length w) (1 : Nat) (List.map (IV.int IntKind.u32) w))) = some (TV.v (IV.vslice none (0 : Nat) (List.length w) (1 : Nat) (List.map (IV.int IntKind.u32) w))) ∧
 some (TV.v (IV.int IntKind.i64 (0 : Int))) = some (TV.v (IV.int IntKind.i64 (0 : Int))) ∧ Heap.mk PT.nil (0 : Nat) = Heap.mk PT.nil (0 : Nat) ∧ True ∧ True) ∨
 ∃ (x : Nat × Int × List In × List Int),
 some (TV.v IV.nilslice) =
 some (TV.v (IV.vslice (some (0 : Nat)) (List.length (Prod.fst (Prod.snd (Prod.snd x))) * (5 : Nat)) (List.length (Prod.fst (Prod.snd (Prod.snd x)))) (5 : Nat) (List.flatMap cIns (Prod.fst (Prod.snd (Prod.snd x)))))) ∧
 some (TV.v IV.nilslice) =
 some (TV.v (IV.vslice (some (1 : Nat)) (List.length (Prod.snd (Prod.snd (Prod.snd x)))) (List.length (Prod.snd (Prod.snd (Prod.snd x)))) (1 : Nat) (List.map (IV.int IntKind.i64) (Prod.snd (Prod.snd (Prod.snd x)))))) ∧
 some (TV.v (IV.vslice none (0 : Nat) (List.length w) (1 : Nat) (List.map (IV.int IntKind.u32) w))) = some (TV.v (IV.vslice none (0 : Nat) (List.length w) (1 : Nat) (List.map (IV.int IntKind.u32) w))) ∧
 some (TV.v (IV.int IntKind.i64 (0 : Int))) = some (TV.v (IV.int IntKind.i64 (Prod.fst (Prod.snd x)))) ∧
 Heap.mk PT.nil (0 : Nat) =
 Heap.mk (PT.node (PT.node PT.nil (some (IObj.tip (List.length (Prod.snd (Prod.snd (Prod.snd x)))))) PT.nil) (some (IObj.tip (List.length (Prod.fst (Prod.snd (Prod.snd x))) * (5 : Nat)))) PT.nil) (2 : Nat) ∧
 ((decAcc w (Prod.fst x) (Prod.fst (Prod.snd x)) (Prod.fst (Prod.snd (Prod.snd x))) (Prod.snd (Prod.snd (Prod.snd x))) = decA w ∧ (↑(List.length w) : Int) - Prod.fst (Prod.snd x) < (↑(Prod.fst x) : Int)) ∧
 ((0 : Int) ≤ Prod.fst (Prod.snd x) ∧ Prod.fst (Prod.snd x) ≤ (↑(List.length w) : Int)) ∧
 List.length (Prod.snd (Prod.snd (Prod.snd x))) = List.length (Prod.fst (Prod.snd (Prod.snd x))) ∧ (↑(List.length (Prod.fst (Prod.snd (Prod.snd x)))) : Int) ≤ Prod.fst (Prod.snd x)) ∧
 True) ∧
 (∀ (x : Unit) (b : FF),
 True →
 brS (decide ((0 : Int) < (↑(List.length w) : Int)))
 (∃ (w_1 : List Int),
 (List.length w = List.length w_1 ∧ List.map (IV.int IntKind.u32) w = List.map (IV.int IntKind.u32) w_1) ∧
 ((∀ (x : Int), x ∈ w_1 → u32b x) ∧ (↑(List.length w_1) : Int) ≤ (9223372036854775807 : Int) ∧ (-9223372036854775808 : Int) ≤ (0 : Int)) ∧
 brS (Prod.snd (Prod.snd (decR w_1 (0 : Int))) != (0 : Int))
 (Q (IV.tuple [IV.vslice none (0 : Nat) (0 : Nat) (5 : Nat) [], IV.vslice none (0 : Nat) (0 : Nat) (1 : Nat) [], IV.int IntKind.i64 (Prod.snd (Prod.snd (decR w_1 (0 : Int))))]) h)
 ((∃ (x : Unit),
 some
 (TV.v
 (IV.vslice (some (0 : Nat)) (5 : Nat) (1 : Nat) (5 : Nat)
 [IV.int IntKind.i64 (In.op (Prod.fst (decR w_1 (0 : Int)))), IV.int IntKind.i64 (In.a (Prod.fst (decR w_1 (0 : Int)))), IV.int IntKind.i64 (In.b (Prod.fst (decR w_1 (0 : Int)))),
 IV.int IntKind.i64 (In.c (Prod.fst (decR w_1 (0 : Int)))), IV.int IntKind.i64 (In.n (Prod.fst (decR w_1 (0 : Int))))])) =
 some (TV.v IV.nilslice) ∧
 some (TV.v (IV.vslice (some ((0 : Nat) + (1 : Nat))) (1 : Nat) (1 : Nat) (1 : Nat) [IV.int IntKind.i64 (0 : Int)])) = some (TV.v IV.nilslice) ∧
 some (TV.v (IV.vslice none (0 : Nat) (List.length w) (1 : Nat) (List.map (IV.int IntKind.u32) w))) = some (TV.v (IV.vslice none (0 : Nat) (List.length w) (1 : Nat) (List.map (IV.int IntKind.u32) w))) ∧
 some (TV.v (IV.int IntKind.i64 (IntKind.wrap IntKind.i64 ((0 : Int) + Prod.fst (Prod.snd (decR w_1 (0 : Int))))))) = some (TV.v (IV.int IntKind.i64 (0 : Int))) ∧
 Heap.mk (PT.node (PT.node PT.nil (some (IObj.tip (1 : Nat))) PT.nil) (some (IObj.tip (5 : Nat))) PT.nil) ((0 : Nat) + (1 : Nat) + (1 : Nat)) = Heap.mk PT.nil (0 : Nat) ∧
 True ∧ List.length w + (1 : Nat) < List.length w + (1 : Nat)) ∨
 ∃ (x : Nat × Int × List In × List Int),
 some
 (TV.v
 (IV.vslice (some (0 : Nat)) (5 : Nat) (1 : Nat) (5 : Nat)
 [IV.int IntKind.i64 (In.op (Prod.fst (decR w_1 (0 : Int)))), IV.int IntKind.i64 (In.a (Prod.fst (decR w_1 (0 : Int)))), IV.int IntKind.i64 (In.b (Prod.fst (decR w_1 (0 : Int)))),
 IV.int IntKind.i64 (In.c (Prod.fst (decR w_1 (0 : Int)))), IV.int IntKind.i64 (In.n (Prod.fst (decR w_1 (0 : Int))))])) =
 some
 (TV.v
 (IV.vslice (some (0 : Nat)) (List.length (Prod.fst (Prod.snd (Prod.snd x))) * (5 : Nat)) (List.length (Prod.fst (Prod.snd (Prod.snd x)))) (5 : Nat) (List.flatMap cIns (Prod.fst (Prod.snd (Prod.snd x)))))) ∧
 some (TV.v (IV.vslice (some ((0 : Nat) + (1 : Nat))) (1 : Nat) (1 : Nat) (1 : Nat) [IV.int IntKind.i64 (0 : Int)])) =
 some
 (TV.v
 (IV.vslice (some (1 : Nat)) (List.length (Prod.snd (Prod.snd (Prod.snd x)))) (List.length (Prod.snd (Prod.snd (Prod.snd x)))) (1 : Nat) (List.map (IV.int IntKind.i64) (Prod.snd (Prod.snd (Prod.snd x)))))) ∧
 some (TV.v (IV.vslice none (0 : Nat) (List.length w) (1 : Nat) (List.map (IV.int IntKind.u32) w))) = some (TV.v (IV.vslice none (0 : Nat) (List.length w) (1 : Nat) (List.map (IV.int IntKind.u32) w))) ∧
 some (TV.v (IV.int IntKind.i64 (IntKind.wrap IntKind.i64 ((0 : Int) + Prod.fst (Prod.snd (decR w_1 (0 : Int))))))) = some (TV.v (IV.int IntKind.i64 (Prod.fst (Prod.snd x)))) ∧
 Heap.mk (PT.node (PT.node PT.nil (some (IObj.tip (1 : Nat))) PT.nil) (some (IObj.tip (5 : Nat))) PT.nil) ((0 : Nat) + (1 : Nat) + (1 : Nat)) =
 Heap.mk (PT.node (PT.node PT.nil (some (IObj.tip (List.length (Prod.snd (Prod.snd (Prod.snd x)))))) PT.nil) (some (IObj.tip (List.length (Prod.fst (Prod.snd (Prod.snd x))) * (5 : Nat)))) PT.nil)
 (2 : Nat) ∧
 ((decAcc w (Prod.fst x) (Prod.fst (Prod.snd x)) (Prod.fst (Prod.snd (Prod.snd x))) (Prod.snd (Prod.snd (Prod.snd x))) = decA w ∧ (↑(List.length w) : Int) - Prod.fst (Prod.snd x) < (↑(Prod.fst x) : Int)) ∧
 ((0 : Int) ≤ Prod.fst (Prod.snd x) ∧ Prod.fst (Prod.snd x) ≤ (↑(List.length w) : Int)) ∧
 List.length (Prod.snd (Prod.snd (Prod.snd x))) = List.length (Prod.fst (Prod.snd (Prod.snd x))) ∧ (↑(List.length (Prod.fst (Prod.snd (Prod.snd x)))) : Int) ≤ Prod.fst (Prod.snd x)) ∧
 Int.toNat ((↑(List.length w) : Int) - Prod.fst (Prod.snd x)) < List.length w + (1 : Nat)))
 (Q (IV.tuple [IV.vslice none (0 : Nat) (0 : Nat) (5 : Nat) [], IV.vslice none (0 : Nat) (0 : Nat) (1 : Nat) [], IV.int IntKind.i64 (0 : Int)]) h)) ∧
 ∀ (x : Nat × Int × List In × List Int) (b : FF),
 (decAcc w (Prod.fst x) (Prod.fst (Prod.snd x)) (Prod.fst (Prod.snd (Prod.snd x))) (Prod.snd (Prod.snd (Prod.snd x))) = decA w ∧ (↑(List.length w) : Int) - Prod.fst (Prod.snd x) < (↑(Prod.fst x) : Int)) ∧
 ((0 : Int) ≤ Prod.fst (Prod.snd x) ∧ Prod.fst (Prod.snd x) ≤ (↑(List.length w) : Int)) ∧
 List.length (Prod.snd (Prod.snd (Prod.snd x))) = List.length (Prod.fst (Prod.snd (Prod.snd x))) ∧ (↑(List.length (Prod.fst (Prod.snd (Prod.snd x)))) : Int) ≤ Prod.fst (Prod.snd x) →
 brS (decide (Prod.fst (Prod.snd x) < (↑(List.length w) : Int)))
 (∃ (w_1 : List Int),
 (List.length w = List.length w_1 ∧ List.map (IV.int IntKind.u32) w = List.map (IV.int IntKind.u32) w_1) ∧
 ((∀ (x : Int), x ∈ w_1 → u32b x) ∧ (↑(List.length w_1) : Int) ≤ (9223372036854775807 : Int) ∧ (-9223372036854775808 : Int) ≤ Prod.fst (Prod.snd x)) ∧
 brS (Prod.snd (Prod.snd (decR w_1 (Prod.fst (Prod.snd x)))) != (0 : Int))
 (Q (IV.tuple [IV.vslice none (0 : Nat) (0 : Nat) (5 : Nat) [], IV.vslice none (0 : Nat) (0 : Nat) (1 : Nat) [], IV.int IntKind.i64 (Prod.snd (Prod.snd (decR w_1 (Prod.fst (Prod.snd x)))))]) h)
 (needS
 (Nat.beq (List.length (Prod.fst (Prod.snd (Prod.snd x))) * (5 : Nat)) (List.length (Prod.fst (Prod.snd (Prod.snd x))) * (5 : Nat)) &&
 Nat.ble ((List.length (Prod.fst (Prod.snd (Prod.snd x))) + (1 : Nat)) * (40 : Nat)) (140737488355328 : Nat))
 (needS
 (Nat.beq (List.length (Prod.snd (Prod.snd (Prod.snd x)))) (List.length (Prod.snd (Prod.snd (Prod.snd x)))) &&
 Nat.ble ((List.length (Prod.snd (Prod.snd (Prod.snd x))) + (1 : Nat)) * (8 : Nat)) (140737488355328 : Nat))
 ((∃ (x_1 : Unit),
 some
 (TV.v
 (IV.vslice (some (0 : Nat)) (List.length (Prod.fst (Prod.snd (Prod.snd x))) * (5 : Nat) + (5 : Nat)) (List.length (Prod.fst (Prod.snd (Prod.snd x))) + (1 : Nat)) (5 : Nat)
 (List.flatMap cIns (Prod.fst (Prod.snd (Prod.snd x))) ++
 [IV.int IntKind.i64 (In.op (Prod.fst (decR w_1 (Prod.fst (Prod.snd x))))), IV.int IntKind.i64 (In.a (Prod.fst (decR w_1 (Prod.fst (Prod.snd x))))),
 IV.int IntKind.i64 (In.b (Prod.fst (decR w_1 (Prod.fst (Prod.snd x))))), IV.int IntKind.i64 (In.c (Prod.fst (decR w_1 (Prod.fst (Prod.snd x))))),
 IV.int IntKind.i64 (In.n (Prod.fst (decR w_1 (Prod.fst (Prod.snd x)))))]))) =
 some (TV.v IV.nilslice) ∧
 some
 (TV.v
 (IV.vslice (some (1 : Nat)) (List.length (Prod.snd (Prod.snd (Prod.snd x))) + (1 : Nat)) (List.length (Prod.snd (Prod.snd (Prod.snd x))) + (1 : Nat)) (1 : Nat)
 (List.map (IV.int IntKind.i64) (Prod.snd (Prod.snd (Prod.snd x))) ++ [IV.int IntKind.i64 (Prod.fst (Prod.snd x))]))) =
 some (TV.v IV.nilslice) ∧
 some (TV.v (IV.vslice none (0 : Nat) (List.length w) (1 : Nat) (List.map (IV.int IntKind.u32) w))) = some (TV.v (IV.vslice none (0 : Nat) (List.length w) (1 : Nat) (List.map (IV.int IntKind.u32) w))) ∧
 some (TV.v (IV.int IntKind.i64 (IntKind.wrap IntKind.i64 (Prod.fst (Prod.snd x) + Prod.fst (Prod.snd (decR w_1 (Prod.fst (Prod.snd x)))))))) = some (TV.v (IV.int IntKind.i64 (0 : Int))) ∧
 Heap.mk
 (PT.node (PT.node PT.nil (some (IObj.tip (List.length (Prod.snd (Prod.snd (Prod.snd x))) + (1 : Nat)))) PT.nil)
 (some (IObj.tip (List.length (Prod.fst (Prod.snd (Prod.snd x))) * (5 : Nat) + (5 : Nat)))) PT.nil)
 (2 : Nat) =
 Heap.mk PT.nil (0 : Nat) ∧
 True ∧ List.length w + (1 : Nat) < Int.toNat ((↑(List.length w) : Int) - Prod.fst (Prod.snd x))) ∨
 ∃ (x_1 : Nat × Int × List In × List Int),
 some
 (TV.v
 (IV.vslice (some (0 : Nat)) (List.length (Prod.fst (Prod.snd (Prod.snd x))) * (5 : Nat) + (5 : Nat)) (List.length (Prod.fst (Prod.snd (Prod.snd x))) + (1 : Nat)) (5 : Nat)
 (List.flatMap cIns (Prod.fst (Prod.snd (Prod.snd x))) ++
 [IV.int IntKind.i64 (In.op (Prod.fst (decR w_1 (Prod.fst (Prod.snd x))))), IV.int IntKind.i64 (In.a (Prod.fst (decR w_1 (Prod.fst (Prod.snd x))))),
 IV.int IntKind.i64 (In.b (Prod.fst (decR w_1 (Prod.fst (Prod.snd x))))), IV.int IntKind.i64 (In.c (Prod.fst (decR w_1 (Prod.fst (Prod.snd x))))),
 IV.int IntKind.i64 (In.n (Prod.fst (decR w_1 (Prod.fst (Prod.snd x)))))]))) =
 some
 (TV.v
 (IV.vslice (some (0 : Nat)) (List.length (Prod.fst (Prod.snd (Prod.snd x_1))) * (5 : Nat)) (List.length (Prod.fst (Prod.snd (Prod.snd x_1)))) (5 : Nat)
 (List.flatMap cIns (Prod.fst (Prod.snd (Prod.snd x_1)))))) ∧
 some
 (TV.v
 (IV.vslice (some (1 : Nat)) (List.length (Prod.snd (Prod.snd (Prod.snd x))) + (1 : Nat)) (List.length (Prod.snd (Prod.snd (Prod.snd x))) + (1 : Nat)) (1 : Nat)
 (List.map (IV.int IntKind.i64) (Prod.snd (Prod.snd (Prod.snd x))) ++ [IV.int IntKind.i64 (Prod.fst (Prod.snd x))]))) =
 some
 (TV.v
 (IV.vslice (some (1 : Nat)) (List.length (Prod.snd (Prod.snd (Prod.snd x_1)))) (List.length (Prod.snd (Prod.snd (Prod.snd x_1)))) (1 : Nat)
 (List.map (IV.int IntKind.i64) (Prod.snd (Prod.snd (Prod.snd x_1)))))) ∧
 some (TV.v (IV.vslice none (0 : Nat) (List.length w) (1 : Nat) (List.map (IV.int IntKind.u32) w))) = some (TV.v (IV.vslice none (0 : Nat) (List.length w) (1 : Nat) (List.map (IV.int IntKind.u32) w))) ∧
 some (TV.v (IV.int IntKind.i64 (IntKind.wrap IntKind.i64 (Prod.fst (Prod.snd x) + Prod.fst (Prod.snd (decR w_1 (Prod.fst (Prod.snd x)))))))) = some (TV.v (IV.int IntKind.i64 (Prod.fst (Prod.snd x_1)))) ∧
 Heap.mk
 (PT.node (PT.node PT.nil (some (IObj.tip (List.length (Prod.snd (Prod.snd (Prod.snd x))) + (1 : Nat)))) PT.nil)
 (some (IObj.tip (List.length (Prod.fst (Prod.snd (Prod.snd x))) * (5 : Nat) + (5 : Nat)))) PT.nil)
 (2 : Nat) =
 Heap.mk (PT.node (PT.node PT.nil (some (IObj.tip (List.length (Prod.snd (Prod.snd (Prod.snd x_1)))))) PT.nil) (some (IObj.tip (List.length (Prod.fst (Prod.snd (Prod.snd x_1))) * (5 : Nat)))) PT.nil)
 (2 : Nat) ∧
 ((decAcc w (Prod.fst x_1) (Prod.fst (Prod.snd x_1)) (Prod.fst (Prod.snd (Prod.snd x_1))) (Prod.snd (Prod.snd (Prod.snd x_1))) = decA w ∧
 (↑(List.length w) : Int) - Prod.fst (Prod.snd x_1) < (↑(Prod.fst x_1) : Int)) ∧
 ((0 : Int) ≤ Prod.fst (Prod.snd x_1) ∧ Prod.fst (Prod.snd x_1) ≤ (↑(List.length w) : Int)) ∧
 List.length (Prod.snd (Prod.snd (Prod.snd x_1))) = List.length (Prod.fst (Prod.snd (Prod.snd x_1))) ∧ (↑(List.length (Prod.fst (Prod.snd (Prod.snd x_1)))) : Int) ≤ Prod.fst (Prod.snd x_1)) ∧
 Int.toNat ((↑(List.length w) : Int) - Prod.fst (Prod.snd x_1)) < Int.toNat ((↑(List.length w) : Int) - Prod.fst (Prod.snd x))))))
 (needS
 (pureL
 [IV.vslice none (0 : Nat) (List.length (Prod.fst (Prod.snd (Prod.snd x)))) (5 : Nat) (List.flatMap cIns (Prod.fst (Prod.snd (Prod.snd x)))),
 IV.vslice none (0 : Nat) (List.length (Prod.snd (Prod.snd (Prod.snd x)))) (1 : Nat) (List.map (IV.int IntKind.i64) (Prod.snd (Prod.snd (Prod.snd x)))), IV.int IntKind.i64 (0 : Int)])
 (Q
 (IV.tuple
 [IV.vslice none (0 : Nat) (List.length (Prod.fst (Prod.snd (Prod.snd x)))) (5 : Nat) (List.flatMap cIns (Prod.fst (Prod.snd (Prod.snd x)))),
 IV.vslice none (0 : Nat) (List.length (Prod.snd (Prod.snd (Prod.snd x)))) (1 : Nat) (List.map (IV.int IntKind.i64) (Prod.snd (Prod.snd (Prod.snd x)))), IV.int IntKind.i64 (0 : Int)])
 h)))) := by kernel_rfl
set_option maxHeartbeats 4000000 in
theorem sDecAll : ∀ xs h Q, kDecAll xs h Q → CallW env 48 xs h Q := by
  intro xs h Q hk
  unfold kDecAll at hk
  split at hk
  · rename_i e1 n1 c1
    obtain ⟨w, ⟨rfl, rfl⟩, hb, hk⟩ := hk
    refine dF_run (okInstrs) (vDecAll w e1 h Q) ?_
    obtain ⟨hw, hl⟩ := hb
    refine needS_intro (by simp only [pureL, pureB, pureL_ints, Bool.and_true]) ⟨.inl ⟨(), rfl, rfl, rfl, rfl, rfl, trivial, trivial⟩, fun _ _ _ => ?_, fun x _ hx => ?_⟩
    · refine brS_intro (fun c1 => ?_) (fun c1 => ?_)
      · rw [decide_eq_true_eq] at c1
        have hA : decA w = if (decR w 0).2.2 = 0 then decAcc w w.length (0 + (decR w 0).2.1) ([] ++ [(decR w 0).1]) ([] ++ [0]) else ([], [], (decR w 0).2.2) := by
          show decAcc w (w.length + 1) 0 [] [] = _
          rw [decAcc_succ, if_pos c1]
        refine ⟨w, ⟨rfl, rfl⟩, ⟨hw, by omega, by omega⟩, brS_intro (fun c2 => ?_) (fun c2 => ?_)⟩
        · rw [bne_iff_ne] at c2
          rw [hA, if_neg c2] at hk
          exact hk
        · rw [bne_eq_false_iff_eq] at c2
          obtain ⟨p1, p2, p3⟩ := dec_pos hw c2
          rw [hA, if_pos c2] at hk
          refine .inr ⟨(w.length, 0 + (decR w 0).2.1, [(decR w 0).1], [0]), rfl, rfl, rfl, ?_, rfl, ⟨⟨?_, by simp only; omega⟩, ⟨by simp only; omega, by simp only; omega⟩, rfl, by simp only [List.length_cons, List.length_nil]; omega⟩, by simp only; omega⟩
          · simp only
            rw [IntWalk.i64_in _ (by omega)]
          · simp only
            rw [hA, if_pos c2]
            rfl
      · rw [decide_eq_false_iff_not] at c1
        have hA : decA w = ([], [], 0) := by
          unfold decA decAcc
          rw [if_neg c1]
        rw [hA] at hk
        exact hk
    · obtain ⟨n, k, acc, pl⟩ := x
      obtain ⟨⟨hA, hn⟩, ⟨h0, h1⟩, hlen, hak⟩ := hx
      simp only at hA hn h0 h1 hlen hak ⊢
      refine brS_intro (fun c1 => ?_) (fun c1 => ?_)
      · rw [decide_eq_true_eq] at c1
        obtain ⟨m, rfl⟩ : ∃ m, n = m + 1 := ⟨n - 1, by omega⟩
        have hA2 : decA w = if (decR w k).2.2 = 0 then decAcc w m (k + (decR w k).2.1) (acc ++ [(decR w k).1]) (pl ++ [k]) else ([], [], (decR w k).2.2) := by
          rw [← hA, decAcc_succ, if_pos c1]
        refine ⟨w, ⟨rfl, rfl⟩, ⟨hw, by omega, by omega⟩, brS_intro (fun c2 => ?_) (fun c2 => ?_)⟩
        · rw [bne_iff_ne] at c2
          rw [hA2, if_neg c2] at hk
          exact hk
        · rw [bne_eq_false_iff_eq] at c2
          obtain ⟨p1, p2, p3⟩ := dec_pos hw c2
          refine needS_intro (by simp [nbeq_t]; omega) (needS_intro (by simp [nbeq_t]; omega) (.inr ⟨(m, k + (decR w k).2.1, acc ++ [(decR w k).1], pl ++ [k]), ?_, ?_, (by first | rfl | trivial), ?_, ?_, ⟨⟨?_, by simp only; omega⟩, ⟨by simp only; omega, by simp only; omega⟩, ?_, ?_⟩, by simp only; omega⟩))
          · simp [Nat.add_mul, cIns]
          · simp
          · simp only
            rw [IntWalk.i64_in _ (by omega)]
          · simp [Nat.add_mul]
          · simp only
            rw [hA2, if_pos c2]
          · simp [hlen]
          · simp only [List.length_append, List.length_cons, List.length_nil]; omega
      · rw [decide_eq_false_iff_not] at c1
        have hA2 : decA w = (acc, pl, 0) := by
          rw [← hA]
          cases n with
          | zero => omega
          | succ n => unfold decAcc; rw [if_neg c1]
        rw [hA2] at hk
        exact needS_intro (by simp only [pureL, pureB, pureL_in, pureL_ints, Bool.and_true]) hk
  · exact hk.elim
def cDecAll := addC 48 kDecAll cInstrs
theorem okDecAll : Sound env cDecAll := sound_add sDecAll (okInstrs)

noncomputable def cRDecAll := cDecAll
theorem okRDecAll : Sound env cRDecAll := okDecAll
end Go.Proofs.YtlenjfbmpekabaaDoor

end
