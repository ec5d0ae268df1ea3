/-
  Terms: the statement TermDistinctNodes.
  Conditions: none.
-/
import Derived.Test.YthoehkkoaegeoaaC10b
import Derived.Test.YthoehkkoaegeoaaY10
import Derived.KernelRfl
set_option linter.unusedVariables false
set_option linter.unusedSimpArgs false
namespace Go.Proofs.Ythoehkkoaegeoaa
open Go.Pv Go.M15 Go.M10 Go.M29
def kExT (xs : List IV) (h : Heap) (K : IV → Heap → Prop) : Prop := match xs with
  | [] => K (.bool true) h
  | _ => False
theorem sExT : ∀ xs h Q, kExT xs h Q → CallW env 8 xs h Q := by
  intro xs h Q hk
  unfold kExT at hk
  split at hk
  · exact ⟨200, .bool true, h, by kernel_rfl, hk⟩
  · exact hk.elim
def cExT := addC 8 kExT cPrint
theorem okExT : Sound env cExT := sound_add sExT (okPrint)

def dnOut : Inv' := atX (List Nd × Nat) (fun x => [(3, .v (.vslice none 0 (x.1).length 3 ((x.1).flatMap cN))), (10, .v (.int .i64 x.1.length)), (11, .v (.int .i64 x.2))]) (fun _ => []) (fun _ => Heap.empty) (fun x => NW 14 x.1 ∧ x.2 ≤ x.1.length) (fun x => 17 - x.2)
def dnIn : Inv' := atX (List Nd × Nat × Nat) (fun x => [(3, .v (.vslice none 0 (x.1).length 3 ((x.1).flatMap cN))), (10, .v (.int .i64 x.1.length)), (11, .v (.int .i64 x.2.1)), (4, .v (.int .i64 x.2.1)), (5, .v (.str (prn x.1 x.2.1))), (6, .v (.int .i64 x.2.2))]) (fun _ => []) (fun _ => Heap.empty)
  (fun x => NW 14 x.1 ∧ x.2.1 < x.1.length ∧ x.2.2 ≤ x.2.1 ∧ prn x.1 x.2.1 ≠ []) (fun x => (17 - x.2.1) * 100 + (x.2.1 - x.2.2))
def kDistL (xs : List IV) (h : Heap) (K : IV → Heap → Prop) : Prop := match xs with
  | [.vslice none e1 n1 1 c1] => ∃ l : List Int, (n1 = l.length ∧ c1 = l.map (IV.int .i64)) ∧ ((∀ x ∈ l, i64b x) ∧ l.length ≤ 9223372036854775807) ∧ K (.bool true) h
  | _ => False
set_option maxRecDepth 100000 in
theorem vDistL (l : List Int) (e1 : Nat) (h : Heap) (Q : IV → Heap → Prop) : dF (stdS cExT) env 3 noU (icA 4 dnOut (ic1 1000009 dnIn)) noI [.vslice none e1 (l).length 1 ((l).map (IV.int .i64))] h Q = (
  needS (pureL [IV.vslice none (0 : Nat) (List.length l) (1 : Nat) (List.map (IV.int IntKind.i64) l)])
 (∃ (l_1 : List Int),
 (List.length l = List.length l_1 ∧ List.map (IV.int IntKind.i64) l = List.map (IV.int IntKind.i64) l_1) ∧
 ((∀ (x : Int), x ∈ l_1 → i64b x) ∧ List.length l_1 ≤ (9223372036854775807 : Nat)) ∧
 ∀ (x : List Nd),
 NW (14 : Nat) x →
 (∃ (x_1 : List Nd × Nat),
 some (TV.v (IV.vslice none (0 : Nat) (List.length x) (3 : Nat) (List.flatMap cN x))) = some (TV.v (IV.vslice none (0 : Nat) (List.length (Prod.fst x_1)) (3 : Nat) (List.flatMap cN (Prod.fst x_1)))) ∧
 some (TV.v (IV.int IntKind.i64 (↑(List.length x) : Int))) = some (TV.v (IV.int IntKind.i64 (↑(List.length (Prod.fst x_1)) : Int))) ∧
 some (TV.v (IV.int IntKind.i64 (0 : Int))) = some (TV.v (IV.int IntKind.i64 (↑(Prod.snd x_1) : Int))) ∧
 Heap.mk PT.nil (0 : Nat) = Heap.mk PT.nil (0 : Nat) ∧ (NW (14 : Nat) (Prod.fst x_1) ∧ Prod.snd x_1 ≤ List.length (Prod.fst x_1)) ∧ True) ∧
 ∀ (x : List Nd × Nat) (b : FF),
 NW (14 : Nat) (Prod.fst x) ∧ Prod.snd x ≤ List.length (Prod.fst x) →
 brS (decide ((↑(Prod.snd x) : Int) < (↑(List.length (Prod.fst x)) : Int)))
 (∃ (l : List Nd),
 (List.length (Prod.fst x) = List.length l ∧ List.flatMap cN (Prod.fst x) = List.flatMap cN l) ∧
 (PG l ∧ WFN l ∧ List.length l ≤ (1000000 : Nat) ∧ (0 : Int) ≤ (↑(Prod.snd x) : Int) ∧ (↑(Prod.snd x) : Int) < (↑(List.length l) : Int)) ∧
 brS (prn l (Int.toNat (↑(Prod.snd x) : Int)) == [])
 (∃ (x_1 : List Nd × Nat),
 some (TV.v (IV.vslice none (0 : Nat) (List.length (Prod.fst x)) (3 : Nat) (List.flatMap cN (Prod.fst x)))) =
 some (TV.v (IV.vslice none (0 : Nat) (List.length (Prod.fst x_1)) (3 : Nat) (List.flatMap cN (Prod.fst x_1)))) ∧
 some (TV.v (IV.int IntKind.i64 (↑(List.length (Prod.fst x)) : Int))) = some (TV.v (IV.int IntKind.i64 (↑(List.length (Prod.fst x_1)) : Int))) ∧
 some (TV.v (IV.int IntKind.i64 (IntKind.wrap IntKind.i64 ((↑(Prod.snd x) : Int) + (1 : Int))))) = some (TV.v (IV.int IntKind.i64 (↑(Prod.snd x_1) : Int))) ∧
 Heap.mk PT.nil (0 : Nat) = Heap.mk PT.nil (0 : Nat) ∧ (NW (14 : Nat) (Prod.fst x_1) ∧ Prod.snd x_1 ≤ List.length (Prod.fst x_1)) ∧ (17 : Nat) - Prod.snd x_1 < (17 : Nat) - Prod.snd x)
 (∃ (M : Nat),
 (∃ (x_1 : List Nd × Nat × Nat),
 some (TV.v (IV.vslice none (0 : Nat) (List.length (Prod.fst x)) (3 : Nat) (List.flatMap cN (Prod.fst x)))) =
 some (TV.v (IV.vslice none (0 : Nat) (List.length (Prod.fst x_1)) (3 : Nat) (List.flatMap cN (Prod.fst x_1)))) ∧
 some (TV.v (IV.int IntKind.i64 (↑(List.length (Prod.fst x)) : Int))) = some (TV.v (IV.int IntKind.i64 (↑(List.length (Prod.fst x_1)) : Int))) ∧
 some (TV.v (IV.int IntKind.i64 (↑(Prod.snd x) : Int))) = some (TV.v (IV.int IntKind.i64 (↑(Prod.fst (Prod.snd x_1)) : Int))) ∧
 some (TV.v (IV.int IntKind.i64 (↑(Prod.snd x) : Int))) = some (TV.v (IV.int IntKind.i64 (↑(Prod.fst (Prod.snd x_1)) : Int))) ∧
 some (TV.v (IV.str (prn l (Int.toNat (↑(Prod.snd x) : Int))))) = some (TV.v (IV.str (prn (Prod.fst x_1) (Prod.fst (Prod.snd x_1))))) ∧
 some (TV.v (IV.int IntKind.i64 (0 : Int))) = some (TV.v (IV.int IntKind.i64 (↑(Prod.snd (Prod.snd x_1)) : Int))) ∧
 Heap.mk PT.nil (0 : Nat) = Heap.mk PT.nil (0 : Nat) ∧
 (NW (14 : Nat) (Prod.fst x_1) ∧ Prod.fst (Prod.snd x_1) < List.length (Prod.fst x_1) ∧ Prod.snd (Prod.snd x_1) ≤ Prod.fst (Prod.snd x_1) ∧ prn (Prod.fst x_1) (Prod.fst (Prod.snd x_1)) ≠ []) ∧
 ((17 : Nat) - Prod.fst (Prod.snd x_1)) * (100 : Nat) + (Prod.fst (Prod.snd x_1) - Prod.snd (Prod.snd x_1)) ≤ M) ∧
 ∀ (x_1 : List Nd × Nat × Nat) (b : FF),
 NW (14 : Nat) (Prod.fst x_1) ∧ Prod.fst (Prod.snd x_1) < List.length (Prod.fst x_1) ∧ Prod.snd (Prod.snd x_1) ≤ Prod.fst (Prod.snd x_1) ∧ prn (Prod.fst x_1) (Prod.fst (Prod.snd x_1)) ≠ [] →
 ((17 : Nat) - Prod.fst (Prod.snd x_1)) * (100 : Nat) + (Prod.fst (Prod.snd x_1) - Prod.snd (Prod.snd x_1)) ≤ M →
 brS (decide ((↑(Prod.snd (Prod.snd x_1)) : Int) < (↑(Prod.fst (Prod.snd x_1)) : Int)))
 (∃ (l : List Nd),
 (List.length (Prod.fst x_1) = List.length l ∧ List.flatMap cN (Prod.fst x_1) = List.flatMap cN l) ∧
 (PG l ∧ WFN l ∧ List.length l ≤ (1000000 : Nat) ∧ (0 : Int) ≤ (↑(Prod.snd (Prod.snd x_1)) : Int) ∧ (↑(Prod.snd (Prod.snd x_1)) : Int) < (↑(List.length l) : Int)) ∧
 brS (prn l (Int.toNat (↑(Prod.snd (Prod.snd x_1)) : Int)) == prn (Prod.fst x_1) (Prod.fst (Prod.snd x_1))) (Q (IV.bool false) h)
 (∃ (x : List Nd × Nat × Nat),
 some (TV.v (IV.vslice none (0 : Nat) (List.length (Prod.fst x_1)) (3 : Nat) (List.flatMap cN (Prod.fst x_1)))) =
 some (TV.v (IV.vslice none (0 : Nat) (List.length (Prod.fst x)) (3 : Nat) (List.flatMap cN (Prod.fst x)))) ∧
 some (TV.v (IV.int IntKind.i64 (↑(List.length (Prod.fst x_1)) : Int))) = some (TV.v (IV.int IntKind.i64 (↑(List.length (Prod.fst x)) : Int))) ∧
 some (TV.v (IV.int IntKind.i64 (↑(Prod.fst (Prod.snd x_1)) : Int))) = some (TV.v (IV.int IntKind.i64 (↑(Prod.fst (Prod.snd x)) : Int))) ∧
 some (TV.v (IV.int IntKind.i64 (↑(Prod.fst (Prod.snd x_1)) : Int))) = some (TV.v (IV.int IntKind.i64 (↑(Prod.fst (Prod.snd x)) : Int))) ∧
 some (TV.v (IV.str (prn (Prod.fst x_1) (Prod.fst (Prod.snd x_1))))) = some (TV.v (IV.str (prn (Prod.fst x) (Prod.fst (Prod.snd x))))) ∧
 some (TV.v (IV.int IntKind.i64 (IntKind.wrap IntKind.i64 ((↑(Prod.snd (Prod.snd x_1)) : Int) + (1 : Int))))) = some (TV.v (IV.int IntKind.i64 (↑(Prod.snd (Prod.snd x)) : Int))) ∧
 Heap.mk PT.nil (0 : Nat) = Heap.mk PT.nil (0 : Nat) ∧
 (NW (14 : Nat) (Prod.fst x) ∧
 Prod.fst (Prod.snd x) < List.length (Prod.fst x) ∧ Prod.snd (Prod.snd x) ≤ Prod.fst (Prod.snd x) ∧ prn (Prod.fst x) (Prod.fst (Prod.snd x)) ≠ []) ∧
 ((17 : Nat) - Prod.fst (Prod.snd x)) * (100 : Nat) + (Prod.fst (Prod.snd x) - Prod.snd (Prod.snd x)) <
 ((17 : Nat) - Prod.fst (Prod.snd x_1)) * (100 : Nat) + (Prod.fst (Prod.snd x_1) - Prod.snd (Prod.snd x_1))))
 (∃ (x_2 : List Nd × Nat),
 some (TV.v (IV.vslice none (0 : Nat) (List.length (Prod.fst x_1)) (3 : Nat) (List.flatMap cN (Prod.fst x_1)))) =
 some (TV.v (IV.vslice none (0 : Nat) (List.length (Prod.fst x_2)) (3 : Nat) (List.flatMap cN (Prod.fst x_2)))) ∧
 some (TV.v (IV.int IntKind.i64 (↑(List.length (Prod.fst x_1)) : Int))) = some (TV.v (IV.int IntKind.i64 (↑(List.length (Prod.fst x_2)) : Int))) ∧
 some (TV.v (IV.int IntKind.i64 (IntKind.wrap IntKind.i64 ((↑(Prod.fst (Prod.snd x_1)) : Int) + (1 : Int))))) = some (TV.v (IV.int IntKind.i64 (↑(Prod.snd x_2) : Int))) ∧
 Heap.mk PT.nil (0 : Nat) = Heap.mk PT.nil (0 : Nat) ∧ (NW (14 : Nat) (Prod.fst x_2) ∧ Prod.snd x_2 ≤ List.length (Prod.fst x_2)) ∧ (17 : Nat) - Prod.snd x_2 < (17 : Nat) - Prod.snd x)))
 (brS (decide ((↑(List.length (Prod.fst x)) : Int) ≥ (3 : Int))) (Q (IV.bool true) h) (Q (IV.bool false) h)))) := by kernel_rfl
set_option maxHeartbeats 2000000 in
theorem sDistL : ∀ xs h Q, kDistL xs h Q → CallW env 3 xs h Q := by
  intro xs h Q hk
  unfold kDistL at hk
  split at hk
  · rename_i e1 n1 c1
    obtain ⟨l, ⟨rfl, rfl⟩, hb, hk⟩ := hk
    refine dF_run (okExT) (vDistL l e1 h Q) ?_
    have tn : ∀ x : Nat, (x : Int).toNat = x := Int.toNat_natCast
    obtain ⟨hlb, hll⟩ := hb
    refine needS_intro (by simp only [pureL, pureB, pureL_ints, Bool.and_true]) ⟨l, ⟨rfl, rfl⟩, ⟨hlb, hll⟩, fun x hx => ⟨⟨(x, 0), (by first | rfl | exact True.intro), (by first | rfl | exact True.intro), (by first | rfl | exact True.intro), (by first | rfl | exact True.intro), ⟨hx, Nat.zero_le _⟩, trivial⟩, ?_⟩⟩
    rintro ⟨x, i⟩ _ ⟨hx, hi⟩
    dsimp only at hx hi ⊢
    have hxl := hx.1
    have hpg := NW.pg hx (by omega)
    refine brS_intro (fun c => ?_) (fun c => ?_)
    · rw [decide_eq_true_eq] at c
      have hil : i < x.length := by omega
      refine ⟨x, ⟨rfl, rfl⟩, ⟨hpg, hx.2.2.1, by omega, by omega, by omega⟩, ?_⟩
      rw [tn]
      refine brS_intro (fun c1 => ⟨(x, i + 1), (by first | rfl | exact True.intro), (by first | rfl | exact True.intro), (by rw [IntWalk.i64_in _ (by omega)]; rfl), (by first | rfl | exact True.intro), ⟨hx, hil⟩, by dsimp only; omega⟩) (fun c1 => ⟨(17 - i) * 100 + i, ⟨(x, i, 0), (by first | rfl | exact True.intro), (by first | rfl | exact True.intro), (by first | rfl | exact True.intro), (by first | rfl | exact True.intro), (by first | rfl | exact True.intro), (by first | rfl | exact True.intro), (by first | rfl | exact True.intro), ⟨hx, hil, Nat.zero_le _, ?_⟩, by dsimp only; omega⟩, ?_⟩)
      · simpa using c1
      rintro ⟨x2, i2, k⟩ _ ⟨hx2, hil2, hk2, hne⟩ hM
      dsimp only at hx2 hil2 hk2 hne hM ⊢
      have hxl2 := hx2.1
      refine brS_intro (fun c2 => ?_) (fun c2 => ?_)
      · rw [decide_eq_true_eq] at c2
        refine ⟨x2, ⟨rfl, rfl⟩, ⟨NW.pg hx2 (by omega), hx2.2.2.1, by omega, by omega, by omega⟩, ?_⟩
        rw [tn]
        refine brS_intro (fun c3 => ?_) (fun c3 => ⟨(x2, i2, k + 1), (by first | rfl | exact True.intro), (by first | rfl | exact True.intro), (by first | rfl | exact True.intro), (by first | rfl | exact True.intro), (by first | rfl | exact True.intro), (by rw [IntWalk.i64_in _ (by omega)]; rfl), (by first | rfl | exact True.intro), ⟨hx2, hil2, by dsimp only; omega, hne⟩, by dsimp only; omega⟩)
        have := prn_ne hx2 hil2 (show k < x2.length by omega) hne (by simpa using c3)
        omega
      · exact ⟨(x2, i2 + 1), (by first | rfl | exact True.intro), (by first | rfl | exact True.intro), (by rw [IntWalk.i64_in _ (by omega)]; rfl), (by first | rfl | exact True.intro), ⟨hx2, hil2⟩, by dsimp only; omega⟩
    · refine brS_intro (fun _ => hk) (fun c => ?_)
      rw [decide_eq_false_iff_not] at c
      omega
  · exact hk.elim
def cDistL := addC 3 kDistL cExT
theorem okDistL : Sound env cDistL := sound_add sDistL (okExT)

end Go.Proofs.Ythoehkkoaegeoaa
