/-
  Terms: the statement TermRoundTrip.
  Conditions: none.
-/
import Derived.Test.YthoehkkoaegeoaaG10b
import Derived.KernelRfl
set_option linter.unusedVariables false
set_option linter.unusedSimpArgs false
namespace Go.Proofs.Ythoehkkoaegeoaa
open Go.Pv Go.M15 Go.M10 Go.M29
def kExT (xs : List IV) (h : Heap) (K : IV → Heap → Prop) : Prop := match xs with
  | [] => K (.bool true) h
  | _ => False
theorem sExT : ∀ xs h Q, kExT xs h Q → CallW env 8 xs h Q := by
  intro xs h Q hk
  unfold kExT at hk
  split at hk
  · exact ⟨200, .bool true, h, by kernel_rfl, hk⟩
  · exact hk.elim
def cExT := addC 8 kExT cPParseA
theorem okExT : Sound env cExT := sound_add sExT (okPParseA)

def rtOut : Inv' := atX (List Nd × Nat) (fun x => [(7, .v (.vslice none 0 (x.1).length 3 ((x.1).flatMap cN))), (56, .v (.int .i64 x.1.length)), (57, .v (.int .i64 x.2))]) (fun _ => []) (fun _ => Heap.empty) (fun x => DN x.1 ∧ x.2 ≤ x.1.length) (fun x => x.1.length - x.2)
def rtIn : Inv' := atX (List Nd × Nat × Nat) (fun x => [(7, .v (.vslice none 0 (x.1).length 3 ((x.1).flatMap cN))), (56, .v (.int .i64 x.1.length)), (57, .v (.int .i64 x.2.1)), (9, .v (.int .i64 x.2.1)), (10, .v (.int .i64 x.2.2))]) (fun _ => []) (fun _ => Heap.empty)
  (fun x => DN x.1 ∧ x.2.1 < x.1.length ∧ x.2.2 ≤ x.2.1) (fun x => (x.1.length - x.2.1) * 2000000 + (x.2.1 - x.2.2))
def kTripL (xs : List IV) (h : Heap) (K : IV → Heap → Prop) : Prop := match xs with
  | [.vslice none e1 n1 1 c1, .int .i64 n] => ∃ l : List Int, (n1 = l.length ∧ c1 = l.map (IV.int .i64)) ∧ ((∀ x ∈ l, i64b x) ∧ l.length ≤ 9223372036854775807 ∧ i64b n) ∧ K (.bool true) h
  | _ => False
set_option maxRecDepth 100000 in
theorem vTripL (l : List Int) (n : Int) (e1 : Nat) (h : Heap) (Q : IV → Heap → Prop) : dF (stdS cExT) env 4 noU (icA 10 rtOut (ic1 1000013 rtIn)) noI [.vslice none e1 (l).length 1 ((l).map (IV.int .i64)), .int .i64 n] h Q = (
  needS (pureL [IV.vslice none (0 : Nat) (List.length l) (1 : Nat) (List.map (IV.int IntKind.i64) l), IV.int IntKind.i64 n])
 (∃ (l_1 : List Int),
 (List.length l = List.length l_1 ∧ List.map (IV.int IntKind.i64) l = List.map (IV.int IntKind.i64) l_1) ∧
 ((∀ (x : Int), x ∈ l_1 → i64b x) ∧ List.length l_1 ≤ (9223372036854775807 : Nat)) ∧
 ∀ (x : List Nd),
 NW (14 : Nat) x →
 ((0 : Int) < (↑(List.length x) : Int) ∧ (↑(List.length x) : Int) < (4611686018427387904 : Int)) ∧
 ∃ (l : List Nd),
 (List.length x = List.length l ∧ List.flatMap cN x = List.flatMap cN l) ∧
 (PG l ∧ WFN l ∧ List.length l ≤ (1000000 : Nat) ∧ (0 : Int) ≤ n % (↑(List.length x) : Int) ∧ n % (↑(List.length x) : Int) < (↑(List.length l) : Int)) ∧
 (prn l (Int.toNat (n % (↑(List.length x) : Int))) = [] ∧ brS (prn l (Int.toNat (n % (↑(List.length x) : Int))) == []) (Q (IV.bool true) h) (Q (IV.bool false) h) ∨
 ∃ (l_2 : List Nd),
 ∃ (i : Nat),
 (RG l_2 l_2 ∧ i < List.length l_2 ∧ prn l (Int.toNat (n % (↑(List.length x) : Int))) = T10 l_2 i ∧ List.length (prn l (Int.toNat (n % (↑(List.length x) : Int)))) ≤ (20000 : Nat) ∧ List.length l_2 ≤ (2000 : Nat)) ∧
 brS (prn l (Int.toNat (n % (↑(List.length x) : Int))) == []) (brS ((↑(List.length (Prod.fst (rdA l_2 (i + (1 : Nat)) [] (↑i : Int)))) : Int) == (0 : Int)) (Q (IV.bool true) h) (Q (IV.bool false) h))
 (∃ (l_3 : List Nd),
 (List.length (Prod.fst (rdA l_2 (i + (1 : Nat)) [] (↑i : Int))) = List.length l_3 ∧ List.flatMap cN (Prod.fst (rdA l_2 (i + (1 : Nat)) [] (↑i : Int))) = List.flatMap cN l_3) ∧
 (PG l_3 ∧
 WFN l_3 ∧
 List.length l_3 ≤ (1000000 : Nat) ∧
 (0 : Int) ≤ IntKind.wrap IntKind.i64 ((↑(List.length (Prod.fst (rdA l_2 (i + (1 : Nat)) [] (↑i : Int)))) : Int) - (1 : Int)) ∧
 IntKind.wrap IntKind.i64 ((↑(List.length (Prod.fst (rdA l_2 (i + (1 : Nat)) [] (↑i : Int)))) : Int) - (1 : Int)) < (↑(List.length l_3) : Int)) ∧
 brS (!prn l_3 (Int.toNat (IntKind.wrap IntKind.i64 ((↑(List.length (Prod.fst (rdA l_2 (i + (1 : Nat)) [] (↑i : Int)))) : Int) - (1 : Int)))) == prn l (Int.toNat (n % (↑(List.length x) : Int))))
 (Q (IV.bool false) h)
 (∃ (l : List Nd),
 ∃ (j : Nat),
 (List.length (Prod.fst (rdA l_2 (i + (1 : Nat)) [] (↑i : Int))) = List.length l ∧
 List.flatMap cN (Prod.fst (rdA l_2 (i + (1 : Nat)) [] (↑i : Int))) = List.flatMap cN l ∧
 IntKind.wrap IntKind.i64 ((↑(List.length (Prod.fst (rdA l_2 (i + (1 : Nat)) [] (↑i : Int)))) : Int) - (1 : Int)) = (↑j : Int)) ∧
 (RG l l ∧ j < List.length l ∧ Use l j) ∧
 ∀ (c : List Int),
 List.length c = j + (1 : Nat) →
 brS ((↑(List.length c) : Int) != (↑(List.length (Prod.fst (rdA l_2 (i + (1 : Nat)) [] (↑i : Int)))) : Int)) (Q (IV.bool false) h)
 ((∃ (x : List Nd × Nat),
 some (TV.v (IV.vslice none (0 : Nat) (List.length (Prod.fst (rdA l_2 (i + (1 : Nat)) [] (↑i : Int)))) (3 : Nat) (List.flatMap cN (Prod.fst (rdA l_2 (i + (1 : Nat)) [] (↑i : Int)))))) =
 some (TV.v (IV.vslice none (0 : Nat) (List.length (Prod.fst x)) (3 : Nat) (List.flatMap cN (Prod.fst x)))) ∧
 some (TV.v (IV.int IntKind.i64 (↑(List.length (Prod.fst (rdA l_2 (i + (1 : Nat)) [] (↑i : Int)))) : Int))) = some (TV.v (IV.int IntKind.i64 (↑(List.length (Prod.fst x)) : Int))) ∧
 some (TV.v (IV.int IntKind.i64 (0 : Int))) = some (TV.v (IV.int IntKind.i64 (↑(Prod.snd x) : Int))) ∧
 Heap.mk PT.nil (0 : Nat) = Heap.mk PT.nil (0 : Nat) ∧ (DN (Prod.fst x) ∧ Prod.snd x ≤ List.length (Prod.fst x)) ∧ True) ∧
 ∀ (x : List Nd × Nat) (b : FF),
 DN (Prod.fst x) ∧ Prod.snd x ≤ List.length (Prod.fst x) →
 brS (decide ((↑(Prod.snd x) : Int) < (↑(List.length (Prod.fst x)) : Int)))
 (∃ (M : Nat),
 (∃ (x_1 : List Nd × Nat × Nat),
 some (TV.v (IV.vslice none (0 : Nat) (List.length (Prod.fst x)) (3 : Nat) (List.flatMap cN (Prod.fst x)))) =
 some (TV.v (IV.vslice none (0 : Nat) (List.length (Prod.fst x_1)) (3 : Nat) (List.flatMap cN (Prod.fst x_1)))) ∧
 some (TV.v (IV.int IntKind.i64 (↑(List.length (Prod.fst x)) : Int))) = some (TV.v (IV.int IntKind.i64 (↑(List.length (Prod.fst x_1)) : Int))) ∧
 some (TV.v (IV.int IntKind.i64 (↑(Prod.snd x) : Int))) = some (TV.v (IV.int IntKind.i64 (↑(Prod.fst (Prod.snd x_1)) : Int))) ∧
 some (TV.v (IV.int IntKind.i64 (↑(Prod.snd x) : Int))) = some (TV.v (IV.int IntKind.i64 (↑(Prod.fst (Prod.snd x_1)) : Int))) ∧
 some (TV.v (IV.int IntKind.i64 (0 : Int))) = some (TV.v (IV.int IntKind.i64 (↑(Prod.snd (Prod.snd x_1)) : Int))) ∧
 Heap.mk PT.nil (0 : Nat) = Heap.mk PT.nil (0 : Nat) ∧
 (DN (Prod.fst x_1) ∧ Prod.fst (Prod.snd x_1) < List.length (Prod.fst x_1) ∧ Prod.snd (Prod.snd x_1) ≤ Prod.fst (Prod.snd x_1)) ∧
 (List.length (Prod.fst x_1) - Prod.fst (Prod.snd x_1)) * (2000000 : Nat) + (Prod.fst (Prod.snd x_1) - Prod.snd (Prod.snd x_1)) ≤ M) ∧
 ∀ (x_1 : List Nd × Nat × Nat) (b : FF),
 DN (Prod.fst x_1) ∧ Prod.fst (Prod.snd x_1) < List.length (Prod.fst x_1) ∧ Prod.snd (Prod.snd x_1) ≤ Prod.fst (Prod.snd x_1) →
 (List.length (Prod.fst x_1) - Prod.fst (Prod.snd x_1)) * (2000000 : Nat) + (Prod.fst (Prod.snd x_1) - Prod.snd (Prod.snd x_1)) ≤ M →
 brS (decide ((↑(Prod.snd (Prod.snd x_1)) : Int) < (↑(Prod.fst (Prod.snd x_1)) : Int)))
 (needS (decide ((0 : Int) ≤ (↑(Prod.fst (Prod.snd x_1)) : Int)) && decide ((↑(Prod.fst (Prod.snd x_1)) : Int) < (↑(List.length (Prod.fst x_1)) : Int)))
 (ldIS IntKind.i64 (List.flatMap cN (Prod.fst x_1)) (Int.toNat (↑(Prod.fst (Prod.snd x_1)) : Int) * (3 : Nat)) fun (n0 : Int) =>
 ldIS IntKind.i64 (List.flatMap cN (Prod.fst x_1)) (Int.toNat (↑(Prod.fst (Prod.snd x_1)) : Int) * (3 : Nat) + (1 : Nat)) fun (n1 : Int) =>
 ldVS (1 : Nat) (List.flatMap cN (Prod.fst x_1)) (Int.toNat (↑(Prod.fst (Prod.snd x_1)) : Int) * (3 : Nat) + (1 : Nat) + (1 : Nat))
 fun (i2 : Option Nat) (e3 l4 : Nat) (c5 : List IV) =>
 needS (decide ((0 : Int) ≤ (↑(Prod.snd (Prod.snd x_1)) : Int)) && decide ((↑(Prod.snd (Prod.snd x_1)) : Int) < (↑(List.length (Prod.fst x_1)) : Int)))
 (ldIS IntKind.i64 (List.flatMap cN (Prod.fst x_1)) (Int.toNat (↑(Prod.snd (Prod.snd x_1)) : Int) * (3 : Nat)) fun (n6 : Int) =>
 ldIS IntKind.i64 (List.flatMap cN (Prod.fst x_1)) (Int.toNat (↑(Prod.snd (Prod.snd x_1)) : Int) * (3 : Nat) + (1 : Nat)) fun (n7 : Int) =>
 ldVS (1 : Nat) (List.flatMap cN (Prod.fst x_1)) (Int.toNat (↑(Prod.snd (Prod.snd x_1)) : Int) * (3 : Nat) + (1 : Nat) + (1 : Nat))
 fun (i8 : Option Nat) (e9 l10 : Nat) (c11 : List IV) =>
 ∃ (ks : List Int),
 ∃ (ks2 : List Int),
 (l4 = List.length ks ∧ c5 = List.map (IV.int IntKind.i64) ks) ∧
 (l10 = List.length ks2 ∧ c11 = List.map (IV.int IntKind.i64) ks2) ∧
 List.length ks ≤ (1000000000 : Nat) ∧
 brS (decide (Nd.mk n0 n1 ks = Nd.mk n6 n7 ks2)) (Q (IV.bool false) h)
 (∃ (x : List Nd × Nat × Nat),
 some (TV.v (IV.vslice none (0 : Nat) (List.length (Prod.fst x_1)) (3 : Nat) (List.flatMap cN (Prod.fst x_1)))) =
 some (TV.v (IV.vslice none (0 : Nat) (List.length (Prod.fst x)) (3 : Nat) (List.flatMap cN (Prod.fst x)))) ∧
 some (TV.v (IV.int IntKind.i64 (↑(List.length (Prod.fst x_1)) : Int))) =
 some (TV.v (IV.int IntKind.i64 (↑(List.length (Prod.fst x)) : Int))) ∧
 some (TV.v (IV.int IntKind.i64 (↑(Prod.fst (Prod.snd x_1)) : Int))) =
 some (TV.v (IV.int IntKind.i64 (↑(Prod.fst (Prod.snd x)) : Int))) ∧
 some (TV.v (IV.int IntKind.i64 (↑(Prod.fst (Prod.snd x_1)) : Int))) =
 some (TV.v (IV.int IntKind.i64 (↑(Prod.fst (Prod.snd x)) : Int))) ∧
 some (TV.v (IV.int IntKind.i64 (IntKind.wrap IntKind.i64 ((↑(Prod.snd (Prod.snd x_1)) : Int) + (1 : Int))))) =
 some (TV.v (IV.int IntKind.i64 (↑(Prod.snd (Prod.snd x)) : Int))) ∧
 Heap.mk PT.nil (0 : Nat) = Heap.mk PT.nil (0 : Nat) ∧
 (DN (Prod.fst x) ∧ Prod.fst (Prod.snd x) < List.length (Prod.fst x) ∧ Prod.snd (Prod.snd x) ≤ Prod.fst (Prod.snd x)) ∧
 (List.length (Prod.fst x) - Prod.fst (Prod.snd x)) * (2000000 : Nat) + (Prod.fst (Prod.snd x) - Prod.snd (Prod.snd x)) <
 (List.length (Prod.fst x_1) - Prod.fst (Prod.snd x_1)) * (2000000 : Nat) +
 (Prod.fst (Prod.snd x_1) - Prod.snd (Prod.snd x_1))))))
 (∃ (x_2 : List Nd × Nat),
 some (TV.v (IV.vslice none (0 : Nat) (List.length (Prod.fst x_1)) (3 : Nat) (List.flatMap cN (Prod.fst x_1)))) =
 some (TV.v (IV.vslice none (0 : Nat) (List.length (Prod.fst x_2)) (3 : Nat) (List.flatMap cN (Prod.fst x_2)))) ∧
 some (TV.v (IV.int IntKind.i64 (↑(List.length (Prod.fst x_1)) : Int))) = some (TV.v (IV.int IntKind.i64 (↑(List.length (Prod.fst x_2)) : Int))) ∧
 some (TV.v (IV.int IntKind.i64 (IntKind.wrap IntKind.i64 ((↑(Prod.fst (Prod.snd x_1)) : Int) + (1 : Int))))) =
 some (TV.v (IV.int IntKind.i64 (↑(Prod.snd x_2) : Int))) ∧
 Heap.mk PT.nil (0 : Nat) = Heap.mk PT.nil (0 : Nat) ∧
 (DN (Prod.fst x_2) ∧ Prod.snd x_2 ≤ List.length (Prod.fst x_2)) ∧ List.length (Prod.fst x_2) - Prod.snd x_2 < List.length (Prod.fst x) - Prod.snd x))
 (Q (IV.bool true) h))))))) := by kernel_rfl
set_option maxHeartbeats 2000000 in
theorem sTripL : ∀ xs h Q, kTripL xs h Q → CallW env 4 xs h Q := by
  intro xs h Q hk
  unfold kTripL at hk
  split at hk
  · rename_i e1 n1 c1 n
    obtain ⟨l, ⟨rfl, rfl⟩, hb, hk⟩ := hk
    refine dF_run (okExT) (vTripL l n e1 h Q) ?_
    have tn : ∀ x : Nat, (x : Int).toNat = x := Int.toNat_natCast
    obtain ⟨hlb, hll, hn⟩ := hb
    refine needS_intro (by simp only [pureL, pureB, pureL_ints, Bool.and_true]) ⟨l, ⟨rfl, rfl⟩, ⟨hlb, hll⟩, fun x hx => ?_⟩
    have hxl := hx.1
    have hpg := NW.pg hx (by omega)
    have gl := RG.of hx (by omega)
    have h0 : 0 ≤ n % (x.length : Int) := Int.emod_nonneg _ (by omega)
    have h1 : n % (x.length : Int) < x.length := Int.emod_lt_of_pos _ (by omega)
    refine ⟨⟨by omega, by omega⟩, x, ⟨rfl, rfl⟩, ⟨hpg, hx.2.2.1, by omega, h0, h1⟩, ?_⟩
    generalize hq : (n % (x.length : Int)).toNat = q
    have hqx : q < x.length := by omega
    by_cases he : prn x q = []
    · exact .inl ⟨he, brS_intro (fun _ => hk) (fun c => by rw [he] at c; cases c)⟩
    · have hpr : prn x q = T10 x q ∧ (T10 x q).length ≤ 20000 := by
        unfold prn at he ⊢
        split
        · rename_i h; exact ⟨rfl, h⟩
        · rename_i h; rw [if_neg h] at he; exact absurd rfl he
      refine .inr ⟨x, q, ⟨gl, hqx, hpr.1, by rw [hpr.1]; exact hpr.2, by omega⟩, brS_intro (fun c => absurd (beq_iff_eq.1 c) he) (fun _ => ?_)⟩
      obtain ⟨gy, hy0, hyT, hyU⟩ := rd_all gl hqx
      generalize (rdA x (q + 1) [] (q : Int)).1 = y at gy hy0 hyT hyU ⊢
      have hyl := gy.lb
      have hw : IntKind.i64.wrap ((y.length : Int) - 1) = ((y.length - 1 : Nat) : Int) := by rw [IntWalk.i64_in _ (by omega)]; omega
      rw [hw]
      refine ⟨y, ⟨rfl, rfl⟩, ⟨gy.pg, gy.wf, hyl, by omega, by omega⟩, ?_⟩
      rw [tn]
      have hpy : prn y (y.length - 1) = prn x q := by rw [hpr.1]; unfold prn; rw [hyT, if_pos hpr.2]
      rw [hpy]
      refine brS_intro (fun c => by simp at c) (fun _ => ⟨y, y.length - 1, ⟨rfl, rfl, rfl⟩, ⟨gy.self, by omega, hyU⟩, fun c hc => brS_intro (fun c1 => ?_) (fun _ => ⟨⟨(y, 0), (by first | rfl | exact True.intro), (by first | rfl | exact True.intro), (by first | rfl | exact True.intro), (by first | rfl | exact True.intro), ⟨gy.dn, Nat.zero_le _⟩, trivial⟩, ?_⟩)⟩)
      · rw [bne_iff_ne] at c1
        omega
      rintro ⟨y1, i⟩ _ ⟨hd, hi⟩
      dsimp only at hd hi ⊢
      have hd1 := hd.2.1
      refine brS_intro (fun c2 => ?_) (fun c2 => hk)
      rw [decide_eq_true_eq] at c2
      refine ⟨(y1.length - i) * 2000000 + i, ⟨(y1, i, 0), (by first | rfl | exact True.intro), (by first | rfl | exact True.intro), (by first | rfl | exact True.intro), (by first | rfl | exact True.intro), (by first | rfl | exact True.intro), (by first | rfl | exact True.intro), ⟨hd, by dsimp only; omega, Nat.zero_le _⟩, by dsimp only; omega⟩, ?_⟩
      rintro ⟨y2, i2, k⟩ _ ⟨hd2, hi2, hk2⟩ hM
      dsimp only at hd2 hi2 hk2 hM ⊢
      have hd3 := hd2.2.1
      refine brS_intro (fun c3 => ?_) (fun c3 => ?_)
      · rw [decide_eq_true_eq] at c3
        have hkl : k < y2.length := by omega
        have h3 := hd2.2.2 _ (List.getElem_mem hi2)
        refine needS_intro (by simp; omega) (ldNd hi2 (by rw [tn]) (needS_intro (by simp; omega) (ldNd hkl (by rw [tn]) ⟨_, _, ⟨rfl, rfl⟩, ⟨rfl, rfl⟩, by omega, brS_intro (fun c4 => ?_) (fun _ => ⟨(y2, i2, k + 1), (by first | rfl | exact True.intro), (by first | rfl | exact True.intro), (by first | rfl | exact True.intro), (by first | rfl | exact True.intro), (by rw [IntWalk.i64_in _ (by omega)]; rfl), (by first | rfl | exact True.intro), ⟨hd2, hi2, by dsimp only; omega⟩, by dsimp only; omega⟩)⟩)))
        rw [decide_eq_true_eq] at c4
        have et : ∀ x : Nd, (⟨x.op, x.im, x.ks⟩ : Nd) = x := fun x => by cases x; rfl
        rw [et, et] at c4
        have := (List.getElem_inj hd2.1).1 c4
        omega
      · refine ⟨(y2, i2 + 1), (by first | rfl | exact True.intro), (by first | rfl | exact True.intro), (by rw [IntWalk.i64_in _ (by omega)]; rfl), (by first | rfl | exact True.intro), ⟨hd2, hi2⟩, ?_⟩
        dsimp only
        rw [decide_eq_false_iff_not] at c3
        omega
  · exact hk.elim
def cTripL := addC 4 kTripL cExT
theorem okTripL : Sound env cTripL := sound_add sTripL (okExT)

end Go.Proofs.Ythoehkkoaegeoaa
