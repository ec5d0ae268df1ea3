/-
  The target machine: the statement MachineText.
  Conditions: none.
-/
import Derived.Test.YtfmcdageaananaaDoorL29
import Derived.KernelRfl
set_option linter.unusedVariables false
set_option linter.unusedSimpArgs false
namespace Go.Proofs.YtfmcdageaananaaDoor
open Go.Pv Go.M29
theorem ldSS_g {C : List IV} {i o : Nat} {K : List UInt8 → Prop} (h : i < C.length) (ho : o = i) (hc : ∀ y ∈ C, ∃ u : List UInt8, y = .str u ∧ u.length ≤ 10000000) (hk : ∀ u : List UInt8, u.length ≤ 10000000 → K u) : ldSS C o K := by
  subst ho
  unfold ldSS
  rw [List.getElem?_eq_getElem h]
  obtain ⟨u, e, hu⟩ := hc _ (List.getElem_mem h)
  rw [e]
  exact hk u hu
def kExO (xs : List IV) (h : Heap) (K : IV → Heap → Prop) : Prop := match xs with
  | [] => K (.bool true) h
  | _ => False
theorem sExO : ∀ xs h Q, kExO xs h Q → CallW env 3 xs h Q := by
  intro xs h Q hk
  unfold kExO at hk
  split at hk
  · exact ⟨200, .bool true, h, by kernel_rfl, hk⟩
  · exact hk.elim
def cExO := addC 3 kExO cRParse
theorem okExO : Sound env cExO := sound_add sExO (okRParse)

def txInv (s t : List UInt8) : Inv' := atX (Nat × List IV) (fun x => [(76, .v (.vslice none 1 3 1 x.2)), (77, .v (.int .i64 3)), (78, .v (.int .i64 x.1))]) (fun _ => []) (fun _ => Heap.empty)
  (fun x => (x.1 ≤ 3 ∧ x.2.length = 3) ∧ ∀ y ∈ x.2, ∃ u : List UInt8, y = .str u ∧ u.length ≤ 10000000) (fun x => 3 - x.1)
def kTextL (xs : List IV) (h : Heap) (K : IV → Heap → Prop) : Prop := match xs with
  | [.agg [.int .i64 op, .int .i64 a, .int .i64 b, .int .i64 c, .int .i64 n], .int .i64 i, .int .i64 how, .int .i64 by', .str s, .int .i64 at_] => ((-9223372036854775808 ≤ i ∧ i ≤ 9223372036854775807) ∧ s.length ≤ 1048576) ∧ K (.bool true) h
  | _ => False
set_option maxRecDepth 100000 in
theorem vTextL (op a b c n i how by' : Int) (s : List UInt8) (at_ : Int) (h : Heap) (Q : IV → Heap → Prop) : dF (stdS cExO) env 5 (fun k => match Nat.beq k 3 with | true => 4 | false => 0) (ic1 13 (txInv s (fmtS (kin i)))) noI [.agg [.int .i64 op, .int .i64 a, .int .i64 b, .int .i64 c, .int .i64 n], .int .i64 i, .int .i64 how, .int .i64 by', .str s, .int .i64 at_] h Q = (
  brS (!fmtS (In.mk op a b c n) == fmtS (In.mk op a b c n)) (Q (IV.bool false) h)
 (brS (!fmtS (In.mk (In.op (kin i)) (In.a (kin i)) (In.b (kin i)) (In.c (kin i)) (In.n (kin i))) == fmtS (In.mk (In.op (kin i)) (In.a (kin i)) (In.b (kin i)) (In.c (kin i)) (In.n (kin i)))) (Q (IV.bool false) h)
 (brS
 (!fmtS
 (In.mk (In.op (muI (In.mk (In.op (kin i)) (In.a (kin i)) (In.b (kin i)) (In.c (kin i)) (In.n (kin i))) how by')) (In.a (muI (In.mk (In.op (kin i)) (In.a (kin i)) (In.b (kin i)) (In.c (kin i)) (In.n (kin i))) how by'))
 (In.b (muI (In.mk (In.op (kin i)) (In.a (kin i)) (In.b (kin i)) (In.c (kin i)) (In.n (kin i))) how by')) (In.c (muI (In.mk (In.op (kin i)) (In.a (kin i)) (In.b (kin i)) (In.c (kin i)) (In.n (kin i))) how by'))
 (In.n (muI (In.mk (In.op (kin i)) (In.a (kin i)) (In.b (kin i)) (In.c (kin i)) (In.n (kin i))) how by'))) ==
 fmtS
 (In.mk (In.op (muI (In.mk (In.op (kin i)) (In.a (kin i)) (In.b (kin i)) (In.c (kin i)) (In.n (kin i))) how by')) (In.a (muI (In.mk (In.op (kin i)) (In.a (kin i)) (In.b (kin i)) (In.c (kin i)) (In.n (kin i))) how by'))
 (In.b (muI (In.mk (In.op (kin i)) (In.a (kin i)) (In.b (kin i)) (In.c (kin i)) (In.n (kin i))) how by')) (In.c (muI (In.mk (In.op (kin i)) (In.a (kin i)) (In.b (kin i)) (In.c (kin i)) (In.n (kin i))) how by'))
 (In.n (muI (In.mk (In.op (kin i)) (In.a (kin i)) (In.b (kin i)) (In.c (kin i)) (In.n (kin i))) how by'))))
 (Q (IV.bool false) h)
 (((0 : Int) < IntKind.wrap IntKind.i64 ((↑(List.length (fmtS (In.mk (In.op (kin i)) (In.a (kin i)) (In.b (kin i)) (In.c (kin i)) (In.n (kin i))))) : Int) + (1 : Int)) ∧
 IntKind.wrap IntKind.i64 ((↑(List.length (fmtS (In.mk (In.op (kin i)) (In.a (kin i)) (In.b (kin i)) (In.c (kin i)) (In.n (kin i))))) : Int) + (1 : Int)) < (4611686018427387904 : Int)) ∧
 ((0 : Int) < (8 : Int) ∧ (8 : Int) < (4611686018427387904 : Int)) ∧
 needS (decide ((0 : Int) ≤ by' % (8 : Int)) && decide (by' % (8 : Int) < (8 : Int)))
 (ldSS [IV.str [(32 : UInt8)], IV.str [(44 : UInt8)], IV.str [(114 : UInt8)], IV.str [(48 : UInt8)], IV.str [(45 : UInt8)], IV.str [(56 : UInt8)], IV.str [(120 : UInt8)], IV.str []] (Int.toNat (by' % (8 : Int)) * (1 : Nat))
 fun (s0 : List UInt8) =>
 needS
 (true &&
 (decide ((0 : Int) ≤ at_ % IntKind.wrap IntKind.i64 ((↑(List.length (fmtS (In.mk (In.op (kin i)) (In.a (kin i)) (In.b (kin i)) (In.c (kin i)) (In.n (kin i))))) : Int) + (1 : Int))) &&
 decide
 (at_ % IntKind.wrap IntKind.i64 ((↑(List.length (fmtS (In.mk (In.op (kin i)) (In.a (kin i)) (In.b (kin i)) (In.c (kin i)) (In.n (kin i))))) : Int) + (1 : Int)) ≤
 (↑(List.length (fmtS (In.mk (In.op (kin i)) (In.a (kin i)) (In.b (kin i)) (In.c (kin i)) (In.n (kin i))))) : Int))))
 (needS
 (Nat.ble
 (List.length
 (List.take (Int.toNat (at_ % IntKind.wrap IntKind.i64 ((↑(List.length (fmtS (In.mk (In.op (kin i)) (In.a (kin i)) (In.b (kin i)) (In.c (kin i)) (In.n (kin i))))) : Int) + (1 : Int))) - (0 : Nat))
 (List.drop (0 : Nat) (fmtS (In.mk (In.op (kin i)) (In.a (kin i)) (In.b (kin i)) (In.c (kin i)) (In.n (kin i)))))) +
 List.length s0)
 (9223372036854775807 : Nat))
 (((0 : Int) < (3 : Int) ∧ (3 : Int) < (4611686018427387904 : Int)) ∧
 needS
 (decide
 ((0 : Int) ≤
 if
 IntKind.wrap IntKind.i64 (at_ % IntKind.wrap IntKind.i64 ((↑(List.length (fmtS (In.mk (In.op (kin i)) (In.a (kin i)) (In.b (kin i)) (In.c (kin i)) (In.n (kin i))))) : Int) + (1 : Int)) + how % (3 : Int)) <
 (↑(List.length (fmtS (In.mk (In.op (kin i)) (In.a (kin i)) (In.b (kin i)) (In.c (kin i)) (In.n (kin i))))) : Int) then
 IntKind.wrap IntKind.i64 (at_ % IntKind.wrap IntKind.i64 ((↑(List.length (fmtS (In.mk (In.op (kin i)) (In.a (kin i)) (In.b (kin i)) (In.c (kin i)) (In.n (kin i))))) : Int) + (1 : Int)) + how % (3 : Int))
 else (↑(List.length (fmtS (In.mk (In.op (kin i)) (In.a (kin i)) (In.b (kin i)) (In.c (kin i)) (In.n (kin i))))) : Int)) &&
 (decide
 ((if
 IntKind.wrap IntKind.i64 (at_ % IntKind.wrap IntKind.i64 ((↑(List.length (fmtS (In.mk (In.op (kin i)) (In.a (kin i)) (In.b (kin i)) (In.c (kin i)) (In.n (kin i))))) : Int) + (1 : Int)) + how % (3 : Int)) <
 (↑(List.length (fmtS (In.mk (In.op (kin i)) (In.a (kin i)) (In.b (kin i)) (In.c (kin i)) (In.n (kin i))))) : Int) then
 IntKind.wrap IntKind.i64 (at_ % IntKind.wrap IntKind.i64 ((↑(List.length (fmtS (In.mk (In.op (kin i)) (In.a (kin i)) (In.b (kin i)) (In.c (kin i)) (In.n (kin i))))) : Int) + (1 : Int)) + how % (3 : Int))
 else (↑(List.length (fmtS (In.mk (In.op (kin i)) (In.a (kin i)) (In.b (kin i)) (In.c (kin i)) (In.n (kin i))))) : Int)) ≤
 (↑(List.length (fmtS (In.mk (In.op (kin i)) (In.a (kin i)) (In.b (kin i)) (In.c (kin i)) (In.n (kin i))))) : Int)) &&
 decide
 ((↑(List.length (fmtS (In.mk (In.op (kin i)) (In.a (kin i)) (In.b (kin i)) (In.c (kin i)) (In.n (kin i))))) : Int) ≤
 (↑(List.length (fmtS (In.mk (In.op (kin i)) (In.a (kin i)) (In.b (kin i)) (In.c (kin i)) (In.n (kin i))))) : Int))))
 (needS
 (Nat.ble
 (List.length
 (List.take (Int.toNat (at_ % IntKind.wrap IntKind.i64 ((↑(List.length (fmtS (In.mk (In.op (kin i)) (In.a (kin i)) (In.b (kin i)) (In.c (kin i)) (In.n (kin i))))) : Int) + (1 : Int))) - (0 : Nat))
 (List.drop (0 : Nat) (fmtS (In.mk (In.op (kin i)) (In.a (kin i)) (In.b (kin i)) (In.c (kin i)) (In.n (kin i))))) ++
 s0) +
 List.length
 (List.take
 (Int.toNat (↑(List.length (fmtS (In.mk (In.op (kin i)) (In.a (kin i)) (In.b (kin i)) (In.c (kin i)) (In.n (kin i))))) : Int) -
 Int.toNat
 (if
 IntKind.wrap IntKind.i64
 (at_ % IntKind.wrap IntKind.i64 ((↑(List.length (fmtS (In.mk (In.op (kin i)) (In.a (kin i)) (In.b (kin i)) (In.c (kin i)) (In.n (kin i))))) : Int) + (1 : Int)) + how % (3 : Int)) <
 (↑(List.length (fmtS (In.mk (In.op (kin i)) (In.a (kin i)) (In.b (kin i)) (In.c (kin i)) (In.n (kin i))))) : Int) then
 IntKind.wrap IntKind.i64
 (at_ % IntKind.wrap IntKind.i64 ((↑(List.length (fmtS (In.mk (In.op (kin i)) (In.a (kin i)) (In.b (kin i)) (In.c (kin i)) (In.n (kin i))))) : Int) + (1 : Int)) + how % (3 : Int))
 else (↑(List.length (fmtS (In.mk (In.op (kin i)) (In.a (kin i)) (In.b (kin i)) (In.c (kin i)) (In.n (kin i))))) : Int)))
 (List.drop
 (Int.toNat
 (if
 IntKind.wrap IntKind.i64
 (at_ % IntKind.wrap IntKind.i64 ((↑(List.length (fmtS (In.mk (In.op (kin i)) (In.a (kin i)) (In.b (kin i)) (In.c (kin i)) (In.n (kin i))))) : Int) + (1 : Int)) + how % (3 : Int)) <
 (↑(List.length (fmtS (In.mk (In.op (kin i)) (In.a (kin i)) (In.b (kin i)) (In.c (kin i)) (In.n (kin i))))) : Int) then
 IntKind.wrap IntKind.i64
 (at_ % IntKind.wrap IntKind.i64 ((↑(List.length (fmtS (In.mk (In.op (kin i)) (In.a (kin i)) (In.b (kin i)) (In.c (kin i)) (In.n (kin i))))) : Int) + (1 : Int)) + how % (3 : Int))
 else (↑(List.length (fmtS (In.mk (In.op (kin i)) (In.a (kin i)) (In.b (kin i)) (In.c (kin i)) (In.n (kin i))))) : Int)))
 (fmtS (In.mk (In.op (kin i)) (In.a (kin i)) (In.b (kin i)) (In.c (kin i)) (In.n (kin i)))))))
 (9223372036854775807 : Nat))
 ((∃ (x : Nat × List IV),
 some
 (TV.v
 (IV.vslice none (1 : Nat) (3 : Nat) (1 : Nat)
 [IV.str s, IV.str (fmtS (In.mk (In.op (kin i)) (In.a (kin i)) (In.b (kin i)) (In.c (kin i)) (In.n (kin i)))),
 IV.str
 (List.take (Int.toNat (at_ % IntKind.wrap IntKind.i64 ((↑(List.length (fmtS (In.mk (In.op (kin i)) (In.a (kin i)) (In.b (kin i)) (In.c (kin i)) (In.n (kin i))))) : Int) + (1 : Int))) - (0 : Nat))
 (List.drop (0 : Nat) (fmtS (In.mk (In.op (kin i)) (In.a (kin i)) (In.b (kin i)) (In.c (kin i)) (In.n (kin i))))) ++
 s0 ++
 List.take
 (Int.toNat (↑(List.length (fmtS (In.mk (In.op (kin i)) (In.a (kin i)) (In.b (kin i)) (In.c (kin i)) (In.n (kin i))))) : Int) -
 Int.toNat
 (if
 IntKind.wrap IntKind.i64
 (at_ % IntKind.wrap IntKind.i64 ((↑(List.length (fmtS (In.mk (In.op (kin i)) (In.a (kin i)) (In.b (kin i)) (In.c (kin i)) (In.n (kin i))))) : Int) + (1 : Int)) + how % (3 : Int)) <
 (↑(List.length (fmtS (In.mk (In.op (kin i)) (In.a (kin i)) (In.b (kin i)) (In.c (kin i)) (In.n (kin i))))) : Int) then
 IntKind.wrap IntKind.i64
 (at_ % IntKind.wrap IntKind.i64 ((↑(List.length (fmtS (In.mk (In.op (kin i)) (In.a (kin i)) (In.b (kin i)) (In.c (kin i)) (In.n (kin i))))) : Int) + (1 : Int)) + how % (3 : Int))
 else (↑(List.length (fmtS (In.mk (In.op (kin i)) (In.a (kin i)) (In.b (kin i)) (In.c (kin i)) (In.n (kin i))))) : Int)))
 (List.drop
 (Int.toNat
 (if
 IntKind.wrap IntKind.i64
 (at_ % IntKind.wrap IntKind.i64 ((↑(List.length (fmtS (In.mk (In.op (kin i)) (In.a (kin i)) (In.b (kin i)) (In.c (kin i)) (In.n (kin i))))) : Int) + (1 : Int)) + how % (3 : Int)) <
 (↑(List.length (fmtS (In.mk (In.op (kin i)) (In.a (kin i)) (In.b (kin i)) (In.c (kin i)) (In.n (kin i))))) : Int) then
 IntKind.wrap IntKind.i64
 (at_ % IntKind.wrap IntKind.i64 ((↑(List.length (fmtS (In.mk (In.op (kin i)) (In.a (kin i)) (In.b (kin i)) (In.c (kin i)) (In.n (kin i))))) : Int) + (1 : Int)) + how % (3 : Int))
 else (↑(List.length (fmtS (In.mk (In.op (kin i)) (In.a (kin i)) (In.b (kin i)) (In.c (kin i)) (In.n (kin i))))) : Int)))
 (fmtS (In.mk (In.op (kin i)) (In.a (kin i)) (In.b (kin i)) (In.c (kin i)) (In.n (kin i))))))])) =
 some (TV.v (IV.vslice none (1 : Nat) (3 : Nat) (1 : Nat) (Prod.snd x))) ∧
 some (TV.v (IV.int IntKind.i64 (3 : Int))) = some (TV.v (IV.int IntKind.i64 (3 : Int))) ∧
 some (TV.v (IV.int IntKind.i64 (0 : Int))) = some (TV.v (IV.int IntKind.i64 (↑(Prod.fst x) : Int))) ∧
 Heap.mk PT.nil (0 : Nat) = Heap.mk PT.nil (0 : Nat) ∧
 ((Prod.fst x ≤ (3 : Nat) ∧ List.length (Prod.snd x) = (3 : Nat)) ∧ ∀ (y : IV), y ∈ Prod.snd x → ∃ (u : List UInt8), y = IV.str u ∧ List.length u ≤ (10000000 : Nat)) ∧ True) ∧
 ∀ (x : Nat × List IV) (b : FF),
 ((Prod.fst x ≤ (3 : Nat) ∧ List.length (Prod.snd x) = (3 : Nat)) ∧ ∀ (y : IV), y ∈ Prod.snd x → ∃ (u : List UInt8), y = IV.str u ∧ List.length u ≤ (10000000 : Nat)) →
 brS (decide ((↑(Prod.fst x) : Int) < (3 : Int)))
 (needS (decide ((0 : Int) ≤ (↑(Prod.fst x) : Int)) && decide ((↑(Prod.fst x) : Int) < (3 : Int)))
 (ldSS (Prod.snd x) (Int.toNat (↑(Prod.fst x) : Int) * (1 : Nat)) fun (s1 : List UInt8) =>
 List.length s1 ≤ (1000000000000 : Nat) ∧
 ∀ (r : In × Bool),
 Rs s1 r →
 List.length s1 ≤ (10000000 : Nat) ∧
 ∀ (r_1 : In × Bool),
 Rs s1 r_1 →
 brS
 (!(In.op (Prod.fst r) == In.op (Prod.fst r_1) &&
 (In.a (Prod.fst r) == In.a (Prod.fst r_1) &&
 (In.b (Prod.fst r) == In.b (Prod.fst r_1) && (In.c (Prod.fst r) == In.c (Prod.fst r_1) && (In.n (Prod.fst r) == In.n (Prod.fst r_1) && true))))))
 (Q (IV.bool false) h)
 (brS (!Prod.snd r == Prod.snd r_1) (Q (IV.bool false) h)
 (∃ (x_1 : Nat × List IV),
 some (TV.v (IV.vslice none (1 : Nat) (3 : Nat) (1 : Nat) (Prod.snd x))) = some (TV.v (IV.vslice none (1 : Nat) (3 : Nat) (1 : Nat) (Prod.snd x_1))) ∧
 some (TV.v (IV.int IntKind.i64 (3 : Int))) = some (TV.v (IV.int IntKind.i64 (3 : Int))) ∧
 some (TV.v (IV.int IntKind.i64 (IntKind.wrap IntKind.i64 ((↑(Prod.fst x) : Int) + (1 : Int))))) = some (TV.v (IV.int IntKind.i64 (↑(Prod.fst x_1) : Int))) ∧
 Heap.mk PT.nil (0 : Nat) = Heap.mk PT.nil (0 : Nat) ∧
 ((Prod.fst x_1 ≤ (3 : Nat) ∧ List.length (Prod.snd x_1) = (3 : Nat)) ∧ ∀ (y : IV), y ∈ Prod.snd x_1 → ∃ (u : List UInt8), y = IV.str u ∧ List.length u ≤ (10000000 : Nat)) ∧
 (3 : Nat) - Prod.fst x_1 < (3 : Nat) - Prod.fst x))))
 (Q (IV.bool true) h)))))))))) := by kernel_rfl
set_option maxHeartbeats 4000000 in
theorem sTextL : ∀ xs h Q, kTextL xs h Q → CallW env 5 xs h Q := by
  intro xs h Q hk
  unfold kTextL at hk
  split at hk
  · rename_i op a b c n i how by' s at_
    refine dF_sound (okExO) (mp_eq (vTextL op a b c n i how by' s at_ h Q) ?_)
    obtain ⟨⟨hi, hs⟩, hk⟩ := hk
    have vi : vIn (kin i) = true := kin_valid i hi
    have hT : (fmtS (kin i)).length ≤ 1000 := fmt_len vi
    have eta : (In.mk (kin i).op (kin i).a (kin i).b (kin i).c (kin i).n) = kin i := rfl
    refine brS_false (by simp) (brS_false (by simp) (brS_false (by simp) ?_))
    simp only [eta]
    generalize fmtS (kin i) = t at *
    have hw : IntKind.i64.wrap ((t.length : Int) + 1) = (t.length : Int) + 1 := IntWalk.i64_in _ (by omega)
    simp only [hw]
    have hp0 : 0 ≤ at_ % ((t.length : Int) + 1) := Int.emod_nonneg _ (by omega)
    have hp1 : at_ % ((t.length : Int) + 1) < (t.length : Int) + 1 := Int.emod_lt_of_pos _ (by omega)
    generalize at_ % ((t.length : Int) + 1) = p at *
    have hw2 : IntKind.i64.wrap (p + how % 3) = p + how % 3 := IntWalk.i64_in _ (by omega)
    simp only [hw2]
    have hz : 0 ≤ (if p + how % 3 < (t.length : Int) then p + how % 3 else (t.length : Int)) ∧ (if p + how % 3 < (t.length : Int) then p + how % 3 else (t.length : Int)) ≤ (t.length : Int) := by
      split <;> omega
    generalize (if p + how % 3 < (t.length : Int) then p + how % 3 else (t.length : Int)) = z at *
    refine ⟨by omega, by omega, needS_intro (by simp; omega) (ldSS_at (l := [[32], [44], [114], [48], [45], [56], [120], []]) (k := (by' % 8).toNat) (by simp; omega) (by simp) ?_)⟩
    have h1 : ([[32], [44], [114], [48], [45], [56], [120], []] : List (List UInt8))[(by' % 8).toNat]'(by simp; omega) ∈ ([[32], [44], [114], [48], [45], [56], [120], []] : List (List UInt8)) := List.getElem_mem _
    have h2 : ∀ y ∈ ([[32], [44], [114], [48], [45], [56], [120], []] : List (List UInt8)), y.length ≤ 1 := by decide
    have h3 := h2 _ h1
    generalize ([[32], [44], [114], [48], [45], [56], [120], []] : List (List UInt8))[(by' % 8).toNat]'(by simp; omega) = s0 at *
    refine needS_intro (by simp; omega) (needS_intro (by rw [Nat.ble_eq]; simp; omega) ⟨by omega, needS_intro (by simp; omega) (needS_intro (by rw [Nat.ble_eq]; simp; omega) ⟨⟨(0, [_, _, _]), (by first | rfl | trivial), (by first | rfl | trivial), (by first | rfl | trivial), (by first | rfl | trivial), ⟨⟨(show 0 ≤ 3 by omega), rfl⟩, ?_⟩, trivial⟩, fun x _ hx => ?_⟩)⟩)
    · intro y hy
      simp only [List.mem_cons, List.not_mem_nil, or_false] at hy
      rcases hy with rfl | rfl | rfl
      · exact ⟨_, rfl, by omega⟩
      · exact ⟨_, rfl, by omega⟩
      · exact ⟨_, rfl, by simp; omega⟩
    · obtain ⟨k, l⟩ := x
      obtain ⟨⟨hk3, hl3⟩, hall⟩ := hx
      simp only at hk3 hl3 hall ⊢
      refine brS_intro (fun c1 => ?_) (fun _ => hk)
      rw [decide_eq_true_eq] at c1
      refine needS_intro (by simp; omega) (ldSS_g (i := k) (by omega) (by simp) hall fun u hu => ⟨by omega, fun r hr => ⟨hu, fun q hq => ?_⟩⟩)
      obtain rfl := Rs_det hr hq
      exact brS_false (by simp) (brS_false (by simp) ⟨(k + 1, l), (by first | rfl | trivial), (by first | rfl | trivial), by rw [IntWalk.i64_in _ (by omega)]; rfl, (by first | rfl | trivial), ⟨⟨(show k + 1 ≤ 3 by omega), hl3⟩, hall⟩, by simp only; omega⟩)
  · exact hk.elim
def cTextL := addC 5 kTextL cExO
theorem okTextL : Sound env cTextL := sound_add sTextL (okExO)

end Go.Proofs.YtfmcdageaananaaDoor
