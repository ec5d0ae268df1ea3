/-
  Machine words: flipped bits, instructions of seeds; the statement EncodingFlip.
  Conditions: none.
-/
import Derived.Test.YtlenjfbmpekabaaDoorF30
import Derived.Test.YtlenjfbmpekabaaDoorQ30
import Derived.KernelRfl
set_option linter.unusedVariables false
set_option linter.unusedSimpArgs false
namespace Go.Proofs.YtlenjfbmpekabaaDoor
open Go.Pv Go.M29 Go.M30
def siInv (l m : List Int) : Inv' := atX Nat (fun i => [(0, .v (.vslice none 0 l.length 1 (l.map (IV.int .i64)))), (1, .v (.vslice none 0 m.length 1 (m.map (IV.int .i64)))), (5, .v (.int .i64 i))]) (fun _ => []) (fun _ => Heap.empty)
  (fun i => (l.length = m.length ∧ i ≤ l.length) ∧ ∀ j, j < i → l[j]? = m[j]?) (fun i => l.length - i)
def kSameInts (xs : List IV) (h : Heap) (K : IV → Heap → Prop) : Prop := match xs with
  | [.vslice none e1 n1 1 c1, .vslice none e2 n2 1 c2] => ∃ l m : List Int, (n1 = l.length ∧ c1 = l.map (IV.int .i64)) ∧ (n2 = m.length ∧ c2 = m.map (IV.int .i64)) ∧ l.length < 4611686018427387904 ∧ K (.bool (l == m)) h
  | _ => False
set_option maxRecDepth 100000 in
theorem vSameInts (l m : List Int) (e1 e2 : Nat) (h : Heap) (Q : IV → Heap → Prop) : dF (stdS cRDecode) env 25 noU (ic1 5 (siInv l m)) noI [.vslice none e1 l.length 1 (l.map (IV.int .i64)), .vslice none e2 m.length 1 (m.map (IV.int .i64))] h Q = (
  needS (pureL [IV.vslice none (0 : Nat) (List.length l) (1 : Nat) (List.map (IV.int IntKind.i64) l), IV.vslice none (0 : Nat) (List.length m) (1 : Nat) (List.map (IV.int IntKind.i64) m)])
 (brS ((↑(List.length l) : Int) != (↑(List.length m) : Int)) (Q (IV.bool false) h)
 ((∃ (x : Nat),
 some (TV.v (IV.vslice none (0 : Nat) (List.length l) (1 : Nat) (List.map (IV.int IntKind.i64) l))) = some (TV.v (IV.vslice none (0 : Nat) (List.length l) (1 : Nat) (List.map (IV.int IntKind.i64) l))) ∧
 some (TV.v (IV.vslice none (0 : Nat) (List.length m) (1 : Nat) (List.map (IV.int IntKind.i64) m))) = some (TV.v (IV.vslice none (0 : Nat) (List.length m) (1 : Nat) (List.map (IV.int IntKind.i64) m))) ∧
 some (TV.v (IV.int IntKind.i64 (0 : Int))) = some (TV.v (IV.int IntKind.i64 (↑x : Int))) ∧
 Heap.mk PT.nil (0 : Nat) = Heap.mk PT.nil (0 : Nat) ∧ ((List.length l = List.length m ∧ x ≤ List.length l) ∧ ∀ (j : Nat), j < x → l[j]? = m[j]?) ∧ True) ∧
 ∀ (x : Nat) (b : FF),
 ((List.length l = List.length m ∧ x ≤ List.length l) ∧ ∀ (j : Nat), j < x → l[j]? = m[j]?) →
 brS (decide ((↑x : Int) < (↑(List.length l) : Int)))
 (needS (decide ((0 : Int) ≤ (↑x : Int)) && decide ((↑x : Int) < (↑(List.length l) : Int)))
 (ldIS IntKind.i64 (List.map (IV.int IntKind.i64) l) (Int.toNat (↑x : Int) * (1 : Nat)) fun (n0 : Int) =>
 needS (decide ((0 : Int) ≤ (↑x : Int)) && decide ((↑x : Int) < (↑(List.length m) : Int)))
 (ldIS IntKind.i64 (List.map (IV.int IntKind.i64) m) (Int.toNat (↑x : Int) * (1 : Nat)) fun (n1 : Int) =>
 brS (n0 != n1) (Q (IV.bool false) h)
 (∃ (x_1 : Nat),
 some (TV.v (IV.vslice none (0 : Nat) (List.length l) (1 : Nat) (List.map (IV.int IntKind.i64) l))) = some (TV.v (IV.vslice none (0 : Nat) (List.length l) (1 : Nat) (List.map (IV.int IntKind.i64) l))) ∧
 some (TV.v (IV.vslice none (0 : Nat) (List.length m) (1 : Nat) (List.map (IV.int IntKind.i64) m))) = some (TV.v (IV.vslice none (0 : Nat) (List.length m) (1 : Nat) (List.map (IV.int IntKind.i64) m))) ∧
 some (TV.v (IV.int IntKind.i64 (IntKind.wrap IntKind.i64 ((↑x : Int) + (1 : Int))))) = some (TV.v (IV.int IntKind.i64 (↑x_1 : Int))) ∧
 Heap.mk PT.nil (0 : Nat) = Heap.mk PT.nil (0 : Nat) ∧ ((List.length l = List.length m ∧ x_1 ≤ List.length l) ∧ ∀ (j : Nat), j < x_1 → l[j]? = m[j]?) ∧ List.length l - x_1 < List.length l - x))))
 (Q (IV.bool true) h)))) := by kernel_rfl
theorem sSameInts : ∀ xs h Q, kSameInts xs h Q → CallW env 25 xs h Q := by
  intro xs h Q hk
  unfold kSameInts at hk
  split at hk
  · rename_i e1 n1 c1 e2 n2 c2
    obtain ⟨l, m, ⟨rfl, rfl⟩, ⟨rfl, rfl⟩, hb, hk⟩ := hk
    refine dF_run (okRDecode) (vSameInts l m e1 e2 h Q) ?_
    refine needS_intro (by simp only [pureL, pureB, pureL_ints, Bool.and_true]) (brS_intro (fun hc => q_eq hk ?_) (fun hc => ?_))
    · congr 1
      have : l ≠ m := fun e => by subst e; simp at hc
      simpa using this
    have hl : l.length = m.length := by simp at hc; omega
    refine ⟨⟨0, rfl, rfl, rfl, rfl, ⟨⟨hl, by omega⟩, fun j hj => by omega⟩, trivial⟩, fun i _ hi => brS_intro (fun c1 => ?_) (fun c1 => q_eq hk ?_)⟩
    · simp only [decide_eq_true_eq] at c1
      have hi1 : i < l.length := by omega
      have hi2 : i < m.length := by omega
      have e1 : (i : Int).toNat * 1 = i := by omega
      rw [e1]
      refine needS_intro (by simp; omega) (ldIS_map hi1 (needS_intro (by simp; omega) (ldIS_map hi2 (brS_intro (fun c2 => q_eq hk ?_) (fun c2 => ?_)))))
      · congr 1
        have : l ≠ m := fun e => by subst e; simp at c2
        simpa using this
      · have e2 : IntKind.i64.wrap ((i : Int) + 1) = ((i + 1 : Nat) : Int) := by rw [IntWalk.i64_in _ (by omega)]; rfl
        refine ⟨i + 1, rfl, rfl, by rw [e2], rfl, ⟨⟨hl, by omega⟩, fun j hj => ?_⟩, by omega⟩
        rcases Nat.lt_or_ge j i with q | q
        · exact hi.2 j q
        · obtain rfl : j = i := by omega
          rw [List.getElem?_eq_getElem hi1, List.getElem?_eq_getElem hi2]
          simpa using c2
    · simp only [decide_eq_false_iff_not] at c1
      have : l = m := List.ext_getElem? fun j => by
        rcases Nat.lt_or_ge j i with q | q
        · exact hi.2 j q
        · rw [List.getElem?_eq_none (by omega), List.getElem?_eq_none (by omega)]
      simp [this]
  · exact hk.elim
def cSameInts := addC 25 kSameInts cRDecode
theorem okSameInts : Sound env cSameInts := sound_add sSameInts (okRDecode)

def swInv (l m : List Int) : Inv' := atX Nat (fun i => [(0, .v (.vslice none 0 l.length 1 (l.map (IV.int .u32)))), (1, .v (.vslice none 0 m.length 1 (m.map (IV.int .u32)))), (5, .v (.int .i64 i))]) (fun _ => []) (fun _ => Heap.empty)
  (fun i => (l.length = m.length ∧ i ≤ l.length) ∧ ∀ j, j < i → l[j]? = m[j]?) (fun i => l.length - i)
def kSameWords (xs : List IV) (h : Heap) (K : IV → Heap → Prop) : Prop := match xs with
  | [.vslice none e1 n1 1 c1, .vslice none e2 n2 1 c2] => ∃ l m : List Int, (n1 = l.length ∧ c1 = l.map (IV.int .u32)) ∧ (n2 = m.length ∧ c2 = m.map (IV.int .u32)) ∧ l.length < 4611686018427387904 ∧ K (.bool (l == m)) h
  | _ => False
set_option maxRecDepth 100000 in
theorem vSameWords (l m : List Int) (e1 e2 : Nat) (h : Heap) (Q : IV → Heap → Prop) : dF (stdS cSameInts) env 45 noU (ic1 5 (swInv l m)) noI [.vslice none e1 l.length 1 (l.map (IV.int .u32)), .vslice none e2 m.length 1 (m.map (IV.int .u32))] h Q = (
  needS (pureL [IV.vslice none (0 : Nat) (List.length l) (1 : Nat) (List.map (IV.int IntKind.u32) l), IV.vslice none (0 : Nat) (List.length m) (1 : Nat) (List.map (IV.int IntKind.u32) m)])
 (brS ((↑(List.length l) : Int) != (↑(List.length m) : Int)) (Q (IV.bool false) h)
 ((∃ (x : Nat),
 some (TV.v (IV.vslice none (0 : Nat) (List.length l) (1 : Nat) (List.map (IV.int IntKind.u32) l))) = some (TV.v (IV.vslice none (0 : Nat) (List.length l) (1 : Nat) (List.map (IV.int IntKind.u32) l))) ∧
 some (TV.v (IV.vslice none (0 : Nat) (List.length m) (1 : Nat) (List.map (IV.int IntKind.u32) m))) = some (TV.v (IV.vslice none (0 : Nat) (List.length m) (1 : Nat) (List.map (IV.int IntKind.u32) m))) ∧
 some (TV.v (IV.int IntKind.i64 (0 : Int))) = some (TV.v (IV.int IntKind.i64 (↑x : Int))) ∧
 Heap.mk PT.nil (0 : Nat) = Heap.mk PT.nil (0 : Nat) ∧ ((List.length l = List.length m ∧ x ≤ List.length l) ∧ ∀ (j : Nat), j < x → l[j]? = m[j]?) ∧ True) ∧
 ∀ (x : Nat) (b : FF),
 ((List.length l = List.length m ∧ x ≤ List.length l) ∧ ∀ (j : Nat), j < x → l[j]? = m[j]?) →
 brS (decide ((↑x : Int) < (↑(List.length l) : Int)))
 (needS (decide ((0 : Int) ≤ (↑x : Int)) && decide ((↑x : Int) < (↑(List.length l) : Int)))
 (ldIS IntKind.u32 (List.map (IV.int IntKind.u32) l) (Int.toNat (↑x : Int) * (1 : Nat)) fun (n0 : Int) =>
 needS (decide ((0 : Int) ≤ (↑x : Int)) && decide ((↑x : Int) < (↑(List.length m) : Int)))
 (ldIS IntKind.u32 (List.map (IV.int IntKind.u32) m) (Int.toNat (↑x : Int) * (1 : Nat)) fun (n1 : Int) =>
 brS (n0 != n1) (Q (IV.bool false) h)
 (∃ (x_1 : Nat),
 some (TV.v (IV.vslice none (0 : Nat) (List.length l) (1 : Nat) (List.map (IV.int IntKind.u32) l))) = some (TV.v (IV.vslice none (0 : Nat) (List.length l) (1 : Nat) (List.map (IV.int IntKind.u32) l))) ∧
 some (TV.v (IV.vslice none (0 : Nat) (List.length m) (1 : Nat) (List.map (IV.int IntKind.u32) m))) = some (TV.v (IV.vslice none (0 : Nat) (List.length m) (1 : Nat) (List.map (IV.int IntKind.u32) m))) ∧
 some (TV.v (IV.int IntKind.i64 (IntKind.wrap IntKind.i64 ((↑x : Int) + (1 : Int))))) = some (TV.v (IV.int IntKind.i64 (↑x_1 : Int))) ∧
 Heap.mk PT.nil (0 : Nat) = Heap.mk PT.nil (0 : Nat) ∧ ((List.length l = List.length m ∧ x_1 ≤ List.length l) ∧ ∀ (j : Nat), j < x_1 → l[j]? = m[j]?) ∧ List.length l - x_1 < List.length l - x))))
 (Q (IV.bool true) h)))) := by kernel_rfl
theorem sSameWords : ∀ xs h Q, kSameWords xs h Q → CallW env 45 xs h Q := by
  intro xs h Q hk
  unfold kSameWords at hk
  split at hk
  · rename_i e1 n1 c1 e2 n2 c2
    obtain ⟨l, m, ⟨rfl, rfl⟩, ⟨rfl, rfl⟩, hb, hk⟩ := hk
    refine dF_run (okSameInts) (vSameWords l m e1 e2 h Q) ?_
    refine needS_intro (by simp only [pureL, pureB, pureL_ints, Bool.and_true]) (brS_intro (fun hc => q_eq hk ?_) (fun hc => ?_))
    · congr 1
      have : l ≠ m := fun e => by subst e; simp at hc
      simpa using this
    have hl : l.length = m.length := by simp at hc; omega
    refine ⟨⟨0, rfl, rfl, rfl, rfl, ⟨⟨hl, by omega⟩, fun j hj => by omega⟩, trivial⟩, fun i _ hi => brS_intro (fun c1 => ?_) (fun c1 => q_eq hk ?_)⟩
    · simp only [decide_eq_true_eq] at c1
      have hi1 : i < l.length := by omega
      have hi2 : i < m.length := by omega
      have e1 : (i : Int).toNat * 1 = i := by omega
      rw [e1]
      refine needS_intro (by simp; omega) (ldIS_map hi1 (needS_intro (by simp; omega) (ldIS_map hi2 (brS_intro (fun c2 => q_eq hk ?_) (fun c2 => ?_)))))
      · congr 1
        have : l ≠ m := fun e => by subst e; simp at c2
        simpa using this
      · have e2 : IntKind.i64.wrap ((i : Int) + 1) = ((i + 1 : Nat) : Int) := by rw [IntWalk.i64_in _ (by omega)]; rfl
        refine ⟨i + 1, rfl, rfl, by rw [e2], rfl, ⟨⟨hl, by omega⟩, fun j hj => ?_⟩, by omega⟩
        rcases Nat.lt_or_ge j i with q | q
        · exact hi.2 j q
        · obtain rfl : j = i := by omega
          rw [List.getElem?_eq_getElem hi1, List.getElem?_eq_getElem hi2]
          simpa using c2
    · simp only [decide_eq_false_iff_not] at c1
      have : l = m := List.ext_getElem? fun j => by
        rcases Nat.lt_or_ge j i with q | q
        · exact hi.2 j q
        · rw [List.getElem?_eq_none (by omega), List.getElem?_eq_none (by omega)]
      simp [this]
  · exact hk.elim
def cSameWords := addC 45 kSameWords cSameInts
theorem okSameWords : Sound env cSameWords := sound_add sSameWords (okSameInts)

def kFlipBit (xs : List IV) (h : Heap) (K : IV → Heap → Prop) : Prop := match xs with
  | [.vslice none e1 n1 1 c1, .int .i64 p, .int .i64 b] => ∃ w : List Int, (n1 = w.length ∧ c1 = w.map (IV.int .u32)) ∧ w.length ≤ 1000000000000 ∧ K (.vslice none 0 (flipW w p b).length 1 ((flipW w p b).map (IV.int .u32))) h
  | _ => False
set_option maxRecDepth 100000 in
theorem vFlipBit (w : List Int) (e1 : Nat) (p b : Int) (h : Heap) (Q : IV → Heap → Prop) : dF (stdS cSameWords) env 46 noU noI noI [.vslice none e1 (w).length 1 ((w).map (IV.int .u32)), .int .i64 p, .int .i64 b] h Q = (
  needS (pureL [IV.vslice none (0 : Nat) (List.length w) (1 : Nat) (List.map (IV.int IntKind.u32) w), IV.int IntKind.i64 p, IV.int IntKind.i64 b])
 (brS (Nat.beq (List.length w) (0 : Nat)) (Q (IV.vslice none (0 : Nat) (0 : Nat) (1 : Nat) []) h)
 (needS (Nat.ble (List.length w * (4 : Nat)) (140737488355328 : Nat))
 (brS (decide ((↑(List.length w) : Int) > (0 : Int)))
 (((0 : Int) < (↑(List.length w) : Int) ∧ (↑(List.length w) : Int) < (4611686018427387904 : Int)) ∧
 needS (decide ((0 : Int) ≤ p % (↑(List.length w) : Int)) && decide (p % (↑(List.length w) : Int) < (↑(List.length w) : Int)))
 (ldIS IntKind.u32 (List.map (IV.int IntKind.u32) w) ((0 : Nat) + Int.toNat (p % (↑(List.length w) : Int)) * (1 : Nat)) fun (n0 : Int) =>
 ((0 : Int) < (32 : Int) ∧ (32 : Int) < (4611686018427387904 : Int)) ∧
 needS (decide ((0 : Int) ≤ IntKind.wrap IntKind.u64 (b % (32 : Int))))
 (needS (decide ((0 : Int) ≤ p % (↑(List.length w) : Int)) && decide (p % (↑(List.length w) : Int) < (↑(List.length w) : Int)))
 (needS (Nat.ble ((0 : Nat) + Int.toNat (p % (↑(List.length w) : Int)) * (1 : Nat) + (1 : Nat)) (List.length (List.map (IV.int IntKind.u32) w)))
 (needS
 (true &&
 Nat.ble ((0 : Nat) + List.length w * (1 : Nat))
 (List.length
 (List.take ((0 : Nat) + Int.toNat (p % (↑(List.length w) : Int)) * (1 : Nat)) (List.map (IV.int IntKind.u32) w) ++
 [IV.int IntKind.u32 (bvXor IntKind.u32 n0 (IntKind.wrap IntKind.u32 ((1 : Int) * (2 : Int) ^ min (Int.toNat (IntKind.wrap IntKind.u64 (b % (32 : Int)))) (32 : Nat))))] ++
 List.drop ((0 : Nat) + Int.toNat (p % (↑(List.length w) : Int)) * (1 : Nat) + (1 : Nat)) (List.map (IV.int IntKind.u32) w))))
 (needS
 (pureL
 [IV.vslice none (0 : Nat) (List.length w) (1 : Nat)
 (List.take (List.length w * (1 : Nat))
 (List.drop (0 : Nat)
 (List.take ((0 : Nat) + Int.toNat (p % (↑(List.length w) : Int)) * (1 : Nat)) (List.map (IV.int IntKind.u32) w) ++
 [IV.int IntKind.u32 (bvXor IntKind.u32 n0 (IntKind.wrap IntKind.u32 ((1 : Int) * (2 : Int) ^ min (Int.toNat (IntKind.wrap IntKind.u64 (b % (32 : Int)))) (32 : Nat))))] ++
 List.drop ((0 : Nat) + Int.toNat (p % (↑(List.length w) : Int)) * (1 : Nat) + (1 : Nat)) (List.map (IV.int IntKind.u32) w))))])
 (Q
 (IV.vslice none (0 : Nat) (List.length w) (1 : Nat)
 (List.take (List.length w * (1 : Nat))
 (List.drop (0 : Nat)
 (List.take ((0 : Nat) + Int.toNat (p % (↑(List.length w) : Int)) * (1 : Nat)) (List.map (IV.int IntKind.u32) w) ++
 [IV.int IntKind.u32 (bvXor IntKind.u32 n0 (IntKind.wrap IntKind.u32 ((1 : Int) * (2 : Int) ^ min (Int.toNat (IntKind.wrap IntKind.u64 (b % (32 : Int)))) (32 : Nat))))] ++
 List.drop ((0 : Nat) + Int.toNat (p % (↑(List.length w) : Int)) * (1 : Nat) + (1 : Nat)) (List.map (IV.int IntKind.u32) w)))))
 h)))))))
 (needS (true && Nat.ble ((0 : Nat) + List.length w * (1 : Nat)) (List.length (List.map (IV.int IntKind.u32) w)))
 (needS (pureL [IV.vslice none (0 : Nat) (List.length w) (1 : Nat) (List.take (List.length w * (1 : Nat)) (List.drop (0 : Nat) (List.map (IV.int IntKind.u32) w)))])
 (Q (IV.vslice none (0 : Nat) (List.length w) (1 : Nat) (List.take (List.length w * (1 : Nat)) (List.drop (0 : Nat) (List.map (IV.int IntKind.u32) w)))) h))))))) := by kernel_rfl
theorem sFlipBit : ∀ xs h Q, kFlipBit xs h Q → CallW env 46 xs h Q := by
  intro xs h Q hk
  unfold kFlipBit at hk
  split at hk
  · rename_i e1 n1 c1 p b
    obtain ⟨w, ⟨rfl, rfl⟩, hb, hk⟩ := hk
    refine dF_run (okSameWords) (vFlipBit w e1 p b h Q) ?_
    refine needS_intro (by simp only [pureL, pureB, pureL_ints, Bool.and_true]) (brS_intro (fun c1 => ?_) (fun c1 => needS_intro (by rw [Nat.ble_eq]; omega) (brS_intro (fun c2 => ⟨by rw [nbeq_f] at c1; omega, ?_⟩) (fun c2 => ?_))))
    · rw [nbeq_t] at c1
      obtain rfl : w = [] := List.eq_nil_of_length_eq_zero c1
      exact hk
    · rw [nbeq_f] at c1
      have hne : w ≠ [] := fun e => c1 (by rw [e]; rfl)
      have h0 : 0 ≤ p % (w.length : Int) := Int.emod_nonneg _ (by omega)
      have h1 : p % (w.length : Int) < w.length := Int.emod_lt_of_pos _ (by omega)
      have hlt : (p % (w.length : Int)).toNat < w.length := by omega
      have hb0 : (0 : Int) ≤ IntKind.u64.wrap (b % 32) := by rw [Go.M30.u64w]; omega
      simp only [Nat.zero_add, Nat.mul_one, List.drop_zero]
      refine needS_intro (by simp; omega) (ldIS_x (i := (p % (w.length : Int)).toNat) hlt rfl ⟨by omega, needS_intro (by rw [decide_eq_true_eq]; exact hb0) (needS_intro (by simp; omega) (needS_intro (by simp; omega) (needS_intro ?_ ?_)))⟩)
      · simp; omega
      have hs : flipW w p b = w.set (p % (w.length : Int)).toNat (bvXor .u32 (w.getD (p % (w.length : Int)).toNat 0) (IntKind.u32.wrap (1 * 2 ^ min (IntKind.u64.wrap (b % 32)).toNat 32))) := if_neg hne
      rw [hs] at hk
      generalize bvXor .u32 (w.getD (p % (w.length : Int)).toNat 0) (IntKind.u32.wrap (1 * 2 ^ min (IntKind.u64.wrap (b % 32)).toNat 32)) = v at *
      refine slQ hk ?_ (by simp)
      rw [List.take_of_length_le (by simp; omega), List.set_eq_take_append_cons_drop, if_pos hlt]
      simp [List.map_take, List.map_drop]
    · rw [nbeq_f] at c1
      rw [decide_eq_false_iff_not] at c2
      omega
  · exact hk.elim
def cFlipBit := addC 46 kFlipBit cSameWords
theorem okFlipBit : Sound env cFlipBit := sound_add sFlipBit (okSameWords)

def kExG (xs : List IV) (h : Heap) (K : IV → Heap → Prop) : Prop := match xs with
  | [] => K (.bool true) h
  | _ => False
theorem sExG : ∀ xs h Q, kExG xs h Q → CallW env 12 xs h Q := by
  intro xs h Q hk
  unfold kExG at hk
  split at hk
  · exact ⟨200, .bool true, h, by kernel_rfl, hk⟩
  · exact hk.elim
def cExG := addC 12 kExG cFlipBit
theorem okExG : Sound env cExG := sound_add sExG (okFlipBit)

end Go.Proofs.YtlenjfbmpekabaaDoor
