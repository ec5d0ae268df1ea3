/-
  The target machine: what instructions read; the statement MachineOperands.
  Conditions: none.
-/
import Derived.Test.YtfmcdageaananaaDoorB29
import Derived.KernelRfl
set_option linter.unusedVariables false
set_option linter.unusedSimpArgs false
namespace Go.Proofs.YtfmcdageaananaaDoor
open Go.Pv Go.M29
theorem arr_set {b0 b1 b2 b3 b4 b5 b6 b7 : Bool} {a : Int} (h : 0 ≤ a ∧ a ≤ 7) : (List.take a.toNat [.bool b0, .bool b1, .bool b2, .bool b3, .bool b4, .bool b5, .bool b6, .bool b7] ++ [IV.bool true] ++ List.drop (a.toNat + 1) [.bool b0, .bool b1, .bool b2, .bool b3, .bool b4, .bool b5, .bool b6, .bool b7] : List IV) = [.bool (b0 || (0 : Int) == a), .bool (b1 || (1 : Int) == a), .bool (b2 || (2 : Int) == a), .bool (b3 || (3 : Int) == a), .bool (b4 || (4 : Int) == a), .bool (b5 || (5 : Int) == a), .bool (b6 || (6 : Int) == a), .bool (b7 || (7 : Int) == a)] := by
  have h2 : a = 0 ∨ a = 1 ∨ a = 2 ∨ a = 3 ∨ a = 4 ∨ a = 5 ∨ a = 6 ∨ a = 7 := by omega
  rcases h2 with rfl | rfl | rfl | rfl | rfl | rfl | rfl | rfl <;> simp
theorem valid_abc {op a b c n : Int} (h : validI op a b c n = true) : (0 ≤ a ∧ a ≤ 7) ∧ (0 ≤ b ∧ b ≤ 7) ∧ (0 ≤ c ∧ c ≤ 7) ∧ (op = 6 → a ≤ 6) := by
  unfold validI at h
  simp only [Bool.and_eq_true, decide_eq_true_eq] at h
  obtain ⟨⟨⟨⟨_, h1⟩, h2⟩, h3⟩, _⟩ := h
  refine ⟨⟨h1.1, ?_⟩, h2, h3, fun e => by rw [if_pos e] at h1; exact h1.2⟩
  have := h1.2
  split at this <;> omega
def siInv (l m : List Int) : Inv' := atX Nat (fun i => [(0, .v (.vslice none 0 l.length 1 (l.map (IV.int .i64)))), (1, .v (.vslice none 0 m.length 1 (m.map (IV.int .i64)))), (5, .v (.int .i64 i))]) (fun _ => []) (fun _ => Heap.empty)
  (fun i => (l.length = m.length ∧ i ≤ l.length) ∧ ∀ j, j < i → l[j]? = m[j]?) (fun i => l.length - i)
def kSameInts (xs : List IV) (h : Heap) (K : IV → Heap → Prop) : Prop := match xs with
  | [.vslice none e1 n1 1 c1, .vslice none e2 n2 1 c2] => ∃ l m : List Int, (n1 = l.length ∧ c1 = l.map (IV.int .i64)) ∧ (n2 = m.length ∧ c2 = m.map (IV.int .i64)) ∧ l.length < 4611686018427387904 ∧ K (.bool (l == m)) h
  | _ => False
set_option maxRecDepth 100000 in
theorem vSameInts (l m : List Int) (e1 e2 : Nat) (h : Heap) (Q : IV → Heap → Prop) : dF (stdS cRWrites) env 12 noU (ic1 5 (siInv l m)) noI [.vslice none e1 l.length 1 (l.map (IV.int .i64)), .vslice none e2 m.length 1 (m.map (IV.int .i64))] h Q = (
  needS (pureL [IV.vslice none (0 : Nat) (List.length l) (1 : Nat) (List.map (IV.int IntKind.i64) l), IV.vslice none (0 : Nat) (List.length m) (1 : Nat) (List.map (IV.int IntKind.i64) m)])
    (brS ((↑(List.length l) : Int) != (↑(List.length m) : Int)) (Q (IV.bool false) h)
      ((∃ (x : Nat),
          some (TV.v (IV.vslice none (0 : Nat) (List.length l) (1 : Nat) (List.map (IV.int IntKind.i64) l))) = some (TV.v (IV.vslice none (0 : Nat) (List.length l) (1 : Nat) (List.map (IV.int IntKind.i64) l))) ∧
            some (TV.v (IV.vslice none (0 : Nat) (List.length m) (1 : Nat) (List.map (IV.int IntKind.i64) m))) = some (TV.v (IV.vslice none (0 : Nat) (List.length m) (1 : Nat) (List.map (IV.int IntKind.i64) m))) ∧
              some (TV.v (IV.int IntKind.i64 (0 : Int))) = some (TV.v (IV.int IntKind.i64 (↑x : Int))) ∧
                Heap.mk PT.nil (0 : Nat) = Heap.mk PT.nil (0 : Nat) ∧ ((List.length l = List.length m ∧ x ≤ List.length l) ∧ ∀ (j : Nat), j < x → l[j]? = m[j]?) ∧ True) ∧
        ∀ (x : Nat) (b : FF),
          ((List.length l = List.length m ∧ x ≤ List.length l) ∧ ∀ (j : Nat), j < x → l[j]? = m[j]?) →
            brS (decide ((↑x : Int) < (↑(List.length l) : Int)))
              (needS (decide ((0 : Int) ≤ (↑x : Int)) && decide ((↑x : Int) < (↑(List.length l) : Int)))
                (ldIS IntKind.i64 (List.map (IV.int IntKind.i64) l) (Int.toNat (↑x : Int) * (1 : Nat)) fun (n0 : Int) =>
                  needS (decide ((0 : Int) ≤ (↑x : Int)) && decide ((↑x : Int) < (↑(List.length m) : Int)))
                    (ldIS IntKind.i64 (List.map (IV.int IntKind.i64) m) (Int.toNat (↑x : Int) * (1 : Nat)) fun (n1 : Int) =>
                      brS (n0 != n1) (Q (IV.bool false) h)
                        (∃ (x_1 : Nat),
                          some (TV.v (IV.vslice none (0 : Nat) (List.length l) (1 : Nat) (List.map (IV.int IntKind.i64) l))) = some (TV.v (IV.vslice none (0 : Nat) (List.length l) (1 : Nat) (List.map (IV.int IntKind.i64) l))) ∧
                            some (TV.v (IV.vslice none (0 : Nat) (List.length m) (1 : Nat) (List.map (IV.int IntKind.i64) m))) = some (TV.v (IV.vslice none (0 : Nat) (List.length m) (1 : Nat) (List.map (IV.int IntKind.i64) m))) ∧
                              some (TV.v (IV.int IntKind.i64 (IntKind.wrap IntKind.i64 ((↑x : Int) + (1 : Int))))) = some (TV.v (IV.int IntKind.i64 (↑x_1 : Int))) ∧
                                Heap.mk PT.nil (0 : Nat) = Heap.mk PT.nil (0 : Nat) ∧ ((List.length l = List.length m ∧ x_1 ≤ List.length l) ∧ ∀ (j : Nat), j < x_1 → l[j]? = m[j]?) ∧ List.length l - x_1 < List.length l - x))))
              (Q (IV.bool true) h)))) := by kernel_rfl
theorem sSameInts : ∀ xs h Q, kSameInts xs h Q → CallW env 12 xs h Q := by
  intro xs h Q hk
  unfold kSameInts at hk
  split at hk
  · rename_i e1 n1 c1 e2 n2 c2
    obtain ⟨l, m, ⟨rfl, rfl⟩, ⟨rfl, rfl⟩, hb, hk⟩ := hk
    refine dF_sound (okRWrites) (mp_eq (vSameInts l m e1 e2 h Q) ?_)
    refine needS_intro (by simp only [pureL, pureB, pureL_ints, Bool.and_true]) (brS_intro (fun hc => q_eq hk ?_) (fun hc => ?_))
    · congr 1
      have : l ≠ m := fun e => by subst e; simp at hc
      simpa using this
    have hl : l.length = m.length := by simp at hc; omega
    refine ⟨⟨0, rfl, rfl, rfl, rfl, ⟨⟨hl, by omega⟩, fun j hj => by omega⟩, trivial⟩, fun i _ hi => brS_intro (fun c1 => ?_) (fun c1 => q_eq hk ?_)⟩
    · simp only [decide_eq_true_eq] at c1
      have hi1 : i < l.length := by omega
      have hi2 : i < m.length := by omega
      have e1 : (i : Int).toNat * 1 = i := by omega
      rw [e1]
      refine needS_intro (by simp; omega) (ldIS_map hi1 (needS_intro (by simp; omega) (ldIS_map hi2 (brS_intro (fun c2 => q_eq hk ?_) (fun c2 => ?_)))))
      · congr 1
        have : l ≠ m := fun e => by subst e; simp at c2
        simpa using this
      · have e2 : IntKind.i64.wrap ((i : Int) + 1) = ((i + 1 : Nat) : Int) := by rw [IntWalk.i64_in _ (by omega)]; rfl
        refine ⟨i + 1, rfl, rfl, by rw [e2], rfl, ⟨⟨hl, by omega⟩, fun j hj => ?_⟩, by omega⟩
        rcases Nat.lt_or_ge j i with q | q
        · exact hi.2 j q
        · obtain rfl : j = i := by omega
          rw [List.getElem?_eq_getElem hi1, List.getElem?_eq_getElem hi2]
          simpa using c2
    · simp only [decide_eq_false_iff_not] at c1
      have : l = m := List.ext_getElem? fun j => by
        rcases Nat.lt_or_ge j i with q | q
        · exact hi.2 j q
        · rw [List.getElem?_eq_none (by omega), List.getElem?_eq_none (by omega)]
      simp [this]
  · exact hk.elim
def cSameInts := addC 12 kSameInts cRWrites
theorem okSameInts : Sound env cSameInts := sound_add sSameInts (okRWrites)

def kReads (xs : List IV) (h : Heap) (K : IV → Heap → Prop) : Prop := match xs with
  | [.agg [.int .i64 op, .int .i64 a, .int .i64 b, .int .i64 c, .int .i64 n]] => K (.vslice none 0 (rdI op a b c n).length 1 ((rdI op a b c n).map (IV.int .i64))) h
  | _ => False
set_option maxRecDepth 100000 in
theorem vReads (op a b c n : Int) (h : Heap) (Q : IV → Heap → Prop) : dF (stdS cSameInts) env 13 (fun k => match Nat.beq k 16 with | true => 8 | false => match Nat.beq k 23 with | true => 9 | false => 0) noI (icA 8 (atP (validI op a b c n = true) [(1, .l 1 0), (3, .l 3 0), (5, .l 5 0)] [(1, [.int .i64 op, .int .i64 a, .int .i64 b, .int .i64 c, .int .i64 n]), (3, [.str (rowOf op).nm, .int .i64 (rowOf op).fm, .bool (rowOf op).ra, .bool (rowOf op).wa, .bool (rowOf op).rb, .bool (rowOf op).mt, .int .i64 (rowOf op).wd]), (5, [.bool (rd1 op a 0), .bool (rd1 op a 1), .bool (rd1 op a 2), .bool (rd1 op a 3), .bool (rd1 op a 4), .bool (rd1 op a 5), .bool (rd1 op a 6), .bool (rd1 op a 7)])] Heap.empty) (icA 10 (atP (validI op a b c n = true) [(1, .l 1 0), (5, .l 5 0)] [(1, [.int .i64 op, .int .i64 a, .int .i64 b, .int .i64 c, .int .i64 n]), (5, [.bool (rd2 op a b 0), .bool (rd2 op a b 1), .bool (rd2 op a b 2), .bool (rd2 op a b 3), .bool (rd2 op a b 4), .bool (rd2 op a b 5), .bool (rd2 op a b 6), .bool (rd2 op a b 7)])] Heap.empty) (ic1 21 (atP (validI op a b c n = true) [(5, .l 5 0)] [(5, [.bool (rdB op a b c 0), .bool (rdB op a b c 1), .bool (rdB op a b c 2), .bool (rdB op a b c 3), .bool (rdB op a b c 4), .bool (rdB op a b c 5), .bool (rdB op a b c 6), .bool (rdB op a b c 7)])] Heap.empty)))) [.agg [.int .i64 op, .int .i64 a, .int .i64 b, .int .i64 c, .int .i64 n]] h Q = (
  brS (!validI op a b c n) (Q (IV.vslice none (0 : Nat) (0 : Nat) (1 : Nat) []) h)
    (brS (Row.ra (rowOf op))
        (needS (decide ((0 : Int) ≤ a) && decide (a < (8 : Int)))
          (needS (Nat.ble ((0 : Nat) + Int.toNat a * (1 : Nat) + (1 : Nat)) (8 : Nat))
            (some (TV.l (1 : Nat) (0 : Nat)) = some (TV.l (1 : Nat) (0 : Nat)) ∧
              some (TV.l (3 : Nat) (0 : Nat)) = some (TV.l (3 : Nat) (0 : Nat)) ∧
                some (TV.l (5 : Nat) (0 : Nat)) = some (TV.l (5 : Nat) (0 : Nat)) ∧
                  some [IV.int IntKind.i64 op, IV.int IntKind.i64 a, IV.int IntKind.i64 b, IV.int IntKind.i64 c, IV.int IntKind.i64 n] =
                      some [IV.int IntKind.i64 op, IV.int IntKind.i64 a, IV.int IntKind.i64 b, IV.int IntKind.i64 c, IV.int IntKind.i64 n] ∧
                    some
                          [IV.str (Row.nm (rowOf op)), IV.int IntKind.i64 (Row.fm (rowOf op)), IV.bool (Row.ra (rowOf op)), IV.bool (Row.wa (rowOf op)), IV.bool (Row.rb (rowOf op)), IV.bool (Row.mt (rowOf op)),
                            IV.int IntKind.i64 (Row.wd (rowOf op))] =
                        some
                          [IV.str (Row.nm (rowOf op)), IV.int IntKind.i64 (Row.fm (rowOf op)), IV.bool (Row.ra (rowOf op)), IV.bool (Row.wa (rowOf op)), IV.bool (Row.rb (rowOf op)), IV.bool (Row.mt (rowOf op)),
                            IV.int IntKind.i64 (Row.wd (rowOf op))] ∧
                      some
                            (List.take ((0 : Nat) + Int.toNat a * (1 : Nat)) [IV.bool false, IV.bool false, IV.bool false, IV.bool false, IV.bool false, IV.bool false, IV.bool false, IV.bool false] ++ [IV.bool true] ++
                              List.drop ((0 : Nat) + Int.toNat a * (1 : Nat) + (1 : Nat)) [IV.bool false, IV.bool false, IV.bool false, IV.bool false, IV.bool false, IV.bool false, IV.bool false, IV.bool false]) =
                          some
                            [IV.bool (rd1 op a (0 : Int)), IV.bool (rd1 op a (1 : Int)), IV.bool (rd1 op a (2 : Int)), IV.bool (rd1 op a (3 : Int)), IV.bool (rd1 op a (4 : Int)), IV.bool (rd1 op a (5 : Int)), IV.bool (rd1 op a (6 : Int)),
                              IV.bool (rd1 op a (7 : Int))] ∧
                        Heap.mk PT.nil (0 : Nat) = Heap.mk PT.nil (0 : Nat) ∧ validI op a b c n = true ∧ True)))
        (some (TV.l (1 : Nat) (0 : Nat)) = some (TV.l (1 : Nat) (0 : Nat)) ∧
          some (TV.l (3 : Nat) (0 : Nat)) = some (TV.l (3 : Nat) (0 : Nat)) ∧
            some (TV.l (5 : Nat) (0 : Nat)) = some (TV.l (5 : Nat) (0 : Nat)) ∧
              some [IV.int IntKind.i64 op, IV.int IntKind.i64 a, IV.int IntKind.i64 b, IV.int IntKind.i64 c, IV.int IntKind.i64 n] =
                  some [IV.int IntKind.i64 op, IV.int IntKind.i64 a, IV.int IntKind.i64 b, IV.int IntKind.i64 c, IV.int IntKind.i64 n] ∧
                some
                      [IV.str (Row.nm (rowOf op)), IV.int IntKind.i64 (Row.fm (rowOf op)), IV.bool (Row.ra (rowOf op)), IV.bool (Row.wa (rowOf op)), IV.bool (Row.rb (rowOf op)), IV.bool (Row.mt (rowOf op)),
                        IV.int IntKind.i64 (Row.wd (rowOf op))] =
                    some
                      [IV.str (Row.nm (rowOf op)), IV.int IntKind.i64 (Row.fm (rowOf op)), IV.bool (Row.ra (rowOf op)), IV.bool (Row.wa (rowOf op)), IV.bool (Row.rb (rowOf op)), IV.bool (Row.mt (rowOf op)),
                        IV.int IntKind.i64 (Row.wd (rowOf op))] ∧
                  some [IV.bool false, IV.bool false, IV.bool false, IV.bool false, IV.bool false, IV.bool false, IV.bool false, IV.bool false] =
                      some
                        [IV.bool (rd1 op a (0 : Int)), IV.bool (rd1 op a (1 : Int)), IV.bool (rd1 op a (2 : Int)), IV.bool (rd1 op a (3 : Int)), IV.bool (rd1 op a (4 : Int)), IV.bool (rd1 op a (5 : Int)), IV.bool (rd1 op a (6 : Int)),
                          IV.bool (rd1 op a (7 : Int))] ∧
                    Heap.mk PT.nil (0 : Nat) = Heap.mk PT.nil (0 : Nat) ∧ validI op a b c n = true ∧ True) ∧
      ∀ (x : Unit) (b_1 : FF),
        validI op a b c n = true →
          brS (Row.rb (rowOf op))
              (needS (decide ((0 : Int) ≤ b) && decide (b < (8 : Int)))
                (needS
                  (Nat.ble ((0 : Nat) + Int.toNat b * (1 : Nat) + (1 : Nat))
                    (List.length
                      [IV.bool (rd1 op a (0 : Int)), IV.bool (rd1 op a (1 : Int)), IV.bool (rd1 op a (2 : Int)), IV.bool (rd1 op a (3 : Int)), IV.bool (rd1 op a (4 : Int)), IV.bool (rd1 op a (5 : Int)), IV.bool (rd1 op a (6 : Int)),
                        IV.bool (rd1 op a (7 : Int))]))
                  (some (TV.l (1 : Nat) (0 : Nat)) = some (TV.l (1 : Nat) (0 : Nat)) ∧
                    some (TV.l (5 : Nat) (0 : Nat)) = some (TV.l (5 : Nat) (0 : Nat)) ∧
                      some [IV.int IntKind.i64 op, IV.int IntKind.i64 a, IV.int IntKind.i64 b, IV.int IntKind.i64 c, IV.int IntKind.i64 n] =
                          some [IV.int IntKind.i64 op, IV.int IntKind.i64 a, IV.int IntKind.i64 b, IV.int IntKind.i64 c, IV.int IntKind.i64 n] ∧
                        some
                              (List.take ((0 : Nat) + Int.toNat b * (1 : Nat))
                                    [IV.bool (rd1 op a (0 : Int)), IV.bool (rd1 op a (1 : Int)), IV.bool (rd1 op a (2 : Int)), IV.bool (rd1 op a (3 : Int)), IV.bool (rd1 op a (4 : Int)), IV.bool (rd1 op a (5 : Int)),
                                      IV.bool (rd1 op a (6 : Int)), IV.bool (rd1 op a (7 : Int))] ++
                                  [IV.bool true] ++
                                List.drop ((0 : Nat) + Int.toNat b * (1 : Nat) + (1 : Nat))
                                  [IV.bool (rd1 op a (0 : Int)), IV.bool (rd1 op a (1 : Int)), IV.bool (rd1 op a (2 : Int)), IV.bool (rd1 op a (3 : Int)), IV.bool (rd1 op a (4 : Int)), IV.bool (rd1 op a (5 : Int)),
                                    IV.bool (rd1 op a (6 : Int)), IV.bool (rd1 op a (7 : Int))]) =
                            some
                              [IV.bool (rd2 op a b (0 : Int)), IV.bool (rd2 op a b (1 : Int)), IV.bool (rd2 op a b (2 : Int)), IV.bool (rd2 op a b (3 : Int)), IV.bool (rd2 op a b (4 : Int)), IV.bool (rd2 op a b (5 : Int)),
                                IV.bool (rd2 op a b (6 : Int)), IV.bool (rd2 op a b (7 : Int))] ∧
                          Heap.mk PT.nil (0 : Nat) = Heap.mk PT.nil (0 : Nat) ∧ validI op a b c n = true ∧ True)))
              (some (TV.l (1 : Nat) (0 : Nat)) = some (TV.l (1 : Nat) (0 : Nat)) ∧
                some (TV.l (5 : Nat) (0 : Nat)) = some (TV.l (5 : Nat) (0 : Nat)) ∧
                  some [IV.int IntKind.i64 op, IV.int IntKind.i64 a, IV.int IntKind.i64 b, IV.int IntKind.i64 c, IV.int IntKind.i64 n] =
                      some [IV.int IntKind.i64 op, IV.int IntKind.i64 a, IV.int IntKind.i64 b, IV.int IntKind.i64 c, IV.int IntKind.i64 n] ∧
                    some
                          [IV.bool (rd1 op a (0 : Int)), IV.bool (rd1 op a (1 : Int)), IV.bool (rd1 op a (2 : Int)), IV.bool (rd1 op a (3 : Int)), IV.bool (rd1 op a (4 : Int)), IV.bool (rd1 op a (5 : Int)), IV.bool (rd1 op a (6 : Int)),
                            IV.bool (rd1 op a (7 : Int))] =
                        some
                          [IV.bool (rd2 op a b (0 : Int)), IV.bool (rd2 op a b (1 : Int)), IV.bool (rd2 op a b (2 : Int)), IV.bool (rd2 op a b (3 : Int)), IV.bool (rd2 op a b (4 : Int)), IV.bool (rd2 op a b (5 : Int)),
                            IV.bool (rd2 op a b (6 : Int)), IV.bool (rd2 op a b (7 : Int))] ∧
                      Heap.mk PT.nil (0 : Nat) = Heap.mk PT.nil (0 : Nat) ∧ validI op a b c n = true ∧ True) ∧
            ∀ (x : Unit) (b_2 : FF),
              validI op a b c n = true →
                brS (op == (11 : Int))
                    (needS (decide ((0 : Int) ≤ c) && decide (c < (8 : Int)))
                      (needS
                        (Nat.ble ((0 : Nat) + Int.toNat c * (1 : Nat) + (1 : Nat))
                          (List.length
                            [IV.bool (rd2 op a b (0 : Int)), IV.bool (rd2 op a b (1 : Int)), IV.bool (rd2 op a b (2 : Int)), IV.bool (rd2 op a b (3 : Int)), IV.bool (rd2 op a b (4 : Int)), IV.bool (rd2 op a b (5 : Int)),
                              IV.bool (rd2 op a b (6 : Int)), IV.bool (rd2 op a b (7 : Int))]))
                        (some (TV.l (5 : Nat) (0 : Nat)) = some (TV.l (5 : Nat) (0 : Nat)) ∧
                          some
                                (List.take ((0 : Nat) + Int.toNat c * (1 : Nat))
                                      [IV.bool (rd2 op a b (0 : Int)), IV.bool (rd2 op a b (1 : Int)), IV.bool (rd2 op a b (2 : Int)), IV.bool (rd2 op a b (3 : Int)), IV.bool (rd2 op a b (4 : Int)), IV.bool (rd2 op a b (5 : Int)),
                                        IV.bool (rd2 op a b (6 : Int)), IV.bool (rd2 op a b (7 : Int))] ++
                                    [IV.bool true] ++
                                  List.drop ((0 : Nat) + Int.toNat c * (1 : Nat) + (1 : Nat))
                                    [IV.bool (rd2 op a b (0 : Int)), IV.bool (rd2 op a b (1 : Int)), IV.bool (rd2 op a b (2 : Int)), IV.bool (rd2 op a b (3 : Int)), IV.bool (rd2 op a b (4 : Int)), IV.bool (rd2 op a b (5 : Int)),
                                      IV.bool (rd2 op a b (6 : Int)), IV.bool (rd2 op a b (7 : Int))]) =
                              some
                                [IV.bool (rdB op a b c (0 : Int)), IV.bool (rdB op a b c (1 : Int)), IV.bool (rdB op a b c (2 : Int)), IV.bool (rdB op a b c (3 : Int)), IV.bool (rdB op a b c (4 : Int)), IV.bool (rdB op a b c (5 : Int)),
                                  IV.bool (rdB op a b c (6 : Int)), IV.bool (rdB op a b c (7 : Int))] ∧
                            Heap.mk PT.nil (0 : Nat) = Heap.mk PT.nil (0 : Nat) ∧ validI op a b c n = true ∧ True)))
                    (brS (op == (12 : Int))
                      (needS (decide ((0 : Int) ≤ c) && decide (c < (8 : Int)))
                        (needS
                          (Nat.ble ((0 : Nat) + Int.toNat c * (1 : Nat) + (1 : Nat))
                            (List.length
                              [IV.bool (rd2 op a b (0 : Int)), IV.bool (rd2 op a b (1 : Int)), IV.bool (rd2 op a b (2 : Int)), IV.bool (rd2 op a b (3 : Int)), IV.bool (rd2 op a b (4 : Int)), IV.bool (rd2 op a b (5 : Int)),
                                IV.bool (rd2 op a b (6 : Int)), IV.bool (rd2 op a b (7 : Int))]))
                          (some (TV.l (5 : Nat) (0 : Nat)) = some (TV.l (5 : Nat) (0 : Nat)) ∧
                            some
                                  (List.take ((0 : Nat) + Int.toNat c * (1 : Nat))
                                        [IV.bool (rd2 op a b (0 : Int)), IV.bool (rd2 op a b (1 : Int)), IV.bool (rd2 op a b (2 : Int)), IV.bool (rd2 op a b (3 : Int)), IV.bool (rd2 op a b (4 : Int)), IV.bool (rd2 op a b (5 : Int)),
                                          IV.bool (rd2 op a b (6 : Int)), IV.bool (rd2 op a b (7 : Int))] ++
                                      [IV.bool true] ++
                                    List.drop ((0 : Nat) + Int.toNat c * (1 : Nat) + (1 : Nat))
                                      [IV.bool (rd2 op a b (0 : Int)), IV.bool (rd2 op a b (1 : Int)), IV.bool (rd2 op a b (2 : Int)), IV.bool (rd2 op a b (3 : Int)), IV.bool (rd2 op a b (4 : Int)), IV.bool (rd2 op a b (5 : Int)),
                                        IV.bool (rd2 op a b (6 : Int)), IV.bool (rd2 op a b (7 : Int))]) =
                                some
                                  [IV.bool (rdB op a b c (0 : Int)), IV.bool (rdB op a b c (1 : Int)), IV.bool (rdB op a b c (2 : Int)), IV.bool (rdB op a b c (3 : Int)), IV.bool (rdB op a b c (4 : Int)), IV.bool (rdB op a b c (5 : Int)),
                                    IV.bool (rdB op a b c (6 : Int)), IV.bool (rdB op a b c (7 : Int))] ∧
                              Heap.mk PT.nil (0 : Nat) = Heap.mk PT.nil (0 : Nat) ∧ validI op a b c n = true ∧ True)))
                      (brS (op == (6 : Int))
                        (brS (decide ((0 : Int) < a))
                          (brS (decide ((1 : Int) < a))
                            (brS (decide ((2 : Int) < a))
                              (brS (decide ((3 : Int) < a))
                                (brS (decide ((4 : Int) < a))
                                  (brS (decide ((5 : Int) < a))
                                    (brS (decide ((6 : Int) < a))
                                      (brS (decide ((7 : Int) < a)) False
                                        (some (TV.l (5 : Nat) (0 : Nat)) = some (TV.l (5 : Nat) (0 : Nat)) ∧
                                          some [IV.bool true, IV.bool true, IV.bool true, IV.bool true, IV.bool true, IV.bool true, IV.bool true, IV.bool (rd2 op a b (7 : Int))] =
                                              some
                                                [IV.bool (rdB op a b c (0 : Int)), IV.bool (rdB op a b c (1 : Int)), IV.bool (rdB op a b c (2 : Int)), IV.bool (rdB op a b c (3 : Int)), IV.bool (rdB op a b c (4 : Int)),
                                                  IV.bool (rdB op a b c (5 : Int)), IV.bool (rdB op a b c (6 : Int)), IV.bool (rdB op a b c (7 : Int))] ∧
                                            Heap.mk PT.nil (0 : Nat) = Heap.mk PT.nil (0 : Nat) ∧ validI op a b c n = true ∧ True))
                                      (some (TV.l (5 : Nat) (0 : Nat)) = some (TV.l (5 : Nat) (0 : Nat)) ∧
                                        some [IV.bool true, IV.bool true, IV.bool true, IV.bool true, IV.bool true, IV.bool true, IV.bool (rd2 op a b (6 : Int)), IV.bool (rd2 op a b (7 : Int))] =
                                            some
                                              [IV.bool (rdB op a b c (0 : Int)), IV.bool (rdB op a b c (1 : Int)), IV.bool (rdB op a b c (2 : Int)), IV.bool (rdB op a b c (3 : Int)), IV.bool (rdB op a b c (4 : Int)),
                                                IV.bool (rdB op a b c (5 : Int)), IV.bool (rdB op a b c (6 : Int)), IV.bool (rdB op a b c (7 : Int))] ∧
                                          Heap.mk PT.nil (0 : Nat) = Heap.mk PT.nil (0 : Nat) ∧ validI op a b c n = true ∧ True))
                                    (some (TV.l (5 : Nat) (0 : Nat)) = some (TV.l (5 : Nat) (0 : Nat)) ∧
                                      some [IV.bool true, IV.bool true, IV.bool true, IV.bool true, IV.bool true, IV.bool (rd2 op a b (5 : Int)), IV.bool (rd2 op a b (6 : Int)), IV.bool (rd2 op a b (7 : Int))] =
                                          some
                                            [IV.bool (rdB op a b c (0 : Int)), IV.bool (rdB op a b c (1 : Int)), IV.bool (rdB op a b c (2 : Int)), IV.bool (rdB op a b c (3 : Int)), IV.bool (rdB op a b c (4 : Int)),
                                              IV.bool (rdB op a b c (5 : Int)), IV.bool (rdB op a b c (6 : Int)), IV.bool (rdB op a b c (7 : Int))] ∧
                                        Heap.mk PT.nil (0 : Nat) = Heap.mk PT.nil (0 : Nat) ∧ validI op a b c n = true ∧ True))
                                  (some (TV.l (5 : Nat) (0 : Nat)) = some (TV.l (5 : Nat) (0 : Nat)) ∧
                                    some [IV.bool true, IV.bool true, IV.bool true, IV.bool true, IV.bool (rd2 op a b (4 : Int)), IV.bool (rd2 op a b (5 : Int)), IV.bool (rd2 op a b (6 : Int)), IV.bool (rd2 op a b (7 : Int))] =
                                        some
                                          [IV.bool (rdB op a b c (0 : Int)), IV.bool (rdB op a b c (1 : Int)), IV.bool (rdB op a b c (2 : Int)), IV.bool (rdB op a b c (3 : Int)), IV.bool (rdB op a b c (4 : Int)),
                                            IV.bool (rdB op a b c (5 : Int)), IV.bool (rdB op a b c (6 : Int)), IV.bool (rdB op a b c (7 : Int))] ∧
                                      Heap.mk PT.nil (0 : Nat) = Heap.mk PT.nil (0 : Nat) ∧ validI op a b c n = true ∧ True))
                                (some (TV.l (5 : Nat) (0 : Nat)) = some (TV.l (5 : Nat) (0 : Nat)) ∧
                                  some
                                        [IV.bool true, IV.bool true, IV.bool true, IV.bool (rd2 op a b (3 : Int)), IV.bool (rd2 op a b (4 : Int)), IV.bool (rd2 op a b (5 : Int)), IV.bool (rd2 op a b (6 : Int)),
                                          IV.bool (rd2 op a b (7 : Int))] =
                                      some
                                        [IV.bool (rdB op a b c (0 : Int)), IV.bool (rdB op a b c (1 : Int)), IV.bool (rdB op a b c (2 : Int)), IV.bool (rdB op a b c (3 : Int)), IV.bool (rdB op a b c (4 : Int)),
                                          IV.bool (rdB op a b c (5 : Int)), IV.bool (rdB op a b c (6 : Int)), IV.bool (rdB op a b c (7 : Int))] ∧
                                    Heap.mk PT.nil (0 : Nat) = Heap.mk PT.nil (0 : Nat) ∧ validI op a b c n = true ∧ True))
                              (some (TV.l (5 : Nat) (0 : Nat)) = some (TV.l (5 : Nat) (0 : Nat)) ∧
                                some
                                      [IV.bool true, IV.bool true, IV.bool (rd2 op a b (2 : Int)), IV.bool (rd2 op a b (3 : Int)), IV.bool (rd2 op a b (4 : Int)), IV.bool (rd2 op a b (5 : Int)), IV.bool (rd2 op a b (6 : Int)),
                                        IV.bool (rd2 op a b (7 : Int))] =
                                    some
                                      [IV.bool (rdB op a b c (0 : Int)), IV.bool (rdB op a b c (1 : Int)), IV.bool (rdB op a b c (2 : Int)), IV.bool (rdB op a b c (3 : Int)), IV.bool (rdB op a b c (4 : Int)), IV.bool (rdB op a b c (5 : Int)),
                                        IV.bool (rdB op a b c (6 : Int)), IV.bool (rdB op a b c (7 : Int))] ∧
                                  Heap.mk PT.nil (0 : Nat) = Heap.mk PT.nil (0 : Nat) ∧ validI op a b c n = true ∧ True))
                            (some (TV.l (5 : Nat) (0 : Nat)) = some (TV.l (5 : Nat) (0 : Nat)) ∧
                              some
                                    [IV.bool true, IV.bool (rd2 op a b (1 : Int)), IV.bool (rd2 op a b (2 : Int)), IV.bool (rd2 op a b (3 : Int)), IV.bool (rd2 op a b (4 : Int)), IV.bool (rd2 op a b (5 : Int)), IV.bool (rd2 op a b (6 : Int)),
                                      IV.bool (rd2 op a b (7 : Int))] =
                                  some
                                    [IV.bool (rdB op a b c (0 : Int)), IV.bool (rdB op a b c (1 : Int)), IV.bool (rdB op a b c (2 : Int)), IV.bool (rdB op a b c (3 : Int)), IV.bool (rdB op a b c (4 : Int)), IV.bool (rdB op a b c (5 : Int)),
                                      IV.bool (rdB op a b c (6 : Int)), IV.bool (rdB op a b c (7 : Int))] ∧
                                Heap.mk PT.nil (0 : Nat) = Heap.mk PT.nil (0 : Nat) ∧ validI op a b c n = true ∧ True))
                          (some (TV.l (5 : Nat) (0 : Nat)) = some (TV.l (5 : Nat) (0 : Nat)) ∧
                            some
                                  [IV.bool (rd2 op a b (0 : Int)), IV.bool (rd2 op a b (1 : Int)), IV.bool (rd2 op a b (2 : Int)), IV.bool (rd2 op a b (3 : Int)), IV.bool (rd2 op a b (4 : Int)), IV.bool (rd2 op a b (5 : Int)),
                                    IV.bool (rd2 op a b (6 : Int)), IV.bool (rd2 op a b (7 : Int))] =
                                some
                                  [IV.bool (rdB op a b c (0 : Int)), IV.bool (rdB op a b c (1 : Int)), IV.bool (rdB op a b c (2 : Int)), IV.bool (rdB op a b c (3 : Int)), IV.bool (rdB op a b c (4 : Int)), IV.bool (rdB op a b c (5 : Int)),
                                    IV.bool (rdB op a b c (6 : Int)), IV.bool (rdB op a b c (7 : Int))] ∧
                              Heap.mk PT.nil (0 : Nat) = Heap.mk PT.nil (0 : Nat) ∧ validI op a b c n = true ∧ True))
                        (brS (op == (2 : Int))
                          (some (TV.l (5 : Nat) (0 : Nat)) = some (TV.l (5 : Nat) (0 : Nat)) ∧
                            some
                                  [IV.bool true, IV.bool (rd2 op a b (1 : Int)), IV.bool (rd2 op a b (2 : Int)), IV.bool (rd2 op a b (3 : Int)), IV.bool (rd2 op a b (4 : Int)), IV.bool (rd2 op a b (5 : Int)), IV.bool (rd2 op a b (6 : Int)),
                                    IV.bool (rd2 op a b (7 : Int))] =
                                some
                                  [IV.bool (rdB op a b c (0 : Int)), IV.bool (rdB op a b c (1 : Int)), IV.bool (rdB op a b c (2 : Int)), IV.bool (rdB op a b c (3 : Int)), IV.bool (rdB op a b c (4 : Int)), IV.bool (rdB op a b c (5 : Int)),
                                    IV.bool (rdB op a b c (6 : Int)), IV.bool (rdB op a b c (7 : Int))] ∧
                              Heap.mk PT.nil (0 : Nat) = Heap.mk PT.nil (0 : Nat) ∧ validI op a b c n = true ∧ True)
                          (some (TV.l (5 : Nat) (0 : Nat)) = some (TV.l (5 : Nat) (0 : Nat)) ∧
                            some
                                  [IV.bool (rd2 op a b (0 : Int)), IV.bool (rd2 op a b (1 : Int)), IV.bool (rd2 op a b (2 : Int)), IV.bool (rd2 op a b (3 : Int)), IV.bool (rd2 op a b (4 : Int)), IV.bool (rd2 op a b (5 : Int)),
                                    IV.bool (rd2 op a b (6 : Int)), IV.bool (rd2 op a b (7 : Int))] =
                                some
                                  [IV.bool (rdB op a b c (0 : Int)), IV.bool (rdB op a b c (1 : Int)), IV.bool (rdB op a b c (2 : Int)), IV.bool (rdB op a b c (3 : Int)), IV.bool (rdB op a b c (4 : Int)), IV.bool (rdB op a b c (5 : Int)),
                                    IV.bool (rdB op a b c (6 : Int)), IV.bool (rdB op a b c (7 : Int))] ∧
                              Heap.mk PT.nil (0 : Nat) = Heap.mk PT.nil (0 : Nat) ∧ validI op a b c n = true ∧ True)))) ∧
                  ∀ (x : Unit) (b_3 : FF),
                    validI op a b c n = true →
                      brS (rdB op a b c (0 : Int))
                        (brS (rdB op a b c (1 : Int))
                          (brS (rdB op a b c (2 : Int))
                            (brS (rdB op a b c (3 : Int))
                              (brS (rdB op a b c (4 : Int))
                                (brS (rdB op a b c (5 : Int))
                                  (brS (rdB op a b c (6 : Int))
                                    (brS (rdB op a b c (7 : Int))
                                      (Q
                                        (IV.vslice none (0 : Nat) (8 : Nat) (1 : Nat)
                                          [IV.int IntKind.i64 (0 : Int), IV.int IntKind.i64 (1 : Int), IV.int IntKind.i64 (2 : Int), IV.int IntKind.i64 (3 : Int), IV.int IntKind.i64 (4 : Int), IV.int IntKind.i64 (5 : Int),
                                            IV.int IntKind.i64 (6 : Int), IV.int IntKind.i64 (7 : Int)])
                                        h)
                                      (Q
                                        (IV.vslice none (0 : Nat) (7 : Nat) (1 : Nat)
                                          [IV.int IntKind.i64 (0 : Int), IV.int IntKind.i64 (1 : Int), IV.int IntKind.i64 (2 : Int), IV.int IntKind.i64 (3 : Int), IV.int IntKind.i64 (4 : Int), IV.int IntKind.i64 (5 : Int),
                                            IV.int IntKind.i64 (6 : Int)])
                                        h))
                                    (brS (rdB op a b c (7 : Int))
                                      (Q
                                        (IV.vslice none (0 : Nat) (7 : Nat) (1 : Nat)
                                          [IV.int IntKind.i64 (0 : Int), IV.int IntKind.i64 (1 : Int), IV.int IntKind.i64 (2 : Int), IV.int IntKind.i64 (3 : Int), IV.int IntKind.i64 (4 : Int), IV.int IntKind.i64 (5 : Int),
                                            IV.int IntKind.i64 (7 : Int)])
                                        h)
                                      (Q
                                        (IV.vslice none (0 : Nat) (6 : Nat) (1 : Nat)
                                          [IV.int IntKind.i64 (0 : Int), IV.int IntKind.i64 (1 : Int), IV.int IntKind.i64 (2 : Int), IV.int IntKind.i64 (3 : Int), IV.int IntKind.i64 (4 : Int), IV.int IntKind.i64 (5 : Int)])
                                        h)))
                                  (brS (rdB op a b c (6 : Int))
                                    (brS (rdB op a b c (7 : Int))
                                      (Q
                                        (IV.vslice none (0 : Nat) (7 : Nat) (1 : Nat)
                                          [IV.int IntKind.i64 (0 : Int), IV.int IntKind.i64 (1 : Int), IV.int IntKind.i64 (2 : Int), IV.int IntKind.i64 (3 : Int), IV.int IntKind.i64 (4 : Int), IV.int IntKind.i64 (6 : Int),
                                            IV.int IntKind.i64 (7 : Int)])
                                        h)
                                      (Q
                                        (IV.vslice none (0 : Nat) (6 : Nat) (1 : Nat)
                                          [IV.int IntKind.i64 (0 : Int), IV.int IntKind.i64 (1 : Int), IV.int IntKind.i64 (2 : Int), IV.int IntKind.i64 (3 : Int), IV.int IntKind.i64 (4 : Int), IV.int IntKind.i64 (6 : Int)])
                                        h))
                                    (brS (rdB op a b c (7 : Int))
                                      (Q
                                        (IV.vslice none (0 : Nat) (6 : Nat) (1 : Nat)
                                          [IV.int IntKind.i64 (0 : Int), IV.int IntKind.i64 (1 : Int), IV.int IntKind.i64 (2 : Int), IV.int IntKind.i64 (3 : Int), IV.int IntKind.i64 (4 : Int), IV.int IntKind.i64 (7 : Int)])
                                        h)
                                      (Q (IV.vslice none (0 : Nat) (5 : Nat) (1 : Nat) [IV.int IntKind.i64 (0 : Int), IV.int IntKind.i64 (1 : Int), IV.int IntKind.i64 (2 : Int), IV.int IntKind.i64 (3 : Int), IV.int IntKind.i64 (4 : Int)])
                                        h))))
                                (brS (rdB op a b c (5 : Int))
                                  (brS (rdB op a b c (6 : Int))
                                    (brS (rdB op a b c (7 : Int))
                                      (Q
                                        (IV.vslice none (0 : Nat) (7 : Nat) (1 : Nat)
                                          [IV.int IntKind.i64 (0 : Int), IV.int IntKind.i64 (1 : Int), IV.int IntKind.i64 (2 : Int), IV.int IntKind.i64 (3 : Int), IV.int IntKind.i64 (5 : Int), IV.int IntKind.i64 (6 : Int),
                                            IV.int IntKind.i64 (7 : Int)])
                                        h)
                                      (Q
                                        (IV.vslice none (0 : Nat) (6 : Nat) (1 : Nat)
                                          [IV.int IntKind.i64 (0 : Int), IV.int IntKind.i64 (1 : Int), IV.int IntKind.i64 (2 : Int), IV.int IntKind.i64 (3 : Int), IV.int IntKind.i64 (5 : Int), IV.int IntKind.i64 (6 : Int)])
                                        h))
                                    (brS (rdB op a b c (7 : Int))
                                      (Q
                                        (IV.vslice none (0 : Nat) (6 : Nat) (1 : Nat)
                                          [IV.int IntKind.i64 (0 : Int), IV.int IntKind.i64 (1 : Int), IV.int IntKind.i64 (2 : Int), IV.int IntKind.i64 (3 : Int), IV.int IntKind.i64 (5 : Int), IV.int IntKind.i64 (7 : Int)])
                                        h)
                                      (Q (IV.vslice none (0 : Nat) (5 : Nat) (1 : Nat) [IV.int IntKind.i64 (0 : Int), IV.int IntKind.i64 (1 : Int), IV.int IntKind.i64 (2 : Int), IV.int IntKind.i64 (3 : Int), IV.int IntKind.i64 (5 : Int)])
                                        h)))
                                  (brS (rdB op a b c (6 : Int))
                                    (brS (rdB op a b c (7 : Int))
                                      (Q
                                        (IV.vslice none (0 : Nat) (6 : Nat) (1 : Nat)
                                          [IV.int IntKind.i64 (0 : Int), IV.int IntKind.i64 (1 : Int), IV.int IntKind.i64 (2 : Int), IV.int IntKind.i64 (3 : Int), IV.int IntKind.i64 (6 : Int), IV.int IntKind.i64 (7 : Int)])
                                        h)
                                      (Q (IV.vslice none (0 : Nat) (5 : Nat) (1 : Nat) [IV.int IntKind.i64 (0 : Int), IV.int IntKind.i64 (1 : Int), IV.int IntKind.i64 (2 : Int), IV.int IntKind.i64 (3 : Int), IV.int IntKind.i64 (6 : Int)]) h))
                                    (brS (rdB op a b c (7 : Int))
                                      (Q (IV.vslice none (0 : Nat) (5 : Nat) (1 : Nat) [IV.int IntKind.i64 (0 : Int), IV.int IntKind.i64 (1 : Int), IV.int IntKind.i64 (2 : Int), IV.int IntKind.i64 (3 : Int), IV.int IntKind.i64 (7 : Int)]) h)
                                      (Q (IV.vslice none (0 : Nat) (4 : Nat) (1 : Nat) [IV.int IntKind.i64 (0 : Int), IV.int IntKind.i64 (1 : Int), IV.int IntKind.i64 (2 : Int), IV.int IntKind.i64 (3 : Int)]) h)))))
                              (brS (rdB op a b c (4 : Int))
                                (brS (rdB op a b c (5 : Int))
                                  (brS (rdB op a b c (6 : Int))
                                    (brS (rdB op a b c (7 : Int))
                                      (Q
                                        (IV.vslice none (0 : Nat) (7 : Nat) (1 : Nat)
                                          [IV.int IntKind.i64 (0 : Int), IV.int IntKind.i64 (1 : Int), IV.int IntKind.i64 (2 : Int), IV.int IntKind.i64 (4 : Int), IV.int IntKind.i64 (5 : Int), IV.int IntKind.i64 (6 : Int),
                                            IV.int IntKind.i64 (7 : Int)])
                                        h)
                                      (Q
                                        (IV.vslice none (0 : Nat) (6 : Nat) (1 : Nat)
                                          [IV.int IntKind.i64 (0 : Int), IV.int IntKind.i64 (1 : Int), IV.int IntKind.i64 (2 : Int), IV.int IntKind.i64 (4 : Int), IV.int IntKind.i64 (5 : Int), IV.int IntKind.i64 (6 : Int)])
                                        h))
                                    (brS (rdB op a b c (7 : Int))
                                      (Q
                                        (IV.vslice none (0 : Nat) (6 : Nat) (1 : Nat)
                                          [IV.int IntKind.i64 (0 : Int), IV.int IntKind.i64 (1 : Int), IV.int IntKind.i64 (2 : Int), IV.int IntKind.i64 (4 : Int), IV.int IntKind.i64 (5 : Int), IV.int IntKind.i64 (7 : Int)])
                                        h)
                                      (Q (IV.vslice none (0 : Nat) (5 : Nat) (1 : Nat) [IV.int IntKind.i64 (0 : Int), IV.int IntKind.i64 (1 : Int), IV.int IntKind.i64 (2 : Int), IV.int IntKind.i64 (4 : Int), IV.int IntKind.i64 (5 : Int)])
                                        h)))
                                  (brS (rdB op a b c (6 : Int))
                                    (brS (rdB op a b c (7 : Int))
                                      (Q
                                        (IV.vslice none (0 : Nat) (6 : Nat) (1 : Nat)
                                          [IV.int IntKind.i64 (0 : Int), IV.int IntKind.i64 (1 : Int), IV.int IntKind.i64 (2 : Int), IV.int IntKind.i64 (4 : Int), IV.int IntKind.i64 (6 : Int), IV.int IntKind.i64 (7 : Int)])
                                        h)
                                      (Q (IV.vslice none (0 : Nat) (5 : Nat) (1 : Nat) [IV.int IntKind.i64 (0 : Int), IV.int IntKind.i64 (1 : Int), IV.int IntKind.i64 (2 : Int), IV.int IntKind.i64 (4 : Int), IV.int IntKind.i64 (6 : Int)]) h))
                                    (brS (rdB op a b c (7 : Int))
                                      (Q (IV.vslice none (0 : Nat) (5 : Nat) (1 : Nat) [IV.int IntKind.i64 (0 : Int), IV.int IntKind.i64 (1 : Int), IV.int IntKind.i64 (2 : Int), IV.int IntKind.i64 (4 : Int), IV.int IntKind.i64 (7 : Int)]) h)
                                      (Q (IV.vslice none (0 : Nat) (4 : Nat) (1 : Nat) [IV.int IntKind.i64 (0 : Int), IV.int IntKind.i64 (1 : Int), IV.int IntKind.i64 (2 : Int), IV.int IntKind.i64 (4 : Int)]) h))))
                                (brS (rdB op a b c (5 : Int))
                                  (brS (rdB op a b c (6 : Int))
                                    (brS (rdB op a b c (7 : Int))
                                      (Q
                                        (IV.vslice none (0 : Nat) (6 : Nat) (1 : Nat)
                                          [IV.int IntKind.i64 (0 : Int), IV.int IntKind.i64 (1 : Int), IV.int IntKind.i64 (2 : Int), IV.int IntKind.i64 (5 : Int), IV.int IntKind.i64 (6 : Int), IV.int IntKind.i64 (7 : Int)])
                                        h)
                                      (Q (IV.vslice none (0 : Nat) (5 : Nat) (1 : Nat) [IV.int IntKind.i64 (0 : Int), IV.int IntKind.i64 (1 : Int), IV.int IntKind.i64 (2 : Int), IV.int IntKind.i64 (5 : Int), IV.int IntKind.i64 (6 : Int)]) h))
                                    (brS (rdB op a b c (7 : Int))
                                      (Q (IV.vslice none (0 : Nat) (5 : Nat) (1 : Nat) [IV.int IntKind.i64 (0 : Int), IV.int IntKind.i64 (1 : Int), IV.int IntKind.i64 (2 : Int), IV.int IntKind.i64 (5 : Int), IV.int IntKind.i64 (7 : Int)]) h)
                                      (Q (IV.vslice none (0 : Nat) (4 : Nat) (1 : Nat) [IV.int IntKind.i64 (0 : Int), IV.int IntKind.i64 (1 : Int), IV.int IntKind.i64 (2 : Int), IV.int IntKind.i64 (5 : Int)]) h)))
                                  (brS (rdB op a b c (6 : Int))
                                    (brS (rdB op a b c (7 : Int))
                                      (Q (IV.vslice none (0 : Nat) (5 : Nat) (1 : Nat) [IV.int IntKind.i64 (0 : Int), IV.int IntKind.i64 (1 : Int), IV.int IntKind.i64 (2 : Int), IV.int IntKind.i64 (6 : Int), IV.int IntKind.i64 (7 : Int)]) h)
                                      (Q (IV.vslice none (0 : Nat) (4 : Nat) (1 : Nat) [IV.int IntKind.i64 (0 : Int), IV.int IntKind.i64 (1 : Int), IV.int IntKind.i64 (2 : Int), IV.int IntKind.i64 (6 : Int)]) h))
                                    (brS (rdB op a b c (7 : Int)) (Q (IV.vslice none (0 : Nat) (4 : Nat) (1 : Nat) [IV.int IntKind.i64 (0 : Int), IV.int IntKind.i64 (1 : Int), IV.int IntKind.i64 (2 : Int), IV.int IntKind.i64 (7 : Int)]) h)
                                      (Q (IV.vslice none (0 : Nat) (3 : Nat) (1 : Nat) [IV.int IntKind.i64 (0 : Int), IV.int IntKind.i64 (1 : Int), IV.int IntKind.i64 (2 : Int)]) h))))))
                            (brS (rdB op a b c (3 : Int))
                              (brS (rdB op a b c (4 : Int))
                                (brS (rdB op a b c (5 : Int))
                                  (brS (rdB op a b c (6 : Int))
                                    (brS (rdB op a b c (7 : Int))
                                      (Q
                                        (IV.vslice none (0 : Nat) (7 : Nat) (1 : Nat)
                                          [IV.int IntKind.i64 (0 : Int), IV.int IntKind.i64 (1 : Int), IV.int IntKind.i64 (3 : Int), IV.int IntKind.i64 (4 : Int), IV.int IntKind.i64 (5 : Int), IV.int IntKind.i64 (6 : Int),
                                            IV.int IntKind.i64 (7 : Int)])
                                        h)
                                      (Q
                                        (IV.vslice none (0 : Nat) (6 : Nat) (1 : Nat)
                                          [IV.int IntKind.i64 (0 : Int), IV.int IntKind.i64 (1 : Int), IV.int IntKind.i64 (3 : Int), IV.int IntKind.i64 (4 : Int), IV.int IntKind.i64 (5 : Int), IV.int IntKind.i64 (6 : Int)])
                                        h))
                                    (brS (rdB op a b c (7 : Int))
                                      (Q
                                        (IV.vslice none (0 : Nat) (6 : Nat) (1 : Nat)
                                          [IV.int IntKind.i64 (0 : Int), IV.int IntKind.i64 (1 : Int), IV.int IntKind.i64 (3 : Int), IV.int IntKind.i64 (4 : Int), IV.int IntKind.i64 (5 : Int), IV.int IntKind.i64 (7 : Int)])
                                        h)
                                      (Q (IV.vslice none (0 : Nat) (5 : Nat) (1 : Nat) [IV.int IntKind.i64 (0 : Int), IV.int IntKind.i64 (1 : Int), IV.int IntKind.i64 (3 : Int), IV.int IntKind.i64 (4 : Int), IV.int IntKind.i64 (5 : Int)])
                                        h)))
                                  (brS (rdB op a b c (6 : Int))
                                    (brS (rdB op a b c (7 : Int))
                                      (Q
                                        (IV.vslice none (0 : Nat) (6 : Nat) (1 : Nat)
                                          [IV.int IntKind.i64 (0 : Int), IV.int IntKind.i64 (1 : Int), IV.int IntKind.i64 (3 : Int), IV.int IntKind.i64 (4 : Int), IV.int IntKind.i64 (6 : Int), IV.int IntKind.i64 (7 : Int)])
                                        h)
                                      (Q (IV.vslice none (0 : Nat) (5 : Nat) (1 : Nat) [IV.int IntKind.i64 (0 : Int), IV.int IntKind.i64 (1 : Int), IV.int IntKind.i64 (3 : Int), IV.int IntKind.i64 (4 : Int), IV.int IntKind.i64 (6 : Int)]) h))
                                    (brS (rdB op a b c (7 : Int))
                                      (Q (IV.vslice none (0 : Nat) (5 : Nat) (1 : Nat) [IV.int IntKind.i64 (0 : Int), IV.int IntKind.i64 (1 : Int), IV.int IntKind.i64 (3 : Int), IV.int IntKind.i64 (4 : Int), IV.int IntKind.i64 (7 : Int)]) h)
                                      (Q (IV.vslice none (0 : Nat) (4 : Nat) (1 : Nat) [IV.int IntKind.i64 (0 : Int), IV.int IntKind.i64 (1 : Int), IV.int IntKind.i64 (3 : Int), IV.int IntKind.i64 (4 : Int)]) h))))
                                (brS (rdB op a b c (5 : Int))
                                  (brS (rdB op a b c (6 : Int))
                                    (brS (rdB op a b c (7 : Int))
                                      (Q
                                        (IV.vslice none (0 : Nat) (6 : Nat) (1 : Nat)
                                          [IV.int IntKind.i64 (0 : Int), IV.int IntKind.i64 (1 : Int), IV.int IntKind.i64 (3 : Int), IV.int IntKind.i64 (5 : Int), IV.int IntKind.i64 (6 : Int), IV.int IntKind.i64 (7 : Int)])
                                        h)
                                      (Q (IV.vslice none (0 : Nat) (5 : Nat) (1 : Nat) [IV.int IntKind.i64 (0 : Int), IV.int IntKind.i64 (1 : Int), IV.int IntKind.i64 (3 : Int), IV.int IntKind.i64 (5 : Int), IV.int IntKind.i64 (6 : Int)]) h))
                                    (brS (rdB op a b c (7 : Int))
                                      (Q (IV.vslice none (0 : Nat) (5 : Nat) (1 : Nat) [IV.int IntKind.i64 (0 : Int), IV.int IntKind.i64 (1 : Int), IV.int IntKind.i64 (3 : Int), IV.int IntKind.i64 (5 : Int), IV.int IntKind.i64 (7 : Int)]) h)
                                      (Q (IV.vslice none (0 : Nat) (4 : Nat) (1 : Nat) [IV.int IntKind.i64 (0 : Int), IV.int IntKind.i64 (1 : Int), IV.int IntKind.i64 (3 : Int), IV.int IntKind.i64 (5 : Int)]) h)))
                                  (brS (rdB op a b c (6 : Int))
                                    (brS (rdB op a b c (7 : Int))
                                      (Q (IV.vslice none (0 : Nat) (5 : Nat) (1 : Nat) [IV.int IntKind.i64 (0 : Int), IV.int IntKind.i64 (1 : Int), IV.int IntKind.i64 (3 : Int), IV.int IntKind.i64 (6 : Int), IV.int IntKind.i64 (7 : Int)]) h)
                                      (Q (IV.vslice none (0 : Nat) (4 : Nat) (1 : Nat) [IV.int IntKind.i64 (0 : Int), IV.int IntKind.i64 (1 : Int), IV.int IntKind.i64 (3 : Int), IV.int IntKind.i64 (6 : Int)]) h))
                                    (brS (rdB op a b c (7 : Int)) (Q (IV.vslice none (0 : Nat) (4 : Nat) (1 : Nat) [IV.int IntKind.i64 (0 : Int), IV.int IntKind.i64 (1 : Int), IV.int IntKind.i64 (3 : Int), IV.int IntKind.i64 (7 : Int)]) h)
                                      (Q (IV.vslice none (0 : Nat) (3 : Nat) (1 : Nat) [IV.int IntKind.i64 (0 : Int), IV.int IntKind.i64 (1 : Int), IV.int IntKind.i64 (3 : Int)]) h)))))
                              (brS (rdB op a b c (4 : Int))
                                (brS (rdB op a b c (5 : Int))
                                  (brS (rdB op a b c (6 : Int))
                                    (brS (rdB op a b c (7 : Int))
                                      (Q
                                        (IV.vslice none (0 : Nat) (6 : Nat) (1 : Nat)
                                          [IV.int IntKind.i64 (0 : Int), IV.int IntKind.i64 (1 : Int), IV.int IntKind.i64 (4 : Int), IV.int IntKind.i64 (5 : Int), IV.int IntKind.i64 (6 : Int), IV.int IntKind.i64 (7 : Int)])
                                        h)
                                      (Q (IV.vslice none (0 : Nat) (5 : Nat) (1 : Nat) [IV.int IntKind.i64 (0 : Int), IV.int IntKind.i64 (1 : Int), IV.int IntKind.i64 (4 : Int), IV.int IntKind.i64 (5 : Int), IV.int IntKind.i64 (6 : Int)]) h))
                                    (brS (rdB op a b c (7 : Int))
                                      (Q (IV.vslice none (0 : Nat) (5 : Nat) (1 : Nat) [IV.int IntKind.i64 (0 : Int), IV.int IntKind.i64 (1 : Int), IV.int IntKind.i64 (4 : Int), IV.int IntKind.i64 (5 : Int), IV.int IntKind.i64 (7 : Int)]) h)
                                      (Q (IV.vslice none (0 : Nat) (4 : Nat) (1 : Nat) [IV.int IntKind.i64 (0 : Int), IV.int IntKind.i64 (1 : Int), IV.int IntKind.i64 (4 : Int), IV.int IntKind.i64 (5 : Int)]) h)))
                                  (brS (rdB op a b c (6 : Int))
                                    (brS (rdB op a b c (7 : Int))
                                      (Q (IV.vslice none (0 : Nat) (5 : Nat) (1 : Nat) [IV.int IntKind.i64 (0 : Int), IV.int IntKind.i64 (1 : Int), IV.int IntKind.i64 (4 : Int), IV.int IntKind.i64 (6 : Int), IV.int IntKind.i64 (7 : Int)]) h)
                                      (Q (IV.vslice none (0 : Nat) (4 : Nat) (1 : Nat) [IV.int IntKind.i64 (0 : Int), IV.int IntKind.i64 (1 : Int), IV.int IntKind.i64 (4 : Int), IV.int IntKind.i64 (6 : Int)]) h))
                                    (brS (rdB op a b c (7 : Int)) (Q (IV.vslice none (0 : Nat) (4 : Nat) (1 : Nat) [IV.int IntKind.i64 (0 : Int), IV.int IntKind.i64 (1 : Int), IV.int IntKind.i64 (4 : Int), IV.int IntKind.i64 (7 : Int)]) h)
                                      (Q (IV.vslice none (0 : Nat) (3 : Nat) (1 : Nat) [IV.int IntKind.i64 (0 : Int), IV.int IntKind.i64 (1 : Int), IV.int IntKind.i64 (4 : Int)]) h))))
                                (brS (rdB op a b c (5 : Int))
                                  (brS (rdB op a b c (6 : Int))
                                    (brS (rdB op a b c (7 : Int))
                                      (Q (IV.vslice none (0 : Nat) (5 : Nat) (1 : Nat) [IV.int IntKind.i64 (0 : Int), IV.int IntKind.i64 (1 : Int), IV.int IntKind.i64 (5 : Int), IV.int IntKind.i64 (6 : Int), IV.int IntKind.i64 (7 : Int)]) h)
                                      (Q (IV.vslice none (0 : Nat) (4 : Nat) (1 : Nat) [IV.int IntKind.i64 (0 : Int), IV.int IntKind.i64 (1 : Int), IV.int IntKind.i64 (5 : Int), IV.int IntKind.i64 (6 : Int)]) h))
                                    (brS (rdB op a b c (7 : Int)) (Q (IV.vslice none (0 : Nat) (4 : Nat) (1 : Nat) [IV.int IntKind.i64 (0 : Int), IV.int IntKind.i64 (1 : Int), IV.int IntKind.i64 (5 : Int), IV.int IntKind.i64 (7 : Int)]) h)
                                      (Q (IV.vslice none (0 : Nat) (3 : Nat) (1 : Nat) [IV.int IntKind.i64 (0 : Int), IV.int IntKind.i64 (1 : Int), IV.int IntKind.i64 (5 : Int)]) h)))
                                  (brS (rdB op a b c (6 : Int))
                                    (brS (rdB op a b c (7 : Int)) (Q (IV.vslice none (0 : Nat) (4 : Nat) (1 : Nat) [IV.int IntKind.i64 (0 : Int), IV.int IntKind.i64 (1 : Int), IV.int IntKind.i64 (6 : Int), IV.int IntKind.i64 (7 : Int)]) h)
                                      (Q (IV.vslice none (0 : Nat) (3 : Nat) (1 : Nat) [IV.int IntKind.i64 (0 : Int), IV.int IntKind.i64 (1 : Int), IV.int IntKind.i64 (6 : Int)]) h))
                                    (brS (rdB op a b c (7 : Int)) (Q (IV.vslice none (0 : Nat) (3 : Nat) (1 : Nat) [IV.int IntKind.i64 (0 : Int), IV.int IntKind.i64 (1 : Int), IV.int IntKind.i64 (7 : Int)]) h)
                                      (Q (IV.vslice none (0 : Nat) (2 : Nat) (1 : Nat) [IV.int IntKind.i64 (0 : Int), IV.int IntKind.i64 (1 : Int)]) h)))))))
                          (brS (rdB op a b c (2 : Int))
                            (brS (rdB op a b c (3 : Int))
                              (brS (rdB op a b c (4 : Int))
                                (brS (rdB op a b c (5 : Int))
                                  (brS (rdB op a b c (6 : Int))
                                    (brS (rdB op a b c (7 : Int))
                                      (Q
                                        (IV.vslice none (0 : Nat) (7 : Nat) (1 : Nat)
                                          [IV.int IntKind.i64 (0 : Int), IV.int IntKind.i64 (2 : Int), IV.int IntKind.i64 (3 : Int), IV.int IntKind.i64 (4 : Int), IV.int IntKind.i64 (5 : Int), IV.int IntKind.i64 (6 : Int),
                                            IV.int IntKind.i64 (7 : Int)])
                                        h)
                                      (Q
                                        (IV.vslice none (0 : Nat) (6 : Nat) (1 : Nat)
                                          [IV.int IntKind.i64 (0 : Int), IV.int IntKind.i64 (2 : Int), IV.int IntKind.i64 (3 : Int), IV.int IntKind.i64 (4 : Int), IV.int IntKind.i64 (5 : Int), IV.int IntKind.i64 (6 : Int)])
                                        h))
                                    (brS (rdB op a b c (7 : Int))
                                      (Q
                                        (IV.vslice none (0 : Nat) (6 : Nat) (1 : Nat)
                                          [IV.int IntKind.i64 (0 : Int), IV.int IntKind.i64 (2 : Int), IV.int IntKind.i64 (3 : Int), IV.int IntKind.i64 (4 : Int), IV.int IntKind.i64 (5 : Int), IV.int IntKind.i64 (7 : Int)])
                                        h)
                                      (Q (IV.vslice none (0 : Nat) (5 : Nat) (1 : Nat) [IV.int IntKind.i64 (0 : Int), IV.int IntKind.i64 (2 : Int), IV.int IntKind.i64 (3 : Int), IV.int IntKind.i64 (4 : Int), IV.int IntKind.i64 (5 : Int)])
                                        h)))
                                  (brS (rdB op a b c (6 : Int))
                                    (brS (rdB op a b c (7 : Int))
                                      (Q
                                        (IV.vslice none (0 : Nat) (6 : Nat) (1 : Nat)
                                          [IV.int IntKind.i64 (0 : Int), IV.int IntKind.i64 (2 : Int), IV.int IntKind.i64 (3 : Int), IV.int IntKind.i64 (4 : Int), IV.int IntKind.i64 (6 : Int), IV.int IntKind.i64 (7 : Int)])
                                        h)
                                      (Q (IV.vslice none (0 : Nat) (5 : Nat) (1 : Nat) [IV.int IntKind.i64 (0 : Int), IV.int IntKind.i64 (2 : Int), IV.int IntKind.i64 (3 : Int), IV.int IntKind.i64 (4 : Int), IV.int IntKind.i64 (6 : Int)]) h))
                                    (brS (rdB op a b c (7 : Int))
                                      (Q (IV.vslice none (0 : Nat) (5 : Nat) (1 : Nat) [IV.int IntKind.i64 (0 : Int), IV.int IntKind.i64 (2 : Int), IV.int IntKind.i64 (3 : Int), IV.int IntKind.i64 (4 : Int), IV.int IntKind.i64 (7 : Int)]) h)
                                      (Q (IV.vslice none (0 : Nat) (4 : Nat) (1 : Nat) [IV.int IntKind.i64 (0 : Int), IV.int IntKind.i64 (2 : Int), IV.int IntKind.i64 (3 : Int), IV.int IntKind.i64 (4 : Int)]) h))))
                                (brS (rdB op a b c (5 : Int))
                                  (brS (rdB op a b c (6 : Int))
                                    (brS (rdB op a b c (7 : Int))
                                      (Q
                                        (IV.vslice none (0 : Nat) (6 : Nat) (1 : Nat)
                                          [IV.int IntKind.i64 (0 : Int), IV.int IntKind.i64 (2 : Int), IV.int IntKind.i64 (3 : Int), IV.int IntKind.i64 (5 : Int), IV.int IntKind.i64 (6 : Int), IV.int IntKind.i64 (7 : Int)])
                                        h)
                                      (Q (IV.vslice none (0 : Nat) (5 : Nat) (1 : Nat) [IV.int IntKind.i64 (0 : Int), IV.int IntKind.i64 (2 : Int), IV.int IntKind.i64 (3 : Int), IV.int IntKind.i64 (5 : Int), IV.int IntKind.i64 (6 : Int)]) h))
                                    (brS (rdB op a b c (7 : Int))
                                      (Q (IV.vslice none (0 : Nat) (5 : Nat) (1 : Nat) [IV.int IntKind.i64 (0 : Int), IV.int IntKind.i64 (2 : Int), IV.int IntKind.i64 (3 : Int), IV.int IntKind.i64 (5 : Int), IV.int IntKind.i64 (7 : Int)]) h)
                                      (Q (IV.vslice none (0 : Nat) (4 : Nat) (1 : Nat) [IV.int IntKind.i64 (0 : Int), IV.int IntKind.i64 (2 : Int), IV.int IntKind.i64 (3 : Int), IV.int IntKind.i64 (5 : Int)]) h)))
                                  (brS (rdB op a b c (6 : Int))
                                    (brS (rdB op a b c (7 : Int))
                                      (Q (IV.vslice none (0 : Nat) (5 : Nat) (1 : Nat) [IV.int IntKind.i64 (0 : Int), IV.int IntKind.i64 (2 : Int), IV.int IntKind.i64 (3 : Int), IV.int IntKind.i64 (6 : Int), IV.int IntKind.i64 (7 : Int)]) h)
                                      (Q (IV.vslice none (0 : Nat) (4 : Nat) (1 : Nat) [IV.int IntKind.i64 (0 : Int), IV.int IntKind.i64 (2 : Int), IV.int IntKind.i64 (3 : Int), IV.int IntKind.i64 (6 : Int)]) h))
                                    (brS (rdB op a b c (7 : Int)) (Q (IV.vslice none (0 : Nat) (4 : Nat) (1 : Nat) [IV.int IntKind.i64 (0 : Int), IV.int IntKind.i64 (2 : Int), IV.int IntKind.i64 (3 : Int), IV.int IntKind.i64 (7 : Int)]) h)
                                      (Q (IV.vslice none (0 : Nat) (3 : Nat) (1 : Nat) [IV.int IntKind.i64 (0 : Int), IV.int IntKind.i64 (2 : Int), IV.int IntKind.i64 (3 : Int)]) h)))))
                              (brS (rdB op a b c (4 : Int))
                                (brS (rdB op a b c (5 : Int))
                                  (brS (rdB op a b c (6 : Int))
                                    (brS (rdB op a b c (7 : Int))
                                      (Q
                                        (IV.vslice none (0 : Nat) (6 : Nat) (1 : Nat)
                                          [IV.int IntKind.i64 (0 : Int), IV.int IntKind.i64 (2 : Int), IV.int IntKind.i64 (4 : Int), IV.int IntKind.i64 (5 : Int), IV.int IntKind.i64 (6 : Int), IV.int IntKind.i64 (7 : Int)])
                                        h)
                                      (Q (IV.vslice none (0 : Nat) (5 : Nat) (1 : Nat) [IV.int IntKind.i64 (0 : Int), IV.int IntKind.i64 (2 : Int), IV.int IntKind.i64 (4 : Int), IV.int IntKind.i64 (5 : Int), IV.int IntKind.i64 (6 : Int)]) h))
                                    (brS (rdB op a b c (7 : Int))
                                      (Q (IV.vslice none (0 : Nat) (5 : Nat) (1 : Nat) [IV.int IntKind.i64 (0 : Int), IV.int IntKind.i64 (2 : Int), IV.int IntKind.i64 (4 : Int), IV.int IntKind.i64 (5 : Int), IV.int IntKind.i64 (7 : Int)]) h)
                                      (Q (IV.vslice none (0 : Nat) (4 : Nat) (1 : Nat) [IV.int IntKind.i64 (0 : Int), IV.int IntKind.i64 (2 : Int), IV.int IntKind.i64 (4 : Int), IV.int IntKind.i64 (5 : Int)]) h)))
                                  (brS (rdB op a b c (6 : Int))
                                    (brS (rdB op a b c (7 : Int))
                                      (Q (IV.vslice none (0 : Nat) (5 : Nat) (1 : Nat) [IV.int IntKind.i64 (0 : Int), IV.int IntKind.i64 (2 : Int), IV.int IntKind.i64 (4 : Int), IV.int IntKind.i64 (6 : Int), IV.int IntKind.i64 (7 : Int)]) h)
                                      (Q (IV.vslice none (0 : Nat) (4 : Nat) (1 : Nat) [IV.int IntKind.i64 (0 : Int), IV.int IntKind.i64 (2 : Int), IV.int IntKind.i64 (4 : Int), IV.int IntKind.i64 (6 : Int)]) h))
                                    (brS (rdB op a b c (7 : Int)) (Q (IV.vslice none (0 : Nat) (4 : Nat) (1 : Nat) [IV.int IntKind.i64 (0 : Int), IV.int IntKind.i64 (2 : Int), IV.int IntKind.i64 (4 : Int), IV.int IntKind.i64 (7 : Int)]) h)
                                      (Q (IV.vslice none (0 : Nat) (3 : Nat) (1 : Nat) [IV.int IntKind.i64 (0 : Int), IV.int IntKind.i64 (2 : Int), IV.int IntKind.i64 (4 : Int)]) h))))
                                (brS (rdB op a b c (5 : Int))
                                  (brS (rdB op a b c (6 : Int))
                                    (brS (rdB op a b c (7 : Int))
                                      (Q (IV.vslice none (0 : Nat) (5 : Nat) (1 : Nat) [IV.int IntKind.i64 (0 : Int), IV.int IntKind.i64 (2 : Int), IV.int IntKind.i64 (5 : Int), IV.int IntKind.i64 (6 : Int), IV.int IntKind.i64 (7 : Int)]) h)
                                      (Q (IV.vslice none (0 : Nat) (4 : Nat) (1 : Nat) [IV.int IntKind.i64 (0 : Int), IV.int IntKind.i64 (2 : Int), IV.int IntKind.i64 (5 : Int), IV.int IntKind.i64 (6 : Int)]) h))
                                    (brS (rdB op a b c (7 : Int)) (Q (IV.vslice none (0 : Nat) (4 : Nat) (1 : Nat) [IV.int IntKind.i64 (0 : Int), IV.int IntKind.i64 (2 : Int), IV.int IntKind.i64 (5 : Int), IV.int IntKind.i64 (7 : Int)]) h)
                                      (Q (IV.vslice none (0 : Nat) (3 : Nat) (1 : Nat) [IV.int IntKind.i64 (0 : Int), IV.int IntKind.i64 (2 : Int), IV.int IntKind.i64 (5 : Int)]) h)))
                                  (brS (rdB op a b c (6 : Int))
                                    (brS (rdB op a b c (7 : Int)) (Q (IV.vslice none (0 : Nat) (4 : Nat) (1 : Nat) [IV.int IntKind.i64 (0 : Int), IV.int IntKind.i64 (2 : Int), IV.int IntKind.i64 (6 : Int), IV.int IntKind.i64 (7 : Int)]) h)
                                      (Q (IV.vslice none (0 : Nat) (3 : Nat) (1 : Nat) [IV.int IntKind.i64 (0 : Int), IV.int IntKind.i64 (2 : Int), IV.int IntKind.i64 (6 : Int)]) h))
                                    (brS (rdB op a b c (7 : Int)) (Q (IV.vslice none (0 : Nat) (3 : Nat) (1 : Nat) [IV.int IntKind.i64 (0 : Int), IV.int IntKind.i64 (2 : Int), IV.int IntKind.i64 (7 : Int)]) h)
                                      (Q (IV.vslice none (0 : Nat) (2 : Nat) (1 : Nat) [IV.int IntKind.i64 (0 : Int), IV.int IntKind.i64 (2 : Int)]) h))))))
                            (brS (rdB op a b c (3 : Int))
                              (brS (rdB op a b c (4 : Int))
                                (brS (rdB op a b c (5 : Int))
                                  (brS (rdB op a b c (6 : Int))
                                    (brS (rdB op a b c (7 : Int))
                                      (Q
                                        (IV.vslice none (0 : Nat) (6 : Nat) (1 : Nat)
                                          [IV.int IntKind.i64 (0 : Int), IV.int IntKind.i64 (3 : Int), IV.int IntKind.i64 (4 : Int), IV.int IntKind.i64 (5 : Int), IV.int IntKind.i64 (6 : Int), IV.int IntKind.i64 (7 : Int)])
                                        h)
                                      (Q (IV.vslice none (0 : Nat) (5 : Nat) (1 : Nat) [IV.int IntKind.i64 (0 : Int), IV.int IntKind.i64 (3 : Int), IV.int IntKind.i64 (4 : Int), IV.int IntKind.i64 (5 : Int), IV.int IntKind.i64 (6 : Int)]) h))
                                    (brS (rdB op a b c (7 : Int))
                                      (Q (IV.vslice none (0 : Nat) (5 : Nat) (1 : Nat) [IV.int IntKind.i64 (0 : Int), IV.int IntKind.i64 (3 : Int), IV.int IntKind.i64 (4 : Int), IV.int IntKind.i64 (5 : Int), IV.int IntKind.i64 (7 : Int)]) h)
                                      (Q (IV.vslice none (0 : Nat) (4 : Nat) (1 : Nat) [IV.int IntKind.i64 (0 : Int), IV.int IntKind.i64 (3 : Int), IV.int IntKind.i64 (4 : Int), IV.int IntKind.i64 (5 : Int)]) h)))
                                  (brS (rdB op a b c (6 : Int))
                                    (brS (rdB op a b c (7 : Int))
                                      (Q (IV.vslice none (0 : Nat) (5 : Nat) (1 : Nat) [IV.int IntKind.i64 (0 : Int), IV.int IntKind.i64 (3 : Int), IV.int IntKind.i64 (4 : Int), IV.int IntKind.i64 (6 : Int), IV.int IntKind.i64 (7 : Int)]) h)
                                      (Q (IV.vslice none (0 : Nat) (4 : Nat) (1 : Nat) [IV.int IntKind.i64 (0 : Int), IV.int IntKind.i64 (3 : Int), IV.int IntKind.i64 (4 : Int), IV.int IntKind.i64 (6 : Int)]) h))
                                    (brS (rdB op a b c (7 : Int)) (Q (IV.vslice none (0 : Nat) (4 : Nat) (1 : Nat) [IV.int IntKind.i64 (0 : Int), IV.int IntKind.i64 (3 : Int), IV.int IntKind.i64 (4 : Int), IV.int IntKind.i64 (7 : Int)]) h)
                                      (Q (IV.vslice none (0 : Nat) (3 : Nat) (1 : Nat) [IV.int IntKind.i64 (0 : Int), IV.int IntKind.i64 (3 : Int), IV.int IntKind.i64 (4 : Int)]) h))))
                                (brS (rdB op a b c (5 : Int))
                                  (brS (rdB op a b c (6 : Int))
                                    (brS (rdB op a b c (7 : Int))
                                      (Q (IV.vslice none (0 : Nat) (5 : Nat) (1 : Nat) [IV.int IntKind.i64 (0 : Int), IV.int IntKind.i64 (3 : Int), IV.int IntKind.i64 (5 : Int), IV.int IntKind.i64 (6 : Int), IV.int IntKind.i64 (7 : Int)]) h)
                                      (Q (IV.vslice none (0 : Nat) (4 : Nat) (1 : Nat) [IV.int IntKind.i64 (0 : Int), IV.int IntKind.i64 (3 : Int), IV.int IntKind.i64 (5 : Int), IV.int IntKind.i64 (6 : Int)]) h))
                                    (brS (rdB op a b c (7 : Int)) (Q (IV.vslice none (0 : Nat) (4 : Nat) (1 : Nat) [IV.int IntKind.i64 (0 : Int), IV.int IntKind.i64 (3 : Int), IV.int IntKind.i64 (5 : Int), IV.int IntKind.i64 (7 : Int)]) h)
                                      (Q (IV.vslice none (0 : Nat) (3 : Nat) (1 : Nat) [IV.int IntKind.i64 (0 : Int), IV.int IntKind.i64 (3 : Int), IV.int IntKind.i64 (5 : Int)]) h)))
                                  (brS (rdB op a b c (6 : Int))
                                    (brS (rdB op a b c (7 : Int)) (Q (IV.vslice none (0 : Nat) (4 : Nat) (1 : Nat) [IV.int IntKind.i64 (0 : Int), IV.int IntKind.i64 (3 : Int), IV.int IntKind.i64 (6 : Int), IV.int IntKind.i64 (7 : Int)]) h)
                                      (Q (IV.vslice none (0 : Nat) (3 : Nat) (1 : Nat) [IV.int IntKind.i64 (0 : Int), IV.int IntKind.i64 (3 : Int), IV.int IntKind.i64 (6 : Int)]) h))
                                    (brS (rdB op a b c (7 : Int)) (Q (IV.vslice none (0 : Nat) (3 : Nat) (1 : Nat) [IV.int IntKind.i64 (0 : Int), IV.int IntKind.i64 (3 : Int), IV.int IntKind.i64 (7 : Int)]) h)
                                      (Q (IV.vslice none (0 : Nat) (2 : Nat) (1 : Nat) [IV.int IntKind.i64 (0 : Int), IV.int IntKind.i64 (3 : Int)]) h)))))
                              (brS (rdB op a b c (4 : Int))
                                (brS (rdB op a b c (5 : Int))
                                  (brS (rdB op a b c (6 : Int))
                                    (brS (rdB op a b c (7 : Int))
                                      (Q (IV.vslice none (0 : Nat) (5 : Nat) (1 : Nat) [IV.int IntKind.i64 (0 : Int), IV.int IntKind.i64 (4 : Int), IV.int IntKind.i64 (5 : Int), IV.int IntKind.i64 (6 : Int), IV.int IntKind.i64 (7 : Int)]) h)
                                      (Q (IV.vslice none (0 : Nat) (4 : Nat) (1 : Nat) [IV.int IntKind.i64 (0 : Int), IV.int IntKind.i64 (4 : Int), IV.int IntKind.i64 (5 : Int), IV.int IntKind.i64 (6 : Int)]) h))
                                    (brS (rdB op a b c (7 : Int)) (Q (IV.vslice none (0 : Nat) (4 : Nat) (1 : Nat) [IV.int IntKind.i64 (0 : Int), IV.int IntKind.i64 (4 : Int), IV.int IntKind.i64 (5 : Int), IV.int IntKind.i64 (7 : Int)]) h)
                                      (Q (IV.vslice none (0 : Nat) (3 : Nat) (1 : Nat) [IV.int IntKind.i64 (0 : Int), IV.int IntKind.i64 (4 : Int), IV.int IntKind.i64 (5 : Int)]) h)))
                                  (brS (rdB op a b c (6 : Int))
                                    (brS (rdB op a b c (7 : Int)) (Q (IV.vslice none (0 : Nat) (4 : Nat) (1 : Nat) [IV.int IntKind.i64 (0 : Int), IV.int IntKind.i64 (4 : Int), IV.int IntKind.i64 (6 : Int), IV.int IntKind.i64 (7 : Int)]) h)
                                      (Q (IV.vslice none (0 : Nat) (3 : Nat) (1 : Nat) [IV.int IntKind.i64 (0 : Int), IV.int IntKind.i64 (4 : Int), IV.int IntKind.i64 (6 : Int)]) h))
                                    (brS (rdB op a b c (7 : Int)) (Q (IV.vslice none (0 : Nat) (3 : Nat) (1 : Nat) [IV.int IntKind.i64 (0 : Int), IV.int IntKind.i64 (4 : Int), IV.int IntKind.i64 (7 : Int)]) h)
                                      (Q (IV.vslice none (0 : Nat) (2 : Nat) (1 : Nat) [IV.int IntKind.i64 (0 : Int), IV.int IntKind.i64 (4 : Int)]) h))))
                                (brS (rdB op a b c (5 : Int))
                                  (brS (rdB op a b c (6 : Int))
                                    (brS (rdB op a b c (7 : Int)) (Q (IV.vslice none (0 : Nat) (4 : Nat) (1 : Nat) [IV.int IntKind.i64 (0 : Int), IV.int IntKind.i64 (5 : Int), IV.int IntKind.i64 (6 : Int), IV.int IntKind.i64 (7 : Int)]) h)
                                      (Q (IV.vslice none (0 : Nat) (3 : Nat) (1 : Nat) [IV.int IntKind.i64 (0 : Int), IV.int IntKind.i64 (5 : Int), IV.int IntKind.i64 (6 : Int)]) h))
                                    (brS (rdB op a b c (7 : Int)) (Q (IV.vslice none (0 : Nat) (3 : Nat) (1 : Nat) [IV.int IntKind.i64 (0 : Int), IV.int IntKind.i64 (5 : Int), IV.int IntKind.i64 (7 : Int)]) h)
                                      (Q (IV.vslice none (0 : Nat) (2 : Nat) (1 : Nat) [IV.int IntKind.i64 (0 : Int), IV.int IntKind.i64 (5 : Int)]) h)))
                                  (brS (rdB op a b c (6 : Int))
                                    (brS (rdB op a b c (7 : Int)) (Q (IV.vslice none (0 : Nat) (3 : Nat) (1 : Nat) [IV.int IntKind.i64 (0 : Int), IV.int IntKind.i64 (6 : Int), IV.int IntKind.i64 (7 : Int)]) h)
                                      (Q (IV.vslice none (0 : Nat) (2 : Nat) (1 : Nat) [IV.int IntKind.i64 (0 : Int), IV.int IntKind.i64 (6 : Int)]) h))
                                    (brS (rdB op a b c (7 : Int)) (Q (IV.vslice none (0 : Nat) (2 : Nat) (1 : Nat) [IV.int IntKind.i64 (0 : Int), IV.int IntKind.i64 (7 : Int)]) h)
                                      (Q (IV.vslice none (0 : Nat) (1 : Nat) (1 : Nat) [IV.int IntKind.i64 (0 : Int)]) h))))))))
                        (brS (rdB op a b c (1 : Int))
                          (brS (rdB op a b c (2 : Int))
                            (brS (rdB op a b c (3 : Int))
                              (brS (rdB op a b c (4 : Int))
                                (brS (rdB op a b c (5 : Int))
                                  (brS (rdB op a b c (6 : Int))
                                    (brS (rdB op a b c (7 : Int))
                                      (Q
                                        (IV.vslice none (0 : Nat) (7 : Nat) (1 : Nat)
                                          [IV.int IntKind.i64 (1 : Int), IV.int IntKind.i64 (2 : Int), IV.int IntKind.i64 (3 : Int), IV.int IntKind.i64 (4 : Int), IV.int IntKind.i64 (5 : Int), IV.int IntKind.i64 (6 : Int),
                                            IV.int IntKind.i64 (7 : Int)])
                                        h)
                                      (Q
                                        (IV.vslice none (0 : Nat) (6 : Nat) (1 : Nat)
                                          [IV.int IntKind.i64 (1 : Int), IV.int IntKind.i64 (2 : Int), IV.int IntKind.i64 (3 : Int), IV.int IntKind.i64 (4 : Int), IV.int IntKind.i64 (5 : Int), IV.int IntKind.i64 (6 : Int)])
                                        h))
                                    (brS (rdB op a b c (7 : Int))
                                      (Q
                                        (IV.vslice none (0 : Nat) (6 : Nat) (1 : Nat)
                                          [IV.int IntKind.i64 (1 : Int), IV.int IntKind.i64 (2 : Int), IV.int IntKind.i64 (3 : Int), IV.int IntKind.i64 (4 : Int), IV.int IntKind.i64 (5 : Int), IV.int IntKind.i64 (7 : Int)])
                                        h)
                                      (Q (IV.vslice none (0 : Nat) (5 : Nat) (1 : Nat) [IV.int IntKind.i64 (1 : Int), IV.int IntKind.i64 (2 : Int), IV.int IntKind.i64 (3 : Int), IV.int IntKind.i64 (4 : Int), IV.int IntKind.i64 (5 : Int)])
                                        h)))
                                  (brS (rdB op a b c (6 : Int))
                                    (brS (rdB op a b c (7 : Int))
                                      (Q
                                        (IV.vslice none (0 : Nat) (6 : Nat) (1 : Nat)
                                          [IV.int IntKind.i64 (1 : Int), IV.int IntKind.i64 (2 : Int), IV.int IntKind.i64 (3 : Int), IV.int IntKind.i64 (4 : Int), IV.int IntKind.i64 (6 : Int), IV.int IntKind.i64 (7 : Int)])
                                        h)
                                      (Q (IV.vslice none (0 : Nat) (5 : Nat) (1 : Nat) [IV.int IntKind.i64 (1 : Int), IV.int IntKind.i64 (2 : Int), IV.int IntKind.i64 (3 : Int), IV.int IntKind.i64 (4 : Int), IV.int IntKind.i64 (6 : Int)]) h))
                                    (brS (rdB op a b c (7 : Int))
                                      (Q (IV.vslice none (0 : Nat) (5 : Nat) (1 : Nat) [IV.int IntKind.i64 (1 : Int), IV.int IntKind.i64 (2 : Int), IV.int IntKind.i64 (3 : Int), IV.int IntKind.i64 (4 : Int), IV.int IntKind.i64 (7 : Int)]) h)
                                      (Q (IV.vslice none (0 : Nat) (4 : Nat) (1 : Nat) [IV.int IntKind.i64 (1 : Int), IV.int IntKind.i64 (2 : Int), IV.int IntKind.i64 (3 : Int), IV.int IntKind.i64 (4 : Int)]) h))))
                                (brS (rdB op a b c (5 : Int))
                                  (brS (rdB op a b c (6 : Int))
                                    (brS (rdB op a b c (7 : Int))
                                      (Q
                                        (IV.vslice none (0 : Nat) (6 : Nat) (1 : Nat)
                                          [IV.int IntKind.i64 (1 : Int), IV.int IntKind.i64 (2 : Int), IV.int IntKind.i64 (3 : Int), IV.int IntKind.i64 (5 : Int), IV.int IntKind.i64 (6 : Int), IV.int IntKind.i64 (7 : Int)])
                                        h)
                                      (Q (IV.vslice none (0 : Nat) (5 : Nat) (1 : Nat) [IV.int IntKind.i64 (1 : Int), IV.int IntKind.i64 (2 : Int), IV.int IntKind.i64 (3 : Int), IV.int IntKind.i64 (5 : Int), IV.int IntKind.i64 (6 : Int)]) h))
                                    (brS (rdB op a b c (7 : Int))
                                      (Q (IV.vslice none (0 : Nat) (5 : Nat) (1 : Nat) [IV.int IntKind.i64 (1 : Int), IV.int IntKind.i64 (2 : Int), IV.int IntKind.i64 (3 : Int), IV.int IntKind.i64 (5 : Int), IV.int IntKind.i64 (7 : Int)]) h)
                                      (Q (IV.vslice none (0 : Nat) (4 : Nat) (1 : Nat) [IV.int IntKind.i64 (1 : Int), IV.int IntKind.i64 (2 : Int), IV.int IntKind.i64 (3 : Int), IV.int IntKind.i64 (5 : Int)]) h)))
                                  (brS (rdB op a b c (6 : Int))
                                    (brS (rdB op a b c (7 : Int))
                                      (Q (IV.vslice none (0 : Nat) (5 : Nat) (1 : Nat) [IV.int IntKind.i64 (1 : Int), IV.int IntKind.i64 (2 : Int), IV.int IntKind.i64 (3 : Int), IV.int IntKind.i64 (6 : Int), IV.int IntKind.i64 (7 : Int)]) h)
                                      (Q (IV.vslice none (0 : Nat) (4 : Nat) (1 : Nat) [IV.int IntKind.i64 (1 : Int), IV.int IntKind.i64 (2 : Int), IV.int IntKind.i64 (3 : Int), IV.int IntKind.i64 (6 : Int)]) h))
                                    (brS (rdB op a b c (7 : Int)) (Q (IV.vslice none (0 : Nat) (4 : Nat) (1 : Nat) [IV.int IntKind.i64 (1 : Int), IV.int IntKind.i64 (2 : Int), IV.int IntKind.i64 (3 : Int), IV.int IntKind.i64 (7 : Int)]) h)
                                      (Q (IV.vslice none (0 : Nat) (3 : Nat) (1 : Nat) [IV.int IntKind.i64 (1 : Int), IV.int IntKind.i64 (2 : Int), IV.int IntKind.i64 (3 : Int)]) h)))))
                              (brS (rdB op a b c (4 : Int))
                                (brS (rdB op a b c (5 : Int))
                                  (brS (rdB op a b c (6 : Int))
                                    (brS (rdB op a b c (7 : Int))
                                      (Q
                                        (IV.vslice none (0 : Nat) (6 : Nat) (1 : Nat)
                                          [IV.int IntKind.i64 (1 : Int), IV.int IntKind.i64 (2 : Int), IV.int IntKind.i64 (4 : Int), IV.int IntKind.i64 (5 : Int), IV.int IntKind.i64 (6 : Int), IV.int IntKind.i64 (7 : Int)])
                                        h)
                                      (Q (IV.vslice none (0 : Nat) (5 : Nat) (1 : Nat) [IV.int IntKind.i64 (1 : Int), IV.int IntKind.i64 (2 : Int), IV.int IntKind.i64 (4 : Int), IV.int IntKind.i64 (5 : Int), IV.int IntKind.i64 (6 : Int)]) h))
                                    (brS (rdB op a b c (7 : Int))
                                      (Q (IV.vslice none (0 : Nat) (5 : Nat) (1 : Nat) [IV.int IntKind.i64 (1 : Int), IV.int IntKind.i64 (2 : Int), IV.int IntKind.i64 (4 : Int), IV.int IntKind.i64 (5 : Int), IV.int IntKind.i64 (7 : Int)]) h)
                                      (Q (IV.vslice none (0 : Nat) (4 : Nat) (1 : Nat) [IV.int IntKind.i64 (1 : Int), IV.int IntKind.i64 (2 : Int), IV.int IntKind.i64 (4 : Int), IV.int IntKind.i64 (5 : Int)]) h)))
                                  (brS (rdB op a b c (6 : Int))
                                    (brS (rdB op a b c (7 : Int))
                                      (Q (IV.vslice none (0 : Nat) (5 : Nat) (1 : Nat) [IV.int IntKind.i64 (1 : Int), IV.int IntKind.i64 (2 : Int), IV.int IntKind.i64 (4 : Int), IV.int IntKind.i64 (6 : Int), IV.int IntKind.i64 (7 : Int)]) h)
                                      (Q (IV.vslice none (0 : Nat) (4 : Nat) (1 : Nat) [IV.int IntKind.i64 (1 : Int), IV.int IntKind.i64 (2 : Int), IV.int IntKind.i64 (4 : Int), IV.int IntKind.i64 (6 : Int)]) h))
                                    (brS (rdB op a b c (7 : Int)) (Q (IV.vslice none (0 : Nat) (4 : Nat) (1 : Nat) [IV.int IntKind.i64 (1 : Int), IV.int IntKind.i64 (2 : Int), IV.int IntKind.i64 (4 : Int), IV.int IntKind.i64 (7 : Int)]) h)
                                      (Q (IV.vslice none (0 : Nat) (3 : Nat) (1 : Nat) [IV.int IntKind.i64 (1 : Int), IV.int IntKind.i64 (2 : Int), IV.int IntKind.i64 (4 : Int)]) h))))
                                (brS (rdB op a b c (5 : Int))
                                  (brS (rdB op a b c (6 : Int))
                                    (brS (rdB op a b c (7 : Int))
                                      (Q (IV.vslice none (0 : Nat) (5 : Nat) (1 : Nat) [IV.int IntKind.i64 (1 : Int), IV.int IntKind.i64 (2 : Int), IV.int IntKind.i64 (5 : Int), IV.int IntKind.i64 (6 : Int), IV.int IntKind.i64 (7 : Int)]) h)
                                      (Q (IV.vslice none (0 : Nat) (4 : Nat) (1 : Nat) [IV.int IntKind.i64 (1 : Int), IV.int IntKind.i64 (2 : Int), IV.int IntKind.i64 (5 : Int), IV.int IntKind.i64 (6 : Int)]) h))
                                    (brS (rdB op a b c (7 : Int)) (Q (IV.vslice none (0 : Nat) (4 : Nat) (1 : Nat) [IV.int IntKind.i64 (1 : Int), IV.int IntKind.i64 (2 : Int), IV.int IntKind.i64 (5 : Int), IV.int IntKind.i64 (7 : Int)]) h)
                                      (Q (IV.vslice none (0 : Nat) (3 : Nat) (1 : Nat) [IV.int IntKind.i64 (1 : Int), IV.int IntKind.i64 (2 : Int), IV.int IntKind.i64 (5 : Int)]) h)))
                                  (brS (rdB op a b c (6 : Int))
                                    (brS (rdB op a b c (7 : Int)) (Q (IV.vslice none (0 : Nat) (4 : Nat) (1 : Nat) [IV.int IntKind.i64 (1 : Int), IV.int IntKind.i64 (2 : Int), IV.int IntKind.i64 (6 : Int), IV.int IntKind.i64 (7 : Int)]) h)
                                      (Q (IV.vslice none (0 : Nat) (3 : Nat) (1 : Nat) [IV.int IntKind.i64 (1 : Int), IV.int IntKind.i64 (2 : Int), IV.int IntKind.i64 (6 : Int)]) h))
                                    (brS (rdB op a b c (7 : Int)) (Q (IV.vslice none (0 : Nat) (3 : Nat) (1 : Nat) [IV.int IntKind.i64 (1 : Int), IV.int IntKind.i64 (2 : Int), IV.int IntKind.i64 (7 : Int)]) h)
                                      (Q (IV.vslice none (0 : Nat) (2 : Nat) (1 : Nat) [IV.int IntKind.i64 (1 : Int), IV.int IntKind.i64 (2 : Int)]) h))))))
                            (brS (rdB op a b c (3 : Int))
                              (brS (rdB op a b c (4 : Int))
                                (brS (rdB op a b c (5 : Int))
                                  (brS (rdB op a b c (6 : Int))
                                    (brS (rdB op a b c (7 : Int))
                                      (Q
                                        (IV.vslice none (0 : Nat) (6 : Nat) (1 : Nat)
                                          [IV.int IntKind.i64 (1 : Int), IV.int IntKind.i64 (3 : Int), IV.int IntKind.i64 (4 : Int), IV.int IntKind.i64 (5 : Int), IV.int IntKind.i64 (6 : Int), IV.int IntKind.i64 (7 : Int)])
                                        h)
                                      (Q (IV.vslice none (0 : Nat) (5 : Nat) (1 : Nat) [IV.int IntKind.i64 (1 : Int), IV.int IntKind.i64 (3 : Int), IV.int IntKind.i64 (4 : Int), IV.int IntKind.i64 (5 : Int), IV.int IntKind.i64 (6 : Int)]) h))
                                    (brS (rdB op a b c (7 : Int))
                                      (Q (IV.vslice none (0 : Nat) (5 : Nat) (1 : Nat) [IV.int IntKind.i64 (1 : Int), IV.int IntKind.i64 (3 : Int), IV.int IntKind.i64 (4 : Int), IV.int IntKind.i64 (5 : Int), IV.int IntKind.i64 (7 : Int)]) h)
                                      (Q (IV.vslice none (0 : Nat) (4 : Nat) (1 : Nat) [IV.int IntKind.i64 (1 : Int), IV.int IntKind.i64 (3 : Int), IV.int IntKind.i64 (4 : Int), IV.int IntKind.i64 (5 : Int)]) h)))
                                  (brS (rdB op a b c (6 : Int))
                                    (brS (rdB op a b c (7 : Int))
                                      (Q (IV.vslice none (0 : Nat) (5 : Nat) (1 : Nat) [IV.int IntKind.i64 (1 : Int), IV.int IntKind.i64 (3 : Int), IV.int IntKind.i64 (4 : Int), IV.int IntKind.i64 (6 : Int), IV.int IntKind.i64 (7 : Int)]) h)
                                      (Q (IV.vslice none (0 : Nat) (4 : Nat) (1 : Nat) [IV.int IntKind.i64 (1 : Int), IV.int IntKind.i64 (3 : Int), IV.int IntKind.i64 (4 : Int), IV.int IntKind.i64 (6 : Int)]) h))
                                    (brS (rdB op a b c (7 : Int)) (Q (IV.vslice none (0 : Nat) (4 : Nat) (1 : Nat) [IV.int IntKind.i64 (1 : Int), IV.int IntKind.i64 (3 : Int), IV.int IntKind.i64 (4 : Int), IV.int IntKind.i64 (7 : Int)]) h)
                                      (Q (IV.vslice none (0 : Nat) (3 : Nat) (1 : Nat) [IV.int IntKind.i64 (1 : Int), IV.int IntKind.i64 (3 : Int), IV.int IntKind.i64 (4 : Int)]) h))))
                                (brS (rdB op a b c (5 : Int))
                                  (brS (rdB op a b c (6 : Int))
                                    (brS (rdB op a b c (7 : Int))
                                      (Q (IV.vslice none (0 : Nat) (5 : Nat) (1 : Nat) [IV.int IntKind.i64 (1 : Int), IV.int IntKind.i64 (3 : Int), IV.int IntKind.i64 (5 : Int), IV.int IntKind.i64 (6 : Int), IV.int IntKind.i64 (7 : Int)]) h)
                                      (Q (IV.vslice none (0 : Nat) (4 : Nat) (1 : Nat) [IV.int IntKind.i64 (1 : Int), IV.int IntKind.i64 (3 : Int), IV.int IntKind.i64 (5 : Int), IV.int IntKind.i64 (6 : Int)]) h))
                                    (brS (rdB op a b c (7 : Int)) (Q (IV.vslice none (0 : Nat) (4 : Nat) (1 : Nat) [IV.int IntKind.i64 (1 : Int), IV.int IntKind.i64 (3 : Int), IV.int IntKind.i64 (5 : Int), IV.int IntKind.i64 (7 : Int)]) h)
                                      (Q (IV.vslice none (0 : Nat) (3 : Nat) (1 : Nat) [IV.int IntKind.i64 (1 : Int), IV.int IntKind.i64 (3 : Int), IV.int IntKind.i64 (5 : Int)]) h)))
                                  (brS (rdB op a b c (6 : Int))
                                    (brS (rdB op a b c (7 : Int)) (Q (IV.vslice none (0 : Nat) (4 : Nat) (1 : Nat) [IV.int IntKind.i64 (1 : Int), IV.int IntKind.i64 (3 : Int), IV.int IntKind.i64 (6 : Int), IV.int IntKind.i64 (7 : Int)]) h)
                                      (Q (IV.vslice none (0 : Nat) (3 : Nat) (1 : Nat) [IV.int IntKind.i64 (1 : Int), IV.int IntKind.i64 (3 : Int), IV.int IntKind.i64 (6 : Int)]) h))
                                    (brS (rdB op a b c (7 : Int)) (Q (IV.vslice none (0 : Nat) (3 : Nat) (1 : Nat) [IV.int IntKind.i64 (1 : Int), IV.int IntKind.i64 (3 : Int), IV.int IntKind.i64 (7 : Int)]) h)
                                      (Q (IV.vslice none (0 : Nat) (2 : Nat) (1 : Nat) [IV.int IntKind.i64 (1 : Int), IV.int IntKind.i64 (3 : Int)]) h)))))
                              (brS (rdB op a b c (4 : Int))
                                (brS (rdB op a b c (5 : Int))
                                  (brS (rdB op a b c (6 : Int))
                                    (brS (rdB op a b c (7 : Int))
                                      (Q (IV.vslice none (0 : Nat) (5 : Nat) (1 : Nat) [IV.int IntKind.i64 (1 : Int), IV.int IntKind.i64 (4 : Int), IV.int IntKind.i64 (5 : Int), IV.int IntKind.i64 (6 : Int), IV.int IntKind.i64 (7 : Int)]) h)
                                      (Q (IV.vslice none (0 : Nat) (4 : Nat) (1 : Nat) [IV.int IntKind.i64 (1 : Int), IV.int IntKind.i64 (4 : Int), IV.int IntKind.i64 (5 : Int), IV.int IntKind.i64 (6 : Int)]) h))
                                    (brS (rdB op a b c (7 : Int)) (Q (IV.vslice none (0 : Nat) (4 : Nat) (1 : Nat) [IV.int IntKind.i64 (1 : Int), IV.int IntKind.i64 (4 : Int), IV.int IntKind.i64 (5 : Int), IV.int IntKind.i64 (7 : Int)]) h)
                                      (Q (IV.vslice none (0 : Nat) (3 : Nat) (1 : Nat) [IV.int IntKind.i64 (1 : Int), IV.int IntKind.i64 (4 : Int), IV.int IntKind.i64 (5 : Int)]) h)))
                                  (brS (rdB op a b c (6 : Int))
                                    (brS (rdB op a b c (7 : Int)) (Q (IV.vslice none (0 : Nat) (4 : Nat) (1 : Nat) [IV.int IntKind.i64 (1 : Int), IV.int IntKind.i64 (4 : Int), IV.int IntKind.i64 (6 : Int), IV.int IntKind.i64 (7 : Int)]) h)
                                      (Q (IV.vslice none (0 : Nat) (3 : Nat) (1 : Nat) [IV.int IntKind.i64 (1 : Int), IV.int IntKind.i64 (4 : Int), IV.int IntKind.i64 (6 : Int)]) h))
                                    (brS (rdB op a b c (7 : Int)) (Q (IV.vslice none (0 : Nat) (3 : Nat) (1 : Nat) [IV.int IntKind.i64 (1 : Int), IV.int IntKind.i64 (4 : Int), IV.int IntKind.i64 (7 : Int)]) h)
                                      (Q (IV.vslice none (0 : Nat) (2 : Nat) (1 : Nat) [IV.int IntKind.i64 (1 : Int), IV.int IntKind.i64 (4 : Int)]) h))))
                                (brS (rdB op a b c (5 : Int))
                                  (brS (rdB op a b c (6 : Int))
                                    (brS (rdB op a b c (7 : Int)) (Q (IV.vslice none (0 : Nat) (4 : Nat) (1 : Nat) [IV.int IntKind.i64 (1 : Int), IV.int IntKind.i64 (5 : Int), IV.int IntKind.i64 (6 : Int), IV.int IntKind.i64 (7 : Int)]) h)
                                      (Q (IV.vslice none (0 : Nat) (3 : Nat) (1 : Nat) [IV.int IntKind.i64 (1 : Int), IV.int IntKind.i64 (5 : Int), IV.int IntKind.i64 (6 : Int)]) h))
                                    (brS (rdB op a b c (7 : Int)) (Q (IV.vslice none (0 : Nat) (3 : Nat) (1 : Nat) [IV.int IntKind.i64 (1 : Int), IV.int IntKind.i64 (5 : Int), IV.int IntKind.i64 (7 : Int)]) h)
                                      (Q (IV.vslice none (0 : Nat) (2 : Nat) (1 : Nat) [IV.int IntKind.i64 (1 : Int), IV.int IntKind.i64 (5 : Int)]) h)))
                                  (brS (rdB op a b c (6 : Int))
                                    (brS (rdB op a b c (7 : Int)) (Q (IV.vslice none (0 : Nat) (3 : Nat) (1 : Nat) [IV.int IntKind.i64 (1 : Int), IV.int IntKind.i64 (6 : Int), IV.int IntKind.i64 (7 : Int)]) h)
                                      (Q (IV.vslice none (0 : Nat) (2 : Nat) (1 : Nat) [IV.int IntKind.i64 (1 : Int), IV.int IntKind.i64 (6 : Int)]) h))
                                    (brS (rdB op a b c (7 : Int)) (Q (IV.vslice none (0 : Nat) (2 : Nat) (1 : Nat) [IV.int IntKind.i64 (1 : Int), IV.int IntKind.i64 (7 : Int)]) h)
                                      (Q (IV.vslice none (0 : Nat) (1 : Nat) (1 : Nat) [IV.int IntKind.i64 (1 : Int)]) h)))))))
                          (brS (rdB op a b c (2 : Int))
                            (brS (rdB op a b c (3 : Int))
                              (brS (rdB op a b c (4 : Int))
                                (brS (rdB op a b c (5 : Int))
                                  (brS (rdB op a b c (6 : Int))
                                    (brS (rdB op a b c (7 : Int))
                                      (Q
                                        (IV.vslice none (0 : Nat) (6 : Nat) (1 : Nat)
                                          [IV.int IntKind.i64 (2 : Int), IV.int IntKind.i64 (3 : Int), IV.int IntKind.i64 (4 : Int), IV.int IntKind.i64 (5 : Int), IV.int IntKind.i64 (6 : Int), IV.int IntKind.i64 (7 : Int)])
                                        h)
                                      (Q (IV.vslice none (0 : Nat) (5 : Nat) (1 : Nat) [IV.int IntKind.i64 (2 : Int), IV.int IntKind.i64 (3 : Int), IV.int IntKind.i64 (4 : Int), IV.int IntKind.i64 (5 : Int), IV.int IntKind.i64 (6 : Int)]) h))
                                    (brS (rdB op a b c (7 : Int))
                                      (Q (IV.vslice none (0 : Nat) (5 : Nat) (1 : Nat) [IV.int IntKind.i64 (2 : Int), IV.int IntKind.i64 (3 : Int), IV.int IntKind.i64 (4 : Int), IV.int IntKind.i64 (5 : Int), IV.int IntKind.i64 (7 : Int)]) h)
                                      (Q (IV.vslice none (0 : Nat) (4 : Nat) (1 : Nat) [IV.int IntKind.i64 (2 : Int), IV.int IntKind.i64 (3 : Int), IV.int IntKind.i64 (4 : Int), IV.int IntKind.i64 (5 : Int)]) h)))
                                  (brS (rdB op a b c (6 : Int))
                                    (brS (rdB op a b c (7 : Int))
                                      (Q (IV.vslice none (0 : Nat) (5 : Nat) (1 : Nat) [IV.int IntKind.i64 (2 : Int), IV.int IntKind.i64 (3 : Int), IV.int IntKind.i64 (4 : Int), IV.int IntKind.i64 (6 : Int), IV.int IntKind.i64 (7 : Int)]) h)
                                      (Q (IV.vslice none (0 : Nat) (4 : Nat) (1 : Nat) [IV.int IntKind.i64 (2 : Int), IV.int IntKind.i64 (3 : Int), IV.int IntKind.i64 (4 : Int), IV.int IntKind.i64 (6 : Int)]) h))
                                    (brS (rdB op a b c (7 : Int)) (Q (IV.vslice none (0 : Nat) (4 : Nat) (1 : Nat) [IV.int IntKind.i64 (2 : Int), IV.int IntKind.i64 (3 : Int), IV.int IntKind.i64 (4 : Int), IV.int IntKind.i64 (7 : Int)]) h)
                                      (Q (IV.vslice none (0 : Nat) (3 : Nat) (1 : Nat) [IV.int IntKind.i64 (2 : Int), IV.int IntKind.i64 (3 : Int), IV.int IntKind.i64 (4 : Int)]) h))))
                                (brS (rdB op a b c (5 : Int))
                                  (brS (rdB op a b c (6 : Int))
                                    (brS (rdB op a b c (7 : Int))
                                      (Q (IV.vslice none (0 : Nat) (5 : Nat) (1 : Nat) [IV.int IntKind.i64 (2 : Int), IV.int IntKind.i64 (3 : Int), IV.int IntKind.i64 (5 : Int), IV.int IntKind.i64 (6 : Int), IV.int IntKind.i64 (7 : Int)]) h)
                                      (Q (IV.vslice none (0 : Nat) (4 : Nat) (1 : Nat) [IV.int IntKind.i64 (2 : Int), IV.int IntKind.i64 (3 : Int), IV.int IntKind.i64 (5 : Int), IV.int IntKind.i64 (6 : Int)]) h))
                                    (brS (rdB op a b c (7 : Int)) (Q (IV.vslice none (0 : Nat) (4 : Nat) (1 : Nat) [IV.int IntKind.i64 (2 : Int), IV.int IntKind.i64 (3 : Int), IV.int IntKind.i64 (5 : Int), IV.int IntKind.i64 (7 : Int)]) h)
                                      (Q (IV.vslice none (0 : Nat) (3 : Nat) (1 : Nat) [IV.int IntKind.i64 (2 : Int), IV.int IntKind.i64 (3 : Int), IV.int IntKind.i64 (5 : Int)]) h)))
                                  (brS (rdB op a b c (6 : Int))
                                    (brS (rdB op a b c (7 : Int)) (Q (IV.vslice none (0 : Nat) (4 : Nat) (1 : Nat) [IV.int IntKind.i64 (2 : Int), IV.int IntKind.i64 (3 : Int), IV.int IntKind.i64 (6 : Int), IV.int IntKind.i64 (7 : Int)]) h)
                                      (Q (IV.vslice none (0 : Nat) (3 : Nat) (1 : Nat) [IV.int IntKind.i64 (2 : Int), IV.int IntKind.i64 (3 : Int), IV.int IntKind.i64 (6 : Int)]) h))
                                    (brS (rdB op a b c (7 : Int)) (Q (IV.vslice none (0 : Nat) (3 : Nat) (1 : Nat) [IV.int IntKind.i64 (2 : Int), IV.int IntKind.i64 (3 : Int), IV.int IntKind.i64 (7 : Int)]) h)
                                      (Q (IV.vslice none (0 : Nat) (2 : Nat) (1 : Nat) [IV.int IntKind.i64 (2 : Int), IV.int IntKind.i64 (3 : Int)]) h)))))
                              (brS (rdB op a b c (4 : Int))
                                (brS (rdB op a b c (5 : Int))
                                  (brS (rdB op a b c (6 : Int))
                                    (brS (rdB op a b c (7 : Int))
                                      (Q (IV.vslice none (0 : Nat) (5 : Nat) (1 : Nat) [IV.int IntKind.i64 (2 : Int), IV.int IntKind.i64 (4 : Int), IV.int IntKind.i64 (5 : Int), IV.int IntKind.i64 (6 : Int), IV.int IntKind.i64 (7 : Int)]) h)
                                      (Q (IV.vslice none (0 : Nat) (4 : Nat) (1 : Nat) [IV.int IntKind.i64 (2 : Int), IV.int IntKind.i64 (4 : Int), IV.int IntKind.i64 (5 : Int), IV.int IntKind.i64 (6 : Int)]) h))
                                    (brS (rdB op a b c (7 : Int)) (Q (IV.vslice none (0 : Nat) (4 : Nat) (1 : Nat) [IV.int IntKind.i64 (2 : Int), IV.int IntKind.i64 (4 : Int), IV.int IntKind.i64 (5 : Int), IV.int IntKind.i64 (7 : Int)]) h)
                                      (Q (IV.vslice none (0 : Nat) (3 : Nat) (1 : Nat) [IV.int IntKind.i64 (2 : Int), IV.int IntKind.i64 (4 : Int), IV.int IntKind.i64 (5 : Int)]) h)))
                                  (brS (rdB op a b c (6 : Int))
                                    (brS (rdB op a b c (7 : Int)) (Q (IV.vslice none (0 : Nat) (4 : Nat) (1 : Nat) [IV.int IntKind.i64 (2 : Int), IV.int IntKind.i64 (4 : Int), IV.int IntKind.i64 (6 : Int), IV.int IntKind.i64 (7 : Int)]) h)
                                      (Q (IV.vslice none (0 : Nat) (3 : Nat) (1 : Nat) [IV.int IntKind.i64 (2 : Int), IV.int IntKind.i64 (4 : Int), IV.int IntKind.i64 (6 : Int)]) h))
                                    (brS (rdB op a b c (7 : Int)) (Q (IV.vslice none (0 : Nat) (3 : Nat) (1 : Nat) [IV.int IntKind.i64 (2 : Int), IV.int IntKind.i64 (4 : Int), IV.int IntKind.i64 (7 : Int)]) h)
                                      (Q (IV.vslice none (0 : Nat) (2 : Nat) (1 : Nat) [IV.int IntKind.i64 (2 : Int), IV.int IntKind.i64 (4 : Int)]) h))))
                                (brS (rdB op a b c (5 : Int))
                                  (brS (rdB op a b c (6 : Int))
                                    (brS (rdB op a b c (7 : Int)) (Q (IV.vslice none (0 : Nat) (4 : Nat) (1 : Nat) [IV.int IntKind.i64 (2 : Int), IV.int IntKind.i64 (5 : Int), IV.int IntKind.i64 (6 : Int), IV.int IntKind.i64 (7 : Int)]) h)
                                      (Q (IV.vslice none (0 : Nat) (3 : Nat) (1 : Nat) [IV.int IntKind.i64 (2 : Int), IV.int IntKind.i64 (5 : Int), IV.int IntKind.i64 (6 : Int)]) h))
                                    (brS (rdB op a b c (7 : Int)) (Q (IV.vslice none (0 : Nat) (3 : Nat) (1 : Nat) [IV.int IntKind.i64 (2 : Int), IV.int IntKind.i64 (5 : Int), IV.int IntKind.i64 (7 : Int)]) h)
                                      (Q (IV.vslice none (0 : Nat) (2 : Nat) (1 : Nat) [IV.int IntKind.i64 (2 : Int), IV.int IntKind.i64 (5 : Int)]) h)))
                                  (brS (rdB op a b c (6 : Int))
                                    (brS (rdB op a b c (7 : Int)) (Q (IV.vslice none (0 : Nat) (3 : Nat) (1 : Nat) [IV.int IntKind.i64 (2 : Int), IV.int IntKind.i64 (6 : Int), IV.int IntKind.i64 (7 : Int)]) h)
                                      (Q (IV.vslice none (0 : Nat) (2 : Nat) (1 : Nat) [IV.int IntKind.i64 (2 : Int), IV.int IntKind.i64 (6 : Int)]) h))
                                    (brS (rdB op a b c (7 : Int)) (Q (IV.vslice none (0 : Nat) (2 : Nat) (1 : Nat) [IV.int IntKind.i64 (2 : Int), IV.int IntKind.i64 (7 : Int)]) h)
                                      (Q (IV.vslice none (0 : Nat) (1 : Nat) (1 : Nat) [IV.int IntKind.i64 (2 : Int)]) h))))))
                            (brS (rdB op a b c (3 : Int))
                              (brS (rdB op a b c (4 : Int))
                                (brS (rdB op a b c (5 : Int))
                                  (brS (rdB op a b c (6 : Int))
                                    (brS (rdB op a b c (7 : Int))
                                      (Q (IV.vslice none (0 : Nat) (5 : Nat) (1 : Nat) [IV.int IntKind.i64 (3 : Int), IV.int IntKind.i64 (4 : Int), IV.int IntKind.i64 (5 : Int), IV.int IntKind.i64 (6 : Int), IV.int IntKind.i64 (7 : Int)]) h)
                                      (Q (IV.vslice none (0 : Nat) (4 : Nat) (1 : Nat) [IV.int IntKind.i64 (3 : Int), IV.int IntKind.i64 (4 : Int), IV.int IntKind.i64 (5 : Int), IV.int IntKind.i64 (6 : Int)]) h))
                                    (brS (rdB op a b c (7 : Int)) (Q (IV.vslice none (0 : Nat) (4 : Nat) (1 : Nat) [IV.int IntKind.i64 (3 : Int), IV.int IntKind.i64 (4 : Int), IV.int IntKind.i64 (5 : Int), IV.int IntKind.i64 (7 : Int)]) h)
                                      (Q (IV.vslice none (0 : Nat) (3 : Nat) (1 : Nat) [IV.int IntKind.i64 (3 : Int), IV.int IntKind.i64 (4 : Int), IV.int IntKind.i64 (5 : Int)]) h)))
                                  (brS (rdB op a b c (6 : Int))
                                    (brS (rdB op a b c (7 : Int)) (Q (IV.vslice none (0 : Nat) (4 : Nat) (1 : Nat) [IV.int IntKind.i64 (3 : Int), IV.int IntKind.i64 (4 : Int), IV.int IntKind.i64 (6 : Int), IV.int IntKind.i64 (7 : Int)]) h)
                                      (Q (IV.vslice none (0 : Nat) (3 : Nat) (1 : Nat) [IV.int IntKind.i64 (3 : Int), IV.int IntKind.i64 (4 : Int), IV.int IntKind.i64 (6 : Int)]) h))
                                    (brS (rdB op a b c (7 : Int)) (Q (IV.vslice none (0 : Nat) (3 : Nat) (1 : Nat) [IV.int IntKind.i64 (3 : Int), IV.int IntKind.i64 (4 : Int), IV.int IntKind.i64 (7 : Int)]) h)
                                      (Q (IV.vslice none (0 : Nat) (2 : Nat) (1 : Nat) [IV.int IntKind.i64 (3 : Int), IV.int IntKind.i64 (4 : Int)]) h))))
                                (brS (rdB op a b c (5 : Int))
                                  (brS (rdB op a b c (6 : Int))
                                    (brS (rdB op a b c (7 : Int)) (Q (IV.vslice none (0 : Nat) (4 : Nat) (1 : Nat) [IV.int IntKind.i64 (3 : Int), IV.int IntKind.i64 (5 : Int), IV.int IntKind.i64 (6 : Int), IV.int IntKind.i64 (7 : Int)]) h)
                                      (Q (IV.vslice none (0 : Nat) (3 : Nat) (1 : Nat) [IV.int IntKind.i64 (3 : Int), IV.int IntKind.i64 (5 : Int), IV.int IntKind.i64 (6 : Int)]) h))
                                    (brS (rdB op a b c (7 : Int)) (Q (IV.vslice none (0 : Nat) (3 : Nat) (1 : Nat) [IV.int IntKind.i64 (3 : Int), IV.int IntKind.i64 (5 : Int), IV.int IntKind.i64 (7 : Int)]) h)
                                      (Q (IV.vslice none (0 : Nat) (2 : Nat) (1 : Nat) [IV.int IntKind.i64 (3 : Int), IV.int IntKind.i64 (5 : Int)]) h)))
                                  (brS (rdB op a b c (6 : Int))
                                    (brS (rdB op a b c (7 : Int)) (Q (IV.vslice none (0 : Nat) (3 : Nat) (1 : Nat) [IV.int IntKind.i64 (3 : Int), IV.int IntKind.i64 (6 : Int), IV.int IntKind.i64 (7 : Int)]) h)
                                      (Q (IV.vslice none (0 : Nat) (2 : Nat) (1 : Nat) [IV.int IntKind.i64 (3 : Int), IV.int IntKind.i64 (6 : Int)]) h))
                                    (brS (rdB op a b c (7 : Int)) (Q (IV.vslice none (0 : Nat) (2 : Nat) (1 : Nat) [IV.int IntKind.i64 (3 : Int), IV.int IntKind.i64 (7 : Int)]) h)
                                      (Q (IV.vslice none (0 : Nat) (1 : Nat) (1 : Nat) [IV.int IntKind.i64 (3 : Int)]) h)))))
                              (brS (rdB op a b c (4 : Int))
                                (brS (rdB op a b c (5 : Int))
                                  (brS (rdB op a b c (6 : Int))
                                    (brS (rdB op a b c (7 : Int)) (Q (IV.vslice none (0 : Nat) (4 : Nat) (1 : Nat) [IV.int IntKind.i64 (4 : Int), IV.int IntKind.i64 (5 : Int), IV.int IntKind.i64 (6 : Int), IV.int IntKind.i64 (7 : Int)]) h)
                                      (Q (IV.vslice none (0 : Nat) (3 : Nat) (1 : Nat) [IV.int IntKind.i64 (4 : Int), IV.int IntKind.i64 (5 : Int), IV.int IntKind.i64 (6 : Int)]) h))
                                    (brS (rdB op a b c (7 : Int)) (Q (IV.vslice none (0 : Nat) (3 : Nat) (1 : Nat) [IV.int IntKind.i64 (4 : Int), IV.int IntKind.i64 (5 : Int), IV.int IntKind.i64 (7 : Int)]) h)
                                      (Q (IV.vslice none (0 : Nat) (2 : Nat) (1 : Nat) [IV.int IntKind.i64 (4 : Int), IV.int IntKind.i64 (5 : Int)]) h)))
                                  (brS (rdB op a b c (6 : Int))
                                    (brS (rdB op a b c (7 : Int)) (Q (IV.vslice none (0 : Nat) (3 : Nat) (1 : Nat) [IV.int IntKind.i64 (4 : Int), IV.int IntKind.i64 (6 : Int), IV.int IntKind.i64 (7 : Int)]) h)
                                      (Q (IV.vslice none (0 : Nat) (2 : Nat) (1 : Nat) [IV.int IntKind.i64 (4 : Int), IV.int IntKind.i64 (6 : Int)]) h))
                                    (brS (rdB op a b c (7 : Int)) (Q (IV.vslice none (0 : Nat) (2 : Nat) (1 : Nat) [IV.int IntKind.i64 (4 : Int), IV.int IntKind.i64 (7 : Int)]) h)
                                      (Q (IV.vslice none (0 : Nat) (1 : Nat) (1 : Nat) [IV.int IntKind.i64 (4 : Int)]) h))))
                                (brS (rdB op a b c (5 : Int))
                                  (brS (rdB op a b c (6 : Int))
                                    (brS (rdB op a b c (7 : Int)) (Q (IV.vslice none (0 : Nat) (3 : Nat) (1 : Nat) [IV.int IntKind.i64 (5 : Int), IV.int IntKind.i64 (6 : Int), IV.int IntKind.i64 (7 : Int)]) h)
                                      (Q (IV.vslice none (0 : Nat) (2 : Nat) (1 : Nat) [IV.int IntKind.i64 (5 : Int), IV.int IntKind.i64 (6 : Int)]) h))
                                    (brS (rdB op a b c (7 : Int)) (Q (IV.vslice none (0 : Nat) (2 : Nat) (1 : Nat) [IV.int IntKind.i64 (5 : Int), IV.int IntKind.i64 (7 : Int)]) h)
                                      (Q (IV.vslice none (0 : Nat) (1 : Nat) (1 : Nat) [IV.int IntKind.i64 (5 : Int)]) h)))
                                  (brS (rdB op a b c (6 : Int))
                                    (brS (rdB op a b c (7 : Int)) (Q (IV.vslice none (0 : Nat) (2 : Nat) (1 : Nat) [IV.int IntKind.i64 (6 : Int), IV.int IntKind.i64 (7 : Int)]) h)
                                      (Q (IV.vslice none (0 : Nat) (1 : Nat) (1 : Nat) [IV.int IntKind.i64 (6 : Int)]) h))
                                    (brS (rdB op a b c (7 : Int)) (Q (IV.vslice none (0 : Nat) (1 : Nat) (1 : Nat) [IV.int IntKind.i64 (7 : Int)]) h) (Q (IV.vslice none (0 : Nat) (0 : Nat) (1 : Nat) []) h)))))))))) := by kernel_rfl
set_option maxHeartbeats 8000000 in
theorem sReads : ∀ xs h Q, kReads xs h Q → CallW env 13 xs h Q := by
  intro xs h Q hk
  unfold kReads at hk
  split at hk
  · rename_i op a b c n
    refine dF_sound (okSameInts) (mp_eq (vReads op a b c n h Q) ?_)
    refine brS_intro (fun hv => ?_) (fun hv => ?_)
    · simp only [Bool.not_eq_true'] at hv
      unfold rdI at hk; rw [hv] at hk; exact hk
    simp only [Bool.not_eq_false'] at hv
    obtain ⟨ha, hb, hc, h6⟩ := valid_abc hv
    refine ⟨?_, fun _ _ _ => ⟨?_, fun _ _ _ => ⟨?_, fun _ _ _ => ?_⟩⟩⟩
    · repeat' (first | refine needS_intro ?_ ?_ | refine brS_intro (fun _ => ?_) (fun _ => ?_) | refine And.intro ?_ ?_)
      all_goals first | rfl | exact hv | (simp; done) | (simp; omega) | ((try simp only [Nat.zero_add, Nat.mul_one, arr_set ha]); simp [rd1, *]; done)
    · repeat' (first | refine needS_intro ?_ ?_ | refine brS_intro (fun _ => ?_) (fun _ => ?_) | refine And.intro ?_ ?_)
      all_goals first | rfl | exact hv | (simp; done) | (simp; omega) | ((try simp only [Nat.zero_add, Nat.mul_one, arr_set hb]); simp [rd2, *]; done)
    · repeat' (first | refine needS_intro ?_ ?_ | refine brS_intro (fun _ => ?_) (fun _ => ?_) | refine And.intro ?_ ?_)
      all_goals try simp only [beq_iff_eq, beq_eq_false_iff_ne, ne_eq, decide_eq_true_eq, decide_eq_false_iff_not] at *
      all_goals first
        | rfl
        | exact hv
        | (simp; done)
        | (simp; omega)
        | (exfalso; omega)
        | (subst op; (try simp only [Nat.zero_add, Nat.mul_one, arr_set hc]); simp [rdB, rd4, rd3, fm4_iff]; done)
        | (simp [rdB, rd4, rd3, fm4_iff, *]; done)
        | (simp only [Option.some.injEq, List.cons.injEq, IV.bool.injEq, and_true, rdB, rd4, rd3, fm4_iff]; clear hk hv; grind)
        | (obtain rfl : a = 0 := (by omega); subst op; simp [rdB, rd4, rd3, fm4_iff]; done)
        | (obtain rfl : a = 1 := (by omega); subst op; simp [rdB, rd4, rd3, fm4_iff]; done)
        | (obtain rfl : a = 2 := (by omega); subst op; simp [rdB, rd4, rd3, fm4_iff]; done)
        | (obtain rfl : a = 3 := (by omega); subst op; simp [rdB, rd4, rd3, fm4_iff]; done)
        | (obtain rfl : a = 4 := (by omega); subst op; simp [rdB, rd4, rd3, fm4_iff]; done)
        | (obtain rfl : a = 5 := (by omega); subst op; simp [rdB, rd4, rd3, fm4_iff]; done)
        | (obtain rfl : a = 6 := (by omega); subst op; simp [rdB, rd4, rd3, fm4_iff]; done)
    · unfold rdI at hk
      rw [if_pos hv] at hk
      unfold lst at hk
      generalize rdB op a b c 0 = b0, rdB op a b c 1 = b1, rdB op a b c 2 = b2, rdB op a b c 3 = b3, rdB op a b c 4 = b4, rdB op a b c 5 = b5, rdB op a b c 6 = b6, rdB op a b c 7 = b7 at *
      cases b0 <;> cases b1 <;> cases b2 <;> cases b3 <;> cases b4 <;> cases b5 <;> cases b6 <;> cases b7 <;> exact hk
  · exact hk.elim
def cReads := addC 13 kReads cSameInts
theorem okReads : Sound env cReads := sound_add sReads (okSameInts)

end Go.Proofs.YtfmcdageaananaaDoor
