/-
  Intervals: Binary, in the program and in the reference; the statement IntervalSound.
  Conditions: none.
-/
import Derived.Test.YtahafnjlmcmhfaaD13
import Derived.KernelRfl
set_option linter.unusedVariables false
set_option linter.unusedSimpArgs false
namespace Go.Proofs.Ytahafnjlmcmhfaa
open Go.Pv Go.M13
theorem irem_full {a b c d : Int} (h : c < 1) : irem a b c d = (minW, maxW) := by
  unfold irem
  rw [if_pos h]
theorem bnd_wrap (x y : Int) : (if (inRb x && inRb y) = true then (IntKind.i64.wrap x, IntKind.i64.wrap y) else (minW, maxW)) = bnd x y := by
  unfold bnd
  split
  · rename_i h
    simp only [Bool.and_eq_true] at h
    rw [inRb_wrap h.1, inRb_wrap h.2]
  · rfl
def kBnd (xs : List IV) (h : Heap) (K : IV → Heap → Prop) : Prop := match xs with
  | [_, _, _, _, .func (.func f) _ _] => match Nat.beq f 36 with
    | true => kBoundsS xs h K
    | false => kBoundsD xs h K
  | _ => False
def kCrn (xs : List IV) (h : Heap) (K : IV → Heap → Prop) : Prop := match xs with
  | [_, _, .func (.func f) _ _] => match Nat.beq f 39 with
    | true => kCornersM xs h K
    | false => kCornersD xs h K
  | _ => False
def cBase2 := addC 12 kIval (addC 35 kBnd (addC 38 kCrn cRBitwise))
theorem sBnd : ∀ xs h Q, kBnd xs h Q → CallW env 35 xs h Q := by
  intro xs h Q hk
  unfold kBnd at hk
  split at hk
  · split at hk
    · exact sBoundsS _ _ _ hk
    · exact sBoundsD _ _ _ hk
  · exact hk.elim
theorem sCrn : ∀ xs h Q, kCrn xs h Q → CallW env 38 xs h Q := by
  intro xs h Q hk
  unfold kCrn at hk
  split at hk
  · split at hk
    · exact sCornersM _ _ _ hk
    · exact sCornersD _ _ _ hk
  · exact hk.elim
theorem okBase2 : Sound env cBase2 := sound_add sIval (sound_add sBnd (sound_add sCrn okRBitwise))
def kBin (xs : List IV) (h : Heap) (K : IV → Heap → Prop) : Prop := match xs with
  | [.int .i64 o, .agg [.int .i64 a, .int .i64 b], .agg [.int .i64 c, .int .i64 d]] => ((inR a ∧ inR b) ∧ (inR c ∧ inR d)) ∧ K (.agg [.int .i64 (ibin o a b c d).1, .int .i64 (ibin o a b c d).2]) h
  | _ => False
set_option maxRecDepth 100000 in
theorem vBin (o a b c d : Int) (h : Heap) (Q : IV → Heap → Prop) : dF (stdS cBase2) env 9 noU noI noI [.int .i64 o, .agg [.int .i64 a, .int .i64 b], .agg [.int .i64 c, .int .i64 d]] h Q = (
  brS (decide (o < (4 : Int))) (Q (IV.agg [IV.int IntKind.i64 (-9223372036854775808 : Int), IV.int IntKind.i64 (9223372036854775807 : Int)]) h)
    (brS (decide (o > (19 : Int))) (Q (IV.agg [IV.int IntKind.i64 (-9223372036854775808 : Int), IV.int IntKind.i64 (9223372036854775807 : Int)]) h)
      (brS (!decide (a ≤ b)) (Q (IV.agg [IV.int IntKind.i64 (-9223372036854775808 : Int), IV.int IntKind.i64 (9223372036854775807 : Int)]) h)
        (brS (!decide (c ≤ d)) (Q (IV.agg [IV.int IntKind.i64 (-9223372036854775808 : Int), IV.int IntKind.i64 (9223372036854775807 : Int)]) h)
          (brS (a == b)
            (brS (c == d) (Q (IV.agg [IV.int IntKind.i64 (wbin o a c), IV.int IntKind.i64 (wbin o a c)]) h)
              (brS (o == (4 : Int)) (((inR a ∧ inR c) ∧ inR b ∧ inR d) ∧ Q (IV.agg [IV.int IntKind.i64 (Prod.fst (bnd (a + c) (b + d))), IV.int IntKind.i64 (Prod.snd (bnd (a + c) (b + d)))]) h)
                (brS (o == (5 : Int)) (((inR a ∧ inR d) ∧ inR b ∧ inR c) ∧ Q (IV.agg [IV.int IntKind.i64 (Prod.fst (bnd (a - d) (b - c))), IV.int IntKind.i64 (Prod.snd (bnd (a - d) (b - c)))]) h)
                  (brS (o == (6 : Int)) (((inR a ∧ inR b) ∧ inR c ∧ inR d) ∧ Q (IV.agg [IV.int IntKind.i64 (Prod.fst (imul a b c d)), IV.int IntKind.i64 (Prod.snd (imul a b c d))]) h)
                    (brS (o == (7 : Int))
                      (brS (decide (c < (1 : Int))) (Q (IV.agg [IV.int IntKind.i64 (-9223372036854775808 : Int), IV.int IntKind.i64 (9223372036854775807 : Int)]) h)
                        ((((inR a ∧ inR b) ∧ inR c ∧ inR d) ∧ (1 : Int) ≤ c ∧ c ≤ d) ∧ Q (IV.agg [IV.int IntKind.i64 (Prod.fst (idiv a b c d)), IV.int IntKind.i64 (Prod.snd (idiv a b c d))]) h))
                      (brS (o == (8 : Int)) ((((inR a ∧ inR b) ∧ inR c ∧ inR d) ∧ c ≤ d) ∧ Q (IV.agg [IV.int IntKind.i64 (Prod.fst (irem a b c d)), IV.int IntKind.i64 (Prod.snd (irem a b c d))]) h)
                        (brS (o == (9 : Int))
                          (((o = (9 : Int) ∨ o = (10 : Int) ∨ o = (11 : Int)) ∧ ((inR a ∧ inR b) ∧ inR c ∧ inR d) ∧ a ≤ b ∧ c ≤ d) ∧
                            Q (IV.agg [IV.int IntKind.i64 (Prod.fst (ibit' o a b c d)), IV.int IntKind.i64 (Prod.snd (ibit' o a b c d))]) h)
                          (brS (o == (10 : Int))
                            (((o = (9 : Int) ∨ o = (10 : Int) ∨ o = (11 : Int)) ∧ ((inR a ∧ inR b) ∧ inR c ∧ inR d) ∧ a ≤ b ∧ c ≤ d) ∧
                              Q (IV.agg [IV.int IntKind.i64 (Prod.fst (ibit' o a b c d)), IV.int IntKind.i64 (Prod.snd (ibit' o a b c d))]) h)
                            (brS (o == (11 : Int))
                              (((o = (9 : Int) ∨ o = (10 : Int) ∨ o = (11 : Int)) ∧ ((inR a ∧ inR b) ∧ inR c ∧ inR d) ∧ a ≤ b ∧ c ≤ d) ∧
                                Q (IV.agg [IV.int IntKind.i64 (Prod.fst (ibit' o a b c d)), IV.int IntKind.i64 (Prod.snd (ibit' o a b c d))]) h)
                              (brS (o == (12 : Int)) (Q (IV.agg [IV.int IntKind.i64 (Prod.fst (ishf o a b c d)), IV.int IntKind.i64 (Prod.snd (ishf o a b c d))]) h)
                                (brS (o == (13 : Int)) (Q (IV.agg [IV.int IntKind.i64 (Prod.fst (ishf o a b c d)), IV.int IntKind.i64 (Prod.snd (ishf o a b c d))]) h)
                                  (brS (o == (14 : Int)) (Q (IV.agg [IV.int IntKind.i64 (Prod.fst (ishf o a b c d)), IV.int IntKind.i64 (Prod.snd (ishf o a b c d))]) h)
                                    ((a ≤ b ∧ c ≤ d) ∧ Q (IV.agg [IV.int IntKind.i64 (Prod.fst (icmp o a b c d)), IV.int IntKind.i64 (Prod.snd (icmp o a b c d))]) h)))))))))))))
            (brS (o == (4 : Int)) (((inR a ∧ inR c) ∧ inR b ∧ inR d) ∧ Q (IV.agg [IV.int IntKind.i64 (Prod.fst (bnd (a + c) (b + d))), IV.int IntKind.i64 (Prod.snd (bnd (a + c) (b + d)))]) h)
              (brS (o == (5 : Int)) (((inR a ∧ inR d) ∧ inR b ∧ inR c) ∧ Q (IV.agg [IV.int IntKind.i64 (Prod.fst (bnd (a - d) (b - c))), IV.int IntKind.i64 (Prod.snd (bnd (a - d) (b - c)))]) h)
                (brS (o == (6 : Int)) (((inR a ∧ inR b) ∧ inR c ∧ inR d) ∧ Q (IV.agg [IV.int IntKind.i64 (Prod.fst (imul a b c d)), IV.int IntKind.i64 (Prod.snd (imul a b c d))]) h)
                  (brS (o == (7 : Int))
                    (brS (decide (c < (1 : Int))) (Q (IV.agg [IV.int IntKind.i64 (-9223372036854775808 : Int), IV.int IntKind.i64 (9223372036854775807 : Int)]) h)
                      ((((inR a ∧ inR b) ∧ inR c ∧ inR d) ∧ (1 : Int) ≤ c ∧ c ≤ d) ∧ Q (IV.agg [IV.int IntKind.i64 (Prod.fst (idiv a b c d)), IV.int IntKind.i64 (Prod.snd (idiv a b c d))]) h))
                    (brS (o == (8 : Int)) ((((inR a ∧ inR b) ∧ inR c ∧ inR d) ∧ c ≤ d) ∧ Q (IV.agg [IV.int IntKind.i64 (Prod.fst (irem a b c d)), IV.int IntKind.i64 (Prod.snd (irem a b c d))]) h)
                      (brS (o == (9 : Int))
                        (((o = (9 : Int) ∨ o = (10 : Int) ∨ o = (11 : Int)) ∧ ((inR a ∧ inR b) ∧ inR c ∧ inR d) ∧ a ≤ b ∧ c ≤ d) ∧
                          Q (IV.agg [IV.int IntKind.i64 (Prod.fst (ibit' o a b c d)), IV.int IntKind.i64 (Prod.snd (ibit' o a b c d))]) h)
                        (brS (o == (10 : Int))
                          (((o = (9 : Int) ∨ o = (10 : Int) ∨ o = (11 : Int)) ∧ ((inR a ∧ inR b) ∧ inR c ∧ inR d) ∧ a ≤ b ∧ c ≤ d) ∧
                            Q (IV.agg [IV.int IntKind.i64 (Prod.fst (ibit' o a b c d)), IV.int IntKind.i64 (Prod.snd (ibit' o a b c d))]) h)
                          (brS (o == (11 : Int))
                            (((o = (9 : Int) ∨ o = (10 : Int) ∨ o = (11 : Int)) ∧ ((inR a ∧ inR b) ∧ inR c ∧ inR d) ∧ a ≤ b ∧ c ≤ d) ∧
                              Q (IV.agg [IV.int IntKind.i64 (Prod.fst (ibit' o a b c d)), IV.int IntKind.i64 (Prod.snd (ibit' o a b c d))]) h)
                            (brS (o == (12 : Int)) (Q (IV.agg [IV.int IntKind.i64 (Prod.fst (ishf o a b c d)), IV.int IntKind.i64 (Prod.snd (ishf o a b c d))]) h)
                              (brS (o == (13 : Int)) (Q (IV.agg [IV.int IntKind.i64 (Prod.fst (ishf o a b c d)), IV.int IntKind.i64 (Prod.snd (ishf o a b c d))]) h)
                                (brS (o == (14 : Int)) (Q (IV.agg [IV.int IntKind.i64 (Prod.fst (ishf o a b c d)), IV.int IntKind.i64 (Prod.snd (ishf o a b c d))]) h)
                                  ((a ≤ b ∧ c ≤ d) ∧ Q (IV.agg [IV.int IntKind.i64 (Prod.fst (icmp o a b c d)), IV.int IntKind.i64 (Prod.snd (icmp o a b c d))]) h))))))))))))))))) := by kernel_rfl
set_option maxHeartbeats 4000000 in
theorem sBin : ∀ xs h Q, kBin xs h Q → CallW env 9 xs h Q := by
  intro xs h Q hk
  unfold kBin at hk
  split at hk
  · rename_i o a b c d
    refine dF_sound (okBase2) (mp_eq (vBin o a b c d h Q) ?_)
    obtain ⟨⟨⟨ha, hb⟩, hc, hd⟩, hk⟩ := hk
    repeat' (first | refine needS_intro ?_ ?_ | refine brS_intro (fun _ => ?_) (fun _ => ?_) | refine And.intro ?_ ?_)
    all_goals simp only [decide_eq_true_eq, decide_eq_false_iff_not, beq_iff_eq, beq_eq_false_iff_ne, ne_eq, Bool.not_eq_true', Bool.not_eq_false'] at *
    all_goals first | assumption | (unfold inR at *; omega) | (refine ⟨?_, ?_⟩ <;> assumption) | (refine q_eq hk ?_; simp only [IV.agg.injEq, IV.tuple.injEq, IV.int.injEq, IV.bool.injEq, List.cons.injEq, true_and, and_true]; grind [ibin, idiv, imul, inRb_wrap, irem_full])
  · exact hk.elim
def cBin := addC 9 kBin cBase2
theorem okBin : Sound env cBin := sound_add sBin (okBase2)

def kRBinI (xs : List IV) (h : Heap) (K : IV → Heap → Prop) : Prop := match xs with
  | [.int .i64 o, .agg [.int .i64 a, .int .i64 b], .agg [.int .i64 c, .int .i64 d]] => ((inR a ∧ inR b) ∧ (inR c ∧ inR d)) ∧ K (.agg [.int .i64 (ibin o a b c d).1, .int .i64 (ibin o a b c d).2]) h
  | _ => False
set_option maxRecDepth 100000 in
theorem vRBinI (o a b c d : Int) (h : Heap) (Q : IV → Heap → Prop) : dF (stdS cBin) env 24 noU noI noI [.int .i64 o, .agg [.int .i64 a, .int .i64 b], .agg [.int .i64 c, .int .i64 d]] h Q = (
  brS (!decide (a ≤ b)) (Q (IV.agg [IV.int IntKind.i64 (-9223372036854775808 : Int), IV.int IntKind.i64 (9223372036854775807 : Int)]) h)
    (brS (!decide (c ≤ d)) (Q (IV.agg [IV.int IntKind.i64 (-9223372036854775808 : Int), IV.int IntKind.i64 (9223372036854775807 : Int)]) h)
      (brS (decide (o < (4 : Int))) (Q (IV.agg [IV.int IntKind.i64 (-9223372036854775808 : Int), IV.int IntKind.i64 (9223372036854775807 : Int)]) h)
        (brS (decide (o > (19 : Int))) (Q (IV.agg [IV.int IntKind.i64 (-9223372036854775808 : Int), IV.int IntKind.i64 (9223372036854775807 : Int)]) h)
          (brS (a == b)
            (brS (c == d) (Q (IV.agg [IV.int IntKind.i64 (wbin o a c), IV.int IntKind.i64 (wbin o a c)]) h)
              (brS (o == (4 : Int))
                ((inR a ∧ inR c) ∧
                  (inR b ∧ inR d) ∧
                    Q
                      (IV.agg
                        [IV.int IntKind.i64 (Prod.fst (if (inRb (a + c) && inRb (b + d)) = true then (IntKind.wrap IntKind.i64 (a + c), IntKind.wrap IntKind.i64 (b + d)) else (minW, maxW))),
                          IV.int IntKind.i64 (Prod.snd (if (inRb (a + c) && inRb (b + d)) = true then (IntKind.wrap IntKind.i64 (a + c), IntKind.wrap IntKind.i64 (b + d)) else (minW, maxW)))])
                      h)
                (brS (o == (5 : Int))
                  ((inR a ∧ inR d) ∧
                    (inR b ∧ inR c) ∧
                      Q
                        (IV.agg
                          [IV.int IntKind.i64 (Prod.fst (if (inRb (a - d) && inRb (b - c)) = true then (IntKind.wrap IntKind.i64 (a - d), IntKind.wrap IntKind.i64 (b - c)) else (minW, maxW))),
                            IV.int IntKind.i64 (Prod.snd (if (inRb (a - d) && inRb (b - c)) = true then (IntKind.wrap IntKind.i64 (a - d), IntKind.wrap IntKind.i64 (b - c)) else (minW, maxW)))])
                        h)
                  (brS (o == (6 : Int))
                    ((inR a ∧ inR c) ∧
                      (inR a ∧ inR d) ∧
                        (inR b ∧ inR c) ∧
                          (inR b ∧ inR d) ∧
                            brS (inRb (a * c))
                              (brS (inRb (a * d))
                                (brS (inRb (b * c))
                                  (Q
                                    (IV.agg
                                      [IV.int IntKind.i64
                                          (Prod.fst
                                            (if inRb (b * d) = true then
                                              (min4 (IntKind.wrap IntKind.i64 (a * c)) (IntKind.wrap IntKind.i64 (a * d)) (IntKind.wrap IntKind.i64 (b * c)) (IntKind.wrap IntKind.i64 (b * d)),
                                                max4 (IntKind.wrap IntKind.i64 (a * c)) (IntKind.wrap IntKind.i64 (a * d)) (IntKind.wrap IntKind.i64 (b * c)) (IntKind.wrap IntKind.i64 (b * d)))
                                            else (minW, maxW))),
                                        IV.int IntKind.i64
                                          (Prod.snd
                                            (if inRb (b * d) = true then
                                              (min4 (IntKind.wrap IntKind.i64 (a * c)) (IntKind.wrap IntKind.i64 (a * d)) (IntKind.wrap IntKind.i64 (b * c)) (IntKind.wrap IntKind.i64 (b * d)),
                                                max4 (IntKind.wrap IntKind.i64 (a * c)) (IntKind.wrap IntKind.i64 (a * d)) (IntKind.wrap IntKind.i64 (b * c)) (IntKind.wrap IntKind.i64 (b * d)))
                                            else (minW, maxW)))])
                                    h)
                                  (Q (IV.agg [IV.int IntKind.i64 minW, IV.int IntKind.i64 maxW]) h))
                                (Q (IV.agg [IV.int IntKind.i64 minW, IV.int IntKind.i64 maxW]) h))
                              (Q (IV.agg [IV.int IntKind.i64 minW, IV.int IntKind.i64 maxW]) h))
                    (brS (o == (7 : Int))
                      (brS (decide (c < (1 : Int))) (Q (IV.agg [IV.int IntKind.i64 (-9223372036854775808 : Int), IV.int IntKind.i64 (9223372036854775807 : Int)]) h)
                        (needS (!c == (0 : Int))
                          (needS (!d == (0 : Int))
                            (needS (!c == (0 : Int))
                              (needS (!d == (0 : Int))
                                (Q
                                  (IV.agg
                                    [IV.int IntKind.i64 (min4 (IntKind.wrap IntKind.i64 (Int.tdiv a c)) (IntKind.wrap IntKind.i64 (Int.tdiv a d)) (IntKind.wrap IntKind.i64 (Int.tdiv b c)) (IntKind.wrap IntKind.i64 (Int.tdiv b d))),
                                      IV.int IntKind.i64 (max4 (IntKind.wrap IntKind.i64 (Int.tdiv a c)) (IntKind.wrap IntKind.i64 (Int.tdiv a d)) (IntKind.wrap IntKind.i64 (Int.tdiv b c)) (IntKind.wrap IntKind.i64 (Int.tdiv b d)))])
                                  h))))))
                      (brS (o == (8 : Int))
                        (brS (decide (c < (1 : Int))) (Q (IV.agg [IV.int IntKind.i64 (-9223372036854775808 : Int), IV.int IntKind.i64 (9223372036854775807 : Int)]) h)
                          ((((inR a ∧ inR b) ∧ inR c ∧ inR d) ∧ (1 : Int) ≤ c ∧ c ≤ d ∧ a ≤ b) ∧ Q (IV.agg [IV.int IntKind.i64 (Prod.fst (irem a b c d)), IV.int IntKind.i64 (Prod.snd (irem a b c d))]) h))
                        (brS (o == (9 : Int))
                          (((o = (9 : Int) ∨ o = (10 : Int) ∨ o = (11 : Int)) ∧ ((inR a ∧ inR b) ∧ inR c ∧ inR d) ∧ a ≤ b ∧ c ≤ d) ∧
                            Q (IV.agg [IV.int IntKind.i64 (Prod.fst (ibit' o a b c d)), IV.int IntKind.i64 (Prod.snd (ibit' o a b c d))]) h)
                          (brS (o == (10 : Int))
                            (((o = (9 : Int) ∨ o = (10 : Int) ∨ o = (11 : Int)) ∧ ((inR a ∧ inR b) ∧ inR c ∧ inR d) ∧ a ≤ b ∧ c ≤ d) ∧
                              Q (IV.agg [IV.int IntKind.i64 (Prod.fst (ibit' o a b c d)), IV.int IntKind.i64 (Prod.snd (ibit' o a b c d))]) h)
                            (brS (o == (11 : Int))
                              (((o = (9 : Int) ∨ o = (10 : Int) ∨ o = (11 : Int)) ∧ ((inR a ∧ inR b) ∧ inR c ∧ inR d) ∧ a ≤ b ∧ c ≤ d) ∧
                                Q (IV.agg [IV.int IntKind.i64 (Prod.fst (ibit' o a b c d)), IV.int IntKind.i64 (Prod.snd (ibit' o a b c d))]) h)
                              (brS (o == (12 : Int)) (Q (IV.agg [IV.int IntKind.i64 (Prod.fst (ishf o a b c d)), IV.int IntKind.i64 (Prod.snd (ishf o a b c d))]) h)
                                (brS (o == (13 : Int)) (Q (IV.agg [IV.int IntKind.i64 (Prod.fst (ishf o a b c d)), IV.int IntKind.i64 (Prod.snd (ishf o a b c d))]) h)
                                  (brS (o == (14 : Int)) (Q (IV.agg [IV.int IntKind.i64 (Prod.fst (ishf o a b c d)), IV.int IntKind.i64 (Prod.snd (ishf o a b c d))]) h)
                                    ((a ≤ b ∧ c ≤ d) ∧ Q (IV.agg [IV.int IntKind.i64 (Prod.fst (icmp o a b c d)), IV.int IntKind.i64 (Prod.snd (icmp o a b c d))]) h)))))))))))))
            (brS (o == (4 : Int))
              ((inR a ∧ inR c) ∧
                (inR b ∧ inR d) ∧
                  Q
                    (IV.agg
                      [IV.int IntKind.i64 (Prod.fst (if (inRb (a + c) && inRb (b + d)) = true then (IntKind.wrap IntKind.i64 (a + c), IntKind.wrap IntKind.i64 (b + d)) else (minW, maxW))),
                        IV.int IntKind.i64 (Prod.snd (if (inRb (a + c) && inRb (b + d)) = true then (IntKind.wrap IntKind.i64 (a + c), IntKind.wrap IntKind.i64 (b + d)) else (minW, maxW)))])
                    h)
              (brS (o == (5 : Int))
                ((inR a ∧ inR d) ∧
                  (inR b ∧ inR c) ∧
                    Q
                      (IV.agg
                        [IV.int IntKind.i64 (Prod.fst (if (inRb (a - d) && inRb (b - c)) = true then (IntKind.wrap IntKind.i64 (a - d), IntKind.wrap IntKind.i64 (b - c)) else (minW, maxW))),
                          IV.int IntKind.i64 (Prod.snd (if (inRb (a - d) && inRb (b - c)) = true then (IntKind.wrap IntKind.i64 (a - d), IntKind.wrap IntKind.i64 (b - c)) else (minW, maxW)))])
                      h)
                (brS (o == (6 : Int))
                  ((inR a ∧ inR c) ∧
                    (inR a ∧ inR d) ∧
                      (inR b ∧ inR c) ∧
                        (inR b ∧ inR d) ∧
                          brS (inRb (a * c))
                            (brS (inRb (a * d))
                              (brS (inRb (b * c))
                                (Q
                                  (IV.agg
                                    [IV.int IntKind.i64
                                        (Prod.fst
                                          (if inRb (b * d) = true then
                                            (min4 (IntKind.wrap IntKind.i64 (a * c)) (IntKind.wrap IntKind.i64 (a * d)) (IntKind.wrap IntKind.i64 (b * c)) (IntKind.wrap IntKind.i64 (b * d)),
                                              max4 (IntKind.wrap IntKind.i64 (a * c)) (IntKind.wrap IntKind.i64 (a * d)) (IntKind.wrap IntKind.i64 (b * c)) (IntKind.wrap IntKind.i64 (b * d)))
                                          else (minW, maxW))),
                                      IV.int IntKind.i64
                                        (Prod.snd
                                          (if inRb (b * d) = true then
                                            (min4 (IntKind.wrap IntKind.i64 (a * c)) (IntKind.wrap IntKind.i64 (a * d)) (IntKind.wrap IntKind.i64 (b * c)) (IntKind.wrap IntKind.i64 (b * d)),
                                              max4 (IntKind.wrap IntKind.i64 (a * c)) (IntKind.wrap IntKind.i64 (a * d)) (IntKind.wrap IntKind.i64 (b * c)) (IntKind.wrap IntKind.i64 (b * d)))
                                          else (minW, maxW)))])
                                  h)
                                (Q (IV.agg [IV.int IntKind.i64 minW, IV.int IntKind.i64 maxW]) h))
                              (Q (IV.agg [IV.int IntKind.i64 minW, IV.int IntKind.i64 maxW]) h))
                            (Q (IV.agg [IV.int IntKind.i64 minW, IV.int IntKind.i64 maxW]) h))
                  (brS (o == (7 : Int))
                    (brS (decide (c < (1 : Int))) (Q (IV.agg [IV.int IntKind.i64 (-9223372036854775808 : Int), IV.int IntKind.i64 (9223372036854775807 : Int)]) h)
                      (needS (!c == (0 : Int))
                        (needS (!d == (0 : Int))
                          (needS (!c == (0 : Int))
                            (needS (!d == (0 : Int))
                              (Q
                                (IV.agg
                                  [IV.int IntKind.i64 (min4 (IntKind.wrap IntKind.i64 (Int.tdiv a c)) (IntKind.wrap IntKind.i64 (Int.tdiv a d)) (IntKind.wrap IntKind.i64 (Int.tdiv b c)) (IntKind.wrap IntKind.i64 (Int.tdiv b d))),
                                    IV.int IntKind.i64 (max4 (IntKind.wrap IntKind.i64 (Int.tdiv a c)) (IntKind.wrap IntKind.i64 (Int.tdiv a d)) (IntKind.wrap IntKind.i64 (Int.tdiv b c)) (IntKind.wrap IntKind.i64 (Int.tdiv b d)))])
                                h))))))
                    (brS (o == (8 : Int))
                      (brS (decide (c < (1 : Int))) (Q (IV.agg [IV.int IntKind.i64 (-9223372036854775808 : Int), IV.int IntKind.i64 (9223372036854775807 : Int)]) h)
                        ((((inR a ∧ inR b) ∧ inR c ∧ inR d) ∧ (1 : Int) ≤ c ∧ c ≤ d ∧ a ≤ b) ∧ Q (IV.agg [IV.int IntKind.i64 (Prod.fst (irem a b c d)), IV.int IntKind.i64 (Prod.snd (irem a b c d))]) h))
                      (brS (o == (9 : Int))
                        (((o = (9 : Int) ∨ o = (10 : Int) ∨ o = (11 : Int)) ∧ ((inR a ∧ inR b) ∧ inR c ∧ inR d) ∧ a ≤ b ∧ c ≤ d) ∧
                          Q (IV.agg [IV.int IntKind.i64 (Prod.fst (ibit' o a b c d)), IV.int IntKind.i64 (Prod.snd (ibit' o a b c d))]) h)
                        (brS (o == (10 : Int))
                          (((o = (9 : Int) ∨ o = (10 : Int) ∨ o = (11 : Int)) ∧ ((inR a ∧ inR b) ∧ inR c ∧ inR d) ∧ a ≤ b ∧ c ≤ d) ∧
                            Q (IV.agg [IV.int IntKind.i64 (Prod.fst (ibit' o a b c d)), IV.int IntKind.i64 (Prod.snd (ibit' o a b c d))]) h)
                          (brS (o == (11 : Int))
                            (((o = (9 : Int) ∨ o = (10 : Int) ∨ o = (11 : Int)) ∧ ((inR a ∧ inR b) ∧ inR c ∧ inR d) ∧ a ≤ b ∧ c ≤ d) ∧
                              Q (IV.agg [IV.int IntKind.i64 (Prod.fst (ibit' o a b c d)), IV.int IntKind.i64 (Prod.snd (ibit' o a b c d))]) h)
                            (brS (o == (12 : Int)) (Q (IV.agg [IV.int IntKind.i64 (Prod.fst (ishf o a b c d)), IV.int IntKind.i64 (Prod.snd (ishf o a b c d))]) h)
                              (brS (o == (13 : Int)) (Q (IV.agg [IV.int IntKind.i64 (Prod.fst (ishf o a b c d)), IV.int IntKind.i64 (Prod.snd (ishf o a b c d))]) h)
                                (brS (o == (14 : Int)) (Q (IV.agg [IV.int IntKind.i64 (Prod.fst (ishf o a b c d)), IV.int IntKind.i64 (Prod.snd (ishf o a b c d))]) h)
                                  ((a ≤ b ∧ c ≤ d) ∧ Q (IV.agg [IV.int IntKind.i64 (Prod.fst (icmp o a b c d)), IV.int IntKind.i64 (Prod.snd (icmp o a b c d))]) h))))))))))))))))) := by kernel_rfl
set_option maxHeartbeats 4000000 in
theorem sRBinI : ∀ xs h Q, kRBinI xs h Q → CallW env 24 xs h Q := by
  intro xs h Q hk
  unfold kRBinI at hk
  split at hk
  · rename_i o a b c d
    refine dF_sound (okBin) (mp_eq (vRBinI o a b c d h Q) ?_)
    obtain ⟨⟨⟨ha, hb⟩, hc, hd⟩, hk⟩ := hk
    have d1 : 1 ≤ c → IntKind.i64.wrap (a.tdiv c) = a.tdiv c := fun h => tdiv_in ha (by omega) (by omega)
    have d2 : 1 ≤ c → IntKind.i64.wrap (b.tdiv c) = b.tdiv c := fun h => tdiv_in hb (by omega) (by omega)
    have d3 : 1 ≤ d → IntKind.i64.wrap (a.tdiv d) = a.tdiv d := fun h => tdiv_in ha (by omega) (by omega)
    have d4 : 1 ≤ d → IntKind.i64.wrap (b.tdiv d) = b.tdiv d := fun h => tdiv_in hb (by omega) (by omega)
    simp only [bnd_wrap]
    repeat' (first | refine needS_intro ?_ ?_ | refine brS_intro (fun _ => ?_) (fun _ => ?_) | refine And.intro ?_ ?_)
    all_goals simp only [decide_eq_true_eq, decide_eq_false_iff_not, beq_iff_eq, beq_eq_false_iff_ne, ne_eq, Bool.not_eq_true', Bool.not_eq_false'] at *
    all_goals first | assumption | (unfold inR at *; omega) | (refine ⟨?_, ?_⟩ <;> assumption) | (refine q_eq hk ?_; simp only [IV.agg.injEq, IV.tuple.injEq, IV.int.injEq, IV.bool.injEq, List.cons.injEq, true_and, and_true]; grind [ibin, idiv, imul, inRb_wrap, irem_full])
  · exact hk.elim
def cRBinI := addC 24 kRBinI cBin
theorem okRBinI : Sound env cRBinI := sound_add sRBinI (okBin)

def kIn (xs : List IV) (h : Heap) (K : IV → Heap → Prop) : Prop := match xs with
  | [.agg [.int .i64 a, .int .i64 b], .int .i64 n, .int .i64 r] => inR n ∧ K (.int .i64 (inI a b n r)) h
  | _ => False
set_option maxRecDepth 100000 in
theorem vIn (a b n r : Int) (h : Heap) (Q : IV → Heap → Prop) : dF (stdS cRBinI) env 20 noU noI noI [.agg [.int .i64 a, .int .i64 b], .int .i64 n, .int .i64 r] h Q = (
  ((0 : Int) < (4 : Int) ∧ (4 : Int) < (4611686018427387904 : Int)) ∧
    brS (n % (4 : Int) == (0 : Int)) (Q (IV.int IntKind.i64 a) h)
      (brS (n % (4 : Int) == (1 : Int)) (Q (IV.int IntKind.i64 b) h)
        (brS (n % (4 : Int) == (2 : Int))
          (Q
            (IV.int IntKind.i64
              (if b < if a > word (IntKind.wrap IntKind.i64 (Int.tdiv n (4 : Int))) r then a else word (IntKind.wrap IntKind.i64 (Int.tdiv n (4 : Int))) r then b
              else if a > word (IntKind.wrap IntKind.i64 (Int.tdiv n (4 : Int))) r then a else word (IntKind.wrap IntKind.i64 (Int.tdiv n (4 : Int))) r))
            h)
          (Q (IV.int IntKind.i64 (if b < if a > r then a else r then b else if a > r then a else r)) h)))) := by kernel_rfl
theorem sIn : ∀ xs h Q, kIn xs h Q → CallW env 20 xs h Q := by
  intro xs h Q hk
  unfold kIn at hk
  split at hk
  · rename_i a b n r
    refine dF_sound (okRBinI) (mp_eq (vIn a b n r h Q) ?_)
    obtain ⟨hn, hk⟩ := hk
    unfold inR at hn
    have hw : IntKind.i64.wrap (n.tdiv 4) = n.tdiv 4 := tdiv_in hn (by omega) (by omega)
    simp only [hw]
    have m1 : ∀ x y : Int, (if y < x then y else x) = min x y := fun x y => by omega
    have m2 : ∀ x y : Int, (if y > x then y else x) = max x y := fun x y => by omega
    simp only [m1, m2]
    repeat' (first | refine needS_intro ?_ ?_ | refine brS_intro (fun _ => ?_) (fun _ => ?_) | refine And.intro ?_ ?_)
    all_goals first | omega | (refine q_eq hk ?_; simp only [beq_iff_eq, beq_eq_false_iff_ne, ne_eq] at *; unfold inI; (repeat (first | rw [if_pos (by assumption)] | rw [if_neg (by assumption)])))
  · exact hk.elim
def cIn := addC 20 kIn cRBinI
theorem okIn : Sound env cIn := sound_add sIn (okRBinI)

def kExE (xs : List IV) (h : Heap) (K : IV → Heap → Prop) : Prop := match xs with
  | [] => K (.bool true) h
  | _ => False
theorem sExE : ∀ xs h Q, kExE xs h Q → CallW env 3 xs h Q := by
  intro xs h Q hk
  unfold kExE at hk
  split at hk
  · exact ⟨200, .bool true, h, by kernel_rfl, hk⟩
  · exact hk.elim
def cExE := addC 3 kExE cIn
theorem okExE : Sound env cExE := sound_add sExE (okIn)

def kSoundL (xs : List IV) (h : Heap) (K : IV → Heap → Prop) : Prop := match xs with
  | [.int .i64 op, .int .i64 a, .int .i64 b, .int .i64 c, .int .i64 d, .int .i64 p, .int .i64 q, .int .i64 m, .int .i64 n, .int .i64 u, .int .i64 v] => (((inR p ∧ inR q) ∧ (inR u ∧ inR v)) ∧ (inR m ∧ inR n)) ∧ K (.bool true) h
  | _ => False
set_option maxRecDepth 100000 in
theorem vSoundL (op a b c d p q m n u v : Int) (h : Heap) (Q : IV → Heap → Prop) : dF (stdS cExE) env 6 noU noI noI [.int .i64 op, .int .i64 a, .int .i64 b, .int .i64 c, .int .i64 d, .int .i64 p, .int .i64 q, .int .i64 m, .int .i64 n, .int .i64 u, .int .i64 v] h Q = (
  brS (decide (Prod.fst (ival a b p q) > Prod.snd (ival a b p q))) (Q (IV.bool true) h)
    (brS (decide (Prod.fst (ival c d q p) > Prod.snd (ival c d q p))) (Q (IV.bool true) h)
      (((0 : Int) < (18 : Int) ∧ (18 : Int) < (4611686018427387904 : Int)) ∧
        inR m ∧
          inR n ∧
            ((inR (Prod.fst (ival a b p q)) ∧ inR (Prod.snd (ival a b p q))) ∧ inR (Prod.fst (ival c d q p)) ∧ inR (Prod.snd (ival c d q p))) ∧
              brS (IntKind.wrap IntKind.i64 ((4 : Int) + op % (18 : Int)) == (20 : Int))
                (brS (inI (Prod.fst (ival a b p q)) (Prod.snd (ival a b p q)) m u == (0 : Int))
                  (brS
                    (contains (Prod.fst (iun (IntKind.wrap IntKind.i64 ((4 : Int) + op % (18 : Int))) (Prod.fst (ival a b p q)) (Prod.snd (ival a b p q))))
                      (Prod.snd (iun (IntKind.wrap IntKind.i64 ((4 : Int) + op % (18 : Int))) (Prod.fst (ival a b p q)) (Prod.snd (ival a b p q))))
                      (wun (IntKind.wrap IntKind.i64 ((4 : Int) + op % (18 : Int))) (inI (Prod.fst (ival a b p q)) (Prod.snd (ival a b p q)) m u)))
                    (brS
                      (contains (Prod.fst (isel (Prod.fst (ival a b p q)) (Prod.snd (ival a b p q)) (Prod.fst (ival c d q p)) (Prod.snd (ival c d q p)) (Prod.fst (ival a b p q)) (Prod.snd (ival a b p q))))
                        (Prod.snd (isel (Prod.fst (ival a b p q)) (Prod.snd (ival a b p q)) (Prod.fst (ival c d q p)) (Prod.snd (ival c d q p)) (Prod.fst (ival a b p q)) (Prod.snd (ival a b p q))))
                        (inI (Prod.fst (ival a b p q)) (Prod.snd (ival a b p q)) m u))
                      (Q (IV.bool true) h) (Q (IV.bool false) h))
                    (Q (IV.bool false) h))
                  (brS
                    (contains (Prod.fst (iun (IntKind.wrap IntKind.i64 ((4 : Int) + op % (18 : Int))) (Prod.fst (ival a b p q)) (Prod.snd (ival a b p q))))
                      (Prod.snd (iun (IntKind.wrap IntKind.i64 ((4 : Int) + op % (18 : Int))) (Prod.fst (ival a b p q)) (Prod.snd (ival a b p q))))
                      (wun (IntKind.wrap IntKind.i64 ((4 : Int) + op % (18 : Int))) (inI (Prod.fst (ival a b p q)) (Prod.snd (ival a b p q)) m u)))
                    (brS
                      (contains (Prod.fst (isel (Prod.fst (ival a b p q)) (Prod.snd (ival a b p q)) (Prod.fst (ival c d q p)) (Prod.snd (ival c d q p)) (Prod.fst (ival a b p q)) (Prod.snd (ival a b p q))))
                        (Prod.snd (isel (Prod.fst (ival a b p q)) (Prod.snd (ival a b p q)) (Prod.fst (ival c d q p)) (Prod.snd (ival c d q p)) (Prod.fst (ival a b p q)) (Prod.snd (ival a b p q))))
                        (inI (Prod.fst (ival c d q p)) (Prod.snd (ival c d q p)) n v))
                      (Q (IV.bool true) h) (Q (IV.bool false) h))
                    (Q (IV.bool false) h)))
                (brS (IntKind.wrap IntKind.i64 ((4 : Int) + op % (18 : Int)) == (21 : Int))
                  (brS (inI (Prod.fst (ival a b p q)) (Prod.snd (ival a b p q)) m u == (0 : Int))
                    (brS
                      (contains (Prod.fst (iun (IntKind.wrap IntKind.i64 ((4 : Int) + op % (18 : Int))) (Prod.fst (ival a b p q)) (Prod.snd (ival a b p q))))
                        (Prod.snd (iun (IntKind.wrap IntKind.i64 ((4 : Int) + op % (18 : Int))) (Prod.fst (ival a b p q)) (Prod.snd (ival a b p q))))
                        (wun (IntKind.wrap IntKind.i64 ((4 : Int) + op % (18 : Int))) (inI (Prod.fst (ival a b p q)) (Prod.snd (ival a b p q)) m u)))
                      (brS
                        (contains (Prod.fst (isel (Prod.fst (ival a b p q)) (Prod.snd (ival a b p q)) (Prod.fst (ival c d q p)) (Prod.snd (ival c d q p)) (Prod.fst (ival a b p q)) (Prod.snd (ival a b p q))))
                          (Prod.snd (isel (Prod.fst (ival a b p q)) (Prod.snd (ival a b p q)) (Prod.fst (ival c d q p)) (Prod.snd (ival c d q p)) (Prod.fst (ival a b p q)) (Prod.snd (ival a b p q))))
                          (inI (Prod.fst (ival a b p q)) (Prod.snd (ival a b p q)) m u))
                        (Q (IV.bool true) h) (Q (IV.bool false) h))
                      (Q (IV.bool false) h))
                    (brS
                      (contains (Prod.fst (iun (IntKind.wrap IntKind.i64 ((4 : Int) + op % (18 : Int))) (Prod.fst (ival a b p q)) (Prod.snd (ival a b p q))))
                        (Prod.snd (iun (IntKind.wrap IntKind.i64 ((4 : Int) + op % (18 : Int))) (Prod.fst (ival a b p q)) (Prod.snd (ival a b p q))))
                        (wun (IntKind.wrap IntKind.i64 ((4 : Int) + op % (18 : Int))) (inI (Prod.fst (ival a b p q)) (Prod.snd (ival a b p q)) m u)))
                      (brS
                        (contains (Prod.fst (isel (Prod.fst (ival a b p q)) (Prod.snd (ival a b p q)) (Prod.fst (ival c d q p)) (Prod.snd (ival c d q p)) (Prod.fst (ival a b p q)) (Prod.snd (ival a b p q))))
                          (Prod.snd (isel (Prod.fst (ival a b p q)) (Prod.snd (ival a b p q)) (Prod.fst (ival c d q p)) (Prod.snd (ival c d q p)) (Prod.fst (ival a b p q)) (Prod.snd (ival a b p q))))
                          (inI (Prod.fst (ival c d q p)) (Prod.snd (ival c d q p)) n v))
                        (Q (IV.bool true) h) (Q (IV.bool false) h))
                      (Q (IV.bool false) h)))
                  (brS (inI (Prod.fst (ival a b p q)) (Prod.snd (ival a b p q)) m u == (0 : Int))
                    (brS
                      (contains (Prod.fst (ibin (IntKind.wrap IntKind.i64 ((4 : Int) + op % (18 : Int))) (Prod.fst (ival a b p q)) (Prod.snd (ival a b p q)) (Prod.fst (ival c d q p)) (Prod.snd (ival c d q p))))
                        (Prod.snd (ibin (IntKind.wrap IntKind.i64 ((4 : Int) + op % (18 : Int))) (Prod.fst (ival a b p q)) (Prod.snd (ival a b p q)) (Prod.fst (ival c d q p)) (Prod.snd (ival c d q p))))
                        (wbin (IntKind.wrap IntKind.i64 ((4 : Int) + op % (18 : Int))) (inI (Prod.fst (ival a b p q)) (Prod.snd (ival a b p q)) m u) (inI (Prod.fst (ival c d q p)) (Prod.snd (ival c d q p)) n v)))
                      (brS
                        (contains (Prod.fst (isel (Prod.fst (ival a b p q)) (Prod.snd (ival a b p q)) (Prod.fst (ival c d q p)) (Prod.snd (ival c d q p)) (Prod.fst (ival a b p q)) (Prod.snd (ival a b p q))))
                          (Prod.snd (isel (Prod.fst (ival a b p q)) (Prod.snd (ival a b p q)) (Prod.fst (ival c d q p)) (Prod.snd (ival c d q p)) (Prod.fst (ival a b p q)) (Prod.snd (ival a b p q))))
                          (inI (Prod.fst (ival a b p q)) (Prod.snd (ival a b p q)) m u))
                        (Q (IV.bool true) h) (Q (IV.bool false) h))
                      (Q (IV.bool false) h))
                    (brS
                      (contains (Prod.fst (ibin (IntKind.wrap IntKind.i64 ((4 : Int) + op % (18 : Int))) (Prod.fst (ival a b p q)) (Prod.snd (ival a b p q)) (Prod.fst (ival c d q p)) (Prod.snd (ival c d q p))))
                        (Prod.snd (ibin (IntKind.wrap IntKind.i64 ((4 : Int) + op % (18 : Int))) (Prod.fst (ival a b p q)) (Prod.snd (ival a b p q)) (Prod.fst (ival c d q p)) (Prod.snd (ival c d q p))))
                        (wbin (IntKind.wrap IntKind.i64 ((4 : Int) + op % (18 : Int))) (inI (Prod.fst (ival a b p q)) (Prod.snd (ival a b p q)) m u) (inI (Prod.fst (ival c d q p)) (Prod.snd (ival c d q p)) n v)))
                      (brS
                        (contains (Prod.fst (isel (Prod.fst (ival a b p q)) (Prod.snd (ival a b p q)) (Prod.fst (ival c d q p)) (Prod.snd (ival c d q p)) (Prod.fst (ival a b p q)) (Prod.snd (ival a b p q))))
                          (Prod.snd (isel (Prod.fst (ival a b p q)) (Prod.snd (ival a b p q)) (Prod.fst (ival c d q p)) (Prod.snd (ival c d q p)) (Prod.fst (ival a b p q)) (Prod.snd (ival a b p q))))
                          (inI (Prod.fst (ival c d q p)) (Prod.snd (ival c d q p)) n v))
                        (Q (IV.bool true) h) (Q (IV.bool false) h))
                      (Q (IV.bool false) h))))))) := by kernel_rfl
set_option maxHeartbeats 4000000 in
theorem sSoundL : ∀ xs h Q, kSoundL xs h Q → CallW env 6 xs h Q := by
  intro xs h Q hk
  unfold kSoundL at hk
  split at hk
  · rename_i op a b c d p q m n u v
    refine dF_sound (okExE) (mp_eq (vSoundL op a b c d p q m n u v h Q) ?_)
    obtain ⟨⟨⟨⟨hp, hq⟩, hu, hv⟩, hm, hn⟩, hk⟩ := hk
    have ix := ival_inR (a := a) (b := b) hp hq
    have iy := ival_inR (a := c) (b := d) hq hp
    have ho : IntKind.i64.wrap (4 + op % 18) = 4 + op % 18 := IntWalk.i64_in _ (by omega)
    have ho1 : 4 ≤ 4 + op % 18 ∧ 4 + op % 18 ≤ 21 := by omega
    simp only [ho]
    generalize 4 + op % 18 = o at *
    generalize (ival a b p q).1 = x1, (ival a b p q).2 = x2, (ival c d q p).1 = y1, (ival c d q p).2 = y2 at *
    refine brS_intro (fun c1 => hk) (fun c1 => brS_intro (fun c2 => hk) (fun c2 => ⟨by omega, hm, hn, ⟨ix, iy⟩, ?_⟩))
    simp only [decide_eq_false_iff_not] at c1 c2
    have s1 := inI_in (a := x1) (b := x2) (n := m) (r := u) (by omega)
    have s2 := inI_in (a := y1) (b := y2) (n := n) (r := v) (by omega)
    generalize inI x1 x2 m u = s at *
    generalize inI y1 y2 n v = t at *
    have hb : o ≤ 19 → contains (ibin o x1 x2 y1 y2).1 (ibin o x1 x2 y1 y2).2 (wbin o s t) = true := fun h => mem_contains (bin_in ⟨ho1.1, h⟩ s1.1 s1.2 s2.1 s2.2 ix.1 ix.2 iy.1 iy.2)
    have hun : o = 20 ∨ o = 21 → contains (iun o x1 x2).1 (iun o x1 x2).2 (wun o s) = true := fun h => mem_contains (un_in h s1.1 s1.2 ix.1 ix.2)
    have hsel : contains (isel x1 x2 y1 y2 x1 x2).1 (isel x1 x2 y1 y2 x1 x2).2 (if s = 0 then s else t) = true := mem_contains (sel_in s1.1 s1.2 s2.1 s2.2)
    repeat' (first | refine needS_intro ?_ ?_ | refine brS_intro (fun _ => ?_) (fun _ => ?_) | refine And.intro ?_ ?_)
    all_goals simp only [beq_iff_eq, beq_eq_false_iff_ne, ne_eq] at *
    all_goals first | exact hk | (exfalso; simp_all; done) | (exfalso; rw [hb (by omega)] at *; simp_all; done) | (exfalso; rw [hun (by omega)] at *; simp_all; done)
  · exact hk.elim
def cSoundL := addC 6 kSoundL cExE
theorem okSoundL : Sound env cSoundL := sound_add sSoundL (okExE)

end Go.Proofs.Ytahafnjlmcmhfaa
