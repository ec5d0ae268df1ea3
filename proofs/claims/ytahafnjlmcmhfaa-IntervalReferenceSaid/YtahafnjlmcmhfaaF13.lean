/-
  Intervals: the statement IntervalReference.
  Conditions: none.
-/
import Derived.Test.YtahafnjlmcmhfaaE13
import Derived.KernelRfl
set_option linter.unusedVariables false
set_option linter.unusedSimpArgs false
namespace Go.Proofs.Ytahafnjlmcmhfaa
open Go.Pv Go.M13
def kRefL (xs : List IV) (h : Heap) (K : IV → Heap → Prop) : Prop := match xs with
  | [.int .i64 op, .int .i64 a, .int .i64 b, .int .i64 c, .int .i64 d, .int .i64 e, .int .i64 f, .agg [.int .i64 p0, .int .i64 p1], .agg [.int .i64 q0, .int .i64 q1], .agg [.int .i64 r0, .int .i64 r1], .int .i64 n] => (((inR p0 ∧ inR p1) ∧ (inR q0 ∧ inR q1)) ∧ ((inR r0 ∧ inR r1) ∧ inR n)) ∧ K (.bool true) h
  | _ => False
set_option maxRecDepth 100000 in
theorem vRefL (op a b c d e f p0 p1 q0 q1 r0 r1 n : Int) (h : Heap) (Q : IV → Heap → Prop) : dF (stdS cExE) env 7 (fun k => match Nat.beq k 4 with | true => 5 | false => match Nat.beq k 7 with | true => 4 | false => 0) noI noI [.int .i64 op, .int .i64 a, .int .i64 b, .int .i64 c, .int .i64 d, .int .i64 e, .int .i64 f, .agg [.int .i64 p0, .int .i64 p1], .agg [.int .i64 q0, .int .i64 q1], .agg [.int .i64 r0, .int .i64 r1], .int .i64 n] h Q = (
  ((0 : Int) < (40 : Int) ∧ (40 : Int) < (4611686018427387904 : Int)) ∧
    ((0 : Int) < (18 : Int) ∧ (18 : Int) < (4611686018427387904 : Int)) ∧
      brS
        (!(Prod.fst (iun op (Prod.fst (ival a b p0 q0)) (Prod.snd (ival a b p0 q0))) == Prod.fst (iun op (Prod.fst (ival a b p0 q0)) (Prod.snd (ival a b p0 q0))) &&
            (Prod.snd (iun op (Prod.fst (ival a b p0 q0)) (Prod.snd (ival a b p0 q0))) == Prod.snd (iun op (Prod.fst (ival a b p0 q0)) (Prod.snd (ival a b p0 q0))) && true)))
        (Q (IV.bool false) h)
        (((inR (Prod.fst (ival a b p0 q0)) ∧ inR (Prod.snd (ival a b p0 q0))) ∧ inR (Prod.fst (ival c d p1 q1)) ∧ inR (Prod.snd (ival c d p1 q1))) ∧
          ((inR (Prod.fst (ival a b p0 q0)) ∧ inR (Prod.snd (ival a b p0 q0))) ∧ inR (Prod.fst (ival c d p1 q1)) ∧ inR (Prod.snd (ival c d p1 q1))) ∧
            brS
              (!(Prod.fst (ibin op (Prod.fst (ival a b p0 q0)) (Prod.snd (ival a b p0 q0)) (Prod.fst (ival c d p1 q1)) (Prod.snd (ival c d p1 q1))) ==
                    Prod.fst (ibin op (Prod.fst (ival a b p0 q0)) (Prod.snd (ival a b p0 q0)) (Prod.fst (ival c d p1 q1)) (Prod.snd (ival c d p1 q1))) &&
                  (Prod.snd (ibin op (Prod.fst (ival a b p0 q0)) (Prod.snd (ival a b p0 q0)) (Prod.fst (ival c d p1 q1)) (Prod.snd (ival c d p1 q1))) ==
                      Prod.snd (ibin op (Prod.fst (ival a b p0 q0)) (Prod.snd (ival a b p0 q0)) (Prod.fst (ival c d p1 q1)) (Prod.snd (ival c d p1 q1))) &&
                    true)))
              (Q (IV.bool false) h)
              (brS
                (!(Prod.fst (iun (op % (40 : Int)) (Prod.fst (ival a b p0 q0)) (Prod.snd (ival a b p0 q0))) == Prod.fst (iun (op % (40 : Int)) (Prod.fst (ival a b p0 q0)) (Prod.snd (ival a b p0 q0))) &&
                    (Prod.snd (iun (op % (40 : Int)) (Prod.fst (ival a b p0 q0)) (Prod.snd (ival a b p0 q0))) == Prod.snd (iun (op % (40 : Int)) (Prod.fst (ival a b p0 q0)) (Prod.snd (ival a b p0 q0))) && true)))
                (Q (IV.bool false) h)
                (((inR (Prod.fst (ival a b p0 q0)) ∧ inR (Prod.snd (ival a b p0 q0))) ∧ inR (Prod.fst (ival c d p1 q1)) ∧ inR (Prod.snd (ival c d p1 q1))) ∧
                  ((inR (Prod.fst (ival a b p0 q0)) ∧ inR (Prod.snd (ival a b p0 q0))) ∧ inR (Prod.fst (ival c d p1 q1)) ∧ inR (Prod.snd (ival c d p1 q1))) ∧
                    brS
                      (!(Prod.fst (ibin (op % (40 : Int)) (Prod.fst (ival a b p0 q0)) (Prod.snd (ival a b p0 q0)) (Prod.fst (ival c d p1 q1)) (Prod.snd (ival c d p1 q1))) ==
                            Prod.fst (ibin (op % (40 : Int)) (Prod.fst (ival a b p0 q0)) (Prod.snd (ival a b p0 q0)) (Prod.fst (ival c d p1 q1)) (Prod.snd (ival c d p1 q1))) &&
                          (Prod.snd (ibin (op % (40 : Int)) (Prod.fst (ival a b p0 q0)) (Prod.snd (ival a b p0 q0)) (Prod.fst (ival c d p1 q1)) (Prod.snd (ival c d p1 q1))) ==
                              Prod.snd (ibin (op % (40 : Int)) (Prod.fst (ival a b p0 q0)) (Prod.snd (ival a b p0 q0)) (Prod.fst (ival c d p1 q1)) (Prod.snd (ival c d p1 q1))) &&
                            true)))
                      (Q (IV.bool false) h)
                      (brS
                        (!(Prod.fst (iun (IntKind.wrap IntKind.i64 ((4 : Int) + op % (18 : Int))) (Prod.fst (ival a b p0 q0)) (Prod.snd (ival a b p0 q0))) ==
                              Prod.fst (iun (IntKind.wrap IntKind.i64 ((4 : Int) + op % (18 : Int))) (Prod.fst (ival a b p0 q0)) (Prod.snd (ival a b p0 q0))) &&
                            (Prod.snd (iun (IntKind.wrap IntKind.i64 ((4 : Int) + op % (18 : Int))) (Prod.fst (ival a b p0 q0)) (Prod.snd (ival a b p0 q0))) ==
                                Prod.snd (iun (IntKind.wrap IntKind.i64 ((4 : Int) + op % (18 : Int))) (Prod.fst (ival a b p0 q0)) (Prod.snd (ival a b p0 q0))) &&
                              true)))
                        (Q (IV.bool false) h)
                        (((inR (Prod.fst (ival a b p0 q0)) ∧ inR (Prod.snd (ival a b p0 q0))) ∧ inR (Prod.fst (ival c d p1 q1)) ∧ inR (Prod.snd (ival c d p1 q1))) ∧
                          ((inR (Prod.fst (ival a b p0 q0)) ∧ inR (Prod.snd (ival a b p0 q0))) ∧ inR (Prod.fst (ival c d p1 q1)) ∧ inR (Prod.snd (ival c d p1 q1))) ∧
                            brS
                              (!(Prod.fst (ibin (IntKind.wrap IntKind.i64 ((4 : Int) + op % (18 : Int))) (Prod.fst (ival a b p0 q0)) (Prod.snd (ival a b p0 q0)) (Prod.fst (ival c d p1 q1)) (Prod.snd (ival c d p1 q1))) ==
                                    Prod.fst (ibin (IntKind.wrap IntKind.i64 ((4 : Int) + op % (18 : Int))) (Prod.fst (ival a b p0 q0)) (Prod.snd (ival a b p0 q0)) (Prod.fst (ival c d p1 q1)) (Prod.snd (ival c d p1 q1))) &&
                                  (Prod.snd (ibin (IntKind.wrap IntKind.i64 ((4 : Int) + op % (18 : Int))) (Prod.fst (ival a b p0 q0)) (Prod.snd (ival a b p0 q0)) (Prod.fst (ival c d p1 q1)) (Prod.snd (ival c d p1 q1))) ==
                                      Prod.snd (ibin (IntKind.wrap IntKind.i64 ((4 : Int) + op % (18 : Int))) (Prod.fst (ival a b p0 q0)) (Prod.snd (ival a b p0 q0)) (Prod.fst (ival c d p1 q1)) (Prod.snd (ival c d p1 q1))) &&
                                    true)))
                              (Q (IV.bool false) h)
                              (brS
                                (!(Prod.fst (isect (Prod.fst (ival a b p0 q0)) (Prod.snd (ival a b p0 q0)) (Prod.fst (ival c d p1 q1)) (Prod.snd (ival c d p1 q1))) ==
                                      Prod.fst (isect (Prod.fst (ival a b p0 q0)) (Prod.snd (ival a b p0 q0)) (Prod.fst (ival c d p1 q1)) (Prod.snd (ival c d p1 q1))) &&
                                    (Prod.snd (isect (Prod.fst (ival a b p0 q0)) (Prod.snd (ival a b p0 q0)) (Prod.fst (ival c d p1 q1)) (Prod.snd (ival c d p1 q1))) ==
                                        Prod.snd (isect (Prod.fst (ival a b p0 q0)) (Prod.snd (ival a b p0 q0)) (Prod.fst (ival c d p1 q1)) (Prod.snd (ival c d p1 q1))) &&
                                      true)))
                                (Q (IV.bool false) h)
                                (brS
                                  (!meets (Prod.fst (ival a b p0 q0)) (Prod.snd (ival a b p0 q0)) (Prod.fst (ival c d p1 q1)) (Prod.snd (ival c d p1 q1)) ==
                                      meets (Prod.fst (ival a b p0 q0)) (Prod.snd (ival a b p0 q0)) (Prod.fst (ival c d p1 q1)) (Prod.snd (ival c d p1 q1)))
                                  (Q (IV.bool false) h)
                                  (brS
                                    (!(min (Prod.fst (ival a b p0 q0)) (Prod.fst (ival c d p1 q1)) == min (Prod.fst (ival a b p0 q0)) (Prod.fst (ival c d p1 q1)) &&
                                        (max (Prod.snd (ival a b p0 q0)) (Prod.snd (ival c d p1 q1)) == max (Prod.snd (ival a b p0 q0)) (Prod.snd (ival c d p1 q1)) && true)))
                                    (Q (IV.bool false) h)
                                    (brS
                                      (!(wlo (Prod.fst (ival a b p0 q0)) (Prod.fst (ival c d p1 q1)) == wlo (Prod.fst (ival a b p0 q0)) (Prod.fst (ival c d p1 q1)) &&
                                          (whi (Prod.snd (ival a b p0 q0)) (Prod.snd (ival c d p1 q1)) == whi (Prod.snd (ival a b p0 q0)) (Prod.snd (ival c d p1 q1)) && true)))
                                      (Q (IV.bool false) h)
                                      (brS
                                        (!(Prod.fst (isel (Prod.fst (ival a b p0 q0)) (Prod.snd (ival a b p0 q0)) (Prod.fst (ival c d p1 q1)) (Prod.snd (ival c d p1 q1)) (Prod.fst (ival e f r0 r1)) (Prod.snd (ival e f r0 r1))) ==
                                              Prod.fst (isel (Prod.fst (ival a b p0 q0)) (Prod.snd (ival a b p0 q0)) (Prod.fst (ival c d p1 q1)) (Prod.snd (ival c d p1 q1)) (Prod.fst (ival e f r0 r1)) (Prod.snd (ival e f r0 r1))) &&
                                            (Prod.snd (isel (Prod.fst (ival a b p0 q0)) (Prod.snd (ival a b p0 q0)) (Prod.fst (ival c d p1 q1)) (Prod.snd (ival c d p1 q1)) (Prod.fst (ival e f r0 r1)) (Prod.snd (ival e f r0 r1))) ==
                                                Prod.snd (isel (Prod.fst (ival a b p0 q0)) (Prod.snd (ival a b p0 q0)) (Prod.fst (ival c d p1 q1)) (Prod.snd (ival c d p1 q1)) (Prod.fst (ival e f r0 r1)) (Prod.snd (ival e f r0 r1))) &&
                                              true)))
                                        (Q (IV.bool false) h)
                                        (brS (!decide (Prod.fst (ival a b p0 q0) ≤ Prod.snd (ival a b p0 q0)) == decide (Prod.fst (ival a b p0 q0) ≤ Prod.snd (ival a b p0 q0))) (Q (IV.bool false) h)
                                          (brS (!contains (Prod.fst (ival a b p0 q0)) (Prod.snd (ival a b p0 q0)) n == contains (Prod.fst (ival a b p0 q0)) (Prod.snd (ival a b p0 q0)) n) (Q (IV.bool false) h)
                                            (((0 : Int) < (40 : Int) ∧ (40 : Int) < (4611686018427387904 : Int)) ∧
                                              ((0 : Int) < (18 : Int) ∧ (18 : Int) < (4611686018427387904 : Int)) ∧
                                                brS (!(Prod.fst (iun op p0 p1) == Prod.fst (iun op p0 p1) && (Prod.snd (iun op p0 p1) == Prod.snd (iun op p0 p1) && true))) (Q (IV.bool false) h)
                                                  (((inR p0 ∧ inR p1) ∧ inR q0 ∧ inR q1) ∧
                                                    ((inR p0 ∧ inR p1) ∧ inR q0 ∧ inR q1) ∧
                                                      brS (!(Prod.fst (ibin op p0 p1 q0 q1) == Prod.fst (ibin op p0 p1 q0 q1) && (Prod.snd (ibin op p0 p1 q0 q1) == Prod.snd (ibin op p0 p1 q0 q1) && true))) (Q (IV.bool false) h)
                                                        (brS (!(Prod.fst (iun (op % (40 : Int)) p0 p1) == Prod.fst (iun (op % (40 : Int)) p0 p1) && (Prod.snd (iun (op % (40 : Int)) p0 p1) == Prod.snd (iun (op % (40 : Int)) p0 p1) && true)))
                                                          (Q (IV.bool false) h)
                                                          (((inR p0 ∧ inR p1) ∧ inR q0 ∧ inR q1) ∧
                                                            ((inR p0 ∧ inR p1) ∧ inR q0 ∧ inR q1) ∧
                                                              brS
                                                                (!(Prod.fst (ibin (op % (40 : Int)) p0 p1 q0 q1) == Prod.fst (ibin (op % (40 : Int)) p0 p1 q0 q1) &&
                                                                    (Prod.snd (ibin (op % (40 : Int)) p0 p1 q0 q1) == Prod.snd (ibin (op % (40 : Int)) p0 p1 q0 q1) && true)))
                                                                (Q (IV.bool false) h)
                                                                (brS
                                                                  (!(Prod.fst (iun (IntKind.wrap IntKind.i64 ((4 : Int) + op % (18 : Int))) p0 p1) == Prod.fst (iun (IntKind.wrap IntKind.i64 ((4 : Int) + op % (18 : Int))) p0 p1) &&
                                                                      (Prod.snd (iun (IntKind.wrap IntKind.i64 ((4 : Int) + op % (18 : Int))) p0 p1) == Prod.snd (iun (IntKind.wrap IntKind.i64 ((4 : Int) + op % (18 : Int))) p0 p1) && true)))
                                                                  (Q (IV.bool false) h)
                                                                  (((inR p0 ∧ inR p1) ∧ inR q0 ∧ inR q1) ∧
                                                                    ((inR p0 ∧ inR p1) ∧ inR q0 ∧ inR q1) ∧
                                                                      brS
                                                                        (!(Prod.fst (ibin (IntKind.wrap IntKind.i64 ((4 : Int) + op % (18 : Int))) p0 p1 q0 q1) ==
                                                                              Prod.fst (ibin (IntKind.wrap IntKind.i64 ((4 : Int) + op % (18 : Int))) p0 p1 q0 q1) &&
                                                                            (Prod.snd (ibin (IntKind.wrap IntKind.i64 ((4 : Int) + op % (18 : Int))) p0 p1 q0 q1) ==
                                                                                Prod.snd (ibin (IntKind.wrap IntKind.i64 ((4 : Int) + op % (18 : Int))) p0 p1 q0 q1) &&
                                                                              true)))
                                                                        (Q (IV.bool false) h)
                                                                        (brS (!(Prod.fst (isect p0 p1 q0 q1) == Prod.fst (isect p0 p1 q0 q1) && (Prod.snd (isect p0 p1 q0 q1) == Prod.snd (isect p0 p1 q0 q1) && true))) (Q (IV.bool false) h)
                                                                          (brS (!meets p0 p1 q0 q1 == meets p0 p1 q0 q1) (Q (IV.bool false) h)
                                                                            (brS (!(min p0 q0 == min p0 q0 && (max p1 q1 == max p1 q1 && true))) (Q (IV.bool false) h)
                                                                              (brS (!(wlo p0 q0 == wlo p0 q0 && (whi p1 q1 == whi p1 q1 && true))) (Q (IV.bool false) h)
                                                                                (brS
                                                                                  (!(Prod.fst (isel p0 p1 q0 q1 r0 r1) == Prod.fst (isel p0 p1 q0 q1 r0 r1) && (Prod.snd (isel p0 p1 q0 q1 r0 r1) == Prod.snd (isel p0 p1 q0 q1 r0 r1) && true)))
                                                                                  (Q (IV.bool false) h)
                                                                                  (brS (!decide (p0 ≤ p1) == decide (p0 ≤ p1)) (Q (IV.bool false) h)
                                                                                    (brS (!contains p0 p1 n == contains p0 p1 n) (Q (IV.bool false) h)
                                                                                      (((0 : Int) < (40 : Int) ∧ (40 : Int) < (4611686018427387904 : Int)) ∧
                                                                                        ((0 : Int) < (18 : Int) ∧ (18 : Int) < (4611686018427387904 : Int)) ∧
                                                                                          brS
                                                                                            (!(Prod.fst (iun op (Prod.fst (ival a b p0 q0)) (Prod.snd (ival a b p0 q0))) ==
                                                                                                  Prod.fst (iun op (Prod.fst (ival a b p0 q0)) (Prod.snd (ival a b p0 q0))) &&
                                                                                                (Prod.snd (iun op (Prod.fst (ival a b p0 q0)) (Prod.snd (ival a b p0 q0))) ==
                                                                                                    Prod.snd (iun op (Prod.fst (ival a b p0 q0)) (Prod.snd (ival a b p0 q0))) &&
                                                                                                  true)))
                                                                                            (Q (IV.bool false) h)
                                                                                            (((inR (Prod.fst (ival a b p0 q0)) ∧ inR (Prod.snd (ival a b p0 q0))) ∧ inR (Prod.fst (ival a b p0 q0)) ∧ inR (Prod.snd (ival a b p0 q0))) ∧
                                                                                              ((inR (Prod.fst (ival a b p0 q0)) ∧ inR (Prod.snd (ival a b p0 q0))) ∧ inR (Prod.fst (ival a b p0 q0)) ∧ inR (Prod.snd (ival a b p0 q0))) ∧
                                                                                                brS
                                                                                                  (!(Prod.fst (ibin op (Prod.fst (ival a b p0 q0)) (Prod.snd (ival a b p0 q0)) (Prod.fst (ival a b p0 q0)) (Prod.snd (ival a b p0 q0))) ==
                                                                                                        Prod.fst (ibin op (Prod.fst (ival a b p0 q0)) (Prod.snd (ival a b p0 q0)) (Prod.fst (ival a b p0 q0)) (Prod.snd (ival a b p0 q0))) &&
                                                                                                      (Prod.snd (ibin op (Prod.fst (ival a b p0 q0)) (Prod.snd (ival a b p0 q0)) (Prod.fst (ival a b p0 q0)) (Prod.snd (ival a b p0 q0))) ==
                                                                                                          Prod.snd (ibin op (Prod.fst (ival a b p0 q0)) (Prod.snd (ival a b p0 q0)) (Prod.fst (ival a b p0 q0)) (Prod.snd (ival a b p0 q0))) &&
                                                                                                        true)))
                                                                                                  (Q (IV.bool false) h)
                                                                                                  (brS
                                                                                                    (!(Prod.fst (iun (op % (40 : Int)) (Prod.fst (ival a b p0 q0)) (Prod.snd (ival a b p0 q0))) ==
                                                                                                          Prod.fst (iun (op % (40 : Int)) (Prod.fst (ival a b p0 q0)) (Prod.snd (ival a b p0 q0))) &&
                                                                                                        (Prod.snd (iun (op % (40 : Int)) (Prod.fst (ival a b p0 q0)) (Prod.snd (ival a b p0 q0))) ==
                                                                                                            Prod.snd (iun (op % (40 : Int)) (Prod.fst (ival a b p0 q0)) (Prod.snd (ival a b p0 q0))) &&
                                                                                                          true)))
                                                                                                    (Q (IV.bool false) h)
                                                                                                    (((inR (Prod.fst (ival a b p0 q0)) ∧ inR (Prod.snd (ival a b p0 q0))) ∧ inR (Prod.fst (ival a b p0 q0)) ∧ inR (Prod.snd (ival a b p0 q0))) ∧
                                                                                                      ((inR (Prod.fst (ival a b p0 q0)) ∧ inR (Prod.snd (ival a b p0 q0))) ∧ inR (Prod.fst (ival a b p0 q0)) ∧ inR (Prod.snd (ival a b p0 q0))) ∧
                                                                                                        brS
                                                                                                          (!(Prod.fst
                                                                                                                  (ibin (op % (40 : Int)) (Prod.fst (ival a b p0 q0)) (Prod.snd (ival a b p0 q0)) (Prod.fst (ival a b p0 q0))
                                                                                                                    (Prod.snd (ival a b p0 q0))) ==
                                                                                                                Prod.fst
                                                                                                                  (ibin (op % (40 : Int)) (Prod.fst (ival a b p0 q0)) (Prod.snd (ival a b p0 q0)) (Prod.fst (ival a b p0 q0))
                                                                                                                    (Prod.snd (ival a b p0 q0))) &&
                                                                                                              (Prod.snd
                                                                                                                    (ibin (op % (40 : Int)) (Prod.fst (ival a b p0 q0)) (Prod.snd (ival a b p0 q0)) (Prod.fst (ival a b p0 q0))
                                                                                                                      (Prod.snd (ival a b p0 q0))) ==
                                                                                                                  Prod.snd
                                                                                                                    (ibin (op % (40 : Int)) (Prod.fst (ival a b p0 q0)) (Prod.snd (ival a b p0 q0)) (Prod.fst (ival a b p0 q0))
                                                                                                                      (Prod.snd (ival a b p0 q0))) &&
                                                                                                                true)))
                                                                                                          (Q (IV.bool false) h)
                                                                                                          (brS
                                                                                                            (!(Prod.fst (iun (IntKind.wrap IntKind.i64 ((4 : Int) + op % (18 : Int))) (Prod.fst (ival a b p0 q0)) (Prod.snd (ival a b p0 q0))) ==
                                                                                                                  Prod.fst
                                                                                                                    (iun (IntKind.wrap IntKind.i64 ((4 : Int) + op % (18 : Int))) (Prod.fst (ival a b p0 q0)) (Prod.snd (ival a b p0 q0))) &&
                                                                                                                (Prod.snd
                                                                                                                      (iun (IntKind.wrap IntKind.i64 ((4 : Int) + op % (18 : Int))) (Prod.fst (ival a b p0 q0)) (Prod.snd (ival a b p0 q0))) ==
                                                                                                                    Prod.snd
                                                                                                                      (iun (IntKind.wrap IntKind.i64 ((4 : Int) + op % (18 : Int))) (Prod.fst (ival a b p0 q0)) (Prod.snd (ival a b p0 q0))) &&
                                                                                                                  true)))
                                                                                                            (Q (IV.bool false) h)
                                                                                                            (((inR (Prod.fst (ival a b p0 q0)) ∧ inR (Prod.snd (ival a b p0 q0))) ∧
                                                                                                                inR (Prod.fst (ival a b p0 q0)) ∧ inR (Prod.snd (ival a b p0 q0))) ∧
                                                                                                              ((inR (Prod.fst (ival a b p0 q0)) ∧ inR (Prod.snd (ival a b p0 q0))) ∧
                                                                                                                  inR (Prod.fst (ival a b p0 q0)) ∧ inR (Prod.snd (ival a b p0 q0))) ∧
                                                                                                                brS
                                                                                                                  (!(Prod.fst
                                                                                                                          (ibin (IntKind.wrap IntKind.i64 ((4 : Int) + op % (18 : Int))) (Prod.fst (ival a b p0 q0)) (Prod.snd (ival a b p0 q0))
                                                                                                                            (Prod.fst (ival a b p0 q0)) (Prod.snd (ival a b p0 q0))) ==
                                                                                                                        Prod.fst
                                                                                                                          (ibin (IntKind.wrap IntKind.i64 ((4 : Int) + op % (18 : Int))) (Prod.fst (ival a b p0 q0)) (Prod.snd (ival a b p0 q0))
                                                                                                                            (Prod.fst (ival a b p0 q0)) (Prod.snd (ival a b p0 q0))) &&
                                                                                                                      (Prod.snd
                                                                                                                            (ibin (IntKind.wrap IntKind.i64 ((4 : Int) + op % (18 : Int))) (Prod.fst (ival a b p0 q0)) (Prod.snd (ival a b p0 q0))
                                                                                                                              (Prod.fst (ival a b p0 q0)) (Prod.snd (ival a b p0 q0))) ==
                                                                                                                          Prod.snd
                                                                                                                            (ibin (IntKind.wrap IntKind.i64 ((4 : Int) + op % (18 : Int))) (Prod.fst (ival a b p0 q0)) (Prod.snd (ival a b p0 q0))
                                                                                                                              (Prod.fst (ival a b p0 q0)) (Prod.snd (ival a b p0 q0))) &&
                                                                                                                        true)))
                                                                                                                  (Q (IV.bool false) h)
                                                                                                                  (brS
                                                                                                                    (!(Prod.fst
                                                                                                                            (isect (Prod.fst (ival a b p0 q0)) (Prod.snd (ival a b p0 q0)) (Prod.fst (ival a b p0 q0))
                                                                                                                              (Prod.snd (ival a b p0 q0))) ==
                                                                                                                          Prod.fst
                                                                                                                            (isect (Prod.fst (ival a b p0 q0)) (Prod.snd (ival a b p0 q0)) (Prod.fst (ival a b p0 q0))
                                                                                                                              (Prod.snd (ival a b p0 q0))) &&
                                                                                                                        (Prod.snd
                                                                                                                              (isect (Prod.fst (ival a b p0 q0)) (Prod.snd (ival a b p0 q0)) (Prod.fst (ival a b p0 q0))
                                                                                                                                (Prod.snd (ival a b p0 q0))) ==
                                                                                                                            Prod.snd
                                                                                                                              (isect (Prod.fst (ival a b p0 q0)) (Prod.snd (ival a b p0 q0)) (Prod.fst (ival a b p0 q0))
                                                                                                                                (Prod.snd (ival a b p0 q0))) &&
                                                                                                                          true)))
                                                                                                                    (Q (IV.bool false) h)
                                                                                                                    (brS
                                                                                                                      (!meets (Prod.fst (ival a b p0 q0)) (Prod.snd (ival a b p0 q0)) (Prod.fst (ival a b p0 q0)) (Prod.snd (ival a b p0 q0)) ==
                                                                                                                          meets (Prod.fst (ival a b p0 q0)) (Prod.snd (ival a b p0 q0)) (Prod.fst (ival a b p0 q0)) (Prod.snd (ival a b p0 q0)))
                                                                                                                      (Q (IV.bool false) h)
                                                                                                                      (brS
                                                                                                                        (!(min (Prod.fst (ival a b p0 q0)) (Prod.fst (ival a b p0 q0)) ==
                                                                                                                              min (Prod.fst (ival a b p0 q0)) (Prod.fst (ival a b p0 q0)) &&
                                                                                                                            (max (Prod.snd (ival a b p0 q0)) (Prod.snd (ival a b p0 q0)) ==
                                                                                                                                max (Prod.snd (ival a b p0 q0)) (Prod.snd (ival a b p0 q0)) &&
                                                                                                                              true)))
                                                                                                                        (Q (IV.bool false) h)
                                                                                                                        (brS
                                                                                                                          (!(wlo (Prod.fst (ival a b p0 q0)) (Prod.fst (ival a b p0 q0)) ==
                                                                                                                                wlo (Prod.fst (ival a b p0 q0)) (Prod.fst (ival a b p0 q0)) &&
                                                                                                                              (whi (Prod.snd (ival a b p0 q0)) (Prod.snd (ival a b p0 q0)) ==
                                                                                                                                  whi (Prod.snd (ival a b p0 q0)) (Prod.snd (ival a b p0 q0)) &&
                                                                                                                                true)))
                                                                                                                          (Q (IV.bool false) h)
                                                                                                                          (brS
                                                                                                                            (!(Prod.fst
                                                                                                                                    (isel (Prod.fst (ival a b p0 q0)) (Prod.snd (ival a b p0 q0)) (Prod.fst (ival a b p0 q0))
                                                                                                                                      (Prod.snd (ival a b p0 q0)) (Prod.fst (ival c d p1 q1)) (Prod.snd (ival c d p1 q1))) ==
                                                                                                                                  Prod.fst
                                                                                                                                    (isel (Prod.fst (ival a b p0 q0)) (Prod.snd (ival a b p0 q0)) (Prod.fst (ival a b p0 q0))
                                                                                                                                      (Prod.snd (ival a b p0 q0)) (Prod.fst (ival c d p1 q1)) (Prod.snd (ival c d p1 q1))) &&
                                                                                                                                (Prod.snd
                                                                                                                                      (isel (Prod.fst (ival a b p0 q0)) (Prod.snd (ival a b p0 q0)) (Prod.fst (ival a b p0 q0))
                                                                                                                                        (Prod.snd (ival a b p0 q0)) (Prod.fst (ival c d p1 q1)) (Prod.snd (ival c d p1 q1))) ==
                                                                                                                                    Prod.snd
                                                                                                                                      (isel (Prod.fst (ival a b p0 q0)) (Prod.snd (ival a b p0 q0)) (Prod.fst (ival a b p0 q0))
                                                                                                                                        (Prod.snd (ival a b p0 q0)) (Prod.fst (ival c d p1 q1)) (Prod.snd (ival c d p1 q1))) &&
                                                                                                                                  true)))
                                                                                                                            (Q (IV.bool false) h)
                                                                                                                            (brS
                                                                                                                              (!decide (Prod.fst (ival a b p0 q0) ≤ Prod.snd (ival a b p0 q0)) ==
                                                                                                                                  decide (Prod.fst (ival a b p0 q0) ≤ Prod.snd (ival a b p0 q0)))
                                                                                                                              (Q (IV.bool false) h)
                                                                                                                              (brS
                                                                                                                                (!contains (Prod.fst (ival a b p0 q0)) (Prod.snd (ival a b p0 q0)) n ==
                                                                                                                                    contains (Prod.fst (ival a b p0 q0)) (Prod.snd (ival a b p0 q0)) n)
                                                                                                                                (Q (IV.bool false) h)
                                                                                                                                (((0 : Int) < (40 : Int) ∧ (40 : Int) < (4611686018427387904 : Int)) ∧
                                                                                                                                  ((0 : Int) < (18 : Int) ∧ (18 : Int) < (4611686018427387904 : Int)) ∧
                                                                                                                                    brS
                                                                                                                                      (!(Prod.fst (iun op (Prod.fst (ival a b p0 q0)) (Prod.snd (ival a b p0 q0))) ==
                                                                                                                                            Prod.fst (iun op (Prod.fst (ival a b p0 q0)) (Prod.snd (ival a b p0 q0))) &&
                                                                                                                                          (Prod.snd (iun op (Prod.fst (ival a b p0 q0)) (Prod.snd (ival a b p0 q0))) ==
                                                                                                                                              Prod.snd (iun op (Prod.fst (ival a b p0 q0)) (Prod.snd (ival a b p0 q0))) &&
                                                                                                                                            true)))
                                                                                                                                      (Q (IV.bool false) h)
                                                                                                                                      (((inR (Prod.fst (ival a b p0 q0)) ∧ inR (Prod.snd (ival a b p0 q0))) ∧ inR n ∧ inR n) ∧
                                                                                                                                        ((inR (Prod.fst (ival a b p0 q0)) ∧ inR (Prod.snd (ival a b p0 q0))) ∧ inR n ∧ inR n) ∧
                                                                                                                                          brS
                                                                                                                                            (!(Prod.fst (ibin op (Prod.fst (ival a b p0 q0)) (Prod.snd (ival a b p0 q0)) n n) ==
                                                                                                                                                  Prod.fst (ibin op (Prod.fst (ival a b p0 q0)) (Prod.snd (ival a b p0 q0)) n n) &&
                                                                                                                                                (Prod.snd (ibin op (Prod.fst (ival a b p0 q0)) (Prod.snd (ival a b p0 q0)) n n) ==
                                                                                                                                                    Prod.snd (ibin op (Prod.fst (ival a b p0 q0)) (Prod.snd (ival a b p0 q0)) n n) &&
                                                                                                                                                  true)))
                                                                                                                                            (Q (IV.bool false) h)
                                                                                                                                            (brS
                                                                                                                                              (!(Prod.fst (iun (op % (40 : Int)) (Prod.fst (ival a b p0 q0)) (Prod.snd (ival a b p0 q0))) ==
                                                                                                                                                    Prod.fst (iun (op % (40 : Int)) (Prod.fst (ival a b p0 q0)) (Prod.snd (ival a b p0 q0))) &&
                                                                                                                                                  (Prod.snd (iun (op % (40 : Int)) (Prod.fst (ival a b p0 q0)) (Prod.snd (ival a b p0 q0))) ==
                                                                                                                                                      Prod.snd (iun (op % (40 : Int)) (Prod.fst (ival a b p0 q0)) (Prod.snd (ival a b p0 q0))) &&
                                                                                                                                                    true)))
                                                                                                                                              (Q (IV.bool false) h)
                                                                                                                                              (((inR (Prod.fst (ival a b p0 q0)) ∧ inR (Prod.snd (ival a b p0 q0))) ∧ inR n ∧ inR n) ∧
                                                                                                                                                ((inR (Prod.fst (ival a b p0 q0)) ∧ inR (Prod.snd (ival a b p0 q0))) ∧ inR n ∧ inR n) ∧
                                                                                                                                                  brS
                                                                                                                                                    (!(Prod.fst
                                                                                                                                                            (ibin (op % (40 : Int)) (Prod.fst (ival a b p0 q0)) (Prod.snd (ival a b p0 q0)) n
                                                                                                                                                              n) ==
                                                                                                                                                          Prod.fst
                                                                                                                                                            (ibin (op % (40 : Int)) (Prod.fst (ival a b p0 q0)) (Prod.snd (ival a b p0 q0)) n
                                                                                                                                                              n) &&
                                                                                                                                                        (Prod.snd
                                                                                                                                                              (ibin (op % (40 : Int)) (Prod.fst (ival a b p0 q0)) (Prod.snd (ival a b p0 q0)) n
                                                                                                                                                                n) ==
                                                                                                                                                            Prod.snd
                                                                                                                                                              (ibin (op % (40 : Int)) (Prod.fst (ival a b p0 q0)) (Prod.snd (ival a b p0 q0)) n
                                                                                                                                                                n) &&
                                                                                                                                                          true)))
                                                                                                                                                    (Q (IV.bool false) h)
                                                                                                                                                    (brS
                                                                                                                                                      (!(Prod.fst
                                                                                                                                                              (iun (IntKind.wrap IntKind.i64 ((4 : Int) + op % (18 : Int)))
                                                                                                                                                                (Prod.fst (ival a b p0 q0)) (Prod.snd (ival a b p0 q0))) ==
                                                                                                                                                            Prod.fst
                                                                                                                                                              (iun (IntKind.wrap IntKind.i64 ((4 : Int) + op % (18 : Int)))
                                                                                                                                                                (Prod.fst (ival a b p0 q0)) (Prod.snd (ival a b p0 q0))) &&
                                                                                                                                                          (Prod.snd
                                                                                                                                                                (iun (IntKind.wrap IntKind.i64 ((4 : Int) + op % (18 : Int)))
                                                                                                                                                                  (Prod.fst (ival a b p0 q0)) (Prod.snd (ival a b p0 q0))) ==
                                                                                                                                                              Prod.snd
                                                                                                                                                                (iun (IntKind.wrap IntKind.i64 ((4 : Int) + op % (18 : Int)))
                                                                                                                                                                  (Prod.fst (ival a b p0 q0)) (Prod.snd (ival a b p0 q0))) &&
                                                                                                                                                            true)))
                                                                                                                                                      (Q (IV.bool false) h)
                                                                                                                                                      (((inR (Prod.fst (ival a b p0 q0)) ∧ inR (Prod.snd (ival a b p0 q0))) ∧ inR n ∧ inR n) ∧
                                                                                                                                                        ((inR (Prod.fst (ival a b p0 q0)) ∧ inR (Prod.snd (ival a b p0 q0))) ∧ inR n ∧ inR n) ∧
                                                                                                                                                          brS
                                                                                                                                                            (!(Prod.fst
                                                                                                                                                                    (ibin (IntKind.wrap IntKind.i64 ((4 : Int) + op % (18 : Int)))
                                                                                                                                                                      (Prod.fst (ival a b p0 q0)) (Prod.snd (ival a b p0 q0)) n n) ==
                                                                                                                                                                  Prod.fst
                                                                                                                                                                    (ibin (IntKind.wrap IntKind.i64 ((4 : Int) + op % (18 : Int)))
                                                                                                                                                                      (Prod.fst (ival a b p0 q0)) (Prod.snd (ival a b p0 q0)) n n) &&
                                                                                                                                                                (Prod.snd
                                                                                                                                                                      (ibin (IntKind.wrap IntKind.i64 ((4 : Int) + op % (18 : Int)))
                                                                                                                                                                        (Prod.fst (ival a b p0 q0)) (Prod.snd (ival a b p0 q0)) n n) ==
                                                                                                                                                                    Prod.snd
                                                                                                                                                                      (ibin (IntKind.wrap IntKind.i64 ((4 : Int) + op % (18 : Int)))
                                                                                                                                                                        (Prod.fst (ival a b p0 q0)) (Prod.snd (ival a b p0 q0)) n n) &&
                                                                                                                                                                  true)))
                                                                                                                                                            (Q (IV.bool false) h)
                                                                                                                                                            (brS
                                                                                                                                                              (!(Prod.fst (isect (Prod.fst (ival a b p0 q0)) (Prod.snd (ival a b p0 q0)) n n) ==
                                                                                                                                                                    Prod.fst
                                                                                                                                                                      (isect (Prod.fst (ival a b p0 q0)) (Prod.snd (ival a b p0 q0)) n n) &&
                                                                                                                                                                  (Prod.snd (isect (Prod.fst (ival a b p0 q0)) (Prod.snd (ival a b p0 q0)) n n) ==
                                                                                                                                                                      Prod.snd
                                                                                                                                                                        (isect (Prod.fst (ival a b p0 q0)) (Prod.snd (ival a b p0 q0)) n n) &&
                                                                                                                                                                    true)))
                                                                                                                                                              (Q (IV.bool false) h)
                                                                                                                                                              (brS
                                                                                                                                                                (!meets (Prod.fst (ival a b p0 q0)) (Prod.snd (ival a b p0 q0)) n n ==
                                                                                                                                                                    meets (Prod.fst (ival a b p0 q0)) (Prod.snd (ival a b p0 q0)) n n)
                                                                                                                                                                (Q (IV.bool false) h)
                                                                                                                                                                (brS
                                                                                                                                                                  (!(min (Prod.fst (ival a b p0 q0)) n == min (Prod.fst (ival a b p0 q0)) n &&
                                                                                                                                                                      (max (Prod.snd (ival a b p0 q0)) n == max (Prod.snd (ival a b p0 q0)) n &&
                                                                                                                                                                        true)))
                                                                                                                                                                  (Q (IV.bool false) h)
                                                                                                                                                                  (brS
                                                                                                                                                                    (!(wlo (Prod.fst (ival a b p0 q0)) n == wlo (Prod.fst (ival a b p0 q0)) n &&
                                                                                                                                                                        (whi (Prod.snd (ival a b p0 q0)) n == whi (Prod.snd (ival a b p0 q0)) n &&
                                                                                                                                                                          true)))
                                                                                                                                                                    (Q (IV.bool false) h)
                                                                                                                                                                    (brS
                                                                                                                                                                      (!(Prod.fst
                                                                                                                                                                              (isel (Prod.fst (ival a b p0 q0)) (Prod.snd (ival a b p0 q0)) n n
                                                                                                                                                                                (Prod.fst (ival e f r0 r1)) (Prod.snd (ival e f r0 r1))) ==
                                                                                                                                                                            Prod.fst
                                                                                                                                                                              (isel (Prod.fst (ival a b p0 q0)) (Prod.snd (ival a b p0 q0)) n n
                                                                                                                                                                                (Prod.fst (ival e f r0 r1)) (Prod.snd (ival e f r0 r1))) &&
                                                                                                                                                                          (Prod.snd
                                                                                                                                                                                (isel (Prod.fst (ival a b p0 q0)) (Prod.snd (ival a b p0 q0)) n n
                                                                                                                                                                                  (Prod.fst (ival e f r0 r1)) (Prod.snd (ival e f r0 r1))) ==
                                                                                                                                                                              Prod.snd
                                                                                                                                                                                (isel (Prod.fst (ival a b p0 q0)) (Prod.snd (ival a b p0 q0)) n n
                                                                                                                                                                                  (Prod.fst (ival e f r0 r1)) (Prod.snd (ival e f r0 r1))) &&
                                                                                                                                                                            true)))
                                                                                                                                                                      (Q (IV.bool false) h)
                                                                                                                                                                      (brS
                                                                                                                                                                        (!decide (Prod.fst (ival a b p0 q0) ≤ Prod.snd (ival a b p0 q0)) ==
                                                                                                                                                                            decide (Prod.fst (ival a b p0 q0) ≤ Prod.snd (ival a b p0 q0)))
                                                                                                                                                                        (Q (IV.bool false) h)
                                                                                                                                                                        (brS
                                                                                                                                                                          (!contains (Prod.fst (ival a b p0 q0)) (Prod.snd (ival a b p0 q0)) n ==
                                                                                                                                                                              contains (Prod.fst (ival a b p0 q0)) (Prod.snd (ival a b p0 q0)) n)
                                                                                                                                                                          (Q (IV.bool false) h)
                                                                                                                                                                          (Q (IV.bool true) h))))))))))))))))))))))))))))))))))))))))))))))))))))) := by kernel_rfl
set_option maxHeartbeats 8000000 in
theorem sRefL : ∀ xs h Q, kRefL xs h Q → CallW env 7 xs h Q := by
  intro xs h Q hk
  unfold kRefL at hk
  split at hk
  · rename_i op a b c d e f p0 p1 q0 q1 r0 r1 n
    refine dF_sound (okExE) (mp_eq (vRefL op a b c d e f p0 p1 q0 q1 r0 r1 n h Q) ?_)
    obtain ⟨⟨⟨⟨hp0, hp1⟩, hq0, hq1⟩, ⟨hr0, hr1⟩, hn⟩, hk⟩ := hk
    have bf : ∀ A B : Prop, brS false A B = B := fun _ _ => rfl
    have bt : ∀ A B : Prop, brS true A B = A := fun _ _ => rfl
    obtain ⟨ix1, ix2⟩ := ival_inR (a := a) (b := b) hp0 hq0
    obtain ⟨iy1, iy2⟩ := ival_inR (a := c) (b := d) hp1 hq1
    obtain ⟨iz1, iz2⟩ := ival_inR (a := e) (b := f) hr0 hr1
    generalize (ival a b p0 q0).1 = x1, (ival a b p0 q0).2 = x2, (ival c d p1 q1).1 = y1, (ival c d p1 q1).2 = y2, (ival e f r0 r1).1 = z1, (ival e f r0 r1).2 = z2 at *
    simp only [beq_self_eq_true, Bool.and_self, Bool.not_true, Bool.and_true, bne_self_eq_false, bf, bt]
    repeat' (first | assumption | (refine And.intro ?_ ?_) | omega)
  · exact hk.elim
def cRefL := addC 7 kRefL cExE
theorem okRefL : Sound env cRefL := sound_add sRefL (okExE)

end Go.Proofs.Ytahafnjlmcmhfaa
