/-
  Intervals: what the functions of the statement IntervalExact compute.
  Conditions: none.
-/
import Derived.Test.YtahafnjlmcmhfaaA13
import Derived.KernelRfl
set_option linter.unusedVariables false
set_option linter.unusedSimpArgs false
namespace Go.Proofs.Ytahafnjlmcmhfaa
open Go.Pv Go.M13
def kFull (xs : List IV) (h : Heap) (K : IV → Heap → Prop) : Prop := match xs with
  | [] => K (.agg [.int .i64 (-9223372036854775808), .int .i64 9223372036854775807]) h
  | _ => False
set_option maxRecDepth 100000 in
theorem vFull  (h : Heap) (Q : IV → Heap → Prop) : dF (stdS cWord) env 17 noU noI noI [] h Q = (
  Q (IV.agg [IV.int IntKind.i64 (-9223372036854775808 : Int), IV.int IntKind.i64 (9223372036854775807 : Int)]) h) := by kernel_rfl
theorem sFull : ∀ xs h Q, kFull xs h Q → CallW env 17 xs h Q := by
  intro xs h Q hk
  unfold kFull at hk
  split at hk
  · skip
    refine dF_sound (okWord) (mp_eq (vFull  h Q) ?_)
    exact hk
  · exact hk.elim
def cFull := addC 17 kFull cWord
theorem okFull : Sound env cFull := sound_add sFull (okWord)

def kSingle (xs : List IV) (h : Heap) (K : IV → Heap → Prop) : Prop := match xs with
  | [.int .i64 a] => K (.agg [.int .i64 a, .int .i64 a]) h
  | _ => False
set_option maxRecDepth 100000 in
theorem vSingle (a : Int) (h : Heap) (Q : IV → Heap → Prop) : dF (stdS cFull) env 33 noU noI noI [.int .i64 a] h Q = (
  Q (IV.agg [IV.int IntKind.i64 a, IV.int IntKind.i64 a]) h) := by kernel_rfl
theorem sSingle : ∀ xs h Q, kSingle xs h Q → CallW env 33 xs h Q := by
  intro xs h Q hk
  unfold kSingle at hk
  split at hk
  · rename_i a
    refine dF_sound (okFull) (mp_eq (vSingle a h Q) ?_)
    exact hk
  · exact hk.elim
def cSingle := addC 33 kSingle cFull
theorem okSingle : Sound env cSingle := sound_add sSingle (okFull)

def kValidT (xs : List IV) (h : Heap) (K : IV → Heap → Prop) : Prop := match xs with
  | [.agg [.int .i64 a, .int .i64 b]] => a ≤ b ∧ K (.bool true) h
  | _ => False
set_option maxRecDepth 100000 in
theorem vValidT (a b : Int) (h : Heap) (Q : IV → Heap → Prop) : dF (stdS cSingle) env 11 noU noI noI [.agg [.int .i64 a, .int .i64 b]] h Q = (
  Q (IV.bool (decide (a ≤ b))) h) := by kernel_rfl
theorem sValidT : ∀ xs h Q, kValidT xs h Q → CallW env 11 xs h Q := by
  intro xs h Q hk
  unfold kValidT at hk
  split at hk
  · rename_i a b
    refine dF_sound (okSingle) (mp_eq (vValidT a b h Q) ?_)
    exact q_eq hk.2 (by simp [hk.1])
  · exact hk.elim
def cValidT := addC 11 kValidT cSingle
theorem okValidT : Sound env cValidT := sound_add sValidT (okSingle)

def kIsSingleT (xs : List IV) (h : Heap) (K : IV → Heap → Prop) : Prop := match xs with
  | [.agg [.int .i64 a, .int .i64 b]] => a = b ∧ K (.bool true) h
  | _ => False
set_option maxRecDepth 100000 in
theorem vIsSingleT (a b : Int) (h : Heap) (Q : IV → Heap → Prop) : dF (stdS cValidT) env 32 noU noI noI [.agg [.int .i64 a, .int .i64 b]] h Q = (
  Q (IV.bool (a == b)) h) := by kernel_rfl
theorem sIsSingleT : ∀ xs h Q, kIsSingleT xs h Q → CallW env 32 xs h Q := by
  intro xs h Q hk
  unfold kIsSingleT at hk
  split at hk
  · rename_i a b
    refine dF_sound (okValidT) (mp_eq (vIsSingleT a b h Q) ?_)
    exact q_eq hk.2 (by simp [hk.1])
  · exact hk.elim
def cIsSingleT := addC 32 kIsSingleT cValidT
theorem okIsSingleT : Sound env cIsSingleT := sound_add sIsSingleT (okValidT)

def kWUn (xs : List IV) (h : Heap) (K : IV → Heap → Prop) : Prop := match xs with
  | [.int .i64 o, .int .i64 a] => K (.int .i64 (wun o a)) h
  | _ => False
set_option maxRecDepth 100000 in
theorem vWUn (o a : Int) (h : Heap) (Q : IV → Heap → Prop) : dF (stdS cIsSingleT) env 47 noU noI noI [.int .i64 o, .int .i64 a] h Q = (
  brS (o == (20 : Int)) (Q (IV.int IntKind.i64 (IntKind.wrap IntKind.i64 ((0 : Int) - a))) h) (brS (o == (21 : Int)) (Q (IV.int IntKind.i64 (bvXor IntKind.i64 (-1 : Int) a)) h) (Q (IV.int IntKind.i64 (0 : Int)) h))) := by kernel_rfl
theorem sWUn : ∀ xs h Q, kWUn xs h Q → CallW env 47 xs h Q := by
  intro xs h Q hk
  unfold kWUn at hk
  split at hk
  · rename_i o a
    refine dF_sound (okIsSingleT) (mp_eq (vWUn o a h Q) ?_)
    repeat' (first | refine needS_intro ?_ ?_ | refine brS_intro (fun _ => ?_) (fun _ => ?_) | refine And.intro ?_ ?_)
    all_goals first | exact hk | (simp only [decide_eq_true_eq]; exact shBy_nonneg _) | (simp_all; done) | (refine q_eq hk ?_; congr 1; (try simp only [beq_iff_eq, beq_eq_false_iff_ne, ne_eq] at *); unfold wun; (repeat (first | rw [if_pos (by assumption)] | rw [if_neg (by assumption)])); first | done | rfl)
  · exact hk.elim
def cWUn := addC 47 kWUn cIsSingleT
theorem okWUn : Sound env cWUn := sound_add sWUn (okIsSingleT)

def kQuot (xs : List IV) (h : Heap) (K : IV → Heap → Prop) : Prop := match xs with
  | [.int .i64 a, .int .i64 b] => K (.int .i64 (quot a b)) h
  | _ => False
set_option maxRecDepth 100000 in
theorem vQuot (a b : Int) (h : Heap) (Q : IV → Heap → Prop) : dF (stdS cWUn) env 59 noU noI noI [.int .i64 a, .int .i64 b] h Q = (
  brS (b == (0 : Int)) (Q (IV.int IntKind.i64 (0 : Int)) h)
    (brS (b == (-1 : Int)) (Q (IV.int IntKind.i64 (IntKind.wrap IntKind.i64 ((0 : Int) - a))) h) (needS (!b == (0 : Int)) (Q (IV.int IntKind.i64 (IntKind.wrap IntKind.i64 (Int.tdiv a b))) h)))) := by kernel_rfl
theorem sQuot : ∀ xs h Q, kQuot xs h Q → CallW env 59 xs h Q := by
  intro xs h Q hk
  unfold kQuot at hk
  split at hk
  · rename_i a b
    refine dF_sound (okWUn) (mp_eq (vQuot a b h Q) ?_)
    repeat' (first | refine needS_intro ?_ ?_ | refine brS_intro (fun _ => ?_) (fun _ => ?_) | refine And.intro ?_ ?_)
    all_goals first | exact hk | (simp only [decide_eq_true_eq]; exact shBy_nonneg _) | (simp_all; done) | (refine q_eq hk ?_; congr 1; (try simp only [beq_iff_eq, beq_eq_false_iff_ne, ne_eq] at *); unfold quot; (repeat (first | rw [if_pos (by assumption)] | rw [if_neg (by assumption)])); first | done | rfl)
  · exact hk.elim
def cQuot := addC 59 kQuot cWUn
theorem okQuot : Sound env cQuot := sound_add sQuot (okWUn)

def kTruth (xs : List IV) (h : Heap) (K : IV → Heap → Prop) : Prop := match xs with
  | [.bool b] => K (.int .i64 (truth b)) h
  | _ => False
set_option maxRecDepth 100000 in
theorem vTruth (b : Bool) (h : Heap) (Q : IV → Heap → Prop) : dF (stdS cQuot) env 67 noU noI noI [.bool b] h Q = (
  brS b (Q (IV.int IntKind.i64 (1 : Int)) h) (Q (IV.int IntKind.i64 (0 : Int)) h)) := by kernel_rfl
theorem sTruth : ∀ xs h Q, kTruth xs h Q → CallW env 67 xs h Q := by
  intro xs h Q hk
  unfold kTruth at hk
  split at hk
  · rename_i b
    refine dF_sound (okQuot) (mp_eq (vTruth b h Q) ?_)
    repeat' (first | refine needS_intro ?_ ?_ | refine brS_intro (fun _ => ?_) (fun _ => ?_) | refine And.intro ?_ ?_)
    all_goals (refine q_eq hk ?_; simp_all [truth])
  · exact hk.elim
def cTruth := addC 67 kTruth cQuot
theorem okTruth : Sound env cTruth := sound_add sTruth (okQuot)

def kShCmp (xs : List IV) (h : Heap) (K : IV → Heap → Prop) : Prop := match xs with
  | [.int .i64 o, .int .i64 a, .int .i64 b] => K (.int .i64 (shcmp o a b)) h
  | _ => False
set_option maxRecDepth 100000 in
theorem vShCmp (o a b : Int) (h : Heap) (Q : IV → Heap → Prop) : dF (stdS cTruth) env 60 noU noI noI [.int .i64 o, .int .i64 a, .int .i64 b] h Q = (
  brS (o == (12 : Int))
    (needS (decide ((0 : Int) ≤ IntKind.wrap IntKind.u64 (bvAnd IntKind.i64 b (63 : Int))))
      (Q (IV.int IntKind.i64 (IntKind.wrap IntKind.i64 (a * (2 : Int) ^ min (Int.toNat (IntKind.wrap IntKind.u64 (bvAnd IntKind.i64 b (63 : Int)))) (64 : Nat)))) h))
    (brS (o == (13 : Int))
      (needS (decide ((0 : Int) ≤ IntKind.wrap IntKind.u64 (bvAnd IntKind.i64 b (63 : Int))))
        (Q (IV.int IntKind.i64 (IntKind.wrap IntKind.i64 (Int.fdiv (IntKind.wrap IntKind.u64 a) ((2 : Int) ^ min (Int.toNat (IntKind.wrap IntKind.u64 (bvAnd IntKind.i64 b (63 : Int)))) (64 : Nat))))) h))
      (brS (o == (14 : Int))
        (needS (decide ((0 : Int) ≤ IntKind.wrap IntKind.u64 (bvAnd IntKind.i64 b (63 : Int)))) (Q (IV.int IntKind.i64 (Int.fdiv a ((2 : Int) ^ min (Int.toNat (IntKind.wrap IntKind.u64 (bvAnd IntKind.i64 b (63 : Int)))) (64 : Nat)))) h))
        (brS (o == (15 : Int)) (Q (IV.int IntKind.i64 (truth (a == b))) h)
          (brS (o == (16 : Int)) (Q (IV.int IntKind.i64 (truth (a != b))) h)
            (brS (o == (17 : Int)) (Q (IV.int IntKind.i64 (truth (decide (a < b)))) h)
              (brS (o == (18 : Int)) (Q (IV.int IntKind.i64 (truth (decide (a ≤ b)))) h)
                (brS (o == (19 : Int)) (Q (IV.int IntKind.i64 (truth (decide (IntKind.wrap IntKind.u64 a < IntKind.wrap IntKind.u64 b)))) h) (Q (IV.int IntKind.i64 (0 : Int)) h))))))))) := by kernel_rfl
theorem sShCmp : ∀ xs h Q, kShCmp xs h Q → CallW env 60 xs h Q := by
  intro xs h Q hk
  unfold kShCmp at hk
  split at hk
  · rename_i o a b
    refine dF_sound (okTruth) (mp_eq (vShCmp o a b h Q) ?_)
    repeat' (first | refine needS_intro ?_ ?_ | refine brS_intro (fun _ => ?_) (fun _ => ?_) | refine And.intro ?_ ?_)
    all_goals first | exact hk | (simp only [decide_eq_true_eq]; exact shBy_nonneg _) | (simp_all; done) | (refine q_eq hk ?_; congr 1; (try simp only [beq_iff_eq, beq_eq_false_iff_ne, ne_eq] at *); unfold shcmp; (repeat (first | rw [if_pos (by assumption)] | rw [if_neg (by assumption)])); first | done | rfl)
  · exact hk.elim
def cShCmp := addC 60 kShCmp cTruth
theorem okShCmp : Sound env cShCmp := sound_add sShCmp (okTruth)

def kWBin (xs : List IV) (h : Heap) (K : IV → Heap → Prop) : Prop := match xs with
  | [.int .i64 o, .int .i64 a, .int .i64 b] => K (.int .i64 (wbin o a b)) h
  | _ => False
set_option maxRecDepth 100000 in
theorem vWBin (o a b : Int) (h : Heap) (Q : IV → Heap → Prop) : dF (stdS cShCmp) env 34 noU noI noI [.int .i64 o, .int .i64 a, .int .i64 b] h Q = (
  brS (o == (4 : Int)) (Q (IV.int IntKind.i64 (IntKind.wrap IntKind.i64 (a + b))) h)
    (brS (o == (5 : Int)) (Q (IV.int IntKind.i64 (IntKind.wrap IntKind.i64 (a - b))) h)
      (brS (o == (6 : Int)) (Q (IV.int IntKind.i64 (IntKind.wrap IntKind.i64 (a * b))) h)
        (brS (o == (7 : Int)) (Q (IV.int IntKind.i64 (quot a b)) h)
          (brS (o == (8 : Int)) (brS (b == (0 : Int)) (Q (IV.int IntKind.i64 (0 : Int)) h) (Q (IV.int IntKind.i64 (IntKind.wrap IntKind.i64 (a - IntKind.wrap IntKind.i64 (quot a b * b)))) h))
            (brS (o == (9 : Int)) (Q (IV.int IntKind.i64 (bvAnd IntKind.i64 a b)) h)
              (brS (o == (10 : Int)) (Q (IV.int IntKind.i64 (bvOr IntKind.i64 a b)) h) (brS (o == (11 : Int)) (Q (IV.int IntKind.i64 (bvXor IntKind.i64 a b)) h) (Q (IV.int IntKind.i64 (shcmp o a b)) h))))))))) := by kernel_rfl
theorem sWBin : ∀ xs h Q, kWBin xs h Q → CallW env 34 xs h Q := by
  intro xs h Q hk
  unfold kWBin at hk
  split at hk
  · rename_i o a b
    refine dF_sound (okShCmp) (mp_eq (vWBin o a b h Q) ?_)
    repeat' (first | refine needS_intro ?_ ?_ | refine brS_intro (fun _ => ?_) (fun _ => ?_) | refine And.intro ?_ ?_)
    all_goals first | exact hk | (simp only [decide_eq_true_eq]; exact shBy_nonneg _) | (simp_all; done) | (refine q_eq hk ?_; congr 1; (try simp only [beq_iff_eq, beq_eq_false_iff_ne, ne_eq] at *); unfold wbin; (repeat (first | rw [if_pos (by assumption)] | rw [if_neg (by assumption)])); first | done | rfl)
  · exact hk.elim
def cWBin := addC 34 kWBin cShCmp
theorem okWBin : Sound env cWBin := sound_add sWBin (okShCmp)

def kBoolWord (xs : List IV) (h : Heap) (K : IV → Heap → Prop) : Prop := match xs with
  | [.bool b] => K (.int .i64 (truth b)) h
  | _ => False
set_option maxRecDepth 100000 in
theorem vBoolWord (b : Bool) (h : Heap) (Q : IV → Heap → Prop) : dF (stdS cWBin) env 46 noU noI noI [.bool b] h Q = (
  brS b (Q (IV.int IntKind.i64 (1 : Int)) h) (Q (IV.int IntKind.i64 (0 : Int)) h)) := by kernel_rfl
theorem sBoolWord : ∀ xs h Q, kBoolWord xs h Q → CallW env 46 xs h Q := by
  intro xs h Q hk
  unfold kBoolWord at hk
  split at hk
  · rename_i b
    refine dF_sound (okWBin) (mp_eq (vBoolWord b h Q) ?_)
    repeat' (first | refine needS_intro ?_ ?_ | refine brS_intro (fun _ => ?_) (fun _ => ?_) | refine And.intro ?_ ?_)
    all_goals (refine q_eq hk ?_; simp_all [truth])
  · exact hk.elim
def cBoolWord := addC 46 kBoolWord cWBin
theorem okBoolWord : Sound env cBoolWord := sound_add sBoolWord (okWBin)

def kRDiv (xs : List IV) (h : Heap) (K : IV → Heap → Prop) : Prop := match xs with
  | [.int .i64 a, .int .i64 b] => K (.int .i64 (quot a b)) h
  | _ => False
set_option maxRecDepth 100000 in
theorem vRDiv (a b : Int) (h : Heap) (Q : IV → Heap → Prop) : dF (stdS cBoolWord) env 45 noU noI noI [.int .i64 a, .int .i64 b] h Q = (
  brS (b == (0 : Int)) (Q (IV.int IntKind.i64 (0 : Int)) h)
    (brS (b == (-1 : Int)) (Q (IV.int IntKind.i64 (IntKind.wrap IntKind.i64 ((0 : Int) - a))) h) (needS (!b == (0 : Int)) (Q (IV.int IntKind.i64 (IntKind.wrap IntKind.i64 (Int.tdiv a b))) h)))) := by kernel_rfl
theorem sRDiv : ∀ xs h Q, kRDiv xs h Q → CallW env 45 xs h Q := by
  intro xs h Q hk
  unfold kRDiv at hk
  split at hk
  · rename_i a b
    refine dF_sound (okBoolWord) (mp_eq (vRDiv a b h Q) ?_)
    repeat' (first | refine needS_intro ?_ ?_ | refine brS_intro (fun _ => ?_) (fun _ => ?_) | refine And.intro ?_ ?_)
    all_goals first | exact hk | (simp only [decide_eq_true_eq]; exact shBy_nonneg _) | (simp_all; done) | (refine q_eq hk ?_; congr 1; (try simp only [beq_iff_eq, beq_eq_false_iff_ne, ne_eq] at *); unfold quot; (repeat (first | rw [if_pos (by assumption)] | rw [if_neg (by assumption)])); first | done | rfl)
  · exact hk.elim
def cRDiv := addC 45 kRDiv cBoolWord
theorem okRDiv : Sound env cRDiv := sound_add sRDiv (okBoolWord)

def kRBin (xs : List IV) (h : Heap) (K : IV → Heap → Prop) : Prop := match xs with
  | [.int .i64 o, .int .i64 a, .int .i64 b] => K (.int .i64 (wbin o a b)) h
  | _ => False
set_option maxRecDepth 100000 in
theorem vRBin (o a b : Int) (h : Heap) (Q : IV → Heap → Prop) : dF (stdS cRDiv) env 18 noU noI noI [.int .i64 o, .int .i64 a, .int .i64 b] h Q = (
  brS (o == (4 : Int)) (Q (IV.int IntKind.i64 (IntKind.wrap IntKind.i64 (a + b))) h)
    (brS (o == (5 : Int)) (Q (IV.int IntKind.i64 (IntKind.wrap IntKind.i64 (a - b))) h)
      (brS (o == (6 : Int)) (Q (IV.int IntKind.i64 (IntKind.wrap IntKind.i64 (a * b))) h)
        (brS (o == (7 : Int)) (Q (IV.int IntKind.i64 (quot a b)) h)
          (brS (o == (8 : Int)) (brS (b == (0 : Int)) (Q (IV.int IntKind.i64 (0 : Int)) h) (Q (IV.int IntKind.i64 (IntKind.wrap IntKind.i64 (a - IntKind.wrap IntKind.i64 (quot a b * b)))) h))
            (brS (o == (9 : Int)) (Q (IV.int IntKind.i64 (bvAnd IntKind.i64 a b)) h)
              (brS (o == (10 : Int)) (Q (IV.int IntKind.i64 (bvOr IntKind.i64 a b)) h)
                (brS (o == (11 : Int)) (Q (IV.int IntKind.i64 (bvXor IntKind.i64 a b)) h)
                  (brS (o == (12 : Int))
                    (needS (decide ((0 : Int) ≤ IntKind.wrap IntKind.u64 (bvAnd IntKind.i64 b (63 : Int))))
                      (Q (IV.int IntKind.i64 (IntKind.wrap IntKind.i64 (a * (2 : Int) ^ min (Int.toNat (IntKind.wrap IntKind.u64 (bvAnd IntKind.i64 b (63 : Int)))) (64 : Nat)))) h))
                    (brS (o == (13 : Int))
                      (needS (decide ((0 : Int) ≤ IntKind.wrap IntKind.u64 (bvAnd IntKind.i64 b (63 : Int))))
                        (Q (IV.int IntKind.i64 (IntKind.wrap IntKind.i64 (Int.fdiv (IntKind.wrap IntKind.u64 a) ((2 : Int) ^ min (Int.toNat (IntKind.wrap IntKind.u64 (bvAnd IntKind.i64 b (63 : Int)))) (64 : Nat))))) h))
                      (brS (o == (14 : Int))
                        (needS (decide ((0 : Int) ≤ IntKind.wrap IntKind.u64 (bvAnd IntKind.i64 b (63 : Int))))
                          (Q (IV.int IntKind.i64 (Int.fdiv a ((2 : Int) ^ min (Int.toNat (IntKind.wrap IntKind.u64 (bvAnd IntKind.i64 b (63 : Int)))) (64 : Nat)))) h))
                        (brS (o == (15 : Int)) (Q (IV.int IntKind.i64 (truth (a == b))) h)
                          (brS (o == (16 : Int)) (Q (IV.int IntKind.i64 (truth (a != b))) h)
                            (brS (o == (17 : Int)) (Q (IV.int IntKind.i64 (truth (decide (a < b)))) h)
                              (brS (o == (18 : Int)) (Q (IV.int IntKind.i64 (truth (decide (a ≤ b)))) h)
                                (brS (o == (19 : Int)) (Q (IV.int IntKind.i64 (truth (decide (IntKind.wrap IntKind.u64 a < IntKind.wrap IntKind.u64 b)))) h) (Q (IV.int IntKind.i64 (0 : Int)) h))))))))))))))))) := by kernel_rfl
theorem sRBin : ∀ xs h Q, kRBin xs h Q → CallW env 18 xs h Q := by
  intro xs h Q hk
  unfold kRBin at hk
  split at hk
  · rename_i o a b
    refine dF_sound (okRDiv) (mp_eq (vRBin o a b h Q) ?_)
    repeat' (first | refine needS_intro ?_ ?_ | refine brS_intro (fun _ => ?_) (fun _ => ?_) | refine And.intro ?_ ?_)
    all_goals first | exact hk | (simp only [decide_eq_true_eq]; exact shBy_nonneg _) | (simp_all; done) | (refine q_eq hk ?_; congr 1; (try simp only [beq_iff_eq, beq_eq_false_iff_ne, ne_eq] at *); unfold wbin shcmp; (repeat (first | rw [if_pos (by assumption)] | rw [if_neg (by assumption)])); first | done | rfl)
  · exact hk.elim
def cRBin := addC 18 kRBin cRDiv
theorem okRBin : Sound env cRBin := sound_add sRBin (okRDiv)

def kXBin (xs : List IV) (h : Heap) (K : IV → Heap → Prop) : Prop := match xs with
  | [.int .i64 o, .agg [.int .i64 a, .int .i64 b], .agg [.int .i64 c, .int .i64 d]] => ((4 ≤ o ∧ o ≤ 19) ∧ ((a = b ∧ c = d) ∨ (a = minW ∧ b = maxW ∧ c = minW ∧ d = maxW))) ∧ K (.agg [.int .i64 (xbin o a b c d).1, .int .i64 (xbin o a b c d).2]) h
  | _ => False
set_option maxRecDepth 100000 in
theorem vXBin (o a b c d : Int) (h : Heap) (Q : IV → Heap → Prop) : dF (stdS cRBin) env 9 noU noI noI [.int .i64 o, .agg [.int .i64 a, .int .i64 b], .agg [.int .i64 c, .int .i64 d]] h Q = (
  brS (decide (o < (4 : Int))) (Q (IV.agg [IV.int IntKind.i64 (-9223372036854775808 : Int), IV.int IntKind.i64 (9223372036854775807 : Int)]) h)
    (brS (decide (o > (19 : Int))) (Q (IV.agg [IV.int IntKind.i64 (-9223372036854775808 : Int), IV.int IntKind.i64 (9223372036854775807 : Int)]) h)
      (a ≤ b ∧ c ≤ d ∧ a = b ∧ c = d ∧ Q (IV.agg [IV.int IntKind.i64 (wbin o a c), IV.int IntKind.i64 (wbin o a c)]) h))) := by kernel_rfl
theorem sXBin : ∀ xs h Q, kXBin xs h Q → CallW env 9 xs h Q := by
  intro xs h Q hk
  unfold kXBin at hk
  split at hk
  · rename_i o a b c d
    obtain ⟨⟨ho, hs⟩, hk⟩ := hk
    rcases hs with ⟨rfl, rfl⟩ | ⟨rfl, rfl, rfl, rfl⟩
    · unfold xbin at hk
      rw [if_pos ⟨rfl, rfl⟩] at hk
      refine dF_sound okRBin (mp_eq (vXBin o a a c c h Q) ?_)
      repeat' (first | refine needS_intro ?_ ?_ | refine brS_intro (fun _ => ?_) (fun _ => ?_) | refine And.intro ?_ ?_)
      all_goals first | exact hk | rfl | (exfalso; simp only [decide_eq_true_eq] at *; omega) | omega
    · have h2 : o = 4 ∨ o = 5 ∨ o = 6 ∨ o = 7 ∨ o = 8 ∨ o = 9 ∨ o = 10 ∨ o = 11 ∨ o = 12 ∨ o = 13 ∨ o = 14 ∨ o = 15 ∨ o = 16 ∨ o = 17 ∨ o = 18 ∨ o = 19 := by omega
      rcases h2 with rfl | rfl | rfl | rfl | rfl | rfl | rfl | rfl | rfl | rfl | rfl | rfl | rfl | rfl | rfl | rfl
      all_goals exact ⟨60, _, h, by kernel_rfl, hk⟩
  · exact hk.elim
def cXBin := addC 9 kXBin cRBin
theorem okXBin : Sound env cXBin := sound_add sXBin (okRBin)

def kXUn (xs : List IV) (h : Heap) (K : IV → Heap → Prop) : Prop := match xs with
  | [.int .i64 o, .agg [.int .i64 a, .int .i64 b]] => (o = 21 ∧ a = minW ∧ b = maxW) ∧ K (.agg [.int .i64 minW, .int .i64 maxW]) h
  | _ => False
theorem sXUn : ∀ xs h Q, kXUn xs h Q → CallW env 19 xs h Q := by
  intro xs h Q hk
  unfold kXUn at hk
  split at hk
  · obtain ⟨⟨rfl, rfl, rfl⟩, hk⟩ := hk; exact ⟨60, _, h, by kernel_rfl, hk⟩
  · exact hk.elim
def cXUn := addC 19 kXUn cXBin
theorem okXUn : Sound env cXUn := sound_add sXUn (okXBin)

def kExB (xs : List IV) (h : Heap) (K : IV → Heap → Prop) : Prop := match xs with
  | [] => K (.bool true) h
  | _ => False
theorem sExB : ∀ xs h Q, kExB xs h Q → CallW env 3 xs h Q := by
  intro xs h Q hk
  unfold kExB at hk
  split at hk
  · exact ⟨200, .bool true, h, by kernel_rfl, hk⟩
  · exact hk.elim
def cExB := addC 3 kExB cXUn
theorem okExB : Sound env cExB := sound_add sExB (okXUn)

def kExact (xs : List IV) (h : Heap) (K : IV → Heap → Prop) : Prop := match xs with
  | [.int .i64 op, .int .i64 a, .int .i64 b, .int .i64 p, .int .i64 q] => K (.bool true) h
  | _ => False
set_option maxRecDepth 100000 in
theorem vExact (op a b p q : Int) (h : Heap) (Q : IV → Heap → Prop) : dF (stdS cExB) env 5 noU noI noI [.int .i64 op, .int .i64 a, .int .i64 b, .int .i64 p, .int .i64 q] h Q = (
  ((0 : Int) < (16 : Int) ∧ (16 : Int) < (4611686018427387904 : Int)) ∧
    (((4 : Int) ≤ IntKind.wrap IntKind.i64 ((4 : Int) + op % (16 : Int)) ∧ IntKind.wrap IntKind.i64 ((4 : Int) + op % (16 : Int)) ≤ (19 : Int)) ∧
        (word a p = word a p ∧ word b q = word b q ∨ word a p = minW ∧ word a p = maxW ∧ word b q = minW ∧ word b q = maxW)) ∧
      (((4 : Int) ≤ IntKind.wrap IntKind.i64 ((4 : Int) + op % (16 : Int)) ∧ IntKind.wrap IntKind.i64 ((4 : Int) + op % (16 : Int)) ≤ (19 : Int)) ∧
          ((-9223372036854775808 : Int) = (9223372036854775807 : Int) ∧ (-9223372036854775808 : Int) = (9223372036854775807 : Int) ∨
            (-9223372036854775808 : Int) = minW ∧ (9223372036854775807 : Int) = maxW ∧ (-9223372036854775808 : Int) = minW ∧ (9223372036854775807 : Int) = maxW)) ∧
        brS (decide (IntKind.wrap IntKind.i64 ((4 : Int) + op % (16 : Int)) ≥ (15 : Int)))
          (brS
            (!(Prod.fst (xbin (IntKind.wrap IntKind.i64 ((4 : Int) + op % (16 : Int))) (-9223372036854775808 : Int) (9223372036854775807 : Int) (-9223372036854775808 : Int) (9223372036854775807 : Int)) == (0 : Int) &&
                (Prod.snd (xbin (IntKind.wrap IntKind.i64 ((4 : Int) + op % (16 : Int))) (-9223372036854775808 : Int) (9223372036854775807 : Int) (-9223372036854775808 : Int) (9223372036854775807 : Int)) == (1 : Int) && true)))
            (Q (IV.bool false) h)
            (brS (decide (IntKind.wrap IntKind.i64 ((4 : Int) + op % (16 : Int)) < (15 : Int)))
              (brS
                (!(Prod.fst (xbin (IntKind.wrap IntKind.i64 ((4 : Int) + op % (16 : Int))) (-9223372036854775808 : Int) (9223372036854775807 : Int) (-9223372036854775808 : Int) (9223372036854775807 : Int)) == (-9223372036854775808 : Int) &&
                    (Prod.snd (xbin (IntKind.wrap IntKind.i64 ((4 : Int) + op % (16 : Int))) (-9223372036854775808 : Int) (9223372036854775807 : Int) (-9223372036854775808 : Int) (9223372036854775807 : Int)) == (9223372036854775807 : Int) &&
                      true)))
                (Q (IV.bool false) h)
                (brS
                  (Prod.fst (xbin (IntKind.wrap IntKind.i64 ((4 : Int) + op % (16 : Int))) (word a p) (word a p) (word b q) (word b q)) == wbin (IntKind.wrap IntKind.i64 ((4 : Int) + op % (16 : Int))) (word a p) (word b q) &&
                    (Prod.snd (xbin (IntKind.wrap IntKind.i64 ((4 : Int) + op % (16 : Int))) (word a p) (word a p) (word b q) (word b q)) == wbin (IntKind.wrap IntKind.i64 ((4 : Int) + op % (16 : Int))) (word a p) (word b q) && true))
                  (((21 : Int) = (21 : Int) ∧ (-9223372036854775808 : Int) = minW ∧ (9223372036854775807 : Int) = maxW) ∧ Q (IV.bool true) h) (Q (IV.bool false) h)))
              (brS
                (Prod.fst (xbin (IntKind.wrap IntKind.i64 ((4 : Int) + op % (16 : Int))) (word a p) (word a p) (word b q) (word b q)) == wbin (IntKind.wrap IntKind.i64 ((4 : Int) + op % (16 : Int))) (word a p) (word b q) &&
                  (Prod.snd (xbin (IntKind.wrap IntKind.i64 ((4 : Int) + op % (16 : Int))) (word a p) (word a p) (word b q) (word b q)) == wbin (IntKind.wrap IntKind.i64 ((4 : Int) + op % (16 : Int))) (word a p) (word b q) && true))
                (((21 : Int) = (21 : Int) ∧ (-9223372036854775808 : Int) = minW ∧ (9223372036854775807 : Int) = maxW) ∧ Q (IV.bool true) h) (Q (IV.bool false) h))))
          (brS (decide (IntKind.wrap IntKind.i64 ((4 : Int) + op % (16 : Int)) < (15 : Int)))
            (brS
              (!(Prod.fst (xbin (IntKind.wrap IntKind.i64 ((4 : Int) + op % (16 : Int))) (-9223372036854775808 : Int) (9223372036854775807 : Int) (-9223372036854775808 : Int) (9223372036854775807 : Int)) == (-9223372036854775808 : Int) &&
                  (Prod.snd (xbin (IntKind.wrap IntKind.i64 ((4 : Int) + op % (16 : Int))) (-9223372036854775808 : Int) (9223372036854775807 : Int) (-9223372036854775808 : Int) (9223372036854775807 : Int)) == (9223372036854775807 : Int) &&
                    true)))
              (Q (IV.bool false) h)
              (brS
                (Prod.fst (xbin (IntKind.wrap IntKind.i64 ((4 : Int) + op % (16 : Int))) (word a p) (word a p) (word b q) (word b q)) == wbin (IntKind.wrap IntKind.i64 ((4 : Int) + op % (16 : Int))) (word a p) (word b q) &&
                  (Prod.snd (xbin (IntKind.wrap IntKind.i64 ((4 : Int) + op % (16 : Int))) (word a p) (word a p) (word b q) (word b q)) == wbin (IntKind.wrap IntKind.i64 ((4 : Int) + op % (16 : Int))) (word a p) (word b q) && true))
                (((21 : Int) = (21 : Int) ∧ (-9223372036854775808 : Int) = minW ∧ (9223372036854775807 : Int) = maxW) ∧ Q (IV.bool true) h) (Q (IV.bool false) h)))
            (brS
              (Prod.fst (xbin (IntKind.wrap IntKind.i64 ((4 : Int) + op % (16 : Int))) (word a p) (word a p) (word b q) (word b q)) == wbin (IntKind.wrap IntKind.i64 ((4 : Int) + op % (16 : Int))) (word a p) (word b q) &&
                (Prod.snd (xbin (IntKind.wrap IntKind.i64 ((4 : Int) + op % (16 : Int))) (word a p) (word a p) (word b q) (word b q)) == wbin (IntKind.wrap IntKind.i64 ((4 : Int) + op % (16 : Int))) (word a p) (word b q) && true))
              (((21 : Int) = (21 : Int) ∧ (-9223372036854775808 : Int) = minW ∧ (9223372036854775807 : Int) = maxW) ∧ Q (IV.bool true) h) (Q (IV.bool false) h)))) := by kernel_rfl
theorem sExact : ∀ xs h Q, kExact xs h Q → CallW env 5 xs h Q := by
  intro xs h Q hk
  unfold kExact at hk
  split at hk
  · rename_i op a b p q
    refine dF_sound (okExB) (mp_eq (vExact op a b p q h Q) ?_)
    have ho : IntKind.i64.wrap (4 + op % 16) = 4 + op % 16 := IntWalk.i64_in _ (by omega)
    simp only [ho]
    have ho1 : 4 ≤ 4 + op % 16 ∧ 4 + op % 16 ≤ 19 := by omega
    generalize 4 + op % 16 = o at *
    rcases Int.lt_or_le o 15 with h15 | h15
    · simp only [xbin_single, xbin_lo h15]
      repeat' (first | refine needS_intro ?_ ?_ | refine brS_intro (fun _ => ?_) (fun _ => ?_) | refine And.intro ?_ ?_)
      all_goals first | exact hk | trivial | rfl | omega | (simp; done) | (left; exact ⟨rfl, rfl⟩) | (right; exact ⟨rfl, rfl, rfl, rfl⟩) | (exfalso; simp only [decide_eq_true_eq, decide_eq_false_iff_not] at *; omega) | (exfalso; simp_all; done)
    · simp only [xbin_single, xbin_hi h15]
      repeat' (first | refine needS_intro ?_ ?_ | refine brS_intro (fun _ => ?_) (fun _ => ?_) | refine And.intro ?_ ?_)
      all_goals first | exact hk | trivial | rfl | omega | (simp; done) | (left; exact ⟨rfl, rfl⟩) | (right; exact ⟨rfl, rfl, rfl, rfl⟩) | (exfalso; simp only [decide_eq_true_eq, decide_eq_false_iff_not] at *; omega) | (exfalso; simp_all; done)
  · exact hk.elim
def cExact := addC 5 kExact cExB
theorem okExact : Sound env cExact := sound_add sExact (okExB)

end Go.Proofs.Ytahafnjlmcmhfaa
