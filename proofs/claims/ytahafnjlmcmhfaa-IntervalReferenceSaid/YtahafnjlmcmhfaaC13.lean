/-
  Intervals: what the parts of the interval arithmetic compute, in the program and in the reference.
  Conditions: none.
-/
import Derived.Test.YtahafnjlmcmhfaaB13
import Derived.Test.YtahafnjlmcmhfaaN13
import Derived.KernelRfl
set_option linter.unusedVariables false
set_option linter.unusedSimpArgs false
namespace Go.Proofs.Ytahafnjlmcmhfaa
open Go.Pv Go.M13
def cBase := addC 8 kIsect (addC 10 kContains (addC 13 kJoin (addC 14 kWiden cRBin)))
theorem okBase : Sound env cBase := sound_add sIsect (sound_add sContains (sound_add sJoin (sound_add sWiden okRBin)))
theorem bvAnd63 (c : Int) : bvAnd .i64 c 63 = c % 64 := iand63 c
def kValidG (xs : List IV) (h : Heap) (K : IV → Heap → Prop) : Prop := match xs with
  | [.agg [.int .i64 a, .int .i64 b]] => K (.bool (decide (a ≤ b))) h
  | _ => False
set_option maxRecDepth 100000 in
theorem vValidG (a b : Int) (h : Heap) (Q : IV → Heap → Prop) : dF (stdS cBase) env 11 noU noI noI [.agg [.int .i64 a, .int .i64 b]] h Q = (
  Q (IV.bool (decide (a ≤ b))) h) := by kernel_rfl
theorem sValidG : ∀ xs h Q, kValidG xs h Q → CallW env 11 xs h Q := by
  intro xs h Q hk
  unfold kValidG at hk
  split at hk
  · rename_i a b
    refine dF_sound (okBase) (mp_eq (vValidG a b h Q) ?_)
    exact hk
  · exact hk.elim
def cValidG := addC 11 kValidG cBase
theorem okValidG : Sound env cValidG := sound_add sValidG (okBase)

def kIsSingleG (xs : List IV) (h : Heap) (K : IV → Heap → Prop) : Prop := match xs with
  | [.agg [.int .i64 a, .int .i64 b]] => K (.bool (a == b)) h
  | _ => False
set_option maxRecDepth 100000 in
theorem vIsSingleG (a b : Int) (h : Heap) (Q : IV → Heap → Prop) : dF (stdS cValidG) env 32 noU noI noI [.agg [.int .i64 a, .int .i64 b]] h Q = (
  Q (IV.bool (a == b)) h) := by kernel_rfl
theorem sIsSingleG : ∀ xs h Q, kIsSingleG xs h Q → CallW env 32 xs h Q := by
  intro xs h Q hk
  unfold kIsSingleG at hk
  split at hk
  · rename_i a b
    refine dF_sound (okValidG) (mp_eq (vIsSingleG a b h Q) ?_)
    exact hk
  · exact hk.elim
def cIsSingleG := addC 32 kIsSingleG cValidG
theorem okIsSingleG : Sound env cIsSingleG := sound_add sIsSingleG (okValidG)

def kBoolean (xs : List IV) (h : Heap) (K : IV → Heap → Prop) : Prop := match xs with
  | [.bool b, .bool c] => K (.agg [.int .i64 (tri b c).1, .int .i64 (tri b c).2]) h
  | _ => False
set_option maxRecDepth 100000 in
theorem vBoolean (b c : Bool) (h : Heap) (Q : IV → Heap → Prop) : dF (stdS cIsSingleG) env 63 noU noI noI [.bool b, .bool c] h Q = (
  brS b (Q (IV.agg [IV.int IntKind.i64 (1 : Int), IV.int IntKind.i64 (1 : Int)]) h)
    (brS c (Q (IV.agg [IV.int IntKind.i64 (0 : Int), IV.int IntKind.i64 (0 : Int)]) h) (Q (IV.agg [IV.int IntKind.i64 (0 : Int), IV.int IntKind.i64 (1 : Int)]) h))) := by kernel_rfl
theorem sBoolean : ∀ xs h Q, kBoolean xs h Q → CallW env 63 xs h Q := by
  intro xs h Q hk
  unfold kBoolean at hk
  split at hk
  · rename_i b c
    refine dF_sound (okIsSingleG) (mp_eq (vBoolean b c h Q) ?_)
    repeat' (first | refine needS_intro ?_ ?_ | refine brS_intro (fun _ => ?_) (fun _ => ?_) | refine And.intro ?_ ?_)
    all_goals first | exact hk | (refine q_eq hk ?_; simp only [IV.agg.injEq, IV.tuple.injEq, IV.int.injEq, IV.bool.injEq, List.cons.injEq, true_and, and_true]; grind [tri])
  · exact hk.elim
def cBoolean := addC 63 kBoolean cIsSingleG
theorem okBoolean : Sound env cBoolean := sound_add sBoolean (okIsSingleG)

def kSum (xs : List IV) (h : Heap) (K : IV → Heap → Prop) : Prop := match xs with
  | [.int .i64 a, .int .i64 b] => (inR a ∧ inR b) ∧ K (.tuple [.int .i64 (IntKind.i64.wrap (a + b)), .bool (inRb (a + b))]) h
  | _ => False
set_option maxRecDepth 100000 in
theorem vSum (a b : Int) (h : Heap) (Q : IV → Heap → Prop) : dF (stdS cBoolean) env 36 noU noI noI [.int .i64 a, .int .i64 b] h Q = (
  Q (IV.tuple [IV.int IntKind.i64 (IntKind.wrap IntKind.i64 (a + b)), IV.bool (decide (IntKind.wrap IntKind.i64 (a + b) < a) == decide (b < (0 : Int)))]) h) := by kernel_rfl
theorem sSum : ∀ xs h Q, kSum xs h Q → CallW env 36 xs h Q := by
  intro xs h Q hk
  unfold kSum at hk
  split at hk
  · rename_i a b
    refine dF_sound (okBoolean) (mp_eq (vSum a b h Q) ?_)
    obtain ⟨⟨h1, h2⟩, hk⟩ := hk
    refine q_eq hk ?_
    rw [sum_ok h1 h2]
  · exact hk.elim
def cSum := addC 36 kSum cBoolean
theorem okSum : Sound env cSum := sound_add sSum (okBoolean)

def kDiff (xs : List IV) (h : Heap) (K : IV → Heap → Prop) : Prop := match xs with
  | [.int .i64 a, .int .i64 b] => (inR a ∧ inR b) ∧ K (.tuple [.int .i64 (IntKind.i64.wrap (a - b)), .bool (inRb (a - b))]) h
  | _ => False
set_option maxRecDepth 100000 in
theorem vDiff (a b : Int) (h : Heap) (Q : IV → Heap → Prop) : dF (stdS cSum) env 37 noU noI noI [.int .i64 a, .int .i64 b] h Q = (
  Q (IV.tuple [IV.int IntKind.i64 (IntKind.wrap IntKind.i64 (a - b)), IV.bool (decide (IntKind.wrap IntKind.i64 (a - b) > a) == decide (b < (0 : Int)))]) h) := by kernel_rfl
theorem sDiff : ∀ xs h Q, kDiff xs h Q → CallW env 37 xs h Q := by
  intro xs h Q hk
  unfold kDiff at hk
  split at hk
  · rename_i a b
    refine dF_sound (okSum) (mp_eq (vDiff a b h Q) ?_)
    obtain ⟨⟨h1, h2⟩, hk⟩ := hk
    refine q_eq hk ?_
    rw [diff_ok h1 h2]
  · exact hk.elim
def cDiff := addC 37 kDiff cSum
theorem okDiff : Sound env cDiff := sound_add sDiff (okSum)

def kBoundsS (xs : List IV) (h : Heap) (K : IV → Heap → Prop) : Prop := match xs with
  | [.int .i64 a, .int .i64 b, .int .i64 c, .int .i64 d, .func (.func 36) [] []] => ((inR a ∧ inR b) ∧ (inR c ∧ inR d)) ∧ K (.agg [.int .i64 (bnd (a + b) (c + d)).1, .int .i64 (bnd (a + b) (c + d)).2]) h
  | _ => False
set_option maxRecDepth 100000 in
theorem vBoundsS (a b c d : Int) (h : Heap) (Q : IV → Heap → Prop) : dF (stdS cDiff) env 35 noU noI noI [.int .i64 a, .int .i64 b, .int .i64 c, .int .i64 d, .func (.func 36) [] []] h Q = (
  (inR a ∧ inR b) ∧
    (inR c ∧ inR d) ∧
      brS (!inRb (a + b)) (Q (IV.agg [IV.int IntKind.i64 (-9223372036854775808 : Int), IV.int IntKind.i64 (9223372036854775807 : Int)]) h)
        (brS (!inRb (c + d)) (Q (IV.agg [IV.int IntKind.i64 (-9223372036854775808 : Int), IV.int IntKind.i64 (9223372036854775807 : Int)]) h)
          (Q (IV.agg [IV.int IntKind.i64 (IntKind.wrap IntKind.i64 (a + b)), IV.int IntKind.i64 (IntKind.wrap IntKind.i64 (c + d))]) h))) := by kernel_rfl
theorem sBoundsS : ∀ xs h Q, kBoundsS xs h Q → CallW env 35 xs h Q := by
  intro xs h Q hk
  unfold kBoundsS at hk
  split at hk
  · rename_i a b c d
    refine dF_sound (okDiff) (mp_eq (vBoundsS a b c d h Q) ?_)
    obtain ⟨⟨⟨ha, hb⟩, hc, hd⟩, hk⟩ := hk
    refine ⟨⟨ha, hb⟩, ⟨hc, hd⟩, brS_intro (fun h1 => q_eq hk ?_) (fun h1 => brS_intro (fun h2 => q_eq hk ?_) (fun h2 => q_eq hk ?_))⟩
    · unfold bnd; simp_all
    · unfold bnd; simp_all
    · simp only [Bool.not_eq_false'] at h1 h2; rw [inRb_wrap h1, inRb_wrap h2]; unfold bnd; rw [h1, h2]; rfl
  · exact hk.elim
def cBoundsS := addC 35 kBoundsS cDiff
theorem okBoundsS : Sound env cBoundsS := sound_add sBoundsS (okDiff)

def kBoundsD (xs : List IV) (h : Heap) (K : IV → Heap → Prop) : Prop := match xs with
  | [.int .i64 a, .int .i64 b, .int .i64 c, .int .i64 d, .func (.func 37) [] []] => ((inR a ∧ inR b) ∧ (inR c ∧ inR d)) ∧ K (.agg [.int .i64 (bnd (a - b) (c - d)).1, .int .i64 (bnd (a - b) (c - d)).2]) h
  | _ => False
set_option maxRecDepth 100000 in
theorem vBoundsD (a b c d : Int) (h : Heap) (Q : IV → Heap → Prop) : dF (stdS cBoundsS) env 35 noU noI noI [.int .i64 a, .int .i64 b, .int .i64 c, .int .i64 d, .func (.func 37) [] []] h Q = (
  (inR a ∧ inR b) ∧
    (inR c ∧ inR d) ∧
      brS (!inRb (a - b)) (Q (IV.agg [IV.int IntKind.i64 (-9223372036854775808 : Int), IV.int IntKind.i64 (9223372036854775807 : Int)]) h)
        (brS (!inRb (c - d)) (Q (IV.agg [IV.int IntKind.i64 (-9223372036854775808 : Int), IV.int IntKind.i64 (9223372036854775807 : Int)]) h)
          (Q (IV.agg [IV.int IntKind.i64 (IntKind.wrap IntKind.i64 (a - b)), IV.int IntKind.i64 (IntKind.wrap IntKind.i64 (c - d))]) h))) := by kernel_rfl
theorem sBoundsD : ∀ xs h Q, kBoundsD xs h Q → CallW env 35 xs h Q := by
  intro xs h Q hk
  unfold kBoundsD at hk
  split at hk
  · rename_i a b c d
    refine dF_sound (okBoundsS) (mp_eq (vBoundsD a b c d h Q) ?_)
    obtain ⟨⟨⟨ha, hb⟩, hc, hd⟩, hk⟩ := hk
    refine ⟨⟨ha, hb⟩, ⟨hc, hd⟩, brS_intro (fun h1 => q_eq hk ?_) (fun h1 => brS_intro (fun h2 => q_eq hk ?_) (fun h2 => q_eq hk ?_))⟩
    · unfold bnd; simp_all
    · unfold bnd; simp_all
    · simp only [Bool.not_eq_false'] at h1 h2; rw [inRb_wrap h1, inRb_wrap h2]; unfold bnd; rw [h1, h2]; rfl
  · exact hk.elim
def cBoundsD := addC 35 kBoundsD cBoundsS
theorem okBoundsD : Sound env cBoundsD := sound_add sBoundsD (okBoundsS)

def kRem (xs : List IV) (h : Heap) (K : IV → Heap → Prop) : Prop := match xs with
  | [.agg [.int .i64 a, .int .i64 b], .agg [.int .i64 c, .int .i64 d]] => (((inR a ∧ inR b) ∧ (inR c ∧ inR d)) ∧ c ≤ d) ∧ K (.agg [.int .i64 (irem a b c d).1, .int .i64 (irem a b c d).2]) h
  | _ => False
set_option maxRecDepth 100000 in
theorem vRem (a b c d : Int) (h : Heap) (Q : IV → Heap → Prop) : dF (stdS cBoundsD) env 41 noU noI noI [.agg [.int .i64 a, .int .i64 b], .agg [.int .i64 c, .int .i64 d]] h Q = (
  brS (decide (c < (1 : Int))) (Q (IV.agg [IV.int IntKind.i64 (-9223372036854775808 : Int), IV.int IntKind.i64 (9223372036854775807 : Int)]) h)
    (brS (decide (a < (0 : Int)))
      (brS (decide (b > (0 : Int)))
        (Q
          (IV.agg
            [IV.int IntKind.i64 (if IntKind.wrap IntKind.i64 ((1 : Int) - d) > a then IntKind.wrap IntKind.i64 ((1 : Int) - d) else a),
              IV.int IntKind.i64 (if IntKind.wrap IntKind.i64 (d - (1 : Int)) < b then IntKind.wrap IntKind.i64 (d - (1 : Int)) else b)])
          h)
        (Q (IV.agg [IV.int IntKind.i64 (if IntKind.wrap IntKind.i64 ((1 : Int) - d) > a then IntKind.wrap IntKind.i64 ((1 : Int) - d) else a), IV.int IntKind.i64 (0 : Int)]) h))
      (brS (decide (b > (0 : Int))) (Q (IV.agg [IV.int IntKind.i64 (0 : Int), IV.int IntKind.i64 (if IntKind.wrap IntKind.i64 (d - (1 : Int)) < b then IntKind.wrap IntKind.i64 (d - (1 : Int)) else b)]) h)
        (Q (IV.agg [IV.int IntKind.i64 (0 : Int), IV.int IntKind.i64 (0 : Int)]) h)))) := by kernel_rfl
theorem sRem : ∀ xs h Q, kRem xs h Q → CallW env 41 xs h Q := by
  intro xs h Q hk
  unfold kRem at hk
  split at hk
  · rename_i a b c d
    refine dF_sound (okBoundsD) (mp_eq (vRem a b c d h Q) ?_)
    obtain ⟨⟨⟨⟨ha, hb⟩, hc, hd⟩, hcd⟩, hk⟩ := hk
    unfold inR at ha hb hc hd
    refine brS_intro (fun h1 => q_eq hk ?_) (fun h1 => ?_)
    · simp only [decide_eq_true_eq] at h1; unfold irem; rw [if_pos h1]
    simp only [decide_eq_false_iff_not] at h1
    rw [IntWalk.i64_in (1 - d) (by omega), IntWalk.i64_in (d - 1) (by omega)]
    repeat' (first | refine needS_intro ?_ ?_ | refine brS_intro (fun _ => ?_) (fun _ => ?_) | refine And.intro ?_ ?_)
    all_goals first | exact hk | (refine q_eq hk ?_; simp only [IV.agg.injEq, IV.tuple.injEq, IV.int.injEq, IV.bool.injEq, List.cons.injEq, true_and, and_true]; grind [irem])
  · exact hk.elim
def cRem := addC 41 kRem cBoundsD
theorem okRem : Sound env cRem := sound_add sRem (okBoundsD)

def kCmp (xs : List IV) (h : Heap) (K : IV → Heap → Prop) : Prop := match xs with
  | [.int .i64 o, .agg [.int .i64 a, .int .i64 b], .agg [.int .i64 c, .int .i64 d]] => (a ≤ b ∧ c ≤ d) ∧ K (.agg [.int .i64 (icmp o a b c d).1, .int .i64 (icmp o a b c d).2]) h
  | _ => False
set_option maxRecDepth 100000 in
theorem vCmp (o a b c d : Int) (h : Heap) (Q : IV → Heap → Prop) : dF (stdS cRem) env 44 noU noI noI [.int .i64 o, .agg [.int .i64 a, .int .i64 b], .agg [.int .i64 c, .int .i64 d]] h Q = (
  brS (o == (15 : Int)) (Q (IV.agg [IV.int IntKind.i64 (Prod.fst (tri false !meets a b c d)), IV.int IntKind.i64 (Prod.snd (tri false !meets a b c d))]) h)
    (brS (o == (16 : Int)) (Q (IV.agg [IV.int IntKind.i64 (Prod.fst (tri (!meets a b c d) false)), IV.int IntKind.i64 (Prod.snd (tri (!meets a b c d) false))]) h)
      (brS (o == (18 : Int)) (Q (IV.agg [IV.int IntKind.i64 (Prod.fst (tri (decide (b ≤ c)) (decide (a > d)))), IV.int IntKind.i64 (Prod.snd (tri (decide (b ≤ c)) (decide (a > d))))]) h)
        (brS (o == (19 : Int))
          (brS (decide ((if c < a then c else a) < (0 : Int)))
            (brS (decide ((if d > b then d else b) ≥ (0 : Int))) (Q (IV.agg [IV.int IntKind.i64 (0 : Int), IV.int IntKind.i64 (1 : Int)]) h)
              (Q (IV.agg [IV.int IntKind.i64 (Prod.fst (tri (decide (b < c)) (decide (a ≥ d)))), IV.int IntKind.i64 (Prod.snd (tri (decide (b < c)) (decide (a ≥ d))))]) h))
            (Q (IV.agg [IV.int IntKind.i64 (Prod.fst (tri (decide (b < c)) (decide (a ≥ d)))), IV.int IntKind.i64 (Prod.snd (tri (decide (b < c)) (decide (a ≥ d))))]) h))
          (Q (IV.agg [IV.int IntKind.i64 (Prod.fst (tri (decide (b < c)) (decide (a ≥ d)))), IV.int IntKind.i64 (Prod.snd (tri (decide (b < c)) (decide (a ≥ d))))]) h))))) := by kernel_rfl
theorem sCmp : ∀ xs h Q, kCmp xs h Q → CallW env 44 xs h Q := by
  intro xs h Q hk
  unfold kCmp at hk
  split at hk
  · rename_i o a b c d
    refine dF_sound (okRem) (mp_eq (vCmp o a b c d h Q) ?_)
    obtain ⟨⟨h1, h2⟩, hk⟩ := hk
    repeat' (first | refine needS_intro ?_ ?_ | refine brS_intro (fun _ => ?_) (fun _ => ?_) | refine And.intro ?_ ?_)
    all_goals first | exact hk | (refine q_eq hk ?_; simp only [IV.agg.injEq, IV.tuple.injEq, IV.int.injEq, IV.bool.injEq, List.cons.injEq, true_and, and_true]; grind [icmp])
  · exact hk.elim
def cCmp := addC 44 kCmp cRem
theorem okCmp : Sound env cCmp := sound_add sCmp (okRem)

def kSelect (xs : List IV) (h : Heap) (K : IV → Heap → Prop) : Prop := match xs with
  | [.agg [.int .i64 a, .int .i64 b], .agg [.int .i64 c, .int .i64 d], .agg [.int .i64 e, .int .i64 f]] => K (.agg [.int .i64 (isel a b c d e f).1, .int .i64 (isel a b c d e f).2]) h
  | _ => False
set_option maxRecDepth 100000 in
theorem vSelect (a b c d e f : Int) (h : Heap) (Q : IV → Heap → Prop) : dF (stdS cCmp) env 22 noU noI noI [.agg [.int .i64 a, .int .i64 b], .agg [.int .i64 c, .int .i64 d], .agg [.int .i64 e, .int .i64 f]] h Q = (
  brS (!decide (a ≤ b)) (Q (IV.agg [IV.int IntKind.i64 (-9223372036854775808 : Int), IV.int IntKind.i64 (9223372036854775807 : Int)]) h)
    (brS (!decide (c ≤ d)) (Q (IV.agg [IV.int IntKind.i64 (-9223372036854775808 : Int), IV.int IntKind.i64 (9223372036854775807 : Int)]) h)
      (brS (!decide (e ≤ f)) (Q (IV.agg [IV.int IntKind.i64 (-9223372036854775808 : Int), IV.int IntKind.i64 (9223372036854775807 : Int)]) h)
        (brS (a == (0 : Int))
          (brS (b == (0 : Int)) (Q (IV.agg [IV.int IntKind.i64 e, IV.int IntKind.i64 f]) h)
            (brS (!contains a b (0 : Int)) (Q (IV.agg [IV.int IntKind.i64 c, IV.int IntKind.i64 d]) h) (Q (IV.agg [IV.int IntKind.i64 (min c e), IV.int IntKind.i64 (max d f)]) h)))
          (brS (!contains a b (0 : Int)) (Q (IV.agg [IV.int IntKind.i64 c, IV.int IntKind.i64 d]) h) (Q (IV.agg [IV.int IntKind.i64 (min c e), IV.int IntKind.i64 (max d f)]) h)))))) := by kernel_rfl
theorem sSelect : ∀ xs h Q, kSelect xs h Q → CallW env 22 xs h Q := by
  intro xs h Q hk
  unfold kSelect at hk
  split at hk
  · rename_i a b c d e f
    refine dF_sound (okCmp) (mp_eq (vSelect a b c d e f h Q) ?_)
    repeat' (first | refine needS_intro ?_ ?_ | refine brS_intro (fun _ => ?_) (fun _ => ?_) | refine And.intro ?_ ?_)
    all_goals first | exact hk | (refine q_eq hk ?_; simp only [IV.agg.injEq, IV.tuple.injEq, IV.int.injEq, IV.bool.injEq, List.cons.injEq, true_and, and_true]; grind [isel])
  · exact hk.elim
def cSelect := addC 22 kSelect cCmp
theorem okSelect : Sound env cSelect := sound_add sSelect (okCmp)

def kRSingle (xs : List IV) (h : Heap) (K : IV → Heap → Prop) : Prop := match xs with
  | [.agg [.int .i64 a, .int .i64 b]] => K (.bool (a == b)) h
  | _ => False
set_option maxRecDepth 100000 in
theorem vRSingle (a b : Int) (h : Heap) (Q : IV → Heap → Prop) : dF (stdS cSelect) env 48 noU noI noI [.agg [.int .i64 a, .int .i64 b]] h Q = (
  Q (IV.bool (a == b)) h) := by kernel_rfl
theorem sRSingle : ∀ xs h Q, kRSingle xs h Q → CallW env 48 xs h Q := by
  intro xs h Q hk
  unfold kRSingle at hk
  split at hk
  · rename_i a b
    refine dF_sound (okSelect) (mp_eq (vRSingle a b h Q) ?_)
    exact hk
  · exact hk.elim
def cRSingle := addC 48 kRSingle cSelect
theorem okRSingle : Sound env cRSingle := sound_add sRSingle (okSelect)

def kRExactly (xs : List IV) (h : Heap) (K : IV → Heap → Prop) : Prop := match xs with
  | [.int .i64 a] => K (.agg [.int .i64 a, .int .i64 a]) h
  | _ => False
set_option maxRecDepth 100000 in
theorem vRExactly (a : Int) (h : Heap) (Q : IV → Heap → Prop) : dF (stdS cRSingle) env 49 noU noI noI [.int .i64 a] h Q = (
  Q (IV.agg [IV.int IntKind.i64 a, IV.int IntKind.i64 a]) h) := by kernel_rfl
theorem sRExactly : ∀ xs h Q, kRExactly xs h Q → CallW env 49 xs h Q := by
  intro xs h Q hk
  unfold kRExactly at hk
  split at hk
  · rename_i a
    refine dF_sound (okRSingle) (mp_eq (vRExactly a h Q) ?_)
    exact hk
  · exact hk.elim
def cRExactly := addC 49 kRExactly cRSingle
theorem okRExactly : Sound env cRExactly := sound_add sRExactly (okRSingle)

def kRAdd (xs : List IV) (h : Heap) (K : IV → Heap → Prop) : Prop := match xs with
  | [.int .i64 a, .int .i64 b] => (inR a ∧ inR b) ∧ K (.tuple [.int .i64 (IntKind.i64.wrap (a + b)), .bool (inRb (a + b))]) h
  | _ => False
set_option maxRecDepth 100000 in
theorem vRAdd (a b : Int) (h : Heap) (Q : IV → Heap → Prop) : dF (stdS cRExactly) env 50 noU noI noI [.int .i64 a, .int .i64 b] h Q = (
  brS (!decide (a < (0 : Int)) == decide (b < (0 : Int))) (Q (IV.tuple [IV.int IntKind.i64 (IntKind.wrap IntKind.i64 (a + b)), IV.bool true]) h)
    (Q (IV.tuple [IV.int IntKind.i64 (IntKind.wrap IntKind.i64 (a + b)), IV.bool (decide (IntKind.wrap IntKind.i64 (a + b) < (0 : Int)) == decide (a < (0 : Int)))]) h)) := by kernel_rfl
theorem sRAdd : ∀ xs h Q, kRAdd xs h Q → CallW env 50 xs h Q := by
  intro xs h Q hk
  unfold kRAdd at hk
  split at hk
  · rename_i a b
    refine dF_sound (okRExactly) (mp_eq (vRAdd a b h Q) ?_)
    obtain ⟨⟨ha, hb⟩, hk⟩ := hk
    rw [← radd_ok ha hb] at hk
    refine brS_intro (fun h1 => q_eq hk ?_) (fun h1 => q_eq hk ?_) <;> simp [h1]
  · exact hk.elim
def cRAdd := addC 50 kRAdd cRExactly
theorem okRAdd : Sound env cRAdd := sound_add sRAdd (okRExactly)

def kRSub (xs : List IV) (h : Heap) (K : IV → Heap → Prop) : Prop := match xs with
  | [.int .i64 a, .int .i64 b] => (inR a ∧ inR b) ∧ K (.tuple [.int .i64 (IntKind.i64.wrap (a - b)), .bool (inRb (a - b))]) h
  | _ => False
set_option maxRecDepth 100000 in
theorem vRSub (a b : Int) (h : Heap) (Q : IV → Heap → Prop) : dF (stdS cRAdd) env 52 noU noI noI [.int .i64 a, .int .i64 b] h Q = (
  brS (decide (a < (0 : Int)) == decide (b < (0 : Int))) (Q (IV.tuple [IV.int IntKind.i64 (IntKind.wrap IntKind.i64 (a - b)), IV.bool true]) h)
    (Q (IV.tuple [IV.int IntKind.i64 (IntKind.wrap IntKind.i64 (a - b)), IV.bool (decide (IntKind.wrap IntKind.i64 (a - b) < (0 : Int)) == decide (a < (0 : Int)))]) h)) := by kernel_rfl
theorem sRSub : ∀ xs h Q, kRSub xs h Q → CallW env 52 xs h Q := by
  intro xs h Q hk
  unfold kRSub at hk
  split at hk
  · rename_i a b
    refine dF_sound (okRAdd) (mp_eq (vRSub a b h Q) ?_)
    obtain ⟨⟨ha, hb⟩, hk⟩ := hk
    rw [← rsub_ok ha hb] at hk
    refine brS_intro (fun h1 => q_eq hk ?_) (fun h1 => q_eq hk ?_) <;> simp [h1]
  · exact hk.elim
def cRSub := addC 52 kRSub cRAdd
theorem okRSub : Sound env cRSub := sound_add sRSub (okRAdd)

def kRFull (xs : List IV) (h : Heap) (K : IV → Heap → Prop) : Prop := match xs with
  | [] => K (.agg [.int .i64 (-9223372036854775808), .int .i64 9223372036854775807]) h
  | _ => False
set_option maxRecDepth 100000 in
theorem vRFull  (h : Heap) (Q : IV → Heap → Prop) : dF (stdS cRSub) env 31 noU noI noI [] h Q = (
  Q (IV.agg [IV.int IntKind.i64 (-9223372036854775808 : Int), IV.int IntKind.i64 (9223372036854775807 : Int)]) h) := by kernel_rfl
theorem sRFull : ∀ xs h Q, kRFull xs h Q → CallW env 31 xs h Q := by
  intro xs h Q hk
  unfold kRFull at hk
  split at hk
  · skip
    refine dF_sound (okRSub) (mp_eq (vRFull  h Q) ?_)
    exact hk
  · exact hk.elim
def cRFull := addC 31 kRFull cRSub
theorem okRFull : Sound env cRFull := sound_add sRFull (okRSub)

def kRBounds (xs : List IV) (h : Heap) (K : IV → Heap → Prop) : Prop := match xs with
  | [.int .i64 a, .bool b, .int .i64 c, .bool d] => K (.agg [.int .i64 (if b && d then (a, c) else (minW, maxW)).1, .int .i64 (if b && d then (a, c) else (minW, maxW)).2]) h
  | _ => False
set_option maxRecDepth 100000 in
theorem vRBounds (a : Int) (b : Bool) (c : Int) (d : Bool) (h : Heap) (Q : IV → Heap → Prop) : dF (stdS cRFull) env 51 noU noI noI [.int .i64 a, .bool b, .int .i64 c, .bool d] h Q = (
  brS (!b) (Q (IV.agg [IV.int IntKind.i64 (-9223372036854775808 : Int), IV.int IntKind.i64 (9223372036854775807 : Int)]) h)
    (brS (!d) (Q (IV.agg [IV.int IntKind.i64 (-9223372036854775808 : Int), IV.int IntKind.i64 (9223372036854775807 : Int)]) h) (Q (IV.agg [IV.int IntKind.i64 a, IV.int IntKind.i64 c]) h))) := by kernel_rfl
theorem sRBounds : ∀ xs h Q, kRBounds xs h Q → CallW env 51 xs h Q := by
  intro xs h Q hk
  unfold kRBounds at hk
  split at hk
  · rename_i a b c d
    refine dF_sound (okRFull) (mp_eq (vRBounds a b c d h Q) ?_)
    repeat' (first | refine needS_intro ?_ ?_ | refine brS_intro (fun _ => ?_) (fun _ => ?_) | refine And.intro ?_ ?_)
    all_goals (refine q_eq hk ?_; simp_all)
  · exact hk.elim
def cRBounds := addC 51 kRBounds cRFull
theorem okRBounds : Sound env cRBounds := sound_add sRBounds (okRFull)

def kRValid (xs : List IV) (h : Heap) (K : IV → Heap → Prop) : Prop := match xs with
  | [.agg [.int .i64 a, .int .i64 b]] => K (.bool (decide (a ≤ b))) h
  | _ => False
set_option maxRecDepth 100000 in
theorem vRValid (a b : Int) (h : Heap) (Q : IV → Heap → Prop) : dF (stdS cRBounds) env 29 noU noI noI [.agg [.int .i64 a, .int .i64 b]] h Q = (
  Q (IV.bool (decide (a ≤ b))) h) := by kernel_rfl
theorem sRValid : ∀ xs h Q, kRValid xs h Q → CallW env 29 xs h Q := by
  intro xs h Q hk
  unfold kRValid at hk
  split at hk
  · rename_i a b
    refine dF_sound (okRBounds) (mp_eq (vRValid a b h Q) ?_)
    exact hk
  · exact hk.elim
def cRValid := addC 29 kRValid cRBounds
theorem okRValid : Sound env cRValid := sound_add sRValid (okRBounds)

def kRContains (xs : List IV) (h : Heap) (K : IV → Heap → Prop) : Prop := match xs with
  | [.agg [.int .i64 a, .int .i64 b], .int .i64 n] => K (.bool (contains a b n)) h
  | _ => False
set_option maxRecDepth 100000 in
theorem vRContains (a b n : Int) (h : Heap) (Q : IV → Heap → Prop) : dF (stdS cRValid) env 30 noU noI noI [.agg [.int .i64 a, .int .i64 b], .int .i64 n] h Q = (
  brS (decide (a ≤ n)) (Q (IV.bool (decide (n ≤ b))) h) (Q (IV.bool false) h)) := by kernel_rfl
theorem sRContains : ∀ xs h Q, kRContains xs h Q → CallW env 30 xs h Q := by
  intro xs h Q hk
  unfold kRContains at hk
  split at hk
  · rename_i a b n
    refine dF_sound (okRValid) (mp_eq (vRContains a b n h Q) ?_)
    repeat' (first | refine needS_intro ?_ ?_ | refine brS_intro (fun _ => ?_) (fun _ => ?_) | refine And.intro ?_ ?_)
    all_goals first | exact hk | (refine q_eq hk ?_; simp only [IV.agg.injEq, IV.tuple.injEq, IV.int.injEq, IV.bool.injEq, List.cons.injEq, true_and, and_true]; grind [contains])
  · exact hk.elim
def cRContains := addC 30 kRContains cRValid
theorem okRContains : Sound env cRContains := sound_add sRContains (okRValid)

def kRJoin (xs : List IV) (h : Heap) (K : IV → Heap → Prop) : Prop := match xs with
  | [.agg [.int .i64 a, .int .i64 b], .agg [.int .i64 c, .int .i64 d]] => K (.agg [.int .i64 (min a c), .int .i64 (max b d)]) h
  | _ => False
set_option maxRecDepth 100000 in
theorem vRJoin (a b c d : Int) (h : Heap) (Q : IV → Heap → Prop) : dF (stdS cRContains) env 26 noU noI noI [.agg [.int .i64 a, .int .i64 b], .agg [.int .i64 c, .int .i64 d]] h Q = (
  Q (IV.agg [IV.int IntKind.i64 (if c < a then c else a), IV.int IntKind.i64 (if d > b then d else b)]) h) := by kernel_rfl
theorem sRJoin : ∀ xs h Q, kRJoin xs h Q → CallW env 26 xs h Q := by
  intro xs h Q hk
  unfold kRJoin at hk
  split at hk
  · rename_i a b c d
    refine dF_sound (okRContains) (mp_eq (vRJoin a b c d h Q) ?_)
    repeat' (first | refine needS_intro ?_ ?_ | refine brS_intro (fun _ => ?_) (fun _ => ?_) | refine And.intro ?_ ?_)
    all_goals first | exact hk | (refine q_eq hk ?_; simp only [IV.agg.injEq, IV.tuple.injEq, IV.int.injEq, IV.bool.injEq, List.cons.injEq, true_and, and_true]; grind [])
  · exact hk.elim
def cRJoin := addC 26 kRJoin cRContains
theorem okRJoin : Sound env cRJoin := sound_add sRJoin (okRContains)

def kRWiden (xs : List IV) (h : Heap) (K : IV → Heap → Prop) : Prop := match xs with
  | [.agg [.int .i64 a, .int .i64 b], .agg [.int .i64 c, .int .i64 d]] => K (.agg [.int .i64 (wlo a c), .int .i64 (whi b d)]) h
  | _ => False
set_option maxRecDepth 100000 in
theorem vRWiden (a b c d : Int) (h : Heap) (Q : IV → Heap → Prop) : dF (stdS cRJoin) env 27 noU noI noI [.agg [.int .i64 a, .int .i64 b], .agg [.int .i64 c, .int .i64 d]] h Q = (
  brS (decide (c < a))
    (brS (decide (d > b)) (Q (IV.agg [IV.int IntKind.i64 (-9223372036854775808 : Int), IV.int IntKind.i64 (9223372036854775807 : Int)]) h) (Q (IV.agg [IV.int IntKind.i64 (-9223372036854775808 : Int), IV.int IntKind.i64 b]) h))
    (brS (decide (d > b)) (Q (IV.agg [IV.int IntKind.i64 a, IV.int IntKind.i64 (9223372036854775807 : Int)]) h) (Q (IV.agg [IV.int IntKind.i64 a, IV.int IntKind.i64 b]) h))) := by kernel_rfl
theorem sRWiden : ∀ xs h Q, kRWiden xs h Q → CallW env 27 xs h Q := by
  intro xs h Q hk
  unfold kRWiden at hk
  split at hk
  · rename_i a b c d
    refine dF_sound (okRJoin) (mp_eq (vRWiden a b c d h Q) ?_)
    repeat' (first | refine needS_intro ?_ ?_ | refine brS_intro (fun _ => ?_) (fun _ => ?_) | refine And.intro ?_ ?_)
    all_goals first | exact hk | (refine q_eq hk ?_; simp only [IV.agg.injEq, IV.tuple.injEq, IV.int.injEq, IV.bool.injEq, List.cons.injEq, true_and, and_true]; grind [wlo, whi])
  · exact hk.elim
def cRWiden := addC 27 kRWiden cRJoin
theorem okRWiden : Sound env cRWiden := sound_add sRWiden (okRJoin)

def kRBoolean (xs : List IV) (h : Heap) (K : IV → Heap → Prop) : Prop := match xs with
  | [.bool b, .bool c] => K (.agg [.int .i64 (tri b c).1, .int .i64 (tri b c).2]) h
  | _ => False
set_option maxRecDepth 100000 in
theorem vRBoolean (b c : Bool) (h : Heap) (Q : IV → Heap → Prop) : dF (stdS cRWiden) env 66 noU noI noI [.bool b, .bool c] h Q = (
  brS b (Q (IV.agg [IV.int IntKind.i64 (1 : Int), IV.int IntKind.i64 (1 : Int)]) h)
    (brS c (Q (IV.agg [IV.int IntKind.i64 (0 : Int), IV.int IntKind.i64 (0 : Int)]) h) (Q (IV.agg [IV.int IntKind.i64 (0 : Int), IV.int IntKind.i64 (1 : Int)]) h))) := by kernel_rfl
theorem sRBoolean : ∀ xs h Q, kRBoolean xs h Q → CallW env 66 xs h Q := by
  intro xs h Q hk
  unfold kRBoolean at hk
  split at hk
  · rename_i b c
    refine dF_sound (okRWiden) (mp_eq (vRBoolean b c h Q) ?_)
    repeat' (first | refine needS_intro ?_ ?_ | refine brS_intro (fun _ => ?_) (fun _ => ?_) | refine And.intro ?_ ?_)
    all_goals first | exact hk | (refine q_eq hk ?_; simp only [IV.agg.injEq, IV.tuple.injEq, IV.int.injEq, IV.bool.injEq, List.cons.injEq, true_and, and_true]; grind [tri])
  · exact hk.elim
def cRBoolean := addC 66 kRBoolean cRWiden
theorem okRBoolean : Sound env cRBoolean := sound_add sRBoolean (okRWiden)

def kRRem (xs : List IV) (h : Heap) (K : IV → Heap → Prop) : Prop := match xs with
  | [.agg [.int .i64 a, .int .i64 b], .agg [.int .i64 c, .int .i64 d]] => (((inR a ∧ inR b) ∧ (inR c ∧ inR d)) ∧ (1 ≤ c ∧ c ≤ d ∧ a ≤ b)) ∧ K (.agg [.int .i64 (irem a b c d).1, .int .i64 (irem a b c d).2]) h
  | _ => False
set_option maxRecDepth 100000 in
theorem vRRem (a b c d : Int) (h : Heap) (Q : IV → Heap → Prop) : dF (stdS cRBoolean) env 55 noU noI noI [.agg [.int .i64 a, .int .i64 b], .agg [.int .i64 c, .int .i64 d]] h Q = (
  brS (decide (a ≥ (0 : Int)))
    (brS (decide (b ≤ (0 : Int))) (Q (IV.agg [IV.int IntKind.i64 (0 : Int), IV.int IntKind.i64 (0 : Int)]) h)
      (Q (IV.agg [IV.int IntKind.i64 (0 : Int), IV.int IntKind.i64 (if IntKind.wrap IntKind.i64 (d - (1 : Int)) < b then IntKind.wrap IntKind.i64 (d - (1 : Int)) else b)]) h))
    (brS (decide (b ≤ (0 : Int))) (Q (IV.agg [IV.int IntKind.i64 (if IntKind.wrap IntKind.i64 ((1 : Int) - d) > a then IntKind.wrap IntKind.i64 ((1 : Int) - d) else a), IV.int IntKind.i64 (0 : Int)]) h)
      (Q
        (IV.agg
          [IV.int IntKind.i64 (if IntKind.wrap IntKind.i64 ((1 : Int) - d) > a then IntKind.wrap IntKind.i64 ((1 : Int) - d) else a),
            IV.int IntKind.i64 (if IntKind.wrap IntKind.i64 (d - (1 : Int)) < b then IntKind.wrap IntKind.i64 (d - (1 : Int)) else b)])
        h))) := by kernel_rfl
theorem sRRem : ∀ xs h Q, kRRem xs h Q → CallW env 55 xs h Q := by
  intro xs h Q hk
  unfold kRRem at hk
  split at hk
  · rename_i a b c d
    refine dF_sound (okRBoolean) (mp_eq (vRRem a b c d h Q) ?_)
    obtain ⟨⟨⟨⟨ha, hb⟩, hc, hd⟩, hcd⟩, hk⟩ := hk
    unfold inR at ha hb hc hd
    rw [IntWalk.i64_in (1 - d) (by omega), IntWalk.i64_in (d - 1) (by omega)]
    repeat' (first | refine needS_intro ?_ ?_ | refine brS_intro (fun _ => ?_) (fun _ => ?_) | refine And.intro ?_ ?_)
    all_goals first | exact hk | (refine q_eq hk ?_; simp only [IV.agg.injEq, IV.tuple.injEq, IV.int.injEq, IV.bool.injEq, List.cons.injEq, true_and, and_true]; grind [irem])
  · exact hk.elim
def cRRem := addC 55 kRRem cRBoolean
theorem okRRem : Sound env cRRem := sound_add sRRem (okRBoolean)

def kRIsect (xs : List IV) (h : Heap) (K : IV → Heap → Prop) : Prop := match xs with
  | [.agg [.int .i64 a, .int .i64 b], .agg [.int .i64 c, .int .i64 d]] => K (.tuple [.agg [.int .i64 (isect a b c d).1, .int .i64 (isect a b c d).2], .bool (meets a b c d)]) h
  | _ => False
set_option maxRecDepth 100000 in
theorem vRIsect (a b c d : Int) (h : Heap) (Q : IV → Heap → Prop) : dF (stdS cRRem) env 25 noU noI noI [.agg [.int .i64 a, .int .i64 b], .agg [.int .i64 c, .int .i64 d]] h Q = (
  brS (!decide ((if c > a then c else a) ≤ if d < b then d else b)) (Q (IV.tuple [IV.agg [IV.int IntKind.i64 (0 : Int), IV.int IntKind.i64 (0 : Int)], IV.bool false]) h)
    (Q (IV.tuple [IV.agg [IV.int IntKind.i64 (if c > a then c else a), IV.int IntKind.i64 (if d < b then d else b)], IV.bool true]) h)) := by kernel_rfl
theorem sRIsect : ∀ xs h Q, kRIsect xs h Q → CallW env 25 xs h Q := by
  intro xs h Q hk
  unfold kRIsect at hk
  split at hk
  · rename_i a b c d
    refine dF_sound (okRRem) (mp_eq (vRIsect a b c d h Q) ?_)
    repeat' (first | refine needS_intro ?_ ?_ | refine brS_intro (fun _ => ?_) (fun _ => ?_) | refine And.intro ?_ ?_)
    all_goals first | exact hk | (refine q_eq hk ?_; simp only [IV.agg.injEq, IV.tuple.injEq, IV.int.injEq, IV.bool.injEq, List.cons.injEq, true_and, and_true]; grind [isect, meets])
  · exact hk.elim
def cRIsect := addC 25 kRIsect cRRem
theorem okRIsect : Sound env cRIsect := sound_add sRIsect (okRRem)

def kRCmp (xs : List IV) (h : Heap) (K : IV → Heap → Prop) : Prop := match xs with
  | [.int .i64 o, .agg [.int .i64 a, .int .i64 b], .agg [.int .i64 c, .int .i64 d]] => (a ≤ b ∧ c ≤ d) ∧ K (.agg [.int .i64 (icmp o a b c d).1, .int .i64 (icmp o a b c d).2]) h
  | _ => False
set_option maxRecDepth 100000 in
theorem vRCmp (o a b c d : Int) (h : Heap) (Q : IV → Heap → Prop) : dF (stdS cRIsect) env 58 noU noI noI [.int .i64 o, .agg [.int .i64 a, .int .i64 b], .agg [.int .i64 c, .int .i64 d]] h Q = (
  brS (o == (15 : Int)) (Q (IV.agg [IV.int IntKind.i64 (Prod.fst (tri false !meets a b c d)), IV.int IntKind.i64 (Prod.snd (tri false !meets a b c d))]) h)
    (brS (o == (16 : Int)) (Q (IV.agg [IV.int IntKind.i64 (Prod.fst (tri (!meets a b c d) false)), IV.int IntKind.i64 (Prod.snd (tri (!meets a b c d) false))]) h)
      (brS (o == (18 : Int)) (Q (IV.agg [IV.int IntKind.i64 (Prod.fst (tri (decide (b ≤ c)) (decide (a > d)))), IV.int IntKind.i64 (Prod.snd (tri (decide (b ≤ c)) (decide (a > d))))]) h)
        (brS (o == (19 : Int))
          (brS (decide (a < (0 : Int)))
            (brS (decide (b ≥ (0 : Int))) (Q (IV.agg [IV.int IntKind.i64 (0 : Int), IV.int IntKind.i64 (1 : Int)]) h)
              (brS (decide (d ≥ (0 : Int))) (Q (IV.agg [IV.int IntKind.i64 (0 : Int), IV.int IntKind.i64 (1 : Int)]) h)
                (Q (IV.agg [IV.int IntKind.i64 (Prod.fst (tri (decide (b < c)) (decide (a ≥ d)))), IV.int IntKind.i64 (Prod.snd (tri (decide (b < c)) (decide (a ≥ d))))]) h)))
            (brS (decide (c < (0 : Int)))
              (brS (decide (b ≥ (0 : Int))) (Q (IV.agg [IV.int IntKind.i64 (0 : Int), IV.int IntKind.i64 (1 : Int)]) h)
                (brS (decide (d ≥ (0 : Int))) (Q (IV.agg [IV.int IntKind.i64 (0 : Int), IV.int IntKind.i64 (1 : Int)]) h)
                  (Q (IV.agg [IV.int IntKind.i64 (Prod.fst (tri (decide (b < c)) (decide (a ≥ d)))), IV.int IntKind.i64 (Prod.snd (tri (decide (b < c)) (decide (a ≥ d))))]) h)))
              (Q (IV.agg [IV.int IntKind.i64 (Prod.fst (tri (decide (b < c)) (decide (a ≥ d)))), IV.int IntKind.i64 (Prod.snd (tri (decide (b < c)) (decide (a ≥ d))))]) h)))
          (Q (IV.agg [IV.int IntKind.i64 (Prod.fst (tri (decide (b < c)) (decide (a ≥ d)))), IV.int IntKind.i64 (Prod.snd (tri (decide (b < c)) (decide (a ≥ d))))]) h))))) := by kernel_rfl
theorem sRCmp : ∀ xs h Q, kRCmp xs h Q → CallW env 58 xs h Q := by
  intro xs h Q hk
  unfold kRCmp at hk
  split at hk
  · rename_i o a b c d
    refine dF_sound (okRIsect) (mp_eq (vRCmp o a b c d h Q) ?_)
    obtain ⟨⟨h1, h2⟩, hk⟩ := hk
    repeat' (first | refine needS_intro ?_ ?_ | refine brS_intro (fun _ => ?_) (fun _ => ?_) | refine And.intro ?_ ?_)
    all_goals first | exact hk | (refine q_eq hk ?_; simp only [IV.agg.injEq, IV.tuple.injEq, IV.int.injEq, IV.bool.injEq, List.cons.injEq, true_and, and_true]; grind [icmp])
  · exact hk.elim
def cRCmp := addC 58 kRCmp cRIsect
theorem okRCmp : Sound env cRCmp := sound_add sRCmp (okRIsect)

def kRSelect (xs : List IV) (h : Heap) (K : IV → Heap → Prop) : Prop := match xs with
  | [.agg [.int .i64 a, .int .i64 b], .agg [.int .i64 c, .int .i64 d], .agg [.int .i64 e, .int .i64 f]] => K (.agg [.int .i64 (isel a b c d e f).1, .int .i64 (isel a b c d e f).2]) h
  | _ => False
set_option maxRecDepth 100000 in
theorem vRSelect (a b c d e f : Int) (h : Heap) (Q : IV → Heap → Prop) : dF (stdS cRCmp) env 28 noU noI noI [.agg [.int .i64 a, .int .i64 b], .agg [.int .i64 c, .int .i64 d], .agg [.int .i64 e, .int .i64 f]] h Q = (
  brS (!decide (a ≤ b)) (Q (IV.agg [IV.int IntKind.i64 (-9223372036854775808 : Int), IV.int IntKind.i64 (9223372036854775807 : Int)]) h)
    (brS (!decide (c ≤ d)) (Q (IV.agg [IV.int IntKind.i64 (-9223372036854775808 : Int), IV.int IntKind.i64 (9223372036854775807 : Int)]) h)
      (brS (!decide (e ≤ f)) (Q (IV.agg [IV.int IntKind.i64 (-9223372036854775808 : Int), IV.int IntKind.i64 (9223372036854775807 : Int)]) h)
        (brS (a == (0 : Int))
          (brS (b == (0 : Int)) (Q (IV.agg [IV.int IntKind.i64 e, IV.int IntKind.i64 f]) h)
            (brS (!contains a b (0 : Int)) (Q (IV.agg [IV.int IntKind.i64 c, IV.int IntKind.i64 d]) h) (Q (IV.agg [IV.int IntKind.i64 (min c e), IV.int IntKind.i64 (max d f)]) h)))
          (brS (!contains a b (0 : Int)) (Q (IV.agg [IV.int IntKind.i64 c, IV.int IntKind.i64 d]) h) (Q (IV.agg [IV.int IntKind.i64 (min c e), IV.int IntKind.i64 (max d f)]) h)))))) := by kernel_rfl
theorem sRSelect : ∀ xs h Q, kRSelect xs h Q → CallW env 28 xs h Q := by
  intro xs h Q hk
  unfold kRSelect at hk
  split at hk
  · rename_i a b c d e f
    refine dF_sound (okRCmp) (mp_eq (vRSelect a b c d e f h Q) ?_)
    repeat' (first | refine needS_intro ?_ ?_ | refine brS_intro (fun _ => ?_) (fun _ => ?_) | refine And.intro ?_ ?_)
    all_goals first | exact hk | (refine q_eq hk ?_; simp only [IV.agg.injEq, IV.tuple.injEq, IV.int.injEq, IV.bool.injEq, List.cons.injEq, true_and, and_true]; grind [isel])
  · exact hk.elim
def cRSelect := addC 28 kRSelect cRCmp
theorem okRSelect : Sound env cRSelect := sound_add sRSelect (okRCmp)

def kRShl (xs : List IV) (h : Heap) (K : IV → Heap → Prop) : Prop := match xs with
  | [.int .i64 a, .int .i64 k] => (0 ≤ k ∧ k < 64) ∧ K (.tuple [.int .i64 (shlw a (2 ^ k.toNat)), .bool (shlk a (2 ^ k.toNat))]) h
  | _ => False
set_option maxRecDepth 100000 in
theorem vRShl (a k : Int) (h : Heap) (Q : IV → Heap → Prop) : dF (stdS cRSelect) env 65 noU noI noI [.int .i64 a, .int .i64 k] h Q = (
  needS (decide ((0 : Int) ≤ IntKind.wrap IntKind.u64 k))
    (needS (decide ((0 : Int) ≤ IntKind.wrap IntKind.u64 k))
      (Q
        (IV.tuple
          [IV.int IntKind.i64 (IntKind.wrap IntKind.i64 (a * (2 : Int) ^ min (Int.toNat (IntKind.wrap IntKind.u64 k)) (64 : Nat))),
            IV.bool (Int.fdiv (IntKind.wrap IntKind.i64 (a * (2 : Int) ^ min (Int.toNat (IntKind.wrap IntKind.u64 k)) (64 : Nat))) ((2 : Int) ^ min (Int.toNat (IntKind.wrap IntKind.u64 k)) (64 : Nat)) == a)])
        h))) := by kernel_rfl
theorem sRShl : ∀ xs h Q, kRShl xs h Q → CallW env 65 xs h Q := by
  intro xs h Q hk
  unfold kRShl at hk
  split at hk
  · rename_i a k
    refine dF_sound (okRSelect) (mp_eq (vRShl a k h Q) ?_)
    obtain ⟨hb, hk⟩ := hk
    have hu : IntKind.u64.wrap k = k := IntWalk.u64_in _ (by omega)
    have hm : min k.toNat 64 = k.toNat := by omega
    simp only [hu, hm]
    repeat' (first | refine needS_intro ?_ ?_ | refine brS_intro (fun _ => ?_) (fun _ => ?_) | refine And.intro ?_ ?_)
    all_goals first | exact hk | (simp only [decide_eq_true_eq]; omega)
  · exact hk.elim
def cRShl := addC 65 kRShl cRSelect
theorem okRShl : Sound env cRShl := sound_add sRShl (okRSelect)

def kShift (xs : List IV) (h : Heap) (K : IV → Heap → Prop) : Prop := match xs with
  | [.int .i64 o, .agg [.int .i64 a, .int .i64 b], .agg [.int .i64 c, .int .i64 d]] => K (.agg [.int .i64 (ishf o a b c d).1, .int .i64 (ishf o a b c d).2]) h
  | _ => False
set_option maxRecDepth 100000 in
theorem vShift (o a b c d : Int) (h : Heap) (Q : IV → Heap → Prop) : dF (stdS cRShl) env 43 noU noI noI [.int .i64 o, .agg [.int .i64 a, .int .i64 b], .agg [.int .i64 c, .int .i64 d]] h Q = (
  brS (o == (12 : Int))
    (brS (c == d)
      (needS (decide ((0 : Int) ≤ IntKind.wrap IntKind.u64 (bvAnd IntKind.i64 c (63 : Int))))
        (needS (decide ((0 : Int) ≤ IntKind.wrap IntKind.u64 (bvAnd IntKind.i64 c (63 : Int))))
          (needS (decide ((0 : Int) ≤ IntKind.wrap IntKind.u64 (bvAnd IntKind.i64 c (63 : Int))))
            (brS
              (Int.fdiv (IntKind.wrap IntKind.i64 (a * (2 : Int) ^ min (Int.toNat (IntKind.wrap IntKind.u64 (bvAnd IntKind.i64 c (63 : Int)))) (64 : Nat)))
                  ((2 : Int) ^ min (Int.toNat (IntKind.wrap IntKind.u64 (bvAnd IntKind.i64 c (63 : Int)))) (64 : Nat)) !=
                a)
              (Q (IV.agg [IV.int IntKind.i64 (-9223372036854775808 : Int), IV.int IntKind.i64 (9223372036854775807 : Int)]) h)
              (needS (decide ((0 : Int) ≤ IntKind.wrap IntKind.u64 (bvAnd IntKind.i64 c (63 : Int))))
                (brS
                  (Int.fdiv (IntKind.wrap IntKind.i64 (b * (2 : Int) ^ min (Int.toNat (IntKind.wrap IntKind.u64 (bvAnd IntKind.i64 c (63 : Int)))) (64 : Nat)))
                      ((2 : Int) ^ min (Int.toNat (IntKind.wrap IntKind.u64 (bvAnd IntKind.i64 c (63 : Int)))) (64 : Nat)) !=
                    b)
                  (Q (IV.agg [IV.int IntKind.i64 (-9223372036854775808 : Int), IV.int IntKind.i64 (9223372036854775807 : Int)]) h)
                  (Q
                    (IV.agg
                      [IV.int IntKind.i64 (IntKind.wrap IntKind.i64 (a * (2 : Int) ^ min (Int.toNat (IntKind.wrap IntKind.u64 (bvAnd IntKind.i64 c (63 : Int)))) (64 : Nat))),
                        IV.int IntKind.i64 (IntKind.wrap IntKind.i64 (b * (2 : Int) ^ min (Int.toNat (IntKind.wrap IntKind.u64 (bvAnd IntKind.i64 c (63 : Int)))) (64 : Nat)))])
                    h)))))))
      (brS (o == (12 : Int)) (Q (IV.agg [IV.int IntKind.i64 (-9223372036854775808 : Int), IV.int IntKind.i64 (9223372036854775807 : Int)]) h)
        (brS (o == (14 : Int))
          (brS (c == d)
            (needS (decide ((0 : Int) ≤ IntKind.wrap IntKind.u64 (bvAnd IntKind.i64 c (63 : Int))))
              (needS (decide ((0 : Int) ≤ IntKind.wrap IntKind.u64 (bvAnd IntKind.i64 c (63 : Int))))
                (Q
                  (IV.agg
                    [IV.int IntKind.i64 (Int.fdiv a ((2 : Int) ^ min (Int.toNat (IntKind.wrap IntKind.u64 (bvAnd IntKind.i64 c (63 : Int)))) (64 : Nat))),
                      IV.int IntKind.i64 (Int.fdiv b ((2 : Int) ^ min (Int.toNat (IntKind.wrap IntKind.u64 (bvAnd IntKind.i64 c (63 : Int)))) (64 : Nat)))])
                  h)))
            (brS (o == (14 : Int)) (Q (IV.agg [IV.int IntKind.i64 (if (0 : Int) < a then (0 : Int) else a), IV.int IntKind.i64 (if (-1 : Int) > b then (-1 : Int) else b)]) h)
              (brS (c == d)
                (brS (IntKind.wrap IntKind.u64 (bvAnd IntKind.i64 c (63 : Int)) == (0 : Int)) (Q (IV.agg [IV.int IntKind.i64 a, IV.int IntKind.i64 b]) h)
                  (brS (c == d)
                    (brS (decide (a ≥ (0 : Int)))
                      (needS (decide ((0 : Int) ≤ IntKind.wrap IntKind.u64 (bvAnd IntKind.i64 c (63 : Int))))
                        (needS (decide ((0 : Int) ≤ IntKind.wrap IntKind.u64 (bvAnd IntKind.i64 c (63 : Int))))
                          (Q
                            (IV.agg
                              [IV.int IntKind.i64 (Int.fdiv a ((2 : Int) ^ min (Int.toNat (IntKind.wrap IntKind.u64 (bvAnd IntKind.i64 c (63 : Int)))) (64 : Nat))),
                                IV.int IntKind.i64 (Int.fdiv b ((2 : Int) ^ min (Int.toNat (IntKind.wrap IntKind.u64 (bvAnd IntKind.i64 c (63 : Int)))) (64 : Nat)))])
                            h)))
                      (brS (c == d)
                        (needS (decide ((0 : Int) ≤ IntKind.wrap IntKind.u64 ((64 : Int) - IntKind.wrap IntKind.u64 (bvAnd IntKind.i64 c (63 : Int)))))
                          (Q
                            (IV.agg
                              [IV.int IntKind.i64 (0 : Int),
                                IV.int IntKind.i64
                                  (IntKind.wrap IntKind.i64
                                    (IntKind.wrap IntKind.i64 ((1 : Int) * (2 : Int) ^ min (Int.toNat (IntKind.wrap IntKind.u64 ((64 : Int) - IntKind.wrap IntKind.u64 (bvAnd IntKind.i64 c (63 : Int))))) (64 : Nat)) - (1 : Int)))])
                            h))
                        (brS (decide (a ≥ (0 : Int))) (Q (IV.agg [IV.int IntKind.i64 (0 : Int), IV.int IntKind.i64 b]) h) (Q (IV.agg [IV.int IntKind.i64 (-9223372036854775808 : Int), IV.int IntKind.i64 (9223372036854775807 : Int)]) h))))
                    (brS (c == d)
                      (needS (decide ((0 : Int) ≤ IntKind.wrap IntKind.u64 ((64 : Int) - IntKind.wrap IntKind.u64 (bvAnd IntKind.i64 c (63 : Int)))))
                        (Q
                          (IV.agg
                            [IV.int IntKind.i64 (0 : Int),
                              IV.int IntKind.i64
                                (IntKind.wrap IntKind.i64
                                  (IntKind.wrap IntKind.i64 ((1 : Int) * (2 : Int) ^ min (Int.toNat (IntKind.wrap IntKind.u64 ((64 : Int) - IntKind.wrap IntKind.u64 (bvAnd IntKind.i64 c (63 : Int))))) (64 : Nat)) - (1 : Int)))])
                          h))
                      (brS (decide (a ≥ (0 : Int))) (Q (IV.agg [IV.int IntKind.i64 (0 : Int), IV.int IntKind.i64 b]) h) (Q (IV.agg [IV.int IntKind.i64 (-9223372036854775808 : Int), IV.int IntKind.i64 (9223372036854775807 : Int)]) h)))))
                (brS (c == d)
                  (brS (decide (a ≥ (0 : Int)))
                    (needS (decide ((0 : Int) ≤ IntKind.wrap IntKind.u64 (bvAnd IntKind.i64 c (63 : Int))))
                      (needS (decide ((0 : Int) ≤ IntKind.wrap IntKind.u64 (bvAnd IntKind.i64 c (63 : Int))))
                        (Q
                          (IV.agg
                            [IV.int IntKind.i64 (Int.fdiv a ((2 : Int) ^ min (Int.toNat (IntKind.wrap IntKind.u64 (bvAnd IntKind.i64 c (63 : Int)))) (64 : Nat))),
                              IV.int IntKind.i64 (Int.fdiv b ((2 : Int) ^ min (Int.toNat (IntKind.wrap IntKind.u64 (bvAnd IntKind.i64 c (63 : Int)))) (64 : Nat)))])
                          h)))
                    (brS (c == d)
                      (needS (decide ((0 : Int) ≤ IntKind.wrap IntKind.u64 ((64 : Int) - IntKind.wrap IntKind.u64 (bvAnd IntKind.i64 c (63 : Int)))))
                        (Q
                          (IV.agg
                            [IV.int IntKind.i64 (0 : Int),
                              IV.int IntKind.i64
                                (IntKind.wrap IntKind.i64
                                  (IntKind.wrap IntKind.i64 ((1 : Int) * (2 : Int) ^ min (Int.toNat (IntKind.wrap IntKind.u64 ((64 : Int) - IntKind.wrap IntKind.u64 (bvAnd IntKind.i64 c (63 : Int))))) (64 : Nat)) - (1 : Int)))])
                          h))
                      (brS (decide (a ≥ (0 : Int))) (Q (IV.agg [IV.int IntKind.i64 (0 : Int), IV.int IntKind.i64 b]) h) (Q (IV.agg [IV.int IntKind.i64 (-9223372036854775808 : Int), IV.int IntKind.i64 (9223372036854775807 : Int)]) h))))
                  (brS (c == d)
                    (needS (decide ((0 : Int) ≤ IntKind.wrap IntKind.u64 ((64 : Int) - IntKind.wrap IntKind.u64 (bvAnd IntKind.i64 c (63 : Int)))))
                      (Q
                        (IV.agg
                          [IV.int IntKind.i64 (0 : Int),
                            IV.int IntKind.i64
                              (IntKind.wrap IntKind.i64
                                (IntKind.wrap IntKind.i64 ((1 : Int) * (2 : Int) ^ min (Int.toNat (IntKind.wrap IntKind.u64 ((64 : Int) - IntKind.wrap IntKind.u64 (bvAnd IntKind.i64 c (63 : Int))))) (64 : Nat)) - (1 : Int)))])
                        h))
                    (brS (decide (a ≥ (0 : Int))) (Q (IV.agg [IV.int IntKind.i64 (0 : Int), IV.int IntKind.i64 b]) h) (Q (IV.agg [IV.int IntKind.i64 (-9223372036854775808 : Int), IV.int IntKind.i64 (9223372036854775807 : Int)]) h)))))))
          (brS (o == (14 : Int)) (Q (IV.agg [IV.int IntKind.i64 (if (0 : Int) < a then (0 : Int) else a), IV.int IntKind.i64 (if (-1 : Int) > b then (-1 : Int) else b)]) h)
            (brS (c == d)
              (brS (IntKind.wrap IntKind.u64 (bvAnd IntKind.i64 c (63 : Int)) == (0 : Int)) (Q (IV.agg [IV.int IntKind.i64 a, IV.int IntKind.i64 b]) h)
                (brS (c == d)
                  (brS (decide (a ≥ (0 : Int)))
                    (needS (decide ((0 : Int) ≤ IntKind.wrap IntKind.u64 (bvAnd IntKind.i64 c (63 : Int))))
                      (needS (decide ((0 : Int) ≤ IntKind.wrap IntKind.u64 (bvAnd IntKind.i64 c (63 : Int))))
                        (Q
                          (IV.agg
                            [IV.int IntKind.i64 (Int.fdiv a ((2 : Int) ^ min (Int.toNat (IntKind.wrap IntKind.u64 (bvAnd IntKind.i64 c (63 : Int)))) (64 : Nat))),
                              IV.int IntKind.i64 (Int.fdiv b ((2 : Int) ^ min (Int.toNat (IntKind.wrap IntKind.u64 (bvAnd IntKind.i64 c (63 : Int)))) (64 : Nat)))])
                          h)))
                    (brS (c == d)
                      (needS (decide ((0 : Int) ≤ IntKind.wrap IntKind.u64 ((64 : Int) - IntKind.wrap IntKind.u64 (bvAnd IntKind.i64 c (63 : Int)))))
                        (Q
                          (IV.agg
                            [IV.int IntKind.i64 (0 : Int),
                              IV.int IntKind.i64
                                (IntKind.wrap IntKind.i64
                                  (IntKind.wrap IntKind.i64 ((1 : Int) * (2 : Int) ^ min (Int.toNat (IntKind.wrap IntKind.u64 ((64 : Int) - IntKind.wrap IntKind.u64 (bvAnd IntKind.i64 c (63 : Int))))) (64 : Nat)) - (1 : Int)))])
                          h))
                      (brS (decide (a ≥ (0 : Int))) (Q (IV.agg [IV.int IntKind.i64 (0 : Int), IV.int IntKind.i64 b]) h) (Q (IV.agg [IV.int IntKind.i64 (-9223372036854775808 : Int), IV.int IntKind.i64 (9223372036854775807 : Int)]) h))))
                  (brS (c == d)
                    (needS (decide ((0 : Int) ≤ IntKind.wrap IntKind.u64 ((64 : Int) - IntKind.wrap IntKind.u64 (bvAnd IntKind.i64 c (63 : Int)))))
                      (Q
                        (IV.agg
                          [IV.int IntKind.i64 (0 : Int),
                            IV.int IntKind.i64
                              (IntKind.wrap IntKind.i64
                                (IntKind.wrap IntKind.i64 ((1 : Int) * (2 : Int) ^ min (Int.toNat (IntKind.wrap IntKind.u64 ((64 : Int) - IntKind.wrap IntKind.u64 (bvAnd IntKind.i64 c (63 : Int))))) (64 : Nat)) - (1 : Int)))])
                        h))
                    (brS (decide (a ≥ (0 : Int))) (Q (IV.agg [IV.int IntKind.i64 (0 : Int), IV.int IntKind.i64 b]) h) (Q (IV.agg [IV.int IntKind.i64 (-9223372036854775808 : Int), IV.int IntKind.i64 (9223372036854775807 : Int)]) h)))))
              (brS (c == d)
                (brS (decide (a ≥ (0 : Int)))
                  (needS (decide ((0 : Int) ≤ IntKind.wrap IntKind.u64 (bvAnd IntKind.i64 c (63 : Int))))
                    (needS (decide ((0 : Int) ≤ IntKind.wrap IntKind.u64 (bvAnd IntKind.i64 c (63 : Int))))
                      (Q
                        (IV.agg
                          [IV.int IntKind.i64 (Int.fdiv a ((2 : Int) ^ min (Int.toNat (IntKind.wrap IntKind.u64 (bvAnd IntKind.i64 c (63 : Int)))) (64 : Nat))),
                            IV.int IntKind.i64 (Int.fdiv b ((2 : Int) ^ min (Int.toNat (IntKind.wrap IntKind.u64 (bvAnd IntKind.i64 c (63 : Int)))) (64 : Nat)))])
                        h)))
                  (brS (c == d)
                    (needS (decide ((0 : Int) ≤ IntKind.wrap IntKind.u64 ((64 : Int) - IntKind.wrap IntKind.u64 (bvAnd IntKind.i64 c (63 : Int)))))
                      (Q
                        (IV.agg
                          [IV.int IntKind.i64 (0 : Int),
                            IV.int IntKind.i64
                              (IntKind.wrap IntKind.i64
                                (IntKind.wrap IntKind.i64 ((1 : Int) * (2 : Int) ^ min (Int.toNat (IntKind.wrap IntKind.u64 ((64 : Int) - IntKind.wrap IntKind.u64 (bvAnd IntKind.i64 c (63 : Int))))) (64 : Nat)) - (1 : Int)))])
                        h))
                    (brS (decide (a ≥ (0 : Int))) (Q (IV.agg [IV.int IntKind.i64 (0 : Int), IV.int IntKind.i64 b]) h) (Q (IV.agg [IV.int IntKind.i64 (-9223372036854775808 : Int), IV.int IntKind.i64 (9223372036854775807 : Int)]) h))))
                (brS (c == d)
                  (needS (decide ((0 : Int) ≤ IntKind.wrap IntKind.u64 ((64 : Int) - IntKind.wrap IntKind.u64 (bvAnd IntKind.i64 c (63 : Int)))))
                    (Q
                      (IV.agg
                        [IV.int IntKind.i64 (0 : Int),
                          IV.int IntKind.i64
                            (IntKind.wrap IntKind.i64
                              (IntKind.wrap IntKind.i64 ((1 : Int) * (2 : Int) ^ min (Int.toNat (IntKind.wrap IntKind.u64 ((64 : Int) - IntKind.wrap IntKind.u64 (bvAnd IntKind.i64 c (63 : Int))))) (64 : Nat)) - (1 : Int)))])
                      h))
                  (brS (decide (a ≥ (0 : Int))) (Q (IV.agg [IV.int IntKind.i64 (0 : Int), IV.int IntKind.i64 b]) h) (Q (IV.agg [IV.int IntKind.i64 (-9223372036854775808 : Int), IV.int IntKind.i64 (9223372036854775807 : Int)]) h)))))))))
    (brS (o == (12 : Int)) (Q (IV.agg [IV.int IntKind.i64 (-9223372036854775808 : Int), IV.int IntKind.i64 (9223372036854775807 : Int)]) h)
      (brS (o == (14 : Int))
        (brS (c == d)
          (needS (decide ((0 : Int) ≤ IntKind.wrap IntKind.u64 (bvAnd IntKind.i64 c (63 : Int))))
            (needS (decide ((0 : Int) ≤ IntKind.wrap IntKind.u64 (bvAnd IntKind.i64 c (63 : Int))))
              (Q
                (IV.agg
                  [IV.int IntKind.i64 (Int.fdiv a ((2 : Int) ^ min (Int.toNat (IntKind.wrap IntKind.u64 (bvAnd IntKind.i64 c (63 : Int)))) (64 : Nat))),
                    IV.int IntKind.i64 (Int.fdiv b ((2 : Int) ^ min (Int.toNat (IntKind.wrap IntKind.u64 (bvAnd IntKind.i64 c (63 : Int)))) (64 : Nat)))])
                h)))
          (brS (o == (14 : Int)) (Q (IV.agg [IV.int IntKind.i64 (if (0 : Int) < a then (0 : Int) else a), IV.int IntKind.i64 (if (-1 : Int) > b then (-1 : Int) else b)]) h)
            (brS (c == d)
              (brS (IntKind.wrap IntKind.u64 (bvAnd IntKind.i64 c (63 : Int)) == (0 : Int)) (Q (IV.agg [IV.int IntKind.i64 a, IV.int IntKind.i64 b]) h)
                (brS (c == d)
                  (brS (decide (a ≥ (0 : Int)))
                    (needS (decide ((0 : Int) ≤ IntKind.wrap IntKind.u64 (bvAnd IntKind.i64 c (63 : Int))))
                      (needS (decide ((0 : Int) ≤ IntKind.wrap IntKind.u64 (bvAnd IntKind.i64 c (63 : Int))))
                        (Q
                          (IV.agg
                            [IV.int IntKind.i64 (Int.fdiv a ((2 : Int) ^ min (Int.toNat (IntKind.wrap IntKind.u64 (bvAnd IntKind.i64 c (63 : Int)))) (64 : Nat))),
                              IV.int IntKind.i64 (Int.fdiv b ((2 : Int) ^ min (Int.toNat (IntKind.wrap IntKind.u64 (bvAnd IntKind.i64 c (63 : Int)))) (64 : Nat)))])
                          h)))
                    (brS (c == d)
                      (needS (decide ((0 : Int) ≤ IntKind.wrap IntKind.u64 ((64 : Int) - IntKind.wrap IntKind.u64 (bvAnd IntKind.i64 c (63 : Int)))))
                        (Q
                          (IV.agg
                            [IV.int IntKind.i64 (0 : Int),
                              IV.int IntKind.i64
                                (IntKind.wrap IntKind.i64
                                  (IntKind.wrap IntKind.i64 ((1 : Int) * (2 : Int) ^ min (Int.toNat (IntKind.wrap IntKind.u64 ((64 : Int) - IntKind.wrap IntKind.u64 (bvAnd IntKind.i64 c (63 : Int))))) (64 : Nat)) - (1 : Int)))])
                          h))
                      (brS (decide (a ≥ (0 : Int))) (Q (IV.agg [IV.int IntKind.i64 (0 : Int), IV.int IntKind.i64 b]) h) (Q (IV.agg [IV.int IntKind.i64 (-9223372036854775808 : Int), IV.int IntKind.i64 (9223372036854775807 : Int)]) h))))
                  (brS (c == d)
                    (needS (decide ((0 : Int) ≤ IntKind.wrap IntKind.u64 ((64 : Int) - IntKind.wrap IntKind.u64 (bvAnd IntKind.i64 c (63 : Int)))))
                      (Q
                        (IV.agg
                          [IV.int IntKind.i64 (0 : Int),
                            IV.int IntKind.i64
                              (IntKind.wrap IntKind.i64
                                (IntKind.wrap IntKind.i64 ((1 : Int) * (2 : Int) ^ min (Int.toNat (IntKind.wrap IntKind.u64 ((64 : Int) - IntKind.wrap IntKind.u64 (bvAnd IntKind.i64 c (63 : Int))))) (64 : Nat)) - (1 : Int)))])
                        h))
                    (brS (decide (a ≥ (0 : Int))) (Q (IV.agg [IV.int IntKind.i64 (0 : Int), IV.int IntKind.i64 b]) h) (Q (IV.agg [IV.int IntKind.i64 (-9223372036854775808 : Int), IV.int IntKind.i64 (9223372036854775807 : Int)]) h)))))
              (brS (c == d)
                (brS (decide (a ≥ (0 : Int)))
                  (needS (decide ((0 : Int) ≤ IntKind.wrap IntKind.u64 (bvAnd IntKind.i64 c (63 : Int))))
                    (needS (decide ((0 : Int) ≤ IntKind.wrap IntKind.u64 (bvAnd IntKind.i64 c (63 : Int))))
                      (Q
                        (IV.agg
                          [IV.int IntKind.i64 (Int.fdiv a ((2 : Int) ^ min (Int.toNat (IntKind.wrap IntKind.u64 (bvAnd IntKind.i64 c (63 : Int)))) (64 : Nat))),
                            IV.int IntKind.i64 (Int.fdiv b ((2 : Int) ^ min (Int.toNat (IntKind.wrap IntKind.u64 (bvAnd IntKind.i64 c (63 : Int)))) (64 : Nat)))])
                        h)))
                  (brS (c == d)
                    (needS (decide ((0 : Int) ≤ IntKind.wrap IntKind.u64 ((64 : Int) - IntKind.wrap IntKind.u64 (bvAnd IntKind.i64 c (63 : Int)))))
                      (Q
                        (IV.agg
                          [IV.int IntKind.i64 (0 : Int),
                            IV.int IntKind.i64
                              (IntKind.wrap IntKind.i64
                                (IntKind.wrap IntKind.i64 ((1 : Int) * (2 : Int) ^ min (Int.toNat (IntKind.wrap IntKind.u64 ((64 : Int) - IntKind.wrap IntKind.u64 (bvAnd IntKind.i64 c (63 : Int))))) (64 : Nat)) - (1 : Int)))])
                        h))
                    (brS (decide (a ≥ (0 : Int))) (Q (IV.agg [IV.int IntKind.i64 (0 : Int), IV.int IntKind.i64 b]) h) (Q (IV.agg [IV.int IntKind.i64 (-9223372036854775808 : Int), IV.int IntKind.i64 (9223372036854775807 : Int)]) h))))
                (brS (c == d)
                  (needS (decide ((0 : Int) ≤ IntKind.wrap IntKind.u64 ((64 : Int) - IntKind.wrap IntKind.u64 (bvAnd IntKind.i64 c (63 : Int)))))
                    (Q
                      (IV.agg
                        [IV.int IntKind.i64 (0 : Int),
                          IV.int IntKind.i64
                            (IntKind.wrap IntKind.i64
                              (IntKind.wrap IntKind.i64 ((1 : Int) * (2 : Int) ^ min (Int.toNat (IntKind.wrap IntKind.u64 ((64 : Int) - IntKind.wrap IntKind.u64 (bvAnd IntKind.i64 c (63 : Int))))) (64 : Nat)) - (1 : Int)))])
                      h))
                  (brS (decide (a ≥ (0 : Int))) (Q (IV.agg [IV.int IntKind.i64 (0 : Int), IV.int IntKind.i64 b]) h) (Q (IV.agg [IV.int IntKind.i64 (-9223372036854775808 : Int), IV.int IntKind.i64 (9223372036854775807 : Int)]) h)))))))
        (brS (o == (14 : Int)) (Q (IV.agg [IV.int IntKind.i64 (if (0 : Int) < a then (0 : Int) else a), IV.int IntKind.i64 (if (-1 : Int) > b then (-1 : Int) else b)]) h)
          (brS (c == d)
            (brS (IntKind.wrap IntKind.u64 (bvAnd IntKind.i64 c (63 : Int)) == (0 : Int)) (Q (IV.agg [IV.int IntKind.i64 a, IV.int IntKind.i64 b]) h)
              (brS (c == d)
                (brS (decide (a ≥ (0 : Int)))
                  (needS (decide ((0 : Int) ≤ IntKind.wrap IntKind.u64 (bvAnd IntKind.i64 c (63 : Int))))
                    (needS (decide ((0 : Int) ≤ IntKind.wrap IntKind.u64 (bvAnd IntKind.i64 c (63 : Int))))
                      (Q
                        (IV.agg
                          [IV.int IntKind.i64 (Int.fdiv a ((2 : Int) ^ min (Int.toNat (IntKind.wrap IntKind.u64 (bvAnd IntKind.i64 c (63 : Int)))) (64 : Nat))),
                            IV.int IntKind.i64 (Int.fdiv b ((2 : Int) ^ min (Int.toNat (IntKind.wrap IntKind.u64 (bvAnd IntKind.i64 c (63 : Int)))) (64 : Nat)))])
                        h)))
                  (brS (c == d)
                    (needS (decide ((0 : Int) ≤ IntKind.wrap IntKind.u64 ((64 : Int) - IntKind.wrap IntKind.u64 (bvAnd IntKind.i64 c (63 : Int)))))
                      (Q
                        (IV.agg
                          [IV.int IntKind.i64 (0 : Int),
                            IV.int IntKind.i64
                              (IntKind.wrap IntKind.i64
                                (IntKind.wrap IntKind.i64 ((1 : Int) * (2 : Int) ^ min (Int.toNat (IntKind.wrap IntKind.u64 ((64 : Int) - IntKind.wrap IntKind.u64 (bvAnd IntKind.i64 c (63 : Int))))) (64 : Nat)) - (1 : Int)))])
                        h))
                    (brS (decide (a ≥ (0 : Int))) (Q (IV.agg [IV.int IntKind.i64 (0 : Int), IV.int IntKind.i64 b]) h) (Q (IV.agg [IV.int IntKind.i64 (-9223372036854775808 : Int), IV.int IntKind.i64 (9223372036854775807 : Int)]) h))))
                (brS (c == d)
                  (needS (decide ((0 : Int) ≤ IntKind.wrap IntKind.u64 ((64 : Int) - IntKind.wrap IntKind.u64 (bvAnd IntKind.i64 c (63 : Int)))))
                    (Q
                      (IV.agg
                        [IV.int IntKind.i64 (0 : Int),
                          IV.int IntKind.i64
                            (IntKind.wrap IntKind.i64
                              (IntKind.wrap IntKind.i64 ((1 : Int) * (2 : Int) ^ min (Int.toNat (IntKind.wrap IntKind.u64 ((64 : Int) - IntKind.wrap IntKind.u64 (bvAnd IntKind.i64 c (63 : Int))))) (64 : Nat)) - (1 : Int)))])
                      h))
                  (brS (decide (a ≥ (0 : Int))) (Q (IV.agg [IV.int IntKind.i64 (0 : Int), IV.int IntKind.i64 b]) h) (Q (IV.agg [IV.int IntKind.i64 (-9223372036854775808 : Int), IV.int IntKind.i64 (9223372036854775807 : Int)]) h)))))
            (brS (c == d)
              (brS (decide (a ≥ (0 : Int)))
                (needS (decide ((0 : Int) ≤ IntKind.wrap IntKind.u64 (bvAnd IntKind.i64 c (63 : Int))))
                  (needS (decide ((0 : Int) ≤ IntKind.wrap IntKind.u64 (bvAnd IntKind.i64 c (63 : Int))))
                    (Q
                      (IV.agg
                        [IV.int IntKind.i64 (Int.fdiv a ((2 : Int) ^ min (Int.toNat (IntKind.wrap IntKind.u64 (bvAnd IntKind.i64 c (63 : Int)))) (64 : Nat))),
                          IV.int IntKind.i64 (Int.fdiv b ((2 : Int) ^ min (Int.toNat (IntKind.wrap IntKind.u64 (bvAnd IntKind.i64 c (63 : Int)))) (64 : Nat)))])
                      h)))
                (brS (c == d)
                  (needS (decide ((0 : Int) ≤ IntKind.wrap IntKind.u64 ((64 : Int) - IntKind.wrap IntKind.u64 (bvAnd IntKind.i64 c (63 : Int)))))
                    (Q
                      (IV.agg
                        [IV.int IntKind.i64 (0 : Int),
                          IV.int IntKind.i64
                            (IntKind.wrap IntKind.i64
                              (IntKind.wrap IntKind.i64 ((1 : Int) * (2 : Int) ^ min (Int.toNat (IntKind.wrap IntKind.u64 ((64 : Int) - IntKind.wrap IntKind.u64 (bvAnd IntKind.i64 c (63 : Int))))) (64 : Nat)) - (1 : Int)))])
                      h))
                  (brS (decide (a ≥ (0 : Int))) (Q (IV.agg [IV.int IntKind.i64 (0 : Int), IV.int IntKind.i64 b]) h) (Q (IV.agg [IV.int IntKind.i64 (-9223372036854775808 : Int), IV.int IntKind.i64 (9223372036854775807 : Int)]) h))))
              (brS (c == d)
                (needS (decide ((0 : Int) ≤ IntKind.wrap IntKind.u64 ((64 : Int) - IntKind.wrap IntKind.u64 (bvAnd IntKind.i64 c (63 : Int)))))
                  (Q
                    (IV.agg
                      [IV.int IntKind.i64 (0 : Int),
                        IV.int IntKind.i64
                          (IntKind.wrap IntKind.i64
                            (IntKind.wrap IntKind.i64 ((1 : Int) * (2 : Int) ^ min (Int.toNat (IntKind.wrap IntKind.u64 ((64 : Int) - IntKind.wrap IntKind.u64 (bvAnd IntKind.i64 c (63 : Int))))) (64 : Nat)) - (1 : Int)))])
                    h))
                (brS (decide (a ≥ (0 : Int))) (Q (IV.agg [IV.int IntKind.i64 (0 : Int), IV.int IntKind.i64 b]) h) (Q (IV.agg [IV.int IntKind.i64 (-9223372036854775808 : Int), IV.int IntKind.i64 (9223372036854775807 : Int)]) h))))))))) := by kernel_rfl
set_option maxHeartbeats 2000000 in
theorem sShift : ∀ xs h Q, kShift xs h Q → CallW env 43 xs h Q := by
  intro xs h Q hk
  unfold kShift at hk
  split at hk
  · rename_i o a b c d
    refine dF_sound (okRShl) (mp_eq (vShift o a b c d h Q) ?_)
    have hnn : (0:Int) ≤ c % 64 ∧ c % 64 < 64 := by omega
    have hu : IntKind.u64.wrap (64 - c % 64) = 64 - c % 64 := IntWalk.u64_in _ (by omega)
    have hm : min (64 - c % 64).toNat 64 = (64 - c % 64).toNat := by omega
    have hw : IntKind.u64.wrap (c % 64) = c % 64 := IntWalk.u64_in _ (by omega)
    have hv : IntKind.i64.wrap (64 - c % 64) = 64 - c % 64 := IntWalk.i64_in _ (by omega)
    simp only [bvAnd63, hw, hv, hu, mink, hm]
    repeat' (first | refine needS_intro ?_ ?_ | refine brS_intro (fun _ => ?_) (fun _ => ?_) | refine And.intro ?_ ?_)
    all_goals first | exact hk | omega | (simp only [decide_eq_true_eq]; omega) | (refine q_eq hk ?_; simp only [IV.agg.injEq, IV.tuple.injEq, IV.int.injEq, IV.bool.injEq, List.cons.injEq, true_and, and_true]; simp only [beq_iff_eq, beq_eq_false_iff_ne, bne_iff_ne, ne_eq, decide_eq_true_eq, decide_eq_false_iff_not, bne_eq_false_iff_eq] at *; grind [ishf, shlk, shlw])
  · exact hk.elim
def cShift := addC 43 kShift cRShl
theorem okShift : Sound env cShift := sound_add sShift (okRShl)

def kRShift (xs : List IV) (h : Heap) (K : IV → Heap → Prop) : Prop := match xs with
  | [.int .i64 o, .agg [.int .i64 a, .int .i64 b], .agg [.int .i64 c, .int .i64 d]] => K (.agg [.int .i64 (ishf o a b c d).1, .int .i64 (ishf o a b c d).2]) h
  | _ => False
set_option maxRecDepth 100000 in
theorem vRShift (o a b c d : Int) (h : Heap) (Q : IV → Heap → Prop) : dF (stdS cShift) env 57 noU noI noI [.int .i64 o, .agg [.int .i64 a, .int .i64 b], .agg [.int .i64 c, .int .i64 d]] h Q = (
  brS (o == (12 : Int))
    (brS (c == d)
      (((0 : Int) ≤ bvAnd IntKind.i64 c (63 : Int) ∧ bvAnd IntKind.i64 c (63 : Int) < (64 : Int)) ∧
        ((0 : Int) ≤ bvAnd IntKind.i64 c (63 : Int) ∧ bvAnd IntKind.i64 c (63 : Int) < (64 : Int)) ∧
          Q
            (IV.agg
              [IV.int IntKind.i64
                  (Prod.fst
                    (if (shlk a ((2 : Int) ^ Int.toNat (bvAnd IntKind.i64 c (63 : Int))) && shlk b ((2 : Int) ^ Int.toNat (bvAnd IntKind.i64 c (63 : Int)))) = true then
                      (shlw a ((2 : Int) ^ Int.toNat (bvAnd IntKind.i64 c (63 : Int))), shlw b ((2 : Int) ^ Int.toNat (bvAnd IntKind.i64 c (63 : Int))))
                    else (minW, maxW))),
                IV.int IntKind.i64
                  (Prod.snd
                    (if (shlk a ((2 : Int) ^ Int.toNat (bvAnd IntKind.i64 c (63 : Int))) && shlk b ((2 : Int) ^ Int.toNat (bvAnd IntKind.i64 c (63 : Int)))) = true then
                      (shlw a ((2 : Int) ^ Int.toNat (bvAnd IntKind.i64 c (63 : Int))), shlw b ((2 : Int) ^ Int.toNat (bvAnd IntKind.i64 c (63 : Int))))
                    else (minW, maxW)))])
            h)
      (brS (o == (12 : Int)) (Q (IV.agg [IV.int IntKind.i64 (-9223372036854775808 : Int), IV.int IntKind.i64 (9223372036854775807 : Int)]) h)
        (brS (o == (14 : Int))
          (brS (c == d)
            (needS (decide ((0 : Int) ≤ IntKind.wrap IntKind.u64 (bvAnd IntKind.i64 c (63 : Int))))
              (needS (decide ((0 : Int) ≤ IntKind.wrap IntKind.u64 (bvAnd IntKind.i64 c (63 : Int))))
                (Q
                  (IV.agg
                    [IV.int IntKind.i64 (Int.fdiv a ((2 : Int) ^ min (Int.toNat (IntKind.wrap IntKind.u64 (bvAnd IntKind.i64 c (63 : Int)))) (64 : Nat))),
                      IV.int IntKind.i64 (Int.fdiv b ((2 : Int) ^ min (Int.toNat (IntKind.wrap IntKind.u64 (bvAnd IntKind.i64 c (63 : Int)))) (64 : Nat)))])
                  h)))
            (brS (o == (14 : Int))
              (brS (decide (a ≥ (0 : Int))) (brS (decide (b < (0 : Int))) (Q (IV.agg [IV.int IntKind.i64 (0 : Int), IV.int IntKind.i64 (-1 : Int)]) h) (Q (IV.agg [IV.int IntKind.i64 (0 : Int), IV.int IntKind.i64 b]) h))
                (brS (decide (b < (0 : Int))) (Q (IV.agg [IV.int IntKind.i64 a, IV.int IntKind.i64 (-1 : Int)]) h) (Q (IV.agg [IV.int IntKind.i64 a, IV.int IntKind.i64 b]) h)))
              (brS (c == d)
                (brS (bvAnd IntKind.i64 c (63 : Int) == (0 : Int)) (Q (IV.agg [IV.int IntKind.i64 a, IV.int IntKind.i64 b]) h)
                  (brS (c == d)
                    (brS (decide (a ≥ (0 : Int)))
                      (needS (decide ((0 : Int) ≤ IntKind.wrap IntKind.u64 (bvAnd IntKind.i64 c (63 : Int))))
                        (needS (decide ((0 : Int) ≤ IntKind.wrap IntKind.u64 (bvAnd IntKind.i64 c (63 : Int))))
                          (Q
                            (IV.agg
                              [IV.int IntKind.i64 (Int.fdiv a ((2 : Int) ^ min (Int.toNat (IntKind.wrap IntKind.u64 (bvAnd IntKind.i64 c (63 : Int)))) (64 : Nat))),
                                IV.int IntKind.i64 (Int.fdiv b ((2 : Int) ^ min (Int.toNat (IntKind.wrap IntKind.u64 (bvAnd IntKind.i64 c (63 : Int)))) (64 : Nat)))])
                            h)))
                      (brS (c == d)
                        (needS (decide ((0 : Int) ≤ IntKind.wrap IntKind.u64 (IntKind.wrap IntKind.i64 ((64 : Int) - bvAnd IntKind.i64 c (63 : Int)))))
                          (Q
                            (IV.agg
                              [IV.int IntKind.i64 (0 : Int),
                                IV.int IntKind.i64
                                  (IntKind.wrap IntKind.i64
                                    (IntKind.wrap IntKind.i64 ((1 : Int) * (2 : Int) ^ min (Int.toNat (IntKind.wrap IntKind.u64 (IntKind.wrap IntKind.i64 ((64 : Int) - bvAnd IntKind.i64 c (63 : Int))))) (64 : Nat)) - (1 : Int)))])
                            h))
                        (brS (decide (a ≥ (0 : Int))) (Q (IV.agg [IV.int IntKind.i64 (0 : Int), IV.int IntKind.i64 b]) h) (Q (IV.agg [IV.int IntKind.i64 (-9223372036854775808 : Int), IV.int IntKind.i64 (9223372036854775807 : Int)]) h))))
                    (brS (c == d)
                      (needS (decide ((0 : Int) ≤ IntKind.wrap IntKind.u64 (IntKind.wrap IntKind.i64 ((64 : Int) - bvAnd IntKind.i64 c (63 : Int)))))
                        (Q
                          (IV.agg
                            [IV.int IntKind.i64 (0 : Int),
                              IV.int IntKind.i64
                                (IntKind.wrap IntKind.i64
                                  (IntKind.wrap IntKind.i64 ((1 : Int) * (2 : Int) ^ min (Int.toNat (IntKind.wrap IntKind.u64 (IntKind.wrap IntKind.i64 ((64 : Int) - bvAnd IntKind.i64 c (63 : Int))))) (64 : Nat)) - (1 : Int)))])
                          h))
                      (brS (decide (a ≥ (0 : Int))) (Q (IV.agg [IV.int IntKind.i64 (0 : Int), IV.int IntKind.i64 b]) h) (Q (IV.agg [IV.int IntKind.i64 (-9223372036854775808 : Int), IV.int IntKind.i64 (9223372036854775807 : Int)]) h)))))
                (brS (c == d)
                  (brS (decide (a ≥ (0 : Int)))
                    (needS (decide ((0 : Int) ≤ IntKind.wrap IntKind.u64 (bvAnd IntKind.i64 c (63 : Int))))
                      (needS (decide ((0 : Int) ≤ IntKind.wrap IntKind.u64 (bvAnd IntKind.i64 c (63 : Int))))
                        (Q
                          (IV.agg
                            [IV.int IntKind.i64 (Int.fdiv a ((2 : Int) ^ min (Int.toNat (IntKind.wrap IntKind.u64 (bvAnd IntKind.i64 c (63 : Int)))) (64 : Nat))),
                              IV.int IntKind.i64 (Int.fdiv b ((2 : Int) ^ min (Int.toNat (IntKind.wrap IntKind.u64 (bvAnd IntKind.i64 c (63 : Int)))) (64 : Nat)))])
                          h)))
                    (brS (c == d)
                      (needS (decide ((0 : Int) ≤ IntKind.wrap IntKind.u64 (IntKind.wrap IntKind.i64 ((64 : Int) - bvAnd IntKind.i64 c (63 : Int)))))
                        (Q
                          (IV.agg
                            [IV.int IntKind.i64 (0 : Int),
                              IV.int IntKind.i64
                                (IntKind.wrap IntKind.i64
                                  (IntKind.wrap IntKind.i64 ((1 : Int) * (2 : Int) ^ min (Int.toNat (IntKind.wrap IntKind.u64 (IntKind.wrap IntKind.i64 ((64 : Int) - bvAnd IntKind.i64 c (63 : Int))))) (64 : Nat)) - (1 : Int)))])
                          h))
                      (brS (decide (a ≥ (0 : Int))) (Q (IV.agg [IV.int IntKind.i64 (0 : Int), IV.int IntKind.i64 b]) h) (Q (IV.agg [IV.int IntKind.i64 (-9223372036854775808 : Int), IV.int IntKind.i64 (9223372036854775807 : Int)]) h))))
                  (brS (c == d)
                    (needS (decide ((0 : Int) ≤ IntKind.wrap IntKind.u64 (IntKind.wrap IntKind.i64 ((64 : Int) - bvAnd IntKind.i64 c (63 : Int)))))
                      (Q
                        (IV.agg
                          [IV.int IntKind.i64 (0 : Int),
                            IV.int IntKind.i64
                              (IntKind.wrap IntKind.i64
                                (IntKind.wrap IntKind.i64 ((1 : Int) * (2 : Int) ^ min (Int.toNat (IntKind.wrap IntKind.u64 (IntKind.wrap IntKind.i64 ((64 : Int) - bvAnd IntKind.i64 c (63 : Int))))) (64 : Nat)) - (1 : Int)))])
                        h))
                    (brS (decide (a ≥ (0 : Int))) (Q (IV.agg [IV.int IntKind.i64 (0 : Int), IV.int IntKind.i64 b]) h) (Q (IV.agg [IV.int IntKind.i64 (-9223372036854775808 : Int), IV.int IntKind.i64 (9223372036854775807 : Int)]) h)))))))
          (brS (o == (14 : Int))
            (brS (decide (a ≥ (0 : Int))) (brS (decide (b < (0 : Int))) (Q (IV.agg [IV.int IntKind.i64 (0 : Int), IV.int IntKind.i64 (-1 : Int)]) h) (Q (IV.agg [IV.int IntKind.i64 (0 : Int), IV.int IntKind.i64 b]) h))
              (brS (decide (b < (0 : Int))) (Q (IV.agg [IV.int IntKind.i64 a, IV.int IntKind.i64 (-1 : Int)]) h) (Q (IV.agg [IV.int IntKind.i64 a, IV.int IntKind.i64 b]) h)))
            (brS (c == d)
              (brS (bvAnd IntKind.i64 c (63 : Int) == (0 : Int)) (Q (IV.agg [IV.int IntKind.i64 a, IV.int IntKind.i64 b]) h)
                (brS (c == d)
                  (brS (decide (a ≥ (0 : Int)))
                    (needS (decide ((0 : Int) ≤ IntKind.wrap IntKind.u64 (bvAnd IntKind.i64 c (63 : Int))))
                      (needS (decide ((0 : Int) ≤ IntKind.wrap IntKind.u64 (bvAnd IntKind.i64 c (63 : Int))))
                        (Q
                          (IV.agg
                            [IV.int IntKind.i64 (Int.fdiv a ((2 : Int) ^ min (Int.toNat (IntKind.wrap IntKind.u64 (bvAnd IntKind.i64 c (63 : Int)))) (64 : Nat))),
                              IV.int IntKind.i64 (Int.fdiv b ((2 : Int) ^ min (Int.toNat (IntKind.wrap IntKind.u64 (bvAnd IntKind.i64 c (63 : Int)))) (64 : Nat)))])
                          h)))
                    (brS (c == d)
                      (needS (decide ((0 : Int) ≤ IntKind.wrap IntKind.u64 (IntKind.wrap IntKind.i64 ((64 : Int) - bvAnd IntKind.i64 c (63 : Int)))))
                        (Q
                          (IV.agg
                            [IV.int IntKind.i64 (0 : Int),
                              IV.int IntKind.i64
                                (IntKind.wrap IntKind.i64
                                  (IntKind.wrap IntKind.i64 ((1 : Int) * (2 : Int) ^ min (Int.toNat (IntKind.wrap IntKind.u64 (IntKind.wrap IntKind.i64 ((64 : Int) - bvAnd IntKind.i64 c (63 : Int))))) (64 : Nat)) - (1 : Int)))])
                          h))
                      (brS (decide (a ≥ (0 : Int))) (Q (IV.agg [IV.int IntKind.i64 (0 : Int), IV.int IntKind.i64 b]) h) (Q (IV.agg [IV.int IntKind.i64 (-9223372036854775808 : Int), IV.int IntKind.i64 (9223372036854775807 : Int)]) h))))
                  (brS (c == d)
                    (needS (decide ((0 : Int) ≤ IntKind.wrap IntKind.u64 (IntKind.wrap IntKind.i64 ((64 : Int) - bvAnd IntKind.i64 c (63 : Int)))))
                      (Q
                        (IV.agg
                          [IV.int IntKind.i64 (0 : Int),
                            IV.int IntKind.i64
                              (IntKind.wrap IntKind.i64
                                (IntKind.wrap IntKind.i64 ((1 : Int) * (2 : Int) ^ min (Int.toNat (IntKind.wrap IntKind.u64 (IntKind.wrap IntKind.i64 ((64 : Int) - bvAnd IntKind.i64 c (63 : Int))))) (64 : Nat)) - (1 : Int)))])
                        h))
                    (brS (decide (a ≥ (0 : Int))) (Q (IV.agg [IV.int IntKind.i64 (0 : Int), IV.int IntKind.i64 b]) h) (Q (IV.agg [IV.int IntKind.i64 (-9223372036854775808 : Int), IV.int IntKind.i64 (9223372036854775807 : Int)]) h)))))
              (brS (c == d)
                (brS (decide (a ≥ (0 : Int)))
                  (needS (decide ((0 : Int) ≤ IntKind.wrap IntKind.u64 (bvAnd IntKind.i64 c (63 : Int))))
                    (needS (decide ((0 : Int) ≤ IntKind.wrap IntKind.u64 (bvAnd IntKind.i64 c (63 : Int))))
                      (Q
                        (IV.agg
                          [IV.int IntKind.i64 (Int.fdiv a ((2 : Int) ^ min (Int.toNat (IntKind.wrap IntKind.u64 (bvAnd IntKind.i64 c (63 : Int)))) (64 : Nat))),
                            IV.int IntKind.i64 (Int.fdiv b ((2 : Int) ^ min (Int.toNat (IntKind.wrap IntKind.u64 (bvAnd IntKind.i64 c (63 : Int)))) (64 : Nat)))])
                        h)))
                  (brS (c == d)
                    (needS (decide ((0 : Int) ≤ IntKind.wrap IntKind.u64 (IntKind.wrap IntKind.i64 ((64 : Int) - bvAnd IntKind.i64 c (63 : Int)))))
                      (Q
                        (IV.agg
                          [IV.int IntKind.i64 (0 : Int),
                            IV.int IntKind.i64
                              (IntKind.wrap IntKind.i64
                                (IntKind.wrap IntKind.i64 ((1 : Int) * (2 : Int) ^ min (Int.toNat (IntKind.wrap IntKind.u64 (IntKind.wrap IntKind.i64 ((64 : Int) - bvAnd IntKind.i64 c (63 : Int))))) (64 : Nat)) - (1 : Int)))])
                        h))
                    (brS (decide (a ≥ (0 : Int))) (Q (IV.agg [IV.int IntKind.i64 (0 : Int), IV.int IntKind.i64 b]) h) (Q (IV.agg [IV.int IntKind.i64 (-9223372036854775808 : Int), IV.int IntKind.i64 (9223372036854775807 : Int)]) h))))
                (brS (c == d)
                  (needS (decide ((0 : Int) ≤ IntKind.wrap IntKind.u64 (IntKind.wrap IntKind.i64 ((64 : Int) - bvAnd IntKind.i64 c (63 : Int)))))
                    (Q
                      (IV.agg
                        [IV.int IntKind.i64 (0 : Int),
                          IV.int IntKind.i64
                            (IntKind.wrap IntKind.i64
                              (IntKind.wrap IntKind.i64 ((1 : Int) * (2 : Int) ^ min (Int.toNat (IntKind.wrap IntKind.u64 (IntKind.wrap IntKind.i64 ((64 : Int) - bvAnd IntKind.i64 c (63 : Int))))) (64 : Nat)) - (1 : Int)))])
                      h))
                  (brS (decide (a ≥ (0 : Int))) (Q (IV.agg [IV.int IntKind.i64 (0 : Int), IV.int IntKind.i64 b]) h) (Q (IV.agg [IV.int IntKind.i64 (-9223372036854775808 : Int), IV.int IntKind.i64 (9223372036854775807 : Int)]) h)))))))))
    (brS (o == (12 : Int)) (Q (IV.agg [IV.int IntKind.i64 (-9223372036854775808 : Int), IV.int IntKind.i64 (9223372036854775807 : Int)]) h)
      (brS (o == (14 : Int))
        (brS (c == d)
          (needS (decide ((0 : Int) ≤ IntKind.wrap IntKind.u64 (bvAnd IntKind.i64 c (63 : Int))))
            (needS (decide ((0 : Int) ≤ IntKind.wrap IntKind.u64 (bvAnd IntKind.i64 c (63 : Int))))
              (Q
                (IV.agg
                  [IV.int IntKind.i64 (Int.fdiv a ((2 : Int) ^ min (Int.toNat (IntKind.wrap IntKind.u64 (bvAnd IntKind.i64 c (63 : Int)))) (64 : Nat))),
                    IV.int IntKind.i64 (Int.fdiv b ((2 : Int) ^ min (Int.toNat (IntKind.wrap IntKind.u64 (bvAnd IntKind.i64 c (63 : Int)))) (64 : Nat)))])
                h)))
          (brS (o == (14 : Int))
            (brS (decide (a ≥ (0 : Int))) (brS (decide (b < (0 : Int))) (Q (IV.agg [IV.int IntKind.i64 (0 : Int), IV.int IntKind.i64 (-1 : Int)]) h) (Q (IV.agg [IV.int IntKind.i64 (0 : Int), IV.int IntKind.i64 b]) h))
              (brS (decide (b < (0 : Int))) (Q (IV.agg [IV.int IntKind.i64 a, IV.int IntKind.i64 (-1 : Int)]) h) (Q (IV.agg [IV.int IntKind.i64 a, IV.int IntKind.i64 b]) h)))
            (brS (c == d)
              (brS (bvAnd IntKind.i64 c (63 : Int) == (0 : Int)) (Q (IV.agg [IV.int IntKind.i64 a, IV.int IntKind.i64 b]) h)
                (brS (c == d)
                  (brS (decide (a ≥ (0 : Int)))
                    (needS (decide ((0 : Int) ≤ IntKind.wrap IntKind.u64 (bvAnd IntKind.i64 c (63 : Int))))
                      (needS (decide ((0 : Int) ≤ IntKind.wrap IntKind.u64 (bvAnd IntKind.i64 c (63 : Int))))
                        (Q
                          (IV.agg
                            [IV.int IntKind.i64 (Int.fdiv a ((2 : Int) ^ min (Int.toNat (IntKind.wrap IntKind.u64 (bvAnd IntKind.i64 c (63 : Int)))) (64 : Nat))),
                              IV.int IntKind.i64 (Int.fdiv b ((2 : Int) ^ min (Int.toNat (IntKind.wrap IntKind.u64 (bvAnd IntKind.i64 c (63 : Int)))) (64 : Nat)))])
                          h)))
                    (brS (c == d)
                      (needS (decide ((0 : Int) ≤ IntKind.wrap IntKind.u64 (IntKind.wrap IntKind.i64 ((64 : Int) - bvAnd IntKind.i64 c (63 : Int)))))
                        (Q
                          (IV.agg
                            [IV.int IntKind.i64 (0 : Int),
                              IV.int IntKind.i64
                                (IntKind.wrap IntKind.i64
                                  (IntKind.wrap IntKind.i64 ((1 : Int) * (2 : Int) ^ min (Int.toNat (IntKind.wrap IntKind.u64 (IntKind.wrap IntKind.i64 ((64 : Int) - bvAnd IntKind.i64 c (63 : Int))))) (64 : Nat)) - (1 : Int)))])
                          h))
                      (brS (decide (a ≥ (0 : Int))) (Q (IV.agg [IV.int IntKind.i64 (0 : Int), IV.int IntKind.i64 b]) h) (Q (IV.agg [IV.int IntKind.i64 (-9223372036854775808 : Int), IV.int IntKind.i64 (9223372036854775807 : Int)]) h))))
                  (brS (c == d)
                    (needS (decide ((0 : Int) ≤ IntKind.wrap IntKind.u64 (IntKind.wrap IntKind.i64 ((64 : Int) - bvAnd IntKind.i64 c (63 : Int)))))
                      (Q
                        (IV.agg
                          [IV.int IntKind.i64 (0 : Int),
                            IV.int IntKind.i64
                              (IntKind.wrap IntKind.i64
                                (IntKind.wrap IntKind.i64 ((1 : Int) * (2 : Int) ^ min (Int.toNat (IntKind.wrap IntKind.u64 (IntKind.wrap IntKind.i64 ((64 : Int) - bvAnd IntKind.i64 c (63 : Int))))) (64 : Nat)) - (1 : Int)))])
                        h))
                    (brS (decide (a ≥ (0 : Int))) (Q (IV.agg [IV.int IntKind.i64 (0 : Int), IV.int IntKind.i64 b]) h) (Q (IV.agg [IV.int IntKind.i64 (-9223372036854775808 : Int), IV.int IntKind.i64 (9223372036854775807 : Int)]) h)))))
              (brS (c == d)
                (brS (decide (a ≥ (0 : Int)))
                  (needS (decide ((0 : Int) ≤ IntKind.wrap IntKind.u64 (bvAnd IntKind.i64 c (63 : Int))))
                    (needS (decide ((0 : Int) ≤ IntKind.wrap IntKind.u64 (bvAnd IntKind.i64 c (63 : Int))))
                      (Q
                        (IV.agg
                          [IV.int IntKind.i64 (Int.fdiv a ((2 : Int) ^ min (Int.toNat (IntKind.wrap IntKind.u64 (bvAnd IntKind.i64 c (63 : Int)))) (64 : Nat))),
                            IV.int IntKind.i64 (Int.fdiv b ((2 : Int) ^ min (Int.toNat (IntKind.wrap IntKind.u64 (bvAnd IntKind.i64 c (63 : Int)))) (64 : Nat)))])
                        h)))
                  (brS (c == d)
                    (needS (decide ((0 : Int) ≤ IntKind.wrap IntKind.u64 (IntKind.wrap IntKind.i64 ((64 : Int) - bvAnd IntKind.i64 c (63 : Int)))))
                      (Q
                        (IV.agg
                          [IV.int IntKind.i64 (0 : Int),
                            IV.int IntKind.i64
                              (IntKind.wrap IntKind.i64
                                (IntKind.wrap IntKind.i64 ((1 : Int) * (2 : Int) ^ min (Int.toNat (IntKind.wrap IntKind.u64 (IntKind.wrap IntKind.i64 ((64 : Int) - bvAnd IntKind.i64 c (63 : Int))))) (64 : Nat)) - (1 : Int)))])
                        h))
                    (brS (decide (a ≥ (0 : Int))) (Q (IV.agg [IV.int IntKind.i64 (0 : Int), IV.int IntKind.i64 b]) h) (Q (IV.agg [IV.int IntKind.i64 (-9223372036854775808 : Int), IV.int IntKind.i64 (9223372036854775807 : Int)]) h))))
                (brS (c == d)
                  (needS (decide ((0 : Int) ≤ IntKind.wrap IntKind.u64 (IntKind.wrap IntKind.i64 ((64 : Int) - bvAnd IntKind.i64 c (63 : Int)))))
                    (Q
                      (IV.agg
                        [IV.int IntKind.i64 (0 : Int),
                          IV.int IntKind.i64
                            (IntKind.wrap IntKind.i64
                              (IntKind.wrap IntKind.i64 ((1 : Int) * (2 : Int) ^ min (Int.toNat (IntKind.wrap IntKind.u64 (IntKind.wrap IntKind.i64 ((64 : Int) - bvAnd IntKind.i64 c (63 : Int))))) (64 : Nat)) - (1 : Int)))])
                      h))
                  (brS (decide (a ≥ (0 : Int))) (Q (IV.agg [IV.int IntKind.i64 (0 : Int), IV.int IntKind.i64 b]) h) (Q (IV.agg [IV.int IntKind.i64 (-9223372036854775808 : Int), IV.int IntKind.i64 (9223372036854775807 : Int)]) h)))))))
        (brS (o == (14 : Int))
          (brS (decide (a ≥ (0 : Int))) (brS (decide (b < (0 : Int))) (Q (IV.agg [IV.int IntKind.i64 (0 : Int), IV.int IntKind.i64 (-1 : Int)]) h) (Q (IV.agg [IV.int IntKind.i64 (0 : Int), IV.int IntKind.i64 b]) h))
            (brS (decide (b < (0 : Int))) (Q (IV.agg [IV.int IntKind.i64 a, IV.int IntKind.i64 (-1 : Int)]) h) (Q (IV.agg [IV.int IntKind.i64 a, IV.int IntKind.i64 b]) h)))
          (brS (c == d)
            (brS (bvAnd IntKind.i64 c (63 : Int) == (0 : Int)) (Q (IV.agg [IV.int IntKind.i64 a, IV.int IntKind.i64 b]) h)
              (brS (c == d)
                (brS (decide (a ≥ (0 : Int)))
                  (needS (decide ((0 : Int) ≤ IntKind.wrap IntKind.u64 (bvAnd IntKind.i64 c (63 : Int))))
                    (needS (decide ((0 : Int) ≤ IntKind.wrap IntKind.u64 (bvAnd IntKind.i64 c (63 : Int))))
                      (Q
                        (IV.agg
                          [IV.int IntKind.i64 (Int.fdiv a ((2 : Int) ^ min (Int.toNat (IntKind.wrap IntKind.u64 (bvAnd IntKind.i64 c (63 : Int)))) (64 : Nat))),
                            IV.int IntKind.i64 (Int.fdiv b ((2 : Int) ^ min (Int.toNat (IntKind.wrap IntKind.u64 (bvAnd IntKind.i64 c (63 : Int)))) (64 : Nat)))])
                        h)))
                  (brS (c == d)
                    (needS (decide ((0 : Int) ≤ IntKind.wrap IntKind.u64 (IntKind.wrap IntKind.i64 ((64 : Int) - bvAnd IntKind.i64 c (63 : Int)))))
                      (Q
                        (IV.agg
                          [IV.int IntKind.i64 (0 : Int),
                            IV.int IntKind.i64
                              (IntKind.wrap IntKind.i64
                                (IntKind.wrap IntKind.i64 ((1 : Int) * (2 : Int) ^ min (Int.toNat (IntKind.wrap IntKind.u64 (IntKind.wrap IntKind.i64 ((64 : Int) - bvAnd IntKind.i64 c (63 : Int))))) (64 : Nat)) - (1 : Int)))])
                        h))
                    (brS (decide (a ≥ (0 : Int))) (Q (IV.agg [IV.int IntKind.i64 (0 : Int), IV.int IntKind.i64 b]) h) (Q (IV.agg [IV.int IntKind.i64 (-9223372036854775808 : Int), IV.int IntKind.i64 (9223372036854775807 : Int)]) h))))
                (brS (c == d)
                  (needS (decide ((0 : Int) ≤ IntKind.wrap IntKind.u64 (IntKind.wrap IntKind.i64 ((64 : Int) - bvAnd IntKind.i64 c (63 : Int)))))
                    (Q
                      (IV.agg
                        [IV.int IntKind.i64 (0 : Int),
                          IV.int IntKind.i64
                            (IntKind.wrap IntKind.i64
                              (IntKind.wrap IntKind.i64 ((1 : Int) * (2 : Int) ^ min (Int.toNat (IntKind.wrap IntKind.u64 (IntKind.wrap IntKind.i64 ((64 : Int) - bvAnd IntKind.i64 c (63 : Int))))) (64 : Nat)) - (1 : Int)))])
                      h))
                  (brS (decide (a ≥ (0 : Int))) (Q (IV.agg [IV.int IntKind.i64 (0 : Int), IV.int IntKind.i64 b]) h) (Q (IV.agg [IV.int IntKind.i64 (-9223372036854775808 : Int), IV.int IntKind.i64 (9223372036854775807 : Int)]) h)))))
            (brS (c == d)
              (brS (decide (a ≥ (0 : Int)))
                (needS (decide ((0 : Int) ≤ IntKind.wrap IntKind.u64 (bvAnd IntKind.i64 c (63 : Int))))
                  (needS (decide ((0 : Int) ≤ IntKind.wrap IntKind.u64 (bvAnd IntKind.i64 c (63 : Int))))
                    (Q
                      (IV.agg
                        [IV.int IntKind.i64 (Int.fdiv a ((2 : Int) ^ min (Int.toNat (IntKind.wrap IntKind.u64 (bvAnd IntKind.i64 c (63 : Int)))) (64 : Nat))),
                          IV.int IntKind.i64 (Int.fdiv b ((2 : Int) ^ min (Int.toNat (IntKind.wrap IntKind.u64 (bvAnd IntKind.i64 c (63 : Int)))) (64 : Nat)))])
                      h)))
                (brS (c == d)
                  (needS (decide ((0 : Int) ≤ IntKind.wrap IntKind.u64 (IntKind.wrap IntKind.i64 ((64 : Int) - bvAnd IntKind.i64 c (63 : Int)))))
                    (Q
                      (IV.agg
                        [IV.int IntKind.i64 (0 : Int),
                          IV.int IntKind.i64
                            (IntKind.wrap IntKind.i64
                              (IntKind.wrap IntKind.i64 ((1 : Int) * (2 : Int) ^ min (Int.toNat (IntKind.wrap IntKind.u64 (IntKind.wrap IntKind.i64 ((64 : Int) - bvAnd IntKind.i64 c (63 : Int))))) (64 : Nat)) - (1 : Int)))])
                      h))
                  (brS (decide (a ≥ (0 : Int))) (Q (IV.agg [IV.int IntKind.i64 (0 : Int), IV.int IntKind.i64 b]) h) (Q (IV.agg [IV.int IntKind.i64 (-9223372036854775808 : Int), IV.int IntKind.i64 (9223372036854775807 : Int)]) h))))
              (brS (c == d)
                (needS (decide ((0 : Int) ≤ IntKind.wrap IntKind.u64 (IntKind.wrap IntKind.i64 ((64 : Int) - bvAnd IntKind.i64 c (63 : Int)))))
                  (Q
                    (IV.agg
                      [IV.int IntKind.i64 (0 : Int),
                        IV.int IntKind.i64
                          (IntKind.wrap IntKind.i64
                            (IntKind.wrap IntKind.i64 ((1 : Int) * (2 : Int) ^ min (Int.toNat (IntKind.wrap IntKind.u64 (IntKind.wrap IntKind.i64 ((64 : Int) - bvAnd IntKind.i64 c (63 : Int))))) (64 : Nat)) - (1 : Int)))])
                    h))
                (brS (decide (a ≥ (0 : Int))) (Q (IV.agg [IV.int IntKind.i64 (0 : Int), IV.int IntKind.i64 b]) h) (Q (IV.agg [IV.int IntKind.i64 (-9223372036854775808 : Int), IV.int IntKind.i64 (9223372036854775807 : Int)]) h))))))))) := by kernel_rfl
set_option maxHeartbeats 2000000 in
theorem sRShift : ∀ xs h Q, kRShift xs h Q → CallW env 57 xs h Q := by
  intro xs h Q hk
  unfold kRShift at hk
  split at hk
  · rename_i o a b c d
    refine dF_sound (okShift) (mp_eq (vRShift o a b c d h Q) ?_)
    have hnn : (0:Int) ≤ c % 64 ∧ c % 64 < 64 := by omega
    have hu : IntKind.u64.wrap (64 - c % 64) = 64 - c % 64 := IntWalk.u64_in _ (by omega)
    have hm : min (64 - c % 64).toNat 64 = (64 - c % 64).toNat := by omega
    have hw : IntKind.u64.wrap (c % 64) = c % 64 := IntWalk.u64_in _ (by omega)
    have hv : IntKind.i64.wrap (64 - c % 64) = 64 - c % 64 := IntWalk.i64_in _ (by omega)
    simp only [bvAnd63, hw, hv, hu, mink, hm]
    repeat' (first | refine needS_intro ?_ ?_ | refine brS_intro (fun _ => ?_) (fun _ => ?_) | refine And.intro ?_ ?_)
    all_goals first | exact hk | omega | (simp only [decide_eq_true_eq]; omega) | (refine q_eq hk ?_; simp only [IV.agg.injEq, IV.tuple.injEq, IV.int.injEq, IV.bool.injEq, List.cons.injEq, true_and, and_true]; simp only [beq_iff_eq, beq_eq_false_iff_ne, bne_iff_ne, ne_eq, decide_eq_true_eq, decide_eq_false_iff_not, bne_eq_false_iff_eq] at *; grind [ishf, shlk, shlw])
  · exact hk.elim
def cRShift := addC 57 kRShift cShift
theorem okRShift : Sound env cRShift := sound_add sRShift (okShift)

def kWUnC (xs : List IV) (h : Heap) (K : IV → Heap → Prop) : Prop := match xs with
  | [.int .i64 o, .int .i64 a] => K (.int .i64 (wun o a)) h
  | _ => False
theorem sWUnC : ∀ xs h Q, kWUnC xs h Q → CallW env 47 xs h Q := by
  intro xs h Q hk
  unfold kWUnC at hk
  split at hk
  · exact sWUn _ _ _ hk
  · exact hk.elim
def cWUnC := addC 47 kWUnC cRShift
theorem okWUnC : Sound env cWUnC := sound_add sWUnC (okRShift)

def kRUnC (xs : List IV) (h : Heap) (K : IV → Heap → Prop) : Prop := match xs with
  | [.int .i64 o, .int .i64 a] => K (.int .i64 (wun o a)) h
  | _ => False
set_option maxRecDepth 100000 in
theorem vRUnC (o a : Int) (h : Heap) (Q : IV → Heap → Prop) : dF (stdS cWUnC) env 21 noU noI noI [.int .i64 o, .int .i64 a] h Q = (
  brS (o == (20 : Int)) (Q (IV.int IntKind.i64 (IntKind.wrap IntKind.i64 ((0 : Int) - a))) h) (brS (o == (21 : Int)) (Q (IV.int IntKind.i64 (bvXor IntKind.i64 (-1 : Int) a)) h) (Q (IV.int IntKind.i64 (0 : Int)) h))) := by kernel_rfl
theorem sRUnC : ∀ xs h Q, kRUnC xs h Q → CallW env 21 xs h Q := by
  intro xs h Q hk
  unfold kRUnC at hk
  split at hk
  · rename_i o a
    refine dF_sound (okWUnC) (mp_eq (vRUnC o a h Q) ?_)
    repeat' (first | refine needS_intro ?_ ?_ | refine brS_intro (fun _ => ?_) (fun _ => ?_) | refine And.intro ?_ ?_)
    all_goals first | exact hk | (refine q_eq hk ?_; congr 1; (try simp only [beq_iff_eq, beq_eq_false_iff_ne, ne_eq] at *); unfold wun; (repeat (first | rw [if_pos (by assumption)] | rw [if_neg (by assumption)])); first | done | rfl)
  · exact hk.elim
def cRUnC := addC 21 kRUnC cWUnC
theorem okRUnC : Sound env cRUnC := sound_add sRUnC (okWUnC)

def kUn (xs : List IV) (h : Heap) (K : IV → Heap → Prop) : Prop := match xs with
  | [.int .i64 o, .agg [.int .i64 a, .int .i64 b]] => K (.agg [.int .i64 (iun o a b).1, .int .i64 (iun o a b).2]) h
  | _ => False
set_option maxRecDepth 100000 in
theorem vUn (o a b : Int) (h : Heap) (Q : IV → Heap → Prop) : dF (stdS cRUnC) env 19 noU noI noI [.int .i64 o, .agg [.int .i64 a, .int .i64 b]] h Q = (
  brS (o != (20 : Int))
    (brS (o != (21 : Int)) (Q (IV.agg [IV.int IntKind.i64 (-9223372036854775808 : Int), IV.int IntKind.i64 (9223372036854775807 : Int)]) h)
      (brS (!decide (a ≤ b)) (Q (IV.agg [IV.int IntKind.i64 (-9223372036854775808 : Int), IV.int IntKind.i64 (9223372036854775807 : Int)]) h)
        (brS (a == b) (Q (IV.agg [IV.int IntKind.i64 (wun o a), IV.int IntKind.i64 (wun o a)]) h)
          (brS (o == (21 : Int)) (Q (IV.agg [IV.int IntKind.i64 (bvXor IntKind.i64 (-1 : Int) b), IV.int IntKind.i64 (bvXor IntKind.i64 (-1 : Int) a)]) h)
            (brS (a == (-9223372036854775808 : Int)) (Q (IV.agg [IV.int IntKind.i64 (-9223372036854775808 : Int), IV.int IntKind.i64 (9223372036854775807 : Int)]) h)
              (Q (IV.agg [IV.int IntKind.i64 (IntKind.wrap IntKind.i64 ((0 : Int) - b)), IV.int IntKind.i64 (IntKind.wrap IntKind.i64 ((0 : Int) - a))]) h))))))
    (brS (!decide (a ≤ b)) (Q (IV.agg [IV.int IntKind.i64 (-9223372036854775808 : Int), IV.int IntKind.i64 (9223372036854775807 : Int)]) h)
      (brS (a == b) (Q (IV.agg [IV.int IntKind.i64 (wun o a), IV.int IntKind.i64 (wun o a)]) h)
        (brS (o == (21 : Int)) (Q (IV.agg [IV.int IntKind.i64 (bvXor IntKind.i64 (-1 : Int) b), IV.int IntKind.i64 (bvXor IntKind.i64 (-1 : Int) a)]) h)
          (brS (a == (-9223372036854775808 : Int)) (Q (IV.agg [IV.int IntKind.i64 (-9223372036854775808 : Int), IV.int IntKind.i64 (9223372036854775807 : Int)]) h)
            (Q (IV.agg [IV.int IntKind.i64 (IntKind.wrap IntKind.i64 ((0 : Int) - b)), IV.int IntKind.i64 (IntKind.wrap IntKind.i64 ((0 : Int) - a))]) h)))))) := by kernel_rfl
theorem sUn : ∀ xs h Q, kUn xs h Q → CallW env 19 xs h Q := by
  intro xs h Q hk
  unfold kUn at hk
  split at hk
  · rename_i o a b
    refine dF_sound (okRUnC) (mp_eq (vUn o a b h Q) ?_)
    have e1 : ∀ x, bvXor .i64 (-1 : Int) x = inot x := fun _ => rfl
    simp only [e1]
    repeat' (first | refine needS_intro ?_ ?_ | refine brS_intro (fun _ => ?_) (fun _ => ?_) | refine And.intro ?_ ?_)
    all_goals first | exact hk | (refine q_eq hk ?_; try simp only [IV.agg.injEq, IV.tuple.injEq, IV.int.injEq, IV.bool.injEq, List.cons.injEq, true_and, and_true]; (try simp only [beq_iff_eq, beq_eq_false_iff_ne, bne_iff_ne, ne_eq, decide_eq_true_eq, decide_eq_false_iff_not, bne_eq_false_iff_eq] at *); grind [iun])
  · exact hk.elim
def cUn := addC 19 kUn cRUnC
theorem okUn : Sound env cUn := sound_add sUn (okRUnC)

def kRUnary (xs : List IV) (h : Heap) (K : IV → Heap → Prop) : Prop := match xs with
  | [.int .i64 o, .agg [.int .i64 a, .int .i64 b]] => K (.agg [.int .i64 (iun o a b).1, .int .i64 (iun o a b).2]) h
  | _ => False
set_option maxRecDepth 100000 in
theorem vRUnary (o a b : Int) (h : Heap) (Q : IV → Heap → Prop) : dF (stdS cUn) env 23 noU noI noI [.int .i64 o, .agg [.int .i64 a, .int .i64 b]] h Q = (
  brS (!decide (a ≤ b)) (Q (IV.agg [IV.int IntKind.i64 (-9223372036854775808 : Int), IV.int IntKind.i64 (9223372036854775807 : Int)]) h)
    (brS (o != (20 : Int))
      (brS (o != (21 : Int)) (Q (IV.agg [IV.int IntKind.i64 (-9223372036854775808 : Int), IV.int IntKind.i64 (9223372036854775807 : Int)]) h)
        (brS (a == b) (Q (IV.agg [IV.int IntKind.i64 (wun o a), IV.int IntKind.i64 (wun o a)]) h)
          (brS (o == (21 : Int)) (Q (IV.agg [IV.int IntKind.i64 (bvXor IntKind.i64 (-1 : Int) b), IV.int IntKind.i64 (bvXor IntKind.i64 (-1 : Int) a)]) h)
            (brS (a == (-9223372036854775808 : Int)) (Q (IV.agg [IV.int IntKind.i64 (-9223372036854775808 : Int), IV.int IntKind.i64 (9223372036854775807 : Int)]) h)
              (Q (IV.agg [IV.int IntKind.i64 (IntKind.wrap IntKind.i64 ((0 : Int) - b)), IV.int IntKind.i64 (IntKind.wrap IntKind.i64 ((0 : Int) - a))]) h)))))
      (brS (a == b) (Q (IV.agg [IV.int IntKind.i64 (wun o a), IV.int IntKind.i64 (wun o a)]) h)
        (brS (o == (21 : Int)) (Q (IV.agg [IV.int IntKind.i64 (bvXor IntKind.i64 (-1 : Int) b), IV.int IntKind.i64 (bvXor IntKind.i64 (-1 : Int) a)]) h)
          (brS (a == (-9223372036854775808 : Int)) (Q (IV.agg [IV.int IntKind.i64 (-9223372036854775808 : Int), IV.int IntKind.i64 (9223372036854775807 : Int)]) h)
            (Q (IV.agg [IV.int IntKind.i64 (IntKind.wrap IntKind.i64 ((0 : Int) - b)), IV.int IntKind.i64 (IntKind.wrap IntKind.i64 ((0 : Int) - a))]) h)))))) := by kernel_rfl
theorem sRUnary : ∀ xs h Q, kRUnary xs h Q → CallW env 23 xs h Q := by
  intro xs h Q hk
  unfold kRUnary at hk
  split at hk
  · rename_i o a b
    refine dF_sound (okUn) (mp_eq (vRUnary o a b h Q) ?_)
    have e1 : ∀ x, bvXor .i64 (-1 : Int) x = inot x := fun _ => rfl
    simp only [e1]
    repeat' (first | refine needS_intro ?_ ?_ | refine brS_intro (fun _ => ?_) (fun _ => ?_) | refine And.intro ?_ ?_)
    all_goals first | exact hk | (refine q_eq hk ?_; try simp only [IV.agg.injEq, IV.tuple.injEq, IV.int.injEq, IV.bool.injEq, List.cons.injEq, true_and, and_true]; (try simp only [beq_iff_eq, beq_eq_false_iff_ne, bne_iff_ne, ne_eq, decide_eq_true_eq, decide_eq_false_iff_not, bne_eq_false_iff_eq] at *); grind [iun])
  · exact hk.elim
def cRUnary := addC 23 kRUnary cUn
theorem okRUnary : Sound env cRUnary := sound_add sRUnary (okUn)

def onesInv (n : Int) (h : Heap) : Inv' := ⟨Int, fun x => [(0, .v (.int .i64 n)), (3, .v (.int .i64 x))], fun _ => [], fun _ => h, fun x => isOnes x n, fun x => (n - x).toNat, fun F _ => match F.tmg 3 with | some (.v (.int .i64 x)) => some x | _ => none⟩
def kAllOnes (xs : List IV) (h : Heap) (K : IV → Heap → Prop) : Prop := match xs with
  | [.int .i64 n] => inR n ∧ K (.int .i64 (ones n)) h
  | _ => False
set_option maxRecDepth 100000 in
theorem vAllOnes (n : Int) (h : Heap) (Q : IV → Heap → Prop) : dF (stdS cRUnary) env 64 noU (ic1 3 (onesInv n h)) noI [.int .i64 n] h Q = (
  (some (TV.v (IV.int IntKind.i64 n)) = some (TV.v (IV.int IntKind.i64 n)) ∧
      some (TV.v (IV.int IntKind.i64 (0 : Int))) = some (TV.v (IV.int IntKind.i64 (0 : Int))) ∧
        h = h ∧ (∃ (k : Nat), (0 : Int) = (↑((2 : Nat) ^ k) : Int) - (1 : Int) ∧ k ≤ (63 : Nat) ∧ (k = (0 : Nat) ∨ (↑((2 : Nat) ^ (k - (1 : Nat))) : Int) - (1 : Int) < n)) ∧ True) ∧
    ∀ (x : Int) (b : FF),
      isOnes x n →
        brS (decide (x < n))
          (some (TV.v (IV.int IntKind.i64 n)) = some (TV.v (IV.int IntKind.i64 n)) ∧
            some (TV.v (IV.int IntKind.i64 (IntKind.wrap IntKind.i64 (IntKind.wrap IntKind.i64 ((2 : Int) * x) + (1 : Int))))) =
                some (TV.v (IV.int IntKind.i64 (IntKind.wrap IntKind.i64 (IntKind.wrap IntKind.i64 ((2 : Int) * x) + (1 : Int))))) ∧
              h = h ∧
                (∃ (k : Nat),
                    IntKind.wrap IntKind.i64 (IntKind.wrap IntKind.i64 ((2 : Int) * x) + (1 : Int)) = (↑((2 : Nat) ^ k) : Int) - (1 : Int) ∧ k ≤ (63 : Nat) ∧ (k = (0 : Nat) ∨ (↑((2 : Nat) ^ (k - (1 : Nat))) : Int) - (1 : Int) < n)) ∧
                  Int.toNat (n - IntKind.wrap IntKind.i64 (IntKind.wrap IntKind.i64 ((2 : Int) * x) + (1 : Int))) < Int.toNat (n - x))
          (Q (IV.int IntKind.i64 x) h)) := by kernel_rfl
theorem sAllOnes : ∀ xs h Q, kAllOnes xs h Q → CallW env 64 xs h Q := by
  intro xs h Q hk
  unfold kAllOnes at hk
  split at hk
  · rename_i n
    refine dF_sound (okRUnary) (mp_eq (vAllOnes n h Q) ?_)
    obtain ⟨hn, hk⟩ := hk
    refine ⟨⟨rfl, rfl, rfl, isOnes_zero n, trivial⟩, fun x _ hx => brS_intro (fun hc => ?_) (fun hc => ?_)⟩
    · simp only [decide_eq_true_eq] at hc
      obtain ⟨h1, h2, h3⟩ := isOnes_step hx hc hn.2
      have e : IntKind.i64.wrap (IntKind.i64.wrap (2 * x) + 1) = 2 * x + 1 := by rw [IntWalk.i64_in (2 * x) (by omega), IntWalk.i64_in _ (by omega)]
      exact ⟨rfl, rfl, rfl, e.symm ▸ h3, by rw [e]; omega⟩
    · simp only [decide_eq_false_iff_not] at hc
      exact q_eq hk (by rw [isOnes_end hx hc])
  · exact hk.elim
def cAllOnes := addC 64 kAllOnes cRUnary
theorem okAllOnes : Sound env cAllOnes := sound_add sAllOnes (okRUnary)

def kRMul (xs : List IV) (h : Heap) (K : IV → Heap → Prop) : Prop := match xs with
  | [.int .i64 a, .int .i64 b] => (inR a ∧ inR b) ∧ K (.tuple [.int .i64 (IntKind.i64.wrap (a * b)), .bool (inRb (a * b))]) h
  | _ => False
set_option maxRecDepth 100000 in
theorem vRMul (a b : Int) (h : Heap) (Q : IV → Heap → Prop) : dF (stdS cAllOnes) env 53 noU noI noI [.int .i64 a, .int .i64 b] h Q = (
  brS (a == (0 : Int)) (Q (IV.tuple [IV.int IntKind.i64 (0 : Int), IV.bool true]) h)
    (brS (b == (0 : Int)) (Q (IV.tuple [IV.int IntKind.i64 (0 : Int), IV.bool true]) h)
      (brS (a == (-1 : Int))
        (brS (a != (-9223372036854775808 : Int)) (Q (IV.tuple [IV.int IntKind.i64 (IntKind.wrap IntKind.i64 (a * b)), IV.bool (b != (-9223372036854775808 : Int))]) h)
          (Q (IV.tuple [IV.int IntKind.i64 (IntKind.wrap IntKind.i64 (a * b)), IV.bool false]) h))
        (brS (b == (-1 : Int))
          (brS (a != (-9223372036854775808 : Int)) (Q (IV.tuple [IV.int IntKind.i64 (IntKind.wrap IntKind.i64 (a * b)), IV.bool (b != (-9223372036854775808 : Int))]) h)
            (Q (IV.tuple [IV.int IntKind.i64 (IntKind.wrap IntKind.i64 (a * b)), IV.bool false]) h))
          (needS (!b == (0 : Int)) (Q (IV.tuple [IV.int IntKind.i64 (IntKind.wrap IntKind.i64 (a * b)), IV.bool (IntKind.wrap IntKind.i64 (Int.tdiv (IntKind.wrap IntKind.i64 (a * b)) b) == a)]) h)))))) := by kernel_rfl
theorem sRMul : ∀ xs h Q, kRMul xs h Q → CallW env 53 xs h Q := by
  intro xs h Q hk
  unfold kRMul at hk
  split at hk
  · rename_i a b
    refine dF_sound (okAllOnes) (mp_eq (vRMul a b h Q) ?_)
    obtain ⟨⟨ha, hb⟩, hk⟩ := hk
    have hb' := hb
    unfold inR at ha hb
    refine brS_intro (fun h1 => q_eq hk ?_) (fun h1 => brS_intro (fun h2 => q_eq hk ?_) (fun h2 => brS_intro (fun h3 => ?_) (fun h3 => brS_intro (fun h4 => ?_) (fun h4 => needS_intro (by simp [h2]) (q_eq hk ?_)))))
    all_goals simp only [beq_iff_eq, beq_eq_false_iff_ne, ne_eq] at *
    · subst h1; rw [Int.zero_mul]; rfl
    · subst h2; rw [Int.mul_zero]; rfl
    · subst h3; refine brS_intro (fun h5 => q_eq hk ?_) (fun h5 => q_eq hk ?_) <;> simp only [IV.agg.injEq, IV.tuple.injEq, IV.int.injEq, IV.bool.injEq, List.cons.injEq, true_and, and_true] <;> grind [inRb]
    · subst h4; refine brS_intro (fun h5 => q_eq hk ?_) (fun h5 => q_eq hk ?_) <;> simp only [IV.agg.injEq, IV.tuple.injEq, IV.int.injEq, IV.bool.injEq, List.cons.injEq, true_and, and_true] <;> grind [inRb]
    · rw [tdiv_in (wrap_inR _) h2 h4, mul_back h2 hb']
  · exact hk.elim
def cRMul := addC 53 kRMul cAllOnes
theorem okRMul : Sound env cRMul := sound_add sRMul (okAllOnes)

end Go.Proofs.Ytahafnjlmcmhfaa
