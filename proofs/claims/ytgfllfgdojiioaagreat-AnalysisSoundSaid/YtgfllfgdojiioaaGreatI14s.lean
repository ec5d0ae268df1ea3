import Derived.Test.YtgfllfgdojiioaaGreatB10b
import Derived.Test.YtgfllfgdojiioaaGreatS13
import Derived.KernelRfl
set_option linter.unusedVariables false
set_option linter.unusedSimpArgs false
namespace Go.Proofs.YtgfllfgdojiioaaGreat
open Go.Pv Go.M13
theorem bvAnd63 (c : Int) : bvAnd .i64 c 63 = c % 64 := iand63 c
def tab8 : List UInt8 := (List.range 256).map fun i => UInt8.ofNat (bitl i)
theorem tab8_at : ∀ i : Fin 256, tab8[(i : Nat)]? = some (UInt8.ofNat (bitl i)) /\ (UInt8.ofNat (bitl i)).toNat = bitl i := by decide +kernel
theorem len_leaf {y : Int} {k : Int} {n : Nat} (hy : 0 <= y) (hy' : y < 256) (hk : 0 <= k /\ k <= 56) (e : (bitl n : Int) = k + bitl y.toNat) {Q : IV -> Heap -> Prop} {h : Heap} (hq : Q (.int .i64 (bitl n)) h) (tab : List UInt8) (ht : tab = tab8) :
  needS (decide ((0 : Int) <= IntKind.wrap IntKind.u8 y)) (chrS tab (Int.toNat (IntKind.wrap IntKind.u8 y)) fun c => Q (IV.int IntKind.i64 (IntKind.wrap IntKind.i64 (k + IntKind.wrap IntKind.i64 c))) h) := by
 have hw : IntKind.u8.wrap y = y := by
  unfold IntKind.wrap
  simp [IntKind.bits, IntKind.signed]
  omega
 rw [hw]
 refine needS_intro (by simp [hy]) ?_
 obtain ⟨t1, t2⟩ := tab8_at ⟨y.toNat, by omega⟩
 unfold chrS
 simp only at t1 t2
 rw [ht]
 rw [t1]
 show Q (IV.int IntKind.i64 (IntKind.wrap IntKind.i64 (k + IntKind.wrap IntKind.i64 ((UInt8.ofNat (bitl y.toNat)).toNat : Int)))) h
 rw [t2]
 have hb : bitl y.toNat <= 8 := bitl_le (show y.toNat < 2 ^ 8 by omega)
 rw [IntWalk.i64_in (bitl y.toNat : Int) (by omega), IntWalk.i64_in _ (by omega), <- e]
 exact hq
theorem irem_full {a b c d : Int} (h : c < 1) : irem a b c d = (minW, maxW) := by
 unfold irem
 rw [if_pos h]
theorem bnd_wrap (x y : Int) : (if (inRb x && inRb y) = true then (IntKind.i64.wrap x, IntKind.i64.wrap y) else (minW, maxW)) = bnd x y := by
 unfold bnd
 split
 ·rename_i h
  simp only [Bool.and_eq_true] at h
  rw [inRb_wrap h.1, inRb_wrap h.2]
 ·rfl
def kValid (xs : List IV) (h : Heap) (K : IV -> Heap -> Prop) : Prop := match xs with
 | [.agg [.int .i64 a, .int .i64 b]] => K (.bool (decide (a <= b))) h
 | _ => False
set_option maxRecDepth 100000 in
theorem vValid (a b : Int) (h : Heap) (Q : IV -> Heap -> Prop) : dF (stdS cISort) env 32 noU noI noI [.agg [.int .i64 a, .int .i64 b]] h Q = (
 Q (.bool (decide (a <= b))) h) := by kernel_rfl
theorem sValid : ∀ xs h Q, kValid xs h Q -> CallW env 32 xs h Q := by
 intro xs h Q hk
 unfold kValid at hk
 split at hk
 ·rename_i a b
  refine dF_run (okISort) (vValid a b h Q) ?_
  exact hk
 ·exact hk.elim
def cValid := addC 32 kValid cISort
theorem okValid : Sound env cValid := sound_add sValid (okISort)
def kJoin (xs : List IV) (h : Heap) (K : IV -> Heap -> Prop) : Prop := match xs with
 | [.agg [.int .i64 a, .int .i64 b], .agg [.int .i64 c, .int .i64 d]] => K (.agg [.int .i64 (min a c), .int .i64 (max b d)]) h
 | _ => False
set_option maxRecDepth 100000 in
theorem vJoin (a b c d : Int) (h : Heap) (Q : IV -> Heap -> Prop) : dF (stdS cValid) env 36 noU noI noI [.agg [.int .i64 a, .int .i64 b], .agg [.int .i64 c, .int .i64 d]] h Q = (
 Q (.agg [.int .i64 (if c < a then c else a), IV.int .i64 (if d > b then d else b)]) h) := by kernel_rfl
theorem sJoin : ∀ xs h Q, kJoin xs h Q -> CallW env 36 xs h Q := by
 intro xs h Q hk
 unfold kJoin at hk
 split at hk
 ·rename_i a b c d
  refine dF_run (okValid) (vJoin a b c d h Q) ?_
  repeat' (first | refine needS_intro ?_ ?_ | refine brS_intro (fun _ => ?_) (fun _ => ?_) | refine And.intro ?_ ?_)
  all_goals first | assumption | omega | (refine q_eq hk ?_; simp only [IV.agg.injEq, IV.tuple.injEq, IV.int.injEq, IV.bool.injEq, List.cons.injEq, true_and, and_true]; grind [])
 ·exact hk.elim
def cJoin := addC 36 kJoin cValid
theorem okJoin : Sound env cJoin := sound_add sJoin (okValid)
def kContains (xs : List IV) (h : Heap) (K : IV -> Heap -> Prop) : Prop := match xs with
 | [.agg [.int .i64 a, .int .i64 b], .int .i64 n] => K (.bool (contains a b n)) h
 | _ => False
set_option maxRecDepth 100000 in
theorem vContains (a b n : Int) (h : Heap) (Q : IV -> Heap -> Prop) : dF (stdS cJoin) env 58 noU noI noI [.agg [.int .i64 a, .int .i64 b], .int .i64 n] h Q = (
 brS (decide (n >= a)) (Q (.bool (decide (n <= b))) h) (Q (.bool false) h)) := by kernel_rfl
theorem sContains : ∀ xs h Q, kContains xs h Q -> CallW env 58 xs h Q := by
 intro xs h Q hk
 unfold kContains at hk
 split at hk
 ·rename_i a b n
  refine dF_run (okJoin) (vContains a b n h Q) ?_
  repeat' (first | refine needS_intro ?_ ?_ | refine brS_intro (fun _ => ?_) (fun _ => ?_) | refine And.intro ?_ ?_)
  all_goals first | assumption | omega | (refine q_eq hk ?_; simp only [IV.agg.injEq, IV.tuple.injEq, IV.int.injEq, IV.bool.injEq, List.cons.injEq, true_and, and_true]; grind [contains])
 ·exact hk.elim
def cContains := addC 58 kContains cJoin
theorem okContains : Sound env cContains := sound_add sContains (okJoin)
def kIsect (xs : List IV) (h : Heap) (K : IV -> Heap -> Prop) : Prop := match xs with
 | [.agg [.int .i64 a, .int .i64 b], .agg [.int .i64 c, .int .i64 d]] => K (.tuple [.agg [.int .i64 (isect a b c d).1, .int .i64 (isect a b c d).2], .bool (meets a b c d)]) h
 | _ => False
set_option maxRecDepth 100000 in
theorem vIsect (a b c d : Int) (h : Heap) (Q : IV -> Heap -> Prop) : dF (stdS cContains) env 59 noU noI noI [.agg [.int .i64 a, .int .i64 b], .agg [.int .i64 c, .int .i64 d]] h Q = (
 brS (!decide ((if c > a then c else a) <= if d < b then d else b)) (Q (.tuple [.agg [.int .i64 0, IV.int .i64 0], IV.bool false]) h)
 (Q (.tuple [.agg [.int .i64 (if c > a then c else a), IV.int .i64 (if d < b then d else b)], IV.bool true]) h)) := by kernel_rfl
theorem sIsect : ∀ xs h Q, kIsect xs h Q -> CallW env 59 xs h Q := by
 intro xs h Q hk
 unfold kIsect at hk
 split at hk
 ·rename_i a b c d
  refine dF_run (okContains) (vIsect a b c d h Q) ?_
  repeat' (first | refine needS_intro ?_ ?_ | refine brS_intro (fun _ => ?_) (fun _ => ?_) | refine And.intro ?_ ?_)
  all_goals first | assumption | omega | (refine q_eq hk ?_; simp only [IV.agg.injEq, IV.tuple.injEq, IV.int.injEq, IV.bool.injEq, List.cons.injEq, true_and, and_true]; grind [isect, meets])
 ·exact hk.elim
def cIsect := addC 59 kIsect cContains
theorem okIsect : Sound env cIsect := sound_add sIsect (okContains)
def kWiden (xs : List IV) (h : Heap) (K : IV -> Heap -> Prop) : Prop := match xs with
 | [.agg [.int .i64 a, .int .i64 b], .agg [.int .i64 c, .int .i64 d]] => K (.agg [.int .i64 (wlo a c), .int .i64 (whi b d)]) h
 | _ => False
set_option maxRecDepth 100000 in
theorem vWiden (a b c d : Int) (h : Heap) (Q : IV -> Heap -> Prop) : dF (stdS cIsect) env 98 noU noI noI [.agg [.int .i64 a, .int .i64 b], .agg [.int .i64 c, .int .i64 d]] h Q = (
 brS (decide (c < a))
 (brS (decide (d > b)) (Q (.agg [.int .i64 (-9223372036854775808), IV.int .i64 9223372036854775807]) h) (Q (.agg [.int .i64 (-9223372036854775808), IV.int .i64 b]) h))
 (brS (decide (d > b)) (Q (.agg [.int .i64 a, IV.int .i64 9223372036854775807]) h) (Q (.agg [.int .i64 a, IV.int .i64 b]) h))) := by kernel_rfl
theorem sWiden : ∀ xs h Q, kWiden xs h Q -> CallW env 98 xs h Q := by
 intro xs h Q hk
 unfold kWiden at hk
 split at hk
 ·rename_i a b c d
  refine dF_run (okIsect) (vWiden a b c d h Q) ?_
  repeat' (first | refine needS_intro ?_ ?_ | refine brS_intro (fun _ => ?_) (fun _ => ?_) | refine And.intro ?_ ?_)
  all_goals first | assumption | omega | (refine q_eq hk ?_; simp only [IV.agg.injEq, IV.tuple.injEq, IV.int.injEq, IV.bool.injEq, List.cons.injEq, true_and, and_true]; grind [wlo, whi])
 ·exact hk.elim
def cWiden := addC 98 kWiden cIsect
theorem okWiden : Sound env cWiden := sound_add sWiden (okIsect)
def kFull (xs : List IV) (h : Heap) (K : IV -> Heap -> Prop) : Prop := match xs with
 | [] => K (.agg [.int .i64 (-9223372036854775808), .int .i64 9223372036854775807]) h
 | _ => False
set_option maxRecDepth 100000 in
theorem vFull  (h : Heap) (Q : IV -> Heap -> Prop) : dF (stdS cWiden) env 33 noU noI noI [] h Q = (
 Q (.agg [.int .i64 (-9223372036854775808), IV.int .i64 9223372036854775807]) h) := by kernel_rfl
theorem sFull : ∀ xs h Q, kFull xs h Q -> CallW env 33 xs h Q := by
 intro xs h Q hk
 unfold kFull at hk
 split at hk
 ·skip
  refine dF_run (okWiden) (vFull  h Q) ?_
  exact hk
 ·exact hk.elim
def cFull := addC 33 kFull cWiden
theorem okFull : Sound env cFull := sound_add sFull (okWiden)
def kSingle (xs : List IV) (h : Heap) (K : IV -> Heap -> Prop) : Prop := match xs with
 | [.int .i64 a] => K (.agg [.int .i64 a, .int .i64 a]) h
 | _ => False
set_option maxRecDepth 100000 in
theorem vSingle (a : Int) (h : Heap) (Q : IV -> Heap -> Prop) : dF (stdS cFull) env 65 noU noI noI [.int .i64 a] h Q = (
 Q (.agg [.int .i64 a, IV.int .i64 a]) h) := by kernel_rfl
theorem sSingle : ∀ xs h Q, kSingle xs h Q -> CallW env 65 xs h Q := by
 intro xs h Q hk
 unfold kSingle at hk
 split at hk
 ·rename_i a
  refine dF_run (okFull) (vSingle a h Q) ?_
  exact hk
 ·exact hk.elim
def cSingle := addC 65 kSingle cFull
theorem okSingle : Sound env cSingle := sound_add sSingle (okFull)
def kWUn (xs : List IV) (h : Heap) (K : IV -> Heap -> Prop) : Prop := match xs with
 | [.int .i64 o, .int .i64 a] => K (.int .i64 (wun o a)) h
 | _ => False
set_option maxRecDepth 100000 in
theorem vWUn (o a : Int) (h : Heap) (Q : IV -> Heap -> Prop) : dF (stdS cSingle) env 66 noU noI noI [.int .i64 o, .int .i64 a] h Q = (
 brS (o == 20) (Q (.int .i64 (IntKind.wrap .i64 ((0 : Int) - a))) h) (brS (o == 21) (Q (.int .i64 (bvXor .i64 (-1 : Int) a)) h) (Q (.int .i64 0) h))) := by kernel_rfl
theorem sWUn : ∀ xs h Q, kWUn xs h Q -> CallW env 66 xs h Q := by
 intro xs h Q hk
 unfold kWUn at hk
 split at hk
 ·rename_i o a
  refine dF_run (okSingle) (vWUn o a h Q) ?_
  repeat' (first | refine needS_intro ?_ ?_ | refine brS_intro (fun _ => ?_) (fun _ => ?_) | refine And.intro ?_ ?_)
  all_goals first | exact hk | (simp only [decide_eq_true_eq]; exact shBy_nonneg _) | (simp_all; done) | (refine q_eq hk ?_; congr 1; (try simp only [beq_iff_eq, beq_eq_false_iff_ne, ne_eq] at *); unfold wun; (repeat (first | rw [if_pos (by assumption)] | rw [if_neg (by assumption)])); first | done | rfl)
 ·exact hk.elim
def cWUn := addC 66 kWUn cSingle
theorem okWUn : Sound env cWUn := sound_add sWUn (okSingle)
def kQuot (xs : List IV) (h : Heap) (K : IV -> Heap -> Prop) : Prop := match xs with
 | [.int .i64 a, .int .i64 b] => K (.int .i64 (quot a b)) h
 | _ => False
set_option maxRecDepth 100000 in
theorem vQuot (a b : Int) (h : Heap) (Q : IV -> Heap -> Prop) : dF (stdS cWUn) env 105 noU noI noI [.int .i64 a, .int .i64 b] h Q = (
 brS (b == 0) (Q (.int .i64 0) h)
 (brS (b == (-1 : Int)) (Q (.int .i64 (IntKind.wrap .i64 ((0 : Int) - a))) h) (needS (!b == 0) (Q (.int .i64 (IntKind.wrap .i64 (Int.tdiv a b))) h)))) := by kernel_rfl
theorem sQuot : ∀ xs h Q, kQuot xs h Q -> CallW env 105 xs h Q := by
 intro xs h Q hk
 unfold kQuot at hk
 split at hk
 ·rename_i a b
  refine dF_run (okWUn) (vQuot a b h Q) ?_
  repeat' (first | refine needS_intro ?_ ?_ | refine brS_intro (fun _ => ?_) (fun _ => ?_) | refine And.intro ?_ ?_)
  all_goals first | exact hk | (simp only [decide_eq_true_eq]; exact shBy_nonneg _) | (simp_all; done) | (refine q_eq hk ?_; congr 1; (try simp only [beq_iff_eq, beq_eq_false_iff_ne, ne_eq] at *); unfold quot; (repeat (first | rw [if_pos (by assumption)] | rw [if_neg (by assumption)])); first | done | rfl)
 ·exact hk.elim
def cQuot := addC 105 kQuot cWUn
theorem okQuot : Sound env cQuot := sound_add sQuot (okWUn)
def kTruth (xs : List IV) (h : Heap) (K : IV -> Heap -> Prop) : Prop := match xs with
 | [.bool b] => K (.int .i64 (truth b)) h
 | _ => False
set_option maxRecDepth 100000 in
theorem vTruth (b : Bool) (h : Heap) (Q : IV -> Heap -> Prop) : dF (stdS cQuot) env 127 noU noI noI [.bool b] h Q = (
 brS b (Q (.int .i64 1) h) (Q (.int .i64 0) h)) := by kernel_rfl
theorem sTruth : ∀ xs h Q, kTruth xs h Q -> CallW env 127 xs h Q := by
 intro xs h Q hk
 unfold kTruth at hk
 split at hk
 ·rename_i b
  refine dF_run (okQuot) (vTruth b h Q) ?_
  repeat' (first | refine needS_intro ?_ ?_ | refine brS_intro (fun _ => ?_) (fun _ => ?_) | refine And.intro ?_ ?_)
  all_goals (refine q_eq hk ?_; simp_all [truth])
 ·exact hk.elim
def cTruth := addC 127 kTruth cQuot
theorem okTruth : Sound env cTruth := sound_add sTruth (okQuot)
def kShCmp (xs : List IV) (h : Heap) (K : IV -> Heap -> Prop) : Prop := match xs with
 | [.int .i64 o, .int .i64 a, .int .i64 b] => K (.int .i64 (shcmp o a b)) h
 | _ => False
set_option maxRecDepth 100000 in
theorem vShCmp (o a b : Int) (h : Heap) (Q : IV -> Heap -> Prop) : dF (stdS cTruth) env 106 noU noI noI [.int .i64 o, .int .i64 a, .int .i64 b] h Q = (
 brS (o == 12)
 (needS (decide (0 <= IntKind.wrap .u64 (bvAnd .i64 b 63)))
 (Q (.int .i64 (IntKind.wrap .i64 (a * (2 : Int) ^ min (Int.toNat (IntKind.wrap .u64 (bvAnd .i64 b 63))) (64 : Nat)))) h))
 (brS (o == 13)
 (needS (decide (0 <= IntKind.wrap .u64 (bvAnd .i64 b 63)))
 (Q (.int .i64 (IntKind.wrap .i64 (Int.fdiv (IntKind.wrap .u64 a) ((2 : Int) ^ min (Int.toNat (IntKind.wrap .u64 (bvAnd .i64 b 63))) (64 : Nat))))) h))
 (brS (o == 14)
 (needS (decide (0 <= IntKind.wrap .u64 (bvAnd .i64 b 63))) (Q (.int .i64 (Int.fdiv a ((2 : Int) ^ min (Int.toNat (IntKind.wrap .u64 (bvAnd .i64 b 63))) (64 : Nat)))) h))
 (brS (o == 15) (Q (.int .i64 (truth (a == b))) h)
 (brS (o == 16) (Q (.int .i64 (truth (a != b))) h)
 (brS (o == 17) (Q (.int .i64 (truth (decide (a < b)))) h)
 (brS (o == 18) (Q (.int .i64 (truth (decide (a <= b)))) h)
 (brS (o == 19) (Q (.int .i64 (truth (decide (IntKind.wrap .u64 a < IntKind.wrap .u64 b)))) h) (Q (.int .i64 0) h))))))))) := by kernel_rfl
theorem sShCmp : ∀ xs h Q, kShCmp xs h Q -> CallW env 106 xs h Q := by
 intro xs h Q hk
 unfold kShCmp at hk
 split at hk
 ·rename_i o a b
  refine dF_run (okTruth) (vShCmp o a b h Q) ?_
  repeat' (first | refine needS_intro ?_ ?_ | refine brS_intro (fun _ => ?_) (fun _ => ?_) | refine And.intro ?_ ?_)
  all_goals first | exact hk | (simp only [decide_eq_true_eq]; exact shBy_nonneg _) | (simp_all; done) | (refine q_eq hk ?_; congr 1; (try simp only [beq_iff_eq, beq_eq_false_iff_ne, ne_eq] at *); unfold shcmp; (repeat (first | rw [if_pos (by assumption)] | rw [if_neg (by assumption)])); first | done | rfl)
 ·exact hk.elim
def cShCmp := addC 106 kShCmp cTruth
theorem okShCmp : Sound env cShCmp := sound_add sShCmp (okTruth)
def kWBin (xs : List IV) (h : Heap) (K : IV -> Heap -> Prop) : Prop := match xs with
 | [.int .i64 o, .int .i64 a, .int .i64 b] => K (.int .i64 (wbin o a b)) h
 | _ => False
set_option maxRecDepth 100000 in
theorem vWBin (o a b : Int) (h : Heap) (Q : IV -> Heap -> Prop) : dF (stdS cShCmp) env 67 noU noI noI [.int .i64 o, .int .i64 a, .int .i64 b] h Q = (
 brS (o == 4) (Q (.int .i64 (IntKind.wrap .i64 (a + b))) h)
 (brS (o == 5) (Q (.int .i64 (IntKind.wrap .i64 (a - b))) h)
 (brS (o == 6) (Q (.int .i64 (IntKind.wrap .i64 (a * b))) h)
 (brS (o == 7) (Q (.int .i64 (quot a b)) h)
 (brS (o == 8) (brS (b == 0) (Q (.int .i64 0) h) (Q (.int .i64 (IntKind.wrap .i64 (a - IntKind.wrap .i64 (quot a b * b)))) h))
 (brS (o == 9) (Q (.int .i64 (bvAnd .i64 a b)) h)
 (brS (o == 10) (Q (.int .i64 (bvOr .i64 a b)) h) (brS (o == 11) (Q (.int .i64 (bvXor .i64 a b)) h) (Q (.int .i64 (shcmp o a b)) h))))))))) := by kernel_rfl
theorem sWBin : ∀ xs h Q, kWBin xs h Q -> CallW env 67 xs h Q := by
 intro xs h Q hk
 unfold kWBin at hk
 split at hk
 ·rename_i o a b
  refine dF_run (okShCmp) (vWBin o a b h Q) ?_
  repeat' (first | refine needS_intro ?_ ?_ | refine brS_intro (fun _ => ?_) (fun _ => ?_) | refine And.intro ?_ ?_)
  all_goals first | exact hk | (simp only [decide_eq_true_eq]; exact shBy_nonneg _) | (simp_all; done) | (refine q_eq hk ?_; congr 1; (try simp only [beq_iff_eq, beq_eq_false_iff_ne, ne_eq] at *); unfold wbin; (repeat (first | rw [if_pos (by assumption)] | rw [if_neg (by assumption)])); first | done | rfl)
 ·exact hk.elim
def cWBin := addC 67 kWBin cShCmp
theorem okWBin : Sound env cWBin := sound_add sWBin (okShCmp)
def kBoolWord (xs : List IV) (h : Heap) (K : IV -> Heap -> Prop) : Prop := match xs with
 | [.bool b] => K (.int .i64 (truth b)) h
 | _ => False
set_option maxRecDepth 100000 in
theorem vBoolWord (b : Bool) (h : Heap) (Q : IV -> Heap -> Prop) : dF (stdS cWBin) env 41 noU noI noI [.bool b] h Q = (
 brS b (Q (.int .i64 1) h) (Q (.int .i64 0) h)) := by kernel_rfl
theorem sBoolWord : ∀ xs h Q, kBoolWord xs h Q -> CallW env 41 xs h Q := by
 intro xs h Q hk
 unfold kBoolWord at hk
 split at hk
 ·rename_i b
  refine dF_run (okWBin) (vBoolWord b h Q) ?_
  repeat' (first | refine needS_intro ?_ ?_ | refine brS_intro (fun _ => ?_) (fun _ => ?_) | refine And.intro ?_ ?_)
  all_goals (refine q_eq hk ?_; simp_all [truth])
 ·exact hk.elim
def cBoolWord := addC 41 kBoolWord cWBin
theorem okBoolWord : Sound env cBoolWord := sound_add sBoolWord (okWBin)
def kRDiv (xs : List IV) (h : Heap) (K : IV -> Heap -> Prop) : Prop := match xs with
 | [.int .i64 a, .int .i64 b] => K (.int .i64 (quot a b)) h
 | _ => False
set_option maxRecDepth 100000 in
theorem vRDiv (a b : Int) (h : Heap) (Q : IV -> Heap -> Prop) : dF (stdS cBoolWord) env 40 noU noI noI [.int .i64 a, .int .i64 b] h Q = (
 brS (b == 0) (Q (.int .i64 0) h)
 (brS (b == (-1 : Int)) (Q (.int .i64 (IntKind.wrap .i64 ((0 : Int) - a))) h) (needS (!b == 0) (Q (.int .i64 (IntKind.wrap .i64 (Int.tdiv a b))) h)))) := by kernel_rfl
theorem sRDiv : ∀ xs h Q, kRDiv xs h Q -> CallW env 40 xs h Q := by
 intro xs h Q hk
 unfold kRDiv at hk
 split at hk
 ·rename_i a b
  refine dF_run (okBoolWord) (vRDiv a b h Q) ?_
  repeat' (first | refine needS_intro ?_ ?_ | refine brS_intro (fun _ => ?_) (fun _ => ?_) | refine And.intro ?_ ?_)
  all_goals first | exact hk | (simp only [decide_eq_true_eq]; exact shBy_nonneg _) | (simp_all; done) | (refine q_eq hk ?_; congr 1; (try simp only [beq_iff_eq, beq_eq_false_iff_ne, ne_eq] at *); unfold quot; (repeat (first | rw [if_pos (by assumption)] | rw [if_neg (by assumption)])); first | done | rfl)
 ·exact hk.elim
def cRDiv := addC 40 kRDiv cBoolWord
theorem okRDiv : Sound env cRDiv := sound_add sRDiv (okBoolWord)
def kRBin (xs : List IV) (h : Heap) (K : IV -> Heap -> Prop) : Prop := match xs with
 | [.int .i64 o, .int .i64 a, .int .i64 b] => K (.int .i64 (wbin o a b)) h
 | _ => False
noncomputable def z21a (b : Int) := decide (0 <= IntKind.wrap .u64 (bvAnd .i64 b 63))
noncomputable def z21b (b : Int) := Int.toNat (IntKind.wrap .u64 (bvAnd .i64 b 63))
set_option maxRecDepth 100000 in
theorem vRBin (o a b : Int) (h : Heap) (Q : IV -> Heap -> Prop) : dF (stdS cRDiv) env 21 noU noI noI [.int .i64 o, .int .i64 a, .int .i64 b] h Q = (
 brS (o == 4) (Q (.int .i64 (IntKind.wrap .i64 (a + b))) h) (brS (o == 5) (Q (.int .i64 (IntKind.wrap .i64 (a - b))) h) (brS (o == 6) (Q (.int .i64 (IntKind.wrap .i64 (a * b))) h) (brS (o == 7) (Q (.int .i64 (quot
 a b)) h) (brS (o == 8) (brS (b == 0) (Q (.int .i64 0) h) (Q (.int .i64 (IntKind.wrap .i64 (a - IntKind.wrap .i64 (quot a b * b)))) h)) (brS (o == 9) (Q (.int .i64 (bvAnd .i64 a b)) h) (brS (o == 10) (Q (.int .i64
 (bvOr .i64 a b)) h) (brS (o == 11) (Q (.int .i64 (bvXor .i64 a b)) h) (brS (o == 12) (needS (z21a b) (Q (.int .i64 (IntKind.wrap .i64 (a * (2 : Int) ^ min (z21b b) (64 : Nat)))) h)) (brS (o == 13) (needS (z21a b) (Q (.int .i64 (IntKind.wrap
 .i64 (Int.fdiv (IntKind.wrap .u64 a) ((2 : Int) ^ min (z21b b) (64 : Nat))))) h)) (brS (o == 14) (needS (z21a b) (Q (.int .i64 (Int.fdiv a ((2 : Int) ^ min (z21b b) (64 : Nat)))) h)) (brS (o == 15) (Q (.int .i64 (truth (a == b))) h) (brS (o == 16)
 (Q (.int .i64 (truth (a != b))) h) (brS (o == 17) (Q (.int .i64 (truth (decide (a < b)))) h) (brS (o == 18) (Q (.int .i64 (truth (decide (a <= b)))) h) (brS (o == 19) (Q (.int .i64 (truth (decide (IntKind.wrap .u64 a < IntKind.wrap .u64
 b)))) h) (Q (.int .i64 0) h))))))))))))))))) := by kernel_rfl
theorem sRBin : ∀ xs h Q, kRBin xs h Q -> CallW env 21 xs h Q := by
 intro xs h Q hk
 unfold kRBin at hk
 split at hk
 ·rename_i o a b
  refine dF_run (okRDiv) (vRBin o a b h Q) ?_
  delta z21a z21b
  repeat' (first | refine needS_intro ?_ ?_ | refine brS_intro (fun _ => ?_) (fun _ => ?_) | refine And.intro ?_ ?_)
  all_goals first | exact hk | (simp only [decide_eq_true_eq]; exact shBy_nonneg _) | (simp_all; done) | (refine q_eq hk ?_; congr 1; (try simp only [beq_iff_eq, beq_eq_false_iff_ne, ne_eq] at *); unfold wbin shcmp; (repeat (first | rw [if_pos (by assumption)] | rw [if_neg (by assumption)])); first | done | rfl)
 ·exact hk.elim
def cRBin := addC 21 kRBin cRDiv
theorem okRBin : Sound env cRBin := sound_add sRBin (okRDiv)
def kIsSingleG (xs : List IV) (h : Heap) (K : IV -> Heap -> Prop) : Prop := match xs with
 | [.agg [.int .i64 a, .int .i64 b]] => K (.bool (a == b)) h
 | _ => False
set_option maxRecDepth 100000 in
theorem vIsSingleG (a b : Int) (h : Heap) (Q : IV -> Heap -> Prop) : dF (stdS cRBin) env 64 noU noI noI [.agg [.int .i64 a, .int .i64 b]] h Q = (
 Q (.bool (a == b)) h) := by kernel_rfl
theorem sIsSingleG : ∀ xs h Q, kIsSingleG xs h Q -> CallW env 64 xs h Q := by
 intro xs h Q hk
 unfold kIsSingleG at hk
 split at hk
 ·rename_i a b
  refine dF_run (okRBin) (vIsSingleG a b h Q) ?_
  exact hk
 ·exact hk.elim
def cIsSingleG := addC 64 kIsSingleG cRBin
theorem okIsSingleG : Sound env cIsSingleG := sound_add sIsSingleG (okRBin)
def kBoolean (xs : List IV) (h : Heap) (K : IV -> Heap -> Prop) : Prop := match xs with
 | [.bool b, .bool c] => K (.agg [.int .i64 (tri b c).1, .int .i64 (tri b c).2]) h
 | _ => False
set_option maxRecDepth 100000 in
theorem vBoolean (b c : Bool) (h : Heap) (Q : IV -> Heap -> Prop) : dF (stdS cIsSingleG) env 109 noU noI noI [.bool b, .bool c] h Q = (
 brS b (Q (.agg [.int .i64 1, IV.int .i64 1]) h)
 (brS c (Q (.agg [.int .i64 0, IV.int .i64 0]) h) (Q (.agg [.int .i64 0, IV.int .i64 1]) h))) := by kernel_rfl
theorem sBoolean : ∀ xs h Q, kBoolean xs h Q -> CallW env 109 xs h Q := by
 intro xs h Q hk
 unfold kBoolean at hk
 split at hk
 ·rename_i b c
  refine dF_run (okIsSingleG) (vBoolean b c h Q) ?_
  repeat' (first | refine needS_intro ?_ ?_ | refine brS_intro (fun _ => ?_) (fun _ => ?_) | refine And.intro ?_ ?_)
  all_goals first | exact hk | (refine q_eq hk ?_; simp only [IV.agg.injEq, IV.tuple.injEq, IV.int.injEq, IV.bool.injEq, List.cons.injEq, true_and, and_true]; grind [tri])
 ·exact hk.elim
def cBoolean := addC 109 kBoolean cIsSingleG
theorem okBoolean : Sound env cBoolean := sound_add sBoolean (okIsSingleG)
def kSum (xs : List IV) (h : Heap) (K : IV -> Heap -> Prop) : Prop := match xs with
 | [.int .i64 a, .int .i64 b] => (inR a /\ inR b) /\ K (.tuple [.int .i64 (IntKind.i64.wrap (a + b)), .bool (inRb (a + b))]) h
 | _ => False
set_option maxRecDepth 100000 in
theorem vSum (a b : Int) (h : Heap) (Q : IV -> Heap -> Prop) : dF (stdS cBoolean) env 69 noU noI noI [.int .i64 a, .int .i64 b] h Q = (
 Q (.tuple [.int .i64 (IntKind.wrap .i64 (a + b)), IV.bool (decide (IntKind.wrap .i64 (a + b) < a) == decide (b < 0))]) h) := by kernel_rfl
theorem sSum : ∀ xs h Q, kSum xs h Q -> CallW env 69 xs h Q := by
 intro xs h Q hk
 unfold kSum at hk
 split at hk
 ·rename_i a b
  refine dF_run (okBoolean) (vSum a b h Q) ?_
  obtain ⟨⟨h1, h2⟩, hk⟩ := hk
  refine q_eq hk ?_
  rw [sum_ok h1 h2]
 ·exact hk.elim
def cSum := addC 69 kSum cBoolean
theorem okSum : Sound env cSum := sound_add sSum (okBoolean)
def kDiff (xs : List IV) (h : Heap) (K : IV -> Heap -> Prop) : Prop := match xs with
 | [.int .i64 a, .int .i64 b] => (inR a /\ inR b) /\ K (.tuple [.int .i64 (IntKind.i64.wrap (a - b)), .bool (inRb (a - b))]) h
 | _ => False
set_option maxRecDepth 100000 in
theorem vDiff (a b : Int) (h : Heap) (Q : IV -> Heap -> Prop) : dF (stdS cSum) env 70 noU noI noI [.int .i64 a, .int .i64 b] h Q = (
 Q (.tuple [.int .i64 (IntKind.wrap .i64 (a - b)), IV.bool (decide (IntKind.wrap .i64 (a - b) > a) == decide (b < 0))]) h) := by kernel_rfl
theorem sDiff : ∀ xs h Q, kDiff xs h Q -> CallW env 70 xs h Q := by
 intro xs h Q hk
 unfold kDiff at hk
 split at hk
 ·rename_i a b
  refine dF_run (okSum) (vDiff a b h Q) ?_
  obtain ⟨⟨h1, h2⟩, hk⟩ := hk
  refine q_eq hk ?_
  rw [diff_ok h1 h2]
 ·exact hk.elim
def cDiff := addC 70 kDiff cSum
theorem okDiff : Sound env cDiff := sound_add sDiff (okSum)
def kBoundsS (xs : List IV) (h : Heap) (K : IV -> Heap -> Prop) : Prop := match xs with
 | [.int .i64 a, .int .i64 b, .int .i64 c, .int .i64 d, .func (.func 69) [] []] => ((inR a /\ inR b) /\ (inR c /\ inR d)) /\ K (.agg [.int .i64 (bnd (a + b) (c + d)).1, .int .i64 (bnd (a + b) (c + d)).2]) h
 | _ => False
set_option maxRecDepth 100000 in
theorem vBoundsS (a b c d : Int) (h : Heap) (Q : IV -> Heap -> Prop) : dF (stdS cDiff) env 68 noU noI noI [.int .i64 a, .int .i64 b, .int .i64 c, .int .i64 d, .func (.func 69) [] []] h Q = (
 (inR a /\ inR b) /\
 (inR c /\ inR d) /\
 brS (!inRb (a + b)) (Q (.agg [.int .i64 (-9223372036854775808), IV.int .i64 9223372036854775807]) h)
 (brS (!inRb (c + d)) (Q (.agg [.int .i64 (-9223372036854775808), IV.int .i64 9223372036854775807]) h)
 (Q (.agg [.int .i64 (IntKind.wrap .i64 (a + b)), IV.int .i64 (IntKind.wrap .i64 (c + d))]) h))) := by kernel_rfl
theorem sBoundsS : ∀ xs h Q, kBoundsS xs h Q -> CallW env 68 xs h Q := by
 intro xs h Q hk
 unfold kBoundsS at hk
 split at hk
 ·rename_i a b c d
  refine dF_run (okDiff) (vBoundsS a b c d h Q) ?_
  obtain ⟨⟨⟨ha, hb⟩, hc, hd⟩, hk⟩ := hk
  refine ⟨⟨ha, hb⟩, ⟨hc, hd⟩, brS_intro (fun h1 => q_eq hk ?_) (fun h1 => brS_intro (fun h2 => q_eq hk ?_) (fun h2 => q_eq hk ?_))⟩
  ·unfold bnd; simp_all
  ·unfold bnd; simp_all
  ·simp only [Bool.not_eq_false'] at h1 h2; rw [inRb_wrap h1, inRb_wrap h2]; unfold bnd; rw [h1, h2]; rfl
 ·exact hk.elim
def cBoundsS := addC 68 kBoundsS cDiff
theorem okBoundsS : Sound env cBoundsS := sound_add sBoundsS (okDiff)
def kBoundsD (xs : List IV) (h : Heap) (K : IV -> Heap -> Prop) : Prop := match xs with
 | [.int .i64 a, .int .i64 b, .int .i64 c, .int .i64 d, .func (.func 70) [] []] => ((inR a /\ inR b) /\ (inR c /\ inR d)) /\ K (.agg [.int .i64 (bnd (a - b) (c - d)).1, .int .i64 (bnd (a - b) (c - d)).2]) h
 | _ => False
set_option maxRecDepth 100000 in
theorem vBoundsD (a b c d : Int) (h : Heap) (Q : IV -> Heap -> Prop) : dF (stdS cBoundsS) env 68 noU noI noI [.int .i64 a, .int .i64 b, .int .i64 c, .int .i64 d, .func (.func 70) [] []] h Q = (
 (inR a /\ inR b) /\
 (inR c /\ inR d) /\
 brS (!inRb (a - b)) (Q (.agg [.int .i64 (-9223372036854775808), IV.int .i64 9223372036854775807]) h)
 (brS (!inRb (c - d)) (Q (.agg [.int .i64 (-9223372036854775808), IV.int .i64 9223372036854775807]) h)
 (Q (.agg [.int .i64 (IntKind.wrap .i64 (a - b)), IV.int .i64 (IntKind.wrap .i64 (c - d))]) h))) := by kernel_rfl
theorem sBoundsD : ∀ xs h Q, kBoundsD xs h Q -> CallW env 68 xs h Q := by
 intro xs h Q hk
 unfold kBoundsD at hk
 split at hk
 ·rename_i a b c d
  refine dF_run (okBoundsS) (vBoundsD a b c d h Q) ?_
  obtain ⟨⟨⟨ha, hb⟩, hc, hd⟩, hk⟩ := hk
  refine ⟨⟨ha, hb⟩, ⟨hc, hd⟩, brS_intro (fun h1 => q_eq hk ?_) (fun h1 => brS_intro (fun h2 => q_eq hk ?_) (fun h2 => q_eq hk ?_))⟩
  ·unfold bnd; simp_all
  ·unfold bnd; simp_all
  ·simp only [Bool.not_eq_false'] at h1 h2; rw [inRb_wrap h1, inRb_wrap h2]; unfold bnd; rw [h1, h2]; rfl
 ·exact hk.elim
def cBoundsD := addC 68 kBoundsD cBoundsS
theorem okBoundsD : Sound env cBoundsD := sound_add sBoundsD (okBoundsS)
def kRem (xs : List IV) (h : Heap) (K : IV -> Heap -> Prop) : Prop := match xs with
 | [.agg [.int .i64 a, .int .i64 b], .agg [.int .i64 c, .int .i64 d]] => (((inR a /\ inR b) /\ (inR c /\ inR d)) /\ c <= d) /\ K (.agg [.int .i64 (irem a b c d).1, .int .i64 (irem a b c d).2]) h
 | _ => False
set_option maxRecDepth 100000 in
theorem vRem (a b c d : Int) (h : Heap) (Q : IV -> Heap -> Prop) : dF (stdS cBoundsD) env 74 noU noI noI [.agg [.int .i64 a, .int .i64 b], .agg [.int .i64 c, .int .i64 d]] h Q = (
 brS (decide (c < 1)) (Q (.agg [.int .i64 (-9223372036854775808), IV.int .i64 9223372036854775807]) h)
 (brS (decide (a < 0))
 (brS (decide (b > 0))
 (Q
 (IV.agg
 [IV.int .i64 (if IntKind.wrap .i64 ((1 : Int) - d) > a then IntKind.wrap .i64 ((1 : Int) - d) else a),
 IV.int .i64 (if IntKind.wrap .i64 (d - 1) < b then IntKind.wrap .i64 (d - 1) else b)])
 h)
 (Q (.agg [.int .i64 (if IntKind.wrap .i64 ((1 : Int) - d) > a then IntKind.wrap .i64 ((1 : Int) - d) else a), IV.int .i64 0]) h))
 (brS (decide (b > 0)) (Q (.agg [.int .i64 0, IV.int .i64 (if IntKind.wrap .i64 (d - 1) < b then IntKind.wrap .i64 (d - 1) else b)]) h)
 (Q (.agg [.int .i64 0, IV.int .i64 0]) h)))) := by kernel_rfl
theorem sRem : ∀ xs h Q, kRem xs h Q -> CallW env 74 xs h Q := by
 intro xs h Q hk
 unfold kRem at hk
 split at hk
 ·rename_i a b c d
  refine dF_run (okBoundsD) (vRem a b c d h Q) ?_
  obtain ⟨⟨⟨⟨ha, hb⟩, hc, hd⟩, hcd⟩, hk⟩ := hk
  unfold inR at ha hb hc hd
  refine brS_intro (fun h1 => q_eq hk ?_) (fun h1 => ?_)
  ·simp only [decide_eq_true_eq] at h1; unfold irem; rw [if_pos h1]
  simp only [decide_eq_false_iff_not] at h1
  rw [IntWalk.i64_in (1 - d) (by omega), IntWalk.i64_in (d - 1) (by omega)]
  repeat' (first | refine needS_intro ?_ ?_ | refine brS_intro (fun _ => ?_) (fun _ => ?_) | refine And.intro ?_ ?_)
  all_goals first | exact hk | (refine q_eq hk ?_; simp only [IV.agg.injEq, IV.tuple.injEq, IV.int.injEq, IV.bool.injEq, List.cons.injEq, true_and, and_true]; grind [irem])
 ·exact hk.elim
def cRem := addC 74 kRem cBoundsD
theorem okRem : Sound env cRem := sound_add sRem (okBoundsD)
def kCmp (xs : List IV) (h : Heap) (K : IV -> Heap -> Prop) : Prop := match xs with
 | [.int .i64 o, .agg [.int .i64 a, .int .i64 b], .agg [.int .i64 c, .int .i64 d]] => (a <= b /\ c <= d) /\ K (.agg [.int .i64 (icmp o a b c d).1, .int .i64 (icmp o a b c d).2]) h
 | _ => False
set_option maxRecDepth 100000 in
theorem vCmp (o a b c d : Int) (h : Heap) (Q : IV -> Heap -> Prop) : dF (stdS cRem) env 77 noU noI noI [.int .i64 o, .agg [.int .i64 a, .int .i64 b], .agg [.int .i64 c, .int .i64 d]] h Q = (
 brS (o == 15) (Q (.agg [.int .i64 (Prod.fst (tri false !meets a b c d)), IV.int .i64 (Prod.snd (tri false !meets a b c d))]) h)
 (brS (o == 16) (Q (.agg [.int .i64 (Prod.fst (tri (!meets a b c d) false)), IV.int .i64 (Prod.snd (tri (!meets a b c d) false))]) h)
 (brS (o == 18) (Q (.agg [.int .i64 (Prod.fst (tri (decide (b <= c)) (decide (a > d)))), IV.int .i64 (Prod.snd (tri (decide (b <= c)) (decide (a > d))))]) h)
 (brS (o == 19)
 (brS (decide ((if c < a then c else a) < 0))
 (brS (decide ((if d > b then d else b) >= 0)) (Q (.agg [.int .i64 0, IV.int .i64 1]) h)
 (Q (.agg [.int .i64 (Prod.fst (tri (decide (b < c)) (decide (a >= d)))), IV.int .i64 (Prod.snd (tri (decide (b < c)) (decide (a >= d))))]) h))
 (Q (.agg [.int .i64 (Prod.fst (tri (decide (b < c)) (decide (a >= d)))), IV.int .i64 (Prod.snd (tri (decide (b < c)) (decide (a >= d))))]) h))
 (Q (.agg [.int .i64 (Prod.fst (tri (decide (b < c)) (decide (a >= d)))), IV.int .i64 (Prod.snd (tri (decide (b < c)) (decide (a >= d))))]) h))))) := by kernel_rfl
theorem sCmp : ∀ xs h Q, kCmp xs h Q -> CallW env 77 xs h Q := by
 intro xs h Q hk
 unfold kCmp at hk
 split at hk
 ·rename_i o a b c d
  refine dF_run (okRem) (vCmp o a b c d h Q) ?_
  obtain ⟨⟨h1, h2⟩, hk⟩ := hk
  repeat' (first | refine needS_intro ?_ ?_ | refine brS_intro (fun _ => ?_) (fun _ => ?_) | refine And.intro ?_ ?_)
  all_goals first | exact hk | (refine q_eq hk ?_; simp only [IV.agg.injEq, IV.tuple.injEq, IV.int.injEq, IV.bool.injEq, List.cons.injEq, true_and, and_true]; grind [icmp])
 ·exact hk.elim
def cCmp := addC 77 kCmp cRem
theorem okCmp : Sound env cCmp := sound_add sCmp (okRem)
def kSelect (xs : List IV) (h : Heap) (K : IV -> Heap -> Prop) : Prop := match xs with
 | [.agg [.int .i64 a, .int .i64 b], .agg [.int .i64 c, .int .i64 d], .agg [.int .i64 e, .int .i64 f]] => K (.agg [.int .i64 (isel a b c d e f).1, .int .i64 (isel a b c d e f).2]) h
 | _ => False
set_option maxRecDepth 100000 in
theorem vSelect (a b c d e f : Int) (h : Heap) (Q : IV -> Heap -> Prop) : dF (stdS cCmp) env 37 noU noI noI [.agg [.int .i64 a, .int .i64 b], .agg [.int .i64 c, .int .i64 d], .agg [.int .i64 e, .int .i64 f]] h Q = (
 brS (!decide (a <= b)) (Q (.agg [.int .i64 (-9223372036854775808), IV.int .i64 9223372036854775807]) h)
 (brS (!decide (c <= d)) (Q (.agg [.int .i64 (-9223372036854775808), IV.int .i64 9223372036854775807]) h)
 (brS (!decide (e <= f)) (Q (.agg [.int .i64 (-9223372036854775808), IV.int .i64 9223372036854775807]) h)
 (brS (a == 0)
 (brS (b == 0) (Q (.agg [.int .i64 e, IV.int .i64 f]) h)
 (brS (!contains a b (0 : Int)) (Q (.agg [.int .i64 c, IV.int .i64 d]) h) (Q (.agg [.int .i64 (min c e), IV.int .i64 (max d f)]) h)))
 (brS (!contains a b (0 : Int)) (Q (.agg [.int .i64 c, IV.int .i64 d]) h) (Q (.agg [.int .i64 (min c e), IV.int .i64 (max d f)]) h)))))) := by kernel_rfl
theorem sSelect : ∀ xs h Q, kSelect xs h Q -> CallW env 37 xs h Q := by
 intro xs h Q hk
 unfold kSelect at hk
 split at hk
 ·rename_i a b c d e f
  refine dF_run (okCmp) (vSelect a b c d e f h Q) ?_
  repeat' (first | refine needS_intro ?_ ?_ | refine brS_intro (fun _ => ?_) (fun _ => ?_) | refine And.intro ?_ ?_)
  all_goals first | exact hk | (refine q_eq hk ?_; simp only [IV.agg.injEq, IV.tuple.injEq, IV.int.injEq, IV.bool.injEq, List.cons.injEq, true_and, and_true]; grind [isel])
 ·exact hk.elim
def cSelect := addC 37 kSelect cCmp
theorem okSelect : Sound env cSelect := sound_add sSelect (okCmp)
def kShift (xs : List IV) (h : Heap) (K : IV -> Heap -> Prop) : Prop := match xs with
 | [.int .i64 o, .agg [.int .i64 a, .int .i64 b], .agg [.int .i64 c, .int .i64 d]] => K (.agg [.int .i64 (ishf o a b c d).1, .int .i64 (ishf o a b c d).2]) h
 | _ => False
noncomputable def z76c (c : Int) := Int.toNat (IntKind.wrap .u64 (bvAnd .i64 c 63))
noncomputable def z76d (c : Int) := decide (0 <= IntKind.wrap .u64 (bvAnd .i64 c 63))
noncomputable def z76e  := IV.agg [.int .i64 (-9223372036854775808), IV.int .i64 9223372036854775807]
noncomputable def z76a (a b c d : Int) (h : Heap) (Q : IV -> Heap -> Prop) := brS (c == d) (brS (decide (a >= 0)) (needS (z76d c) (needS (z76d c) (Q (.agg [.int .i64 (Int.fdiv a ((2 : Int) ^ min (z76c c) (64 : Nat))), IV.int .i64 (Int.fdiv b ((2 : Int) ^ min (z76c c) (64 : Nat)))]) h))) (brS (c == d) (needS (decide (0 <= IntKind.wrap .u64 ((64 : Int) - IntKind.wrap .u64 (bvAnd .i64 c 63)))) (Q (.agg [.int .i64 0, IV.int .i64 (IntKind.wrap .i64 (IntKind.wrap .i64 ((1 : Int) * (2 : Int) ^ min (Int.toNat (IntKind.wrap .u64 ((64 : Int) - IntKind.wrap .u64 (bvAnd .i64 c 63)))) (64 : Nat)) - 1))]) h)) (brS (decide (a >= 0)) (Q (.agg [.int .i64 0, IV.int .i64 b]) h) (Q z76e h)))) (brS (c == d) (needS (decide (0 <= IntKind.wrap .u64 ((64 : Int) - IntKind.wrap .u64 (bvAnd .i64 c 63)))) (Q (.agg [.int .i64 0, IV.int .i64 (IntKind.wrap .i64 (IntKind.wrap .i64 ((1 : Int) * (2 : Int) ^ min (Int.toNat (IntKind.wrap .u64 ((64 : Int) - IntKind.wrap .u64 (bvAnd .i64 c 63)))) (64 : Nat)) - 1))]) h)) (brS (decide (a >= 0)) (Q (.agg [.int .i64 0, IV.int .i64 b]) h) (Q z76e h)))
noncomputable def z76b (o a b c d : Int) (h : Heap) (Q : IV -> Heap -> Prop) := brS (o == 12) (Q z76e h) (brS (o == 14) (brS (c == d) (needS (z76d c) (needS (z76d c) (Q (.agg [.int .i64 (Int.fdiv a ((2 : Int) ^ min (z76c c) (64 : Nat))), IV.int .i64 (Int.fdiv b ((2 : Int) ^ min (z76c c) (64 : Nat)))]) h))) (brS (o == 14) (Q (.agg [.int .i64 (if 0 < a then (0 : Int) else a), IV.int .i64 (if (-1 : Int) > b then (-1 : Int) else b)]) h) (brS (c == d) (brS (IntKind.wrap .u64 (bvAnd .i64 c 63) == 0) (Q (.agg [.int .i64 a, IV.int .i64 b]) h) (z76a a b c d h Q)) (z76a a b c d h Q)))) (brS (o == 14) (Q (.agg [.int .i64 (if 0 < a then (0 : Int) else a), IV.int .i64 (if (-1 : Int) > b then (-1 : Int) else b)]) h) (brS (c == d) (brS (IntKind.wrap .u64 (bvAnd .i64 c 63) == 0) (Q (.agg [.int .i64 a, IV.int .i64 b]) h) (z76a a b c d h Q)) (z76a a b c d h Q))))
set_option maxRecDepth 100000 in
theorem vShift (o a b c d : Int) (h : Heap) (Q : IV -> Heap -> Prop) : dF (stdS cSelect) env 76 noU noI noI [.int .i64 o, .agg [.int .i64 a, .int .i64 b], .agg [.int .i64 c, .int .i64 d]] h Q = (
 brS (o == 12) (brS (c == d) (needS (z76d c) (needS (z76d c) (needS (z76d c) (brS (Int.fdiv (IntKind.wrap .i64 (a * (2 : Int) ^ min (z76c c) (64 : Nat))) ((2 : Int) ^ min (z76c c) (64 : Nat)) != a) (Q z76e h) (needS (z76d c) (brS (Int.fdiv (IntKind.wrap .i64 (b * (2 : Int) ^ min
 (z76c c) (64 : Nat))) ((2 : Int) ^ min (z76c c) (64 : Nat)) != b) (Q z76e h) (Q (.agg [.int .i64 (IntKind.wrap .i64 (a * (2 : Int) ^ min (z76c c) (64 : Nat))), IV.int .i64 (IntKind.wrap .i64 (b * (2 : Int) ^ min (z76c c) (64 : Nat)))]) h))))))) (z76b o a b c d h Q)) (z76b
 o a b c d h Q)) := by kernel_rfl
set_option maxHeartbeats 2000000 in
theorem sShift : ∀ xs h Q, kShift xs h Q -> CallW env 76 xs h Q := by
 intro xs h Q hk
 unfold kShift at hk
 split at hk
 ·rename_i o a b c d
  refine dF_run (okSelect) (vShift o a b c d h Q) ?_
  delta z76a z76b z76c z76d z76e
  have hnn : (0:Int) <= c % 64 /\ c % 64 < 64 := by omega
  have hu : IntKind.u64.wrap (64 - c % 64) = 64 - c % 64 := IntWalk.u64_in _ (by omega)
  have hm : min (64 - c % 64).toNat 64 = (64 - c % 64).toNat := by omega
  have hw : IntKind.u64.wrap (c % 64) = c % 64 := IntWalk.u64_in _ (by omega)
  have hv : IntKind.i64.wrap (64 - c % 64) = 64 - c % 64 := IntWalk.i64_in _ (by omega)
  simp only [bvAnd63, hw, hv, hu, mink, hm]
  repeat' (first | refine needS_intro ?_ ?_ | refine brS_intro (fun _ => ?_) (fun _ => ?_) | refine And.intro ?_ ?_)
  all_goals first | exact hk | omega | (simp only [decide_eq_true_eq]; omega) | (refine q_eq hk ?_; simp only [IV.agg.injEq, IV.tuple.injEq, IV.int.injEq, IV.bool.injEq, List.cons.injEq, true_and, and_true]; simp only [beq_iff_eq, beq_eq_false_iff_ne, bne_iff_ne, ne_eq, decide_eq_true_eq, decide_eq_false_iff_not, bne_eq_false_iff_eq] at *; grind [ishf, shlk, shlw])
 ·exact hk.elim
def cShift := addC 76 kShift cSelect
theorem okShift : Sound env cShift := sound_add sShift (okSelect)
def kRUnC (xs : List IV) (h : Heap) (K : IV -> Heap -> Prop) : Prop := match xs with
 | [.int .i64 o, .int .i64 a] => K (.int .i64 (wun o a)) h
 | _ => False
set_option maxRecDepth 100000 in
theorem vRUnC (o a : Int) (h : Heap) (Q : IV -> Heap -> Prop) : dF (stdS cShift) env 22 noU noI noI [.int .i64 o, .int .i64 a] h Q = (
 brS (o == 20) (Q (.int .i64 (IntKind.wrap .i64 ((0 : Int) - a))) h) (brS (o == 21) (Q (.int .i64 (bvXor .i64 (-1 : Int) a)) h) (Q (.int .i64 0) h))) := by kernel_rfl
theorem sRUnC : ∀ xs h Q, kRUnC xs h Q -> CallW env 22 xs h Q := by
 intro xs h Q hk
 unfold kRUnC at hk
 split at hk
 ·rename_i o a
  refine dF_run (okShift) (vRUnC o a h Q) ?_
  repeat' (first | refine needS_intro ?_ ?_ | refine brS_intro (fun _ => ?_) (fun _ => ?_) | refine And.intro ?_ ?_)
  all_goals first | exact hk | (refine q_eq hk ?_; congr 1; (try simp only [beq_iff_eq, beq_eq_false_iff_ne, ne_eq] at *); unfold wun; (repeat (first | rw [if_pos (by assumption)] | rw [if_neg (by assumption)])); first | done | rfl)
 ·exact hk.elim
def cRUnC := addC 22 kRUnC cShift
theorem okRUnC : Sound env cRUnC := sound_add sRUnC (okShift)
def kUn (xs : List IV) (h : Heap) (K : IV -> Heap -> Prop) : Prop := match xs with
 | [.int .i64 o, .agg [.int .i64 a, .int .i64 b]] => K (.agg [.int .i64 (iun o a b).1, .int .i64 (iun o a b).2]) h
 | _ => False
noncomputable def z38a (o a b : Int) (h : Heap) (Q : IV -> Heap -> Prop) := brS (!decide (a <= b)) (Q (.agg [.int .i64 (-9223372036854775808), IV.int .i64 9223372036854775807]) h) (brS (a == b) (Q (.agg [.int .i64 (wun o a), IV.int .i64 (wun o a)]) h) (brS (o == 21) (Q (.agg [.int .i64 (bvXor .i64 (-1 : Int) b), IV.int .i64 (bvXor .i64 (-1 : Int) a)]) h) (brS (a == (-9223372036854775808 : Int)) (Q (.agg [.int .i64 (-9223372036854775808), IV.int .i64 9223372036854775807]) h) (Q (.agg [.int .i64 (IntKind.wrap .i64 ((0 : Int) - b)), IV.int .i64 (IntKind.wrap .i64 ((0 : Int) - a))]) h))))
set_option maxRecDepth 100000 in
theorem vUn (o a b : Int) (h : Heap) (Q : IV -> Heap -> Prop) : dF (stdS cRUnC) env 38 noU noI noI [.int .i64 o, .agg [.int .i64 a, .int .i64 b]] h Q = (
 brS (o != 20) (brS (o != 21) (Q (.agg [.int .i64 (-9223372036854775808), IV.int .i64 9223372036854775807]) h) (z38a o a b h Q)) (z38a o a b h Q)) := by kernel_rfl
theorem sUn : ∀ xs h Q, kUn xs h Q -> CallW env 38 xs h Q := by
 intro xs h Q hk
 unfold kUn at hk
 split at hk
 ·rename_i o a b
  refine dF_run (okRUnC) (vUn o a b h Q) ?_
  delta z38a
  have e1 : ∀ x, bvXor .i64 (-1 : Int) x = inot x := fun _ => rfl
  simp only [e1]
  repeat' (first | refine needS_intro ?_ ?_ | refine brS_intro (fun _ => ?_) (fun _ => ?_) | refine And.intro ?_ ?_)
  all_goals first | exact hk | (refine q_eq hk ?_; try simp only [IV.agg.injEq, IV.tuple.injEq, IV.int.injEq, IV.bool.injEq, List.cons.injEq, true_and, and_true]; (try simp only [beq_iff_eq, beq_eq_false_iff_ne, bne_iff_ne, ne_eq, decide_eq_true_eq, decide_eq_false_iff_not, bne_eq_false_iff_eq] at *); grind [iun])
 ·exact hk.elim
def cUn := addC 38 kUn cRUnC
theorem okUn : Sound env cUn := sound_add sUn (okRUnC)
def kLen64 (xs : List IV) (h : Heap) (K : IV -> Heap -> Prop) : Prop := match xs with
 | [.int .u64 x] => (0 <= x /\ x <= 18446744073709551615) /\ K (.int .i64 (bitl x.toNat : Int)) h
 | _ => False
noncomputable def z108a  := [(0 : UInt8), (1 : UInt8), (2 : UInt8), (2 : UInt8), (3 : UInt8), (3 : UInt8), (3 : UInt8), (3 : UInt8), (4 : UInt8), (4 : UInt8), (4 : UInt8), (4 : UInt8), (4 : UInt8), (4 : UInt8), (4 : UInt8), (4 : UInt8), (5 : UInt8), (5 : UInt8), (5 : UInt8), (5 : UInt8), (5 : UInt8), (5 : UInt8), (5 : UInt8), (5 : UInt8), (5 : UInt8), (5 : UInt8), (5 : UInt8), (5 : UInt8), (5 : UInt8), (5 : UInt8), (5 : UInt8), (5 : UInt8), (6 : UInt8), (6 : UInt8), (6 : UInt8), (6 : UInt8), (6 : UInt8), (6 : UInt8), (6 : UInt8), (6 : UInt8), (6 : UInt8), (6 : UInt8), (6 : UInt8), (6 : UInt8), (6 : UInt8), (6 : UInt8), (6 : UInt8), (6 : UInt8), (6 : UInt8), (6 : UInt8), (6 : UInt8), (6 : UInt8), (6 : UInt8), (6 : UInt8), (6 : UInt8), (6 : UInt8), (6 : UInt8), (6 : UInt8), (6 : UInt8), (6 : UInt8), (6 : UInt8), (6 : UInt8), (6 : UInt8), (6 : UInt8), (7 : UInt8), (7 : UInt8), (7 : UInt8), (7 : UInt8), (7 : UInt8), (7 : UInt8), (7 : UInt8), (7 : UInt8), (7 : UInt8), (7 : UInt8), (7 : UInt8), (7 : UInt8), (7 : UInt8), (7 : UInt8), (7 : UInt8), (7 : UInt8), (7 : UInt8), (7 : UInt8), (7 : UInt8), (7 : UInt8), (7 : UInt8), (7 : UInt8), (7 : UInt8), (7 : UInt8), (7 : UInt8), (7 : UInt8), (7 : UInt8), (7 : UInt8), (7 : UInt8), (7 : UInt8), (7 : UInt8), (7 : UInt8), (7 : UInt8), (7 : UInt8), (7 : UInt8), (7 : UInt8), (7 : UInt8), (7 : UInt8), (7 : UInt8), (7 : UInt8), (7 : UInt8), (7 : UInt8), (7 : UInt8), (7 : UInt8), (7 : UInt8), (7 : UInt8), (7 : UInt8), (7 : UInt8), (7 : UInt8), (7 : UInt8), (7 : UInt8), (7 : UInt8), (7 : UInt8), (7 : UInt8), (7 : UInt8), (7 : UInt8), (7 : UInt8), (7 : UInt8), (7 : UInt8), (7 : UInt8), (7 : UInt8), (7 : UInt8), (7 : UInt8), (7 : UInt8), (8 : UInt8), (8 : UInt8), (8 : UInt8), (8 : UInt8), (8 : UInt8), (8 : UInt8), (8 : UInt8), (8 : UInt8), (8 : UInt8), (8 : UInt8), (8 : UInt8), (8 : UInt8), (8 : UInt8), (8 : UInt8), (8 : UInt8), (8 : UInt8), (8 : UInt8), (8 : UInt8), (8 : UInt8), (8 : UInt8), (8 : UInt8), (8 : UInt8), (8 : UInt8), (8 : UInt8), (8 : UInt8), (8 : UInt8), (8 : UInt8), (8 : UInt8), (8 : UInt8), (8 : UInt8), (8 : UInt8), (8 : UInt8), (8 : UInt8), (8 : UInt8), (8 : UInt8), (8 : UInt8), (8 : UInt8), (8 : UInt8), (8 : UInt8), (8 : UInt8), (8 : UInt8), (8 : UInt8), (8 : UInt8), (8 : UInt8), (8 : UInt8), (8 : UInt8), (8 : UInt8), (8 : UInt8), (8 : UInt8), (8 : UInt8), (8 : UInt8), (8 : UInt8), (8 : UInt8), (8 : UInt8), (8 : UInt8), (8 : UInt8), (8 : UInt8), (8 : UInt8), (8 : UInt8), (8 : UInt8), (8 : UInt8), (8 : UInt8), (8 : UInt8), (8 : UInt8), (8 : UInt8), (8 : UInt8), (8 : UInt8), (8 : UInt8), (8 : UInt8), (8 : UInt8), (8 : UInt8), (8 : UInt8), (8 : UInt8), (8 : UInt8), (8 : UInt8), (8 : UInt8), (8 : UInt8), (8 : UInt8), (8 : UInt8), (8 : UInt8), (8 : UInt8), (8 : UInt8), (8 : UInt8), (8 : UInt8), (8 : UInt8), (8 : UInt8), (8 : UInt8), (8 : UInt8), (8 : UInt8), (8 : UInt8), (8 : UInt8), (8 : UInt8), (8 : UInt8), (8 : UInt8), (8 : UInt8), (8 : UInt8), (8 : UInt8), (8 : UInt8), (8 : UInt8), (8 : UInt8), (8 : UInt8), (8 : UInt8), (8 : UInt8), (8 : UInt8), (8 : UInt8), (8 : UInt8), (8 : UInt8), (8 : UInt8), (8 : UInt8), (8 : UInt8), (8 : UInt8), (8 : UInt8), (8 : UInt8), (8 : UInt8), (8 : UInt8), (8 : UInt8), (8 : UInt8), (8 : UInt8), (8 : UInt8), (8 : UInt8), (8 : UInt8), (8 : UInt8), (8 : UInt8), (8 : UInt8), (8 : UInt8), (8 : UInt8), (8 : UInt8), (8 : UInt8)]
noncomputable def z108b (x : Int) := Int.fdiv x (4294967296 : Int)
noncomputable def z108c (x : Int) := Int.fdiv (z108b x) (65536 : Int)
set_option maxRecDepth 100000 in
theorem vLen64 (x : Int) (h : Heap) (Q : IV -> Heap -> Prop) : dF (stdS cUn) env 108 noU noI noI [.int .u64 x] h Q = (
 brS (decide (x >= 4294967296)) (brS (decide (Int.fdiv x (4294967296 : Int) >= 65536)) (brS (decide (Int.fdiv (z108b x) (65536 : Int) >= 256)) (needS (decide (0 <= IntKind.wrap .u8 (Int.fdiv (z108c x) (256 : Int)))) (chrS z108a (Int.toNat (IntKind.wrap .u8 (Int.fdiv
 (z108c x) (256 : Int)))) fun c0 => Q (.int .i64 (IntKind.wrap .i64 ((56 : Int) + IntKind.wrap .i64 c0))) h)) (needS (decide (0 <= IntKind.wrap .u8 (z108c x))) (chrS z108a (Int.toNat (IntKind.wrap .u8 (z108c x))) fun c1 => Q (.int .i64
 (IntKind.wrap .i64 ((48 : Int) + IntKind.wrap .i64 c1))) h))) (brS (decide (Int.fdiv x (4294967296 : Int) >= 256)) (needS (decide (0 <= IntKind.wrap .u8 (Int.fdiv (z108b x) (256 : Int)))) (chrS z108a (Int.toNat (IntKind.wrap .u8 (Int.fdiv (z108b x) (256 : Int))))
 fun c2 => Q (.int .i64 (IntKind.wrap .i64 ((40 : Int) + IntKind.wrap .i64 c2))) h)) (needS (decide (0 <= IntKind.wrap .u8 (z108b x))) (chrS z108a (Int.toNat (IntKind.wrap .u8 (z108b x))) fun c3 => Q (.int .i64 (IntKind.wrap .i64
 ((32 : Int) + IntKind.wrap .i64 c3))) h)))) (brS (decide (x >= 65536)) (brS (decide (Int.fdiv x (65536 : Int) >= 256)) (needS (decide (0 <= IntKind.wrap .u8 (Int.fdiv (Int.fdiv x (65536 : Int)) (256 : Int)))) (chrS z108a (Int.toNat (IntKind.wrap .u8 (Int.fdiv
 (Int.fdiv x (65536 : Int)) (256 : Int)))) fun c4 => Q (.int .i64 (IntKind.wrap .i64 ((24 : Int) + IntKind.wrap .i64 c4))) h)) (needS (decide (0 <= IntKind.wrap .u8 (Int.fdiv x (65536 : Int)))) (chrS z108a (Int.toNat (IntKind.wrap .u8 (Int.fdiv x (65536
 : Int)))) fun c5 => Q (.int .i64 (IntKind.wrap .i64 ((16 : Int) + IntKind.wrap .i64 c5))) h))) (brS (decide (x >= 256)) (needS (decide (0 <= IntKind.wrap .u8 (Int.fdiv x (256 : Int)))) (chrS z108a (Int.toNat (IntKind.wrap .u8 (Int.fdiv x (256
 : Int)))) fun c6 => Q (.int .i64 (IntKind.wrap .i64 ((8 : Int) + IntKind.wrap .i64 c6))) h)) (needS (decide (0 <= IntKind.wrap .u8 x)) (chrS z108a (Int.toNat (IntKind.wrap .u8 x)) fun c7 => Q (.int .i64 (IntKind.wrap .i64 ((0
 : Int) + IntKind.wrap .i64 c7))) h))))) := by kernel_rfl
theorem sLen64 : ∀ xs h Q, kLen64 xs h Q -> CallW env 108 xs h Q := by
 intro xs h Q hk
 unfold kLen64 at hk
 split at hk
 ·rename_i x
  refine dF_run (okUn) (vLen64 x h Q) ?_
  delta z108a z108b z108c
  obtain ⟨⟨h1, h2⟩, hk⟩ := hk
  have f : ∀ z p : Int, 0 <= p -> z.fdiv p = z / p := fun z p hp => Int.fdiv_eq_ediv_of_nonneg _ hp
  have f1 := fun z => f z 4294967296 (by omega)
  have f2 := fun z => f z 65536 (by omega)
  have f3 := fun z => f z 256 (by omega)
  have s1 := fun (z : Int) (hz : (4294967296 : Int) <= z) => bitl_int (x := z) 32 4294967296 (by decide) (by omega)
  have s2 := fun (z : Int) (hz : (65536 : Int) <= z) => bitl_int (x := z) 16 65536 (by decide) (by omega)
  have s3 := fun (z : Int) (hz : (256 : Int) <= z) => bitl_int (x := z) 8 256 (by decide) (by omega)
  simp only [Int.cast_ofNat_Int] at s1 s2 s3
  refine brS_intro (fun c1 => brS_intro (fun c2 => brS_intro (fun c3 => ?_) (fun c3 => ?_)) (fun c2 => brS_intro (fun c3 => ?_) (fun c3 => ?_))) (fun c1 => brS_intro (fun c2 => brS_intro (fun c3 => ?_) (fun c3 => ?_)) (fun c2 => brS_intro (fun c3 => ?_) (fun c3 => ?_)))
  all_goals simp only [decide_eq_true_eq, decide_eq_false_iff_not, f1, f2, f3] at c1 c2 c3
  all_goals refine len_leaf (n := x.toNat) (by (try simp only [f1, f2, f3]); omega) (by (try simp only [f1, f2, f3]); omega) (by omega) ?_ hk _ (by kernel_rfl)
  all_goals try simp only [f1, f2, f3]
  ·rw [s1 _ c1, s2 _ c2, s3 _ c3]; omega
  ·rw [s1 _ c1, s2 _ c2]; omega
  ·rw [s1 _ c1, s3 _ c3]; omega
  ·rw [s1 _ c1]; omega
  ·rw [s2 _ c2, s3 _ c3]; omega
  ·rw [s2 _ c2]; omega
  ·rw [s3 _ c3]; omega
  ·omega
 ·exact hk.elim
def cLen64 := addC 108 kLen64 cUn
theorem okLen64 : Sound env cLen64 := sound_add sLen64 (okUn)
def kMul64 (xs : List IV) (h : Heap) (K : IV -> Heap -> Prop) : Prop := match xs with
 | [.int .u64 x, .int .u64 y] => ((0 <= x /\ x <= 18446744073709551615) /\ (0 <= y /\ y <= 18446744073709551615)) /\ K (.tuple [.int .u64 (mulHi x y), .int .u64 (IntKind.u64.wrap (x * y))]) h
 | _ => False
set_option maxRecDepth 100000 in
theorem vMul64 (x y : Int) (h : Heap) (Q : IV -> Heap -> Prop) : dF (stdS cLen64) env 107 noU noI noI [.int .u64 x, .int .u64 y] h Q = (
 Q
 (IV.tuple
 [IV.int .u64
 (IntKind.wrap .u64
 (IntKind.wrap .u64
 (IntKind.wrap .u64 (Int.fdiv x (4294967296 : Int) * Int.fdiv y (4294967296 : Int)) +
 Int.fdiv
 (IntKind.wrap .u64
 (IntKind.wrap .u64 (Int.fdiv x (4294967296 : Int) * bvAnd .u64 y 4294967295) +
 Int.fdiv (IntKind.wrap .u64 (bvAnd .u64 x 4294967295 * bvAnd .u64 y 4294967295)) (4294967296 : Int)))
 (4294967296 : Int)) +
 Int.fdiv
 (IntKind.wrap .u64
 (bvAnd .u64
 (IntKind.wrap .u64
 (IntKind.wrap .u64 (Int.fdiv x (4294967296 : Int) * bvAnd .u64 y 4294967295) +
 Int.fdiv (IntKind.wrap .u64 (bvAnd .u64 x 4294967295 * bvAnd .u64 y 4294967295)) (4294967296 : Int)))
 4294967295 +
 IntKind.wrap .u64 (bvAnd .u64 x 4294967295 * Int.fdiv y (4294967296 : Int))))
 (4294967296 : Int))),
 IV.int .u64 (IntKind.wrap .u64 (x * y))])
 h) := by kernel_rfl
theorem sMul64 : ∀ xs h Q, kMul64 xs h Q -> CallW env 107 xs h Q := by
 intro xs h Q hk
 unfold kMul64 at hk
 split at hk
 ·rename_i x y
  refine dF_run (okLen64) (vMul64 x y h Q) ?_
  obtain ⟨⟨⟨h1, h2⟩, h3, h4⟩, hk⟩ := hk
  rw [mul64_plain h1 h2 h3 h4]
  exact hk
 ·exact hk.elim
def cMul64 := addC 107 kMul64 cLen64
theorem okMul64 : Sound env cMul64 := sound_add sMul64 (okLen64)
def kProduct (xs : List IV) (h : Heap) (K : IV -> Heap -> Prop) : Prop := match xs with
 | [.int .i64 a, .int .i64 b] => (inR a /\ inR b) /\ K (.tuple [.int .i64 (IntKind.i64.wrap (a * b)), .bool (inRb (a * b))]) h
 | _ => False
noncomputable def z72a (a b : Int) := IntKind.wrap .i64 (IntKind.wrap .u64 (IntKind.wrap .u64 a * IntKind.wrap .u64 b))
noncomputable def z72b (a b : Int) := mulHi (IntKind.wrap .u64 a) (IntKind.wrap .u64 b)
set_option maxRecDepth 100000 in
theorem vProduct (a b : Int) (h : Heap) (Q : IV -> Heap -> Prop) : dF (stdS cMul64) env 72 noU noI noI [.int .i64 a, .int .i64 b] h Q = (
 ((0 <= IntKind.wrap .u64 a /\ IntKind.wrap .u64 a <= 18446744073709551615) /\ 0 <= IntKind.wrap .u64 b /\ IntKind.wrap .u64 b <= 18446744073709551615) /\ brS (decide (a < 0)) (brS (decide (b < 0)) (Q (.tuple [.int .i64 (z72a
 a b), IV.bool (IntKind.wrap .i64 (IntKind.wrap .i64 (IntKind.wrap .i64 (z72b a b) - b) - a) == Int.fdiv (z72a a b) (9223372036854775808 : Int))]) h) (Q (.tuple [.int .i64 (z72a a b), IV.bool (IntKind.wrap .i64 (IntKind.wrap .i64 (z72b a b) - b) == Int.fdiv
 (z72a a b) (9223372036854775808 : Int))]) h)) (brS (decide (b < 0)) (Q (.tuple [.int .i64 (z72a a b), IV.bool (IntKind.wrap .i64 (IntKind.wrap .i64 (z72b a b) - a) == Int.fdiv (z72a a b) (9223372036854775808 : Int))]) h) (Q (.tuple [.int .i64 (z72a a b), IV.bool
 (IntKind.wrap .i64 (z72b a b) == Int.fdiv (z72a a b) (9223372036854775808 : Int))]) h))) := by kernel_rfl
theorem sProduct : ∀ xs h Q, kProduct xs h Q -> CallW env 72 xs h Q := by
 intro xs h Q hk
 unfold kProduct at hk
 split at hk
 ·rename_i a b
  refine dF_run (okMul64) (vProduct a b h Q) ?_
  delta z72a z72b
  obtain ⟨⟨ha, hb⟩, hk⟩ := hk
  have hu : ∀ z, 0 <= IntKind.u64.wrap z /\ IntKind.u64.wrap z <= 18446744073709551615 := fun z => by rw [u64w]; omega
  refine ⟨⟨hu a, hu b⟩, ?_⟩
  simp only [mul_wrap, wrap_sub1]
  refine brS_intro (fun c1 => brS_intro (fun c2 => q_eq hk ?_) (fun c2 => q_eq hk ?_)) (fun c1 => brS_intro (fun c2 => q_eq hk ?_) (fun c2 => q_eq hk ?_))
  all_goals simp only [decide_eq_true_eq, decide_eq_false_iff_not] at c1 c2
  ·rw [smul_ok' ha hb (by rw [if_pos c1, if_pos c2])]
  ·rw [smul_ok' ha hb (by rw [if_pos c1, if_neg c2]; omega)]
  ·rw [smul_ok' ha hb (by rw [if_neg c1, if_pos c2]; omega)]
  ·rw [smul_ok' ha hb (by rw [if_neg c1, if_neg c2]; omega)]
 ·exact hk.elim
def cProduct := addC 72 kProduct cMul64
theorem okProduct : Sound env cProduct := sound_add sProduct (okMul64)
def kQuotC (xs : List IV) (h : Heap) (K : IV -> Heap -> Prop) : Prop := match xs with
 | [.int .i64 a, .int .i64 b] => (inR a /\ 1 <= b) /\ K (.tuple [.int .i64 (a.tdiv b), .bool true]) h
 | _ => False
set_option maxRecDepth 100000 in
theorem vQuotC (a b : Int) (h : Heap) (Q : IV -> Heap -> Prop) : dF (stdS cProduct) env 73 noU noI noI [.int .i64 a, .int .i64 b] h Q = (
 needS (!b == 0) (Q (.tuple [.int .i64 (IntKind.wrap .i64 (Int.tdiv a b)), IV.bool true]) h)) := by kernel_rfl
theorem sQuotC : ∀ xs h Q, kQuotC xs h Q -> CallW env 73 xs h Q := by
 intro xs h Q hk
 unfold kQuotC at hk
 split at hk
 ·rename_i a b
  refine dF_run (okProduct) (vQuotC a b h Q) ?_
  obtain ⟨⟨ha, hb⟩, hk⟩ := hk
  refine needS_intro (by simp; omega) ?_
  rw [tdiv_in ha (by omega) (by omega)]
  exact hk
 ·exact hk.elim
def cQuotC := addC 73 kQuotC cProduct
theorem okQuotC : Sound env cQuotC := sound_add sQuotC (okProduct)
def kCornersM (xs : List IV) (h : Heap) (K : IV -> Heap -> Prop) : Prop := match xs with
 | [.agg [.int .i64 a, .int .i64 b], .agg [.int .i64 c, .int .i64 d], .func (.func 72) [] []] => ((inR a /\ inR b) /\ (inR c /\ inR d)) /\ K (.agg [.int .i64 (imul a b c d).1, .int .i64 (imul a b c d).2]) h
 | _ => False
set_option maxRecDepth 100000 in
theorem vCornersM (a b c d : Int) (h : Heap) (Q : IV -> Heap -> Prop) : dF (stdS cQuotC) env 71 (fun k => match Nat.beq k 4 with | true => 3 | false => match Nat.beq k 7 with | true => 3 | false => 0) noI noI [.agg [.int .i64 a, .int .i64 b], .agg [.int .i64 c, .int .i64 d], .func (.func 72) [] []] h Q = (
 (inR a /\ inR c) /\
 brS (!inRb (a * c)) (Q (.agg [.int .i64 (-9223372036854775808), IV.int .i64 9223372036854775807]) h)
 ((inR a /\ inR d) /\
 brS (!inRb (a * d)) (Q (.agg [.int .i64 (-9223372036854775808), IV.int .i64 9223372036854775807]) h)
 ((inR b /\ inR c) /\
 brS (!inRb (b * c)) (Q (.agg [.int .i64 (-9223372036854775808), IV.int .i64 9223372036854775807]) h)
 ((inR b /\ inR d) /\
 brS (!inRb (b * d)) (Q (.agg [.int .i64 (-9223372036854775808), IV.int .i64 9223372036854775807]) h)
 (Q
 (IV.agg
 [IV.int .i64 (min (min (min (IntKind.wrap .i64 (a * c)) (IntKind.wrap .i64 (a * d))) (IntKind.wrap .i64 (b * c))) (IntKind.wrap .i64 (b * d))),
 IV.int .i64 (max (max (max (IntKind.wrap .i64 (a * c)) (IntKind.wrap .i64 (a * d))) (IntKind.wrap .i64 (b * c))) (IntKind.wrap .i64 (b * d)))])
 h))))) := by kernel_rfl
theorem sCornersM : ∀ xs h Q, kCornersM xs h Q -> CallW env 71 xs h Q := by
 intro xs h Q hk
 unfold kCornersM at hk
 split at hk
 ·rename_i a b c d
  refine dF_run (okQuotC) (vCornersM a b c d h Q) ?_
  obtain ⟨⟨⟨ha, hb⟩, hc, hd⟩, hk⟩ := hk
  refine ⟨⟨ha, hc⟩, brS_intro (fun c1 => q_eq hk ?_) (fun c1 => ⟨⟨ha, hd⟩, brS_intro (fun c2 => q_eq hk ?_) (fun c2 => ⟨⟨hb, hc⟩, brS_intro (fun c3 => q_eq hk ?_) (fun c3 => ⟨⟨hb, hd⟩, brS_intro (fun c4 => q_eq hk ?_) (fun c4 => q_eq hk ?_)⟩)⟩)⟩)⟩
  all_goals simp only [Bool.not_eq_true', Bool.not_eq_false'] at *
  all_goals unfold imul
  ·simp [c1]
  ·simp [c2]
  ·simp [c3]
  ·simp [c4]
  ·rw [inRb_wrap c1, inRb_wrap c2, inRb_wrap c3, inRb_wrap c4]
   simp only [c1, c2, c3, c4, Bool.and_self, if_true, min4, max4, Int.min_assoc, Int.max_assoc]
 ·exact hk.elim
def cCornersM := addC 71 kCornersM cQuotC
theorem okCornersM : Sound env cCornersM := sound_add sCornersM (okQuotC)
def kCornersD (xs : List IV) (h : Heap) (K : IV -> Heap -> Prop) : Prop := match xs with
 | [.agg [.int .i64 a, .int .i64 b], .agg [.int .i64 c, .int .i64 d], .func (.func 73) [] []] => ((((inR a /\ inR b) /\ (inR c /\ inR d))) /\ 1 <= c /\ c <= d) /\ K (.agg [.int .i64 (idiv a b c d).1, .int .i64 (idiv a b c d).2]) h
 | _ => False
set_option maxRecDepth 100000 in
theorem vCornersD (a b c d : Int) (h : Heap) (Q : IV -> Heap -> Prop) : dF (stdS cCornersM) env 71 (fun k => match Nat.beq k 4 with | true => 3 | false => match Nat.beq k 7 with | true => 3 | false => 0) noI noI [.agg [.int .i64 a, .int .i64 b], .agg [.int .i64 c, .int .i64 d], .func (.func 73) [] []] h Q = (
 (inR a /\ 1 <= c) /\
 (inR a /\ 1 <= d) /\
 (inR b /\ 1 <= c) /\
 (inR b /\ 1 <= d) /\
 Q (.agg [.int .i64 (min (min (min (Int.tdiv a c) (Int.tdiv a d)) (Int.tdiv b c)) (Int.tdiv b d)), IV.int .i64 (max (max (max (Int.tdiv a c) (Int.tdiv a d)) (Int.tdiv b c)) (Int.tdiv b d))]) h) := by kernel_rfl
theorem sCornersD : ∀ xs h Q, kCornersD xs h Q -> CallW env 71 xs h Q := by
 intro xs h Q hk
 unfold kCornersD at hk
 split at hk
 ·rename_i a b c d
  refine dF_run (okCornersM) (vCornersD a b c d h Q) ?_
  obtain ⟨⟨⟨⟨ha, hb⟩, hc, hd⟩, h1, h2⟩, hk⟩ := hk
  refine ⟨⟨ha, h1⟩, ⟨ha, by omega⟩, ⟨hb, h1⟩, ⟨hb, by omega⟩, q_eq hk ?_⟩
  unfold idiv
  rw [if_neg (by omega)]
  simp only [min4, max4, Int.min_assoc, Int.max_assoc]
 ·exact hk.elim
def cCornersD := addC 71 kCornersD cCornersM
theorem okCornersD : Sound env cCornersD := sound_add sCornersD (okCornersM)
def kBitwise (xs : List IV) (h : Heap) (K : IV -> Heap -> Prop) : Prop := match xs with
 | [.int .i64 o, .agg [.int .i64 a, .int .i64 b], .agg [.int .i64 c, .int .i64 d]] => ((o = 9 \/ o = 10 \/ o = 11) /\ ((inR a /\ inR b) /\ (inR c /\ inR d)) /\ a <= b /\ c <= d) /\ K (.agg [.int .i64 (ibit' o a b c d).1, .int .i64 (ibit' o a b c d).2]) h
 | _ => False
noncomputable def z75a (o a b c d : Int) (h : Heap) (Q : IV -> Heap -> Prop) := brS (o == 9) (Q (.agg [.int .i64 (-9223372036854775808), IV.int .i64 9223372036854775807]) h) (brS (decide (a < 0)) (Q (.agg [.int .i64 (-9223372036854775808), IV.int .i64 9223372036854775807]) h) (brS (decide (c < 0)) (Q (.agg [.int .i64 (-9223372036854775808), IV.int .i64 9223372036854775807]) h) ((0 <= IntKind.wrap .u64 (if d > b then d else b) /\ IntKind.wrap .u64 (if d > b then d else b) <= 18446744073709551615) /\ brS (o == 10) (Q (.agg [.int .i64 (if c > a then c else a), IV.int .i64 (IntKind.wrap .i64 (IntKind.wrap .i64 ((1 : Int) * (2 : Int) ^ min (Int.toNat (IntKind.wrap .u64 (↑(bitl (Int.toNat (IntKind.wrap .u64 (if d > b then d else b)))) : Int))) (64 : Nat)) - 1))]) h) (Q (.agg [.int .i64 0, IV.int .i64 (IntKind.wrap .i64 (IntKind.wrap .i64 ((1 : Int) * (2 : Int) ^ min (Int.toNat (IntKind.wrap .u64 (↑(bitl (Int.toNat (IntKind.wrap .u64 (if d > b then d else b)))) : Int))) (64 : Nat)) - 1))]) h))))
noncomputable def z75b (o a b c d : Int) (h : Heap) (Q : IV -> Heap -> Prop) := brS (o == 9) (brS (decide (a >= 0)) (Q (.agg [.int .i64 0, IV.int .i64 b]) h) (brS (o == 9) (brS (decide (c >= 0)) (Q (.agg [.int .i64 0, IV.int .i64 d]) h) (z75a o a b c d h Q)) (z75a o a b c d h Q))) (brS (o == 9) (brS (decide (c >= 0)) (Q (.agg [.int .i64 0, IV.int .i64 d]) h) (z75a o a b c d h Q)) (z75a o a b c d h Q))
set_option maxRecDepth 100000 in
theorem vBitwise (o a b c d : Int) (h : Heap) (Q : IV -> Heap -> Prop) : dF (stdS cCornersD) env 75 noU noI noI [.int .i64 o, .agg [.int .i64 a, .int .i64 b], .agg [.int .i64 c, .int .i64 d]] h Q = (
 brS (o == 9) (brS (decide (a >= 0)) (brS (decide (c >= 0)) (Q (.agg [.int .i64 0, IV.int .i64 (if d < b then d else b)]) h) (z75b o a b c d h Q)) (z75b o a b c d h Q)) (z75b o a b c d h Q)) := by kernel_rfl
set_option maxHeartbeats 2000000 in
theorem sBitwise : ∀ xs h Q, kBitwise xs h Q -> CallW env 75 xs h Q := by
 intro xs h Q hk
 unfold kBitwise at hk
 split at hk
 ·rename_i o a b c d
  refine dF_run (okCornersD) (vBitwise o a b c d h Q) ?_
  delta z75a z75b
  obtain ⟨⟨ho, ⟨⟨ha, hb⟩, hc, hd⟩, hab, hcd⟩, hk⟩ := hk
  have m1 : ∀ x y : Int, (if y < x then y else x) = min x y := fun x y => by omega
  have m2 : ∀ x y : Int, (if y > x then y else x) = max x y := fun x y => by omega
  simp only [m1, m2]
  unfold inR at ha hb hc hd
  by_cases hs : 0 <= a /\ 0 <= c
  ·have e2 : IntKind.u64.wrap (max b d) = max b d := IntWalk.u64_in _ (by omega)
   simp only [e2, ones_ok (m := max b d) (by omega) (by omega)]
   repeat' (first | refine needS_intro ?_ ?_ | refine brS_intro (fun _ => ?_) (fun _ => ?_) | refine And.intro ?_ ?_)
   all_goals first | exact hk | omega | (refine q_eq hk ?_; simp only [IV.agg.injEq, IV.tuple.injEq, IV.int.injEq, IV.bool.injEq, List.cons.injEq, true_and, and_true]; grind [ibit'])
  ·repeat' (first | refine needS_intro ?_ ?_ | refine brS_intro (fun _ => ?_) (fun _ => ?_) | refine And.intro ?_ ?_)
   all_goals first | exact hk | (exfalso; grind) | (refine q_eq hk ?_; simp only [IV.agg.injEq, IV.tuple.injEq, IV.int.injEq, IV.bool.injEq, List.cons.injEq, true_and, and_true]; grind [ibit'])
 ·exact hk.elim
def cBitwise := addC 75 kBitwise cCornersD
theorem okBitwise : Sound env cBitwise := sound_add sBitwise (okCornersD)
def kBnd (xs : List IV) (h : Heap) (K : IV -> Heap -> Prop) : Prop := match xs with
 | [a, b, c, d, .func (.func f) p q] => match Nat.beq f 69 with | true => kBoundsS [a, b, c, d, .func (.func f) p q] h K | false => kBoundsD [a, b, c, d, .func (.func f) p q] h K
 | _ => False
theorem sBnd : ∀ xs h Q, kBnd xs h Q -> CallW env 68 xs h Q := by
 intro xs h Q hk
 unfold kBnd at hk
 split at hk
 ·split at hk
  ·exact sBoundsS _ _ _ hk
  ·exact sBoundsD _ _ _ hk
 ·exact hk.elim
def cBnd := addC 68 kBnd cBitwise
theorem okBnd : Sound env cBnd := sound_add sBnd (okBitwise)
def kCrn (xs : List IV) (h : Heap) (K : IV -> Heap -> Prop) : Prop := match xs with
 | [a, b, .func (.func f) p q] => match Nat.beq f 72 with | true => kCornersM [a, b, .func (.func f) p q] h K | false => kCornersD [a, b, .func (.func f) p q] h K
 | _ => False
theorem sCrn : ∀ xs h Q, kCrn xs h Q -> CallW env 71 xs h Q := by
 intro xs h Q hk
 unfold kCrn at hk
 split at hk
 ·split at hk
  ·exact sCornersM _ _ _ hk
  ·exact sCornersD _ _ _ hk
 ·exact hk.elim
def cCrn := addC 71 kCrn cBnd
theorem okCrn : Sound env cCrn := sound_add sCrn (okBnd)
def kBin (xs : List IV) (h : Heap) (K : IV -> Heap -> Prop) : Prop := match xs with
 | [.int .i64 o, .agg [.int .i64 a, .int .i64 b], .agg [.int .i64 c, .int .i64 d]] => ((inR a /\ inR b) /\ (inR c /\ inR d)) /\ K (.agg [.int .i64 (ibin o a b c d).1, .int .i64 (ibin o a b c d).2]) h
 | _ => False
noncomputable def z39b  := IV.agg [.int .i64 (-9223372036854775808), IV.int .i64 9223372036854775807]
noncomputable def z39a (o a b c d : Int) (h : Heap) (Q : IV -> Heap -> Prop) := brS (o == 4) (((inR a /\ inR c) /\ inR b /\ inR d) /\ Q (.agg [.int .i64 (Prod.fst (M13.bnd (a + c) (b + d))), IV.int .i64 (Prod.snd (M13.bnd (a + c) (b + d)))]) h) (brS (o == 5) (((inR a /\ inR d) /\ inR b /\ inR c) /\ Q (.agg [.int .i64 (Prod.fst (M13.bnd (a - d) (b - c))), IV.int .i64 (Prod.snd (M13.bnd (a - d) (b - c)))]) h) (brS (o == 6) (((inR a /\ inR b) /\ inR c /\ inR d) /\ Q (.agg [.int .i64 (Prod.fst (imul a b c d)), IV.int .i64 (Prod.snd (imul a b c d))]) h) (brS (o == 7) (brS (decide (c < 1)) (Q z39b h) ((((inR a /\ inR b) /\ inR c /\ inR d) /\ 1 <= c /\ c <= d) /\ Q (.agg [.int .i64 (Prod.fst (idiv a b c d)), IV.int .i64 (Prod.snd (idiv a b c d))]) h)) (brS (o == 8) ((((inR a /\ inR b) /\ inR c /\ inR d) /\ c <= d) /\ Q (.agg [.int .i64 (Prod.fst (irem a b c d)), IV.int .i64 (Prod.snd (irem a b c d))]) h) (brS (o == 9) (((o = 9 \/ o = 10 \/ o = 11) /\ ((inR a /\ inR b) /\ inR c /\ inR d) /\ a <= b /\ c <= d) /\ Q (.agg [.int .i64 (Prod.fst (ibit' o a b c d)), IV.int .i64 (Prod.snd (ibit' o a b c d))]) h) (brS (o == 10) (((o = 9 \/ o = 10 \/ o = 11) /\ ((inR a /\ inR b) /\ inR c /\ inR d) /\ a <= b /\ c <= d) /\ Q (.agg [.int .i64 (Prod.fst (ibit' o a b c d)), IV.int .i64 (Prod.snd (ibit' o a b c d))]) h) (brS (o == 11) (((o = 9 \/ o = 10 \/ o = 11) /\ ((inR a /\ inR b) /\ inR c /\ inR d) /\ a <= b /\ c <= d) /\ Q (.agg [.int .i64 (Prod.fst (ibit' o a b c d)), IV.int .i64 (Prod.snd (ibit' o a b c d))]) h) (brS (o == 12) (Q (.agg [.int .i64 (Prod.fst (ishf o a b c d)), IV.int .i64 (Prod.snd (ishf o a b c d))]) h) (brS (o == 13) (Q (.agg [.int .i64 (Prod.fst (ishf o a b c d)), IV.int .i64 (Prod.snd (ishf o a b c d))]) h) (brS (o == 14) (Q (.agg [.int .i64 (Prod.fst (ishf o a b c d)), IV.int .i64 (Prod.snd (ishf o a b c d))]) h) ((a <= b /\ c <= d) /\ Q (.agg [.int .i64 (Prod.fst (icmp o a b c d)), IV.int .i64 (Prod.snd (icmp o a b c d))]) h)))))))))))
set_option maxRecDepth 100000 in
theorem vBin (o a b c d : Int) (h : Heap) (Q : IV -> Heap -> Prop) : dF (stdS cCrn) env 39 noU noI noI [.int .i64 o, .agg [.int .i64 a, .int .i64 b], .agg [.int .i64 c, .int .i64 d]] h Q = (
 brS (decide (o < 4)) (Q z39b h) (brS (decide (o > 19)) (Q z39b h) (brS (!decide (a <= b)) (Q z39b h) (brS (!decide (c <= d)) (Q z39b h) (brS (a == b) (brS (c == d) (Q (.agg [.int .i64 (wbin o a c), IV.int .i64 (wbin o a c)]) h) (z39a o a b c d h Q)) (z39a o a b c d h Q)))))) := by kernel_rfl
set_option maxHeartbeats 4000000 in
theorem sBin : ∀ xs h Q, kBin xs h Q -> CallW env 39 xs h Q := by
 intro xs h Q hk
 unfold kBin at hk
 split at hk
 ·rename_i o a b c d
  refine dF_run (okCrn) (vBin o a b c d h Q) ?_
  delta z39a z39b
  obtain ⟨⟨⟨ha, hb⟩, hc, hd⟩, hk⟩ := hk
  repeat' (first | refine needS_intro ?_ ?_ | refine brS_intro (fun _ => ?_) (fun _ => ?_) | refine And.intro ?_ ?_)
  all_goals simp only [decide_eq_true_eq, decide_eq_false_iff_not, beq_iff_eq, beq_eq_false_iff_ne, ne_eq, Bool.not_eq_true', Bool.not_eq_false'] at *
  all_goals first | assumption | (unfold inR at *; omega) | (refine ⟨?_, ?_⟩ <;> assumption) | (refine q_eq hk ?_; simp only [IV.agg.injEq, IV.tuple.injEq, IV.int.injEq, IV.bool.injEq, List.cons.injEq, true_and, and_true]; grind [ibin, idiv, imul, inRb_wrap, irem_full])
 ·exact hk.elim
def cBin := addC 39 kBin cCrn
theorem okBin : Sound env cBin := sound_add sBin (okCrn)
end Go.Proofs.YtgfllfgdojiioaaGreat
