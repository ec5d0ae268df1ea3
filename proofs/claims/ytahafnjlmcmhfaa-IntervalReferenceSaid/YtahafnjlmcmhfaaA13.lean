/-
  Intervals: what the functions of the statement IntervalLattice compute.
  Conditions: none.
-/
import Derived.Test.YtahafnjlmcmhfaaEnv
import Derived.Test.YtahafnjlmcmhfaaPvVS
import Derived.Test.YtahafnjlmcmhfaaM13
import Derived.KernelRfl
set_option linter.unusedVariables false
set_option linter.unusedSimpArgs false
namespace Go.Proofs.Ytahafnjlmcmhfaa
open Go.Pv Go.M13
def kPick (xs : List IV) (h : Heap) (K : IV → Heap → Prop) : Prop := match xs with
  | [.int .i64 n, .int .i64 m] => (0 < m ∧ m < 4611686018427387904) ∧ K (.int .i64 (n % m)) h
  | _ => False
set_option maxRecDepth 100000 in
theorem vPick (n m : Int) (h : Heap) (Q : IV → Heap → Prop) : dF (stdS noC) env 16 noU noI noI [.int .i64 n, .int .i64 m] h Q = (
  needS (!m == (0 : Int)) (brS (decide (Int.tmod n m < (0 : Int))) (Q (IV.int IntKind.i64 (IntKind.wrap IntKind.i64 (Int.tmod n m + m))) h) (Q (IV.int IntKind.i64 (Int.tmod n m)) h))) := by kernel_rfl
theorem sPick : ∀ xs h Q, kPick xs h Q → CallW env 16 xs h Q := by
  intro xs h Q hk
  unfold kPick at hk
  split at hk
  · rename_i n m
    refine dF_sound (sound_no env) (mp_eq (vPick n m h Q) ?_)
    obtain ⟨hm, hk⟩ := hk
    have h1 := Int.emod_emod_of_dvd n (Int.dvd_refl m)
    have ht := tmod_cases n m hm.1
    refine needS_intro (by simp; omega) (brS_intro (fun hc => q_eq hk ?_) (fun hc => q_eq hk ?_))
    · simp only [decide_eq_true_eq] at hc; rw [IntWalk.i64_in _ (by omega)]; congr 1; omega
    · simp only [decide_eq_false_iff_not] at hc; congr 1; omega
  · exact hk.elim
def cPick := addC 16 kPick noC
theorem okPick : Sound env cPick := sound_add sPick (sound_no env)

def kWord (xs : List IV) (h : Heap) (K : IV → Heap → Prop) : Prop := match xs with
  | [.int .i64 n, .int .i64 raw] => K (.int .i64 (word n raw)) h
  | _ => False
set_option maxRecDepth 100000 in
theorem vWord (n raw : Int) (h : Heap) (Q : IV → Heap → Prop) : dF (stdS cPick) env 15 noU noI noI [.int .i64 n, .int .i64 raw] h Q = (
  ((0 : Int) < (24 : Int) ∧ (24 : Int) < (4611686018427387904 : Int)) ∧
    brS (decide (n % (24 : Int) < (10 : Int)))
      (needS (decide ((0 : Int) ≤ n % (24 : Int)) && decide (n % (24 : Int) < (↑(10 : Nat) : Int)))
        (ldIS IntKind.i64
          [IV.int IntKind.i64 (0 : Int), IV.int IntKind.i64 (1 : Int), IV.int IntKind.i64 (-1 : Int), IV.int IntKind.i64 (2 : Int), IV.int IntKind.i64 (-9223372036854775808 : Int), IV.int IntKind.i64 (9223372036854775807 : Int),
            IV.int IntKind.i64 (4294967296 : Int), IV.int IntKind.i64 (-2147483648 : Int), IV.int IntKind.i64 (63 : Int), IV.int IntKind.i64 (64 : Int)]
          (Int.toNat (n % (24 : Int)) * (1 : Nat)) fun (n0 : Int) => Q (IV.int IntKind.i64 n0) h))
      (brS (decide (n % (24 : Int) < (22 : Int)))
        (((0 : Int) < (17 : Int) ∧ (17 : Int) < (4611686018427387904 : Int)) ∧ Q (IV.int IntKind.i64 (IntKind.wrap IntKind.i64 (IntKind.wrap IntKind.i64 (Int.tdiv n (24 : Int)) % (17 : Int) - (6 : Int)))) h) (Q (IV.int IntKind.i64 raw) h))) := by kernel_rfl
theorem sWord : ∀ xs h Q, kWord xs h Q → CallW env 15 xs h Q := by
  intro xs h Q hk
  unfold kWord at hk
  split at hk
  · rename_i n raw
    refine dF_sound (okPick) (mp_eq (vWord n raw h Q) ?_)
    refine And.intro (by omega) (brS_intro (fun hc => ?_) (fun hc => brS_intro (fun hd => And.intro (by omega) (q_eq hk ?_)) (fun hd => q_eq hk ?_)))
    · simp only [decide_eq_true_eq] at hc
      refine needS_intro (by simp; omega) ?_
      obtain ⟨e, he⟩ := edge_at n hc
      unfold word at hk
      rw [if_pos hc, he.2] at hk
      rw [Nat.mul_one]
      show ldIS .i64 (edges.map (IV.int .i64)) _ _
      unfold ldIS
      rw [List.getElem?_map, he.1]
      exact hk
    · simp only [decide_eq_true_eq, decide_eq_false_iff_not] at hc hd
      unfold word; rw [if_neg hc, if_pos hd, IntWalk.i64_in (IntKind.i64.wrap (n.tdiv 24) % 17 - 6) (by omega)]
    · simp only [decide_eq_false_iff_not] at hc hd
      unfold word; rw [if_neg hc, if_neg hd]
  · exact hk.elim
def cWord := addC 15 kWord cPick
theorem okWord : Sound env cWord := sound_add sWord (okPick)

def kIval (xs : List IV) (h : Heap) (K : IV → Heap → Prop) : Prop := match xs with
  | [.int .i64 a, .int .i64 b, .int .i64 p, .int .i64 q] => K (.agg [.int .i64 (ival a b p q).1, .int .i64 (ival a b p q).2]) h
  | _ => False
set_option maxRecDepth 100000 in
theorem vIval (a b p q : Int) (h : Heap) (Q : IV → Heap → Prop) : dF (stdS cWord) env 12 noU noI noI [.int .i64 a, .int .i64 b, .int .i64 p, .int .i64 q] h Q = (
  brS (decide (word a p > word b q))
    (((0 : Int) < (31 : Int) ∧ (31 : Int) < (4611686018427387904 : Int)) ∧
      brS (decide (a % (31 : Int) > (0 : Int))) (Q (IV.agg [IV.int IntKind.i64 (word b q), IV.int IntKind.i64 (word a p)]) h) (Q (IV.agg [IV.int IntKind.i64 (word a p), IV.int IntKind.i64 (word b q)]) h))
    (Q (IV.agg [IV.int IntKind.i64 (word a p), IV.int IntKind.i64 (word b q)]) h)) := by kernel_rfl
theorem sIval : ∀ xs h Q, kIval xs h Q → CallW env 12 xs h Q := by
  intro xs h Q hk
  unfold kIval at hk
  split at hk
  · rename_i a b p q
    refine dF_sound (okWord) (mp_eq (vIval a b p q h Q) ?_)
    repeat' (first | refine needS_intro ?_ ?_ | refine brS_intro (fun _ => ?_) (fun _ => ?_) | refine And.intro ?_ ?_)
    all_goals first | assumption | omega | (refine q_eq hk ?_; simp only [IV.agg.injEq, IV.tuple.injEq, IV.int.injEq, IV.bool.injEq, List.cons.injEq, true_and, and_true]; grind [ival])
  · exact hk.elim
def cIval := addC 12 kIval cWord
theorem okIval : Sound env cIval := sound_add sIval (okWord)

def kValid (xs : List IV) (h : Heap) (K : IV → Heap → Prop) : Prop := match xs with
  | [.agg [.int .i64 a, .int .i64 b]] => K (.bool (decide (a ≤ b))) h
  | _ => False
set_option maxRecDepth 100000 in
theorem vValid (a b : Int) (h : Heap) (Q : IV → Heap → Prop) : dF (stdS cIval) env 11 noU noI noI [.agg [.int .i64 a, .int .i64 b]] h Q = (
  Q (IV.bool (decide (a ≤ b))) h) := by kernel_rfl
theorem sValid : ∀ xs h Q, kValid xs h Q → CallW env 11 xs h Q := by
  intro xs h Q hk
  unfold kValid at hk
  split at hk
  · rename_i a b
    refine dF_sound (okIval) (mp_eq (vValid a b h Q) ?_)
    exact hk
  · exact hk.elim
def cValid := addC 11 kValid cIval
theorem okValid : Sound env cValid := sound_add sValid (okIval)

def kContains (xs : List IV) (h : Heap) (K : IV → Heap → Prop) : Prop := match xs with
  | [.agg [.int .i64 a, .int .i64 b], .int .i64 n] => K (.bool (contains a b n)) h
  | _ => False
set_option maxRecDepth 100000 in
theorem vContains (a b n : Int) (h : Heap) (Q : IV → Heap → Prop) : dF (stdS cValid) env 10 noU noI noI [.agg [.int .i64 a, .int .i64 b], .int .i64 n] h Q = (
  brS (decide (n ≥ a)) (Q (IV.bool (decide (n ≤ b))) h) (Q (IV.bool false) h)) := by kernel_rfl
theorem sContains : ∀ xs h Q, kContains xs h Q → CallW env 10 xs h Q := by
  intro xs h Q hk
  unfold kContains at hk
  split at hk
  · rename_i a b n
    refine dF_sound (okValid) (mp_eq (vContains a b n h Q) ?_)
    repeat' (first | refine needS_intro ?_ ?_ | refine brS_intro (fun _ => ?_) (fun _ => ?_) | refine And.intro ?_ ?_)
    all_goals first | assumption | omega | (refine q_eq hk ?_; simp only [IV.agg.injEq, IV.tuple.injEq, IV.int.injEq, IV.bool.injEq, List.cons.injEq, true_and, and_true]; grind [contains])
  · exact hk.elim
def cContains := addC 10 kContains cValid
theorem okContains : Sound env cContains := sound_add sContains (okValid)

def kJoin (xs : List IV) (h : Heap) (K : IV → Heap → Prop) : Prop := match xs with
  | [.agg [.int .i64 a, .int .i64 b], .agg [.int .i64 c, .int .i64 d]] => K (.agg [.int .i64 (min a c), .int .i64 (max b d)]) h
  | _ => False
set_option maxRecDepth 100000 in
theorem vJoin (a b c d : Int) (h : Heap) (Q : IV → Heap → Prop) : dF (stdS cContains) env 13 noU noI noI [.agg [.int .i64 a, .int .i64 b], .agg [.int .i64 c, .int .i64 d]] h Q = (
  Q (IV.agg [IV.int IntKind.i64 (if c < a then c else a), IV.int IntKind.i64 (if d > b then d else b)]) h) := by kernel_rfl
theorem sJoin : ∀ xs h Q, kJoin xs h Q → CallW env 13 xs h Q := by
  intro xs h Q hk
  unfold kJoin at hk
  split at hk
  · rename_i a b c d
    refine dF_sound (okContains) (mp_eq (vJoin a b c d h Q) ?_)
    repeat' (first | refine needS_intro ?_ ?_ | refine brS_intro (fun _ => ?_) (fun _ => ?_) | refine And.intro ?_ ?_)
    all_goals first | assumption | omega | (refine q_eq hk ?_; simp only [IV.agg.injEq, IV.tuple.injEq, IV.int.injEq, IV.bool.injEq, List.cons.injEq, true_and, and_true]; grind [])
  · exact hk.elim
def cJoin := addC 13 kJoin cContains
theorem okJoin : Sound env cJoin := sound_add sJoin (okContains)

def kWiden (xs : List IV) (h : Heap) (K : IV → Heap → Prop) : Prop := match xs with
  | [.agg [.int .i64 a, .int .i64 b], .agg [.int .i64 c, .int .i64 d]] => K (.agg [.int .i64 (wlo a c), .int .i64 (whi b d)]) h
  | _ => False
set_option maxRecDepth 100000 in
theorem vWiden (a b c d : Int) (h : Heap) (Q : IV → Heap → Prop) : dF (stdS cJoin) env 14 noU noI noI [.agg [.int .i64 a, .int .i64 b], .agg [.int .i64 c, .int .i64 d]] h Q = (
  brS (decide (c < a))
    (brS (decide (d > b)) (Q (IV.agg [IV.int IntKind.i64 (-9223372036854775808 : Int), IV.int IntKind.i64 (9223372036854775807 : Int)]) h) (Q (IV.agg [IV.int IntKind.i64 (-9223372036854775808 : Int), IV.int IntKind.i64 b]) h))
    (brS (decide (d > b)) (Q (IV.agg [IV.int IntKind.i64 a, IV.int IntKind.i64 (9223372036854775807 : Int)]) h) (Q (IV.agg [IV.int IntKind.i64 a, IV.int IntKind.i64 b]) h))) := by kernel_rfl
theorem sWiden : ∀ xs h Q, kWiden xs h Q → CallW env 14 xs h Q := by
  intro xs h Q hk
  unfold kWiden at hk
  split at hk
  · rename_i a b c d
    refine dF_sound (okJoin) (mp_eq (vWiden a b c d h Q) ?_)
    repeat' (first | refine needS_intro ?_ ?_ | refine brS_intro (fun _ => ?_) (fun _ => ?_) | refine And.intro ?_ ?_)
    all_goals first | assumption | omega | (refine q_eq hk ?_; simp only [IV.agg.injEq, IV.tuple.injEq, IV.int.injEq, IV.bool.injEq, List.cons.injEq, true_and, and_true]; grind [wlo, whi])
  · exact hk.elim
def cWiden := addC 14 kWiden cJoin
theorem okWiden : Sound env cWiden := sound_add sWiden (okJoin)

def kIsect (xs : List IV) (h : Heap) (K : IV → Heap → Prop) : Prop := match xs with
  | [.agg [.int .i64 a, .int .i64 b], .agg [.int .i64 c, .int .i64 d]] => K (.tuple [.agg [.int .i64 (isect a b c d).1, .int .i64 (isect a b c d).2], .bool (meets a b c d)]) h
  | _ => False
set_option maxRecDepth 100000 in
theorem vIsect (a b c d : Int) (h : Heap) (Q : IV → Heap → Prop) : dF (stdS cWiden) env 8 noU noI noI [.agg [.int .i64 a, .int .i64 b], .agg [.int .i64 c, .int .i64 d]] h Q = (
  brS (!decide ((if c > a then c else a) ≤ if d < b then d else b)) (Q (IV.tuple [IV.agg [IV.int IntKind.i64 (0 : Int), IV.int IntKind.i64 (0 : Int)], IV.bool false]) h)
    (Q (IV.tuple [IV.agg [IV.int IntKind.i64 (if c > a then c else a), IV.int IntKind.i64 (if d < b then d else b)], IV.bool true]) h)) := by kernel_rfl
theorem sIsect : ∀ xs h Q, kIsect xs h Q → CallW env 8 xs h Q := by
  intro xs h Q hk
  unfold kIsect at hk
  split at hk
  · rename_i a b c d
    refine dF_sound (okWiden) (mp_eq (vIsect a b c d h Q) ?_)
    repeat' (first | refine needS_intro ?_ ?_ | refine brS_intro (fun _ => ?_) (fun _ => ?_) | refine And.intro ?_ ?_)
    all_goals first | assumption | omega | (refine q_eq hk ?_; simp only [IV.agg.injEq, IV.tuple.injEq, IV.int.injEq, IV.bool.injEq, List.cons.injEq, true_and, and_true]; grind [isect, meets])
  · exact hk.elim
def cIsect := addC 8 kIsect cWiden
theorem okIsect : Sound env cIsect := sound_add sIsect (okWiden)

def kEx (xs : List IV) (h : Heap) (K : IV → Heap → Prop) : Prop := match xs with
  | [] => K (.bool true) h
  | _ => False
theorem sEx : ∀ xs h Q, kEx xs h Q → CallW env 3 xs h Q := by
  intro xs h Q hk
  unfold kEx at hk
  split at hk
  · exact ⟨200, .bool true, h, by kernel_rfl, hk⟩
  · exact hk.elim
def cEx := addC 3 kEx cIsect
theorem okEx : Sound env cEx := sound_add sEx (okIsect)

def kLattice (xs : List IV) (h : Heap) (K : IV → Heap → Prop) : Prop := match xs with
  | [.int .i64 a, .int .i64 b, .int .i64 c, .int .i64 d, .int .i64 p, .int .i64 q, .int .i64 n] => (-9223372036854775808 ≤ n ∧ n ≤ 9223372036854775807) ∧ K (.bool true) h
  | _ => False
set_option maxRecDepth 100000 in
theorem vLattice (a b c d p q n : Int) (h : Heap) (Q : IV → Heap → Prop) : dF (stdS cEx) env 4 noU noI (icA 8 (atC [(15, .l 15 0), (16, .l 16 0), (17, .l 17 0), (18, .l 18 0), (19, .l 19 0), (6, .v (.int .i64 n)), (20, .v (.bool (meets (ival a b p q).1 (ival a b p q).2 (ival c d q p).1 (ival c d q p).2))), (21, .v (.bool (contains (ival a b p q).1 (ival a b p q).2 n && contains (ival c d q p).1 (ival c d q p).2 n)))] [(15, [.int .i64 (ival a b p q).1, .int .i64 (ival a b p q).2]), (16, [.int .i64 (ival c d q p).1, .int .i64 (ival c d q p).2]), (17, [.int .i64 (min (ival a b p q).1 (ival c d q p).1), .int .i64 (max (ival a b p q).2 (ival c d q p).2)]), (18, [.int .i64 (wlo (ival a b p q).1 (ival c d q p).1), .int .i64 (whi (ival a b p q).2 (ival c d q p).2)]), (19, [.int .i64 (isect (ival a b p q).1 (ival a b p q).2 (ival c d q p).1 (ival c d q p).2).1, .int .i64 (isect (ival a b p q).1 (ival a b p q).2 (ival c d q p).1 (ival c d q p).2).2])] h) (ic1 10 (atC [(15, .l 15 0), (16, .l 16 0), (17, .l 17 0), (18, .l 18 0), (19, .l 19 0), (6, .v (.int .i64 n)), (20, .v (.bool (meets (ival a b p q).1 (ival a b p q).2 (ival c d q p).1 (ival c d q p).2)))] [(15, [.int .i64 (ival a b p q).1, .int .i64 (ival a b p q).2]), (16, [.int .i64 (ival c d q p).1, .int .i64 (ival c d q p).2]), (17, [.int .i64 (min (ival a b p q).1 (ival c d q p).1), .int .i64 (max (ival a b p q).2 (ival c d q p).2)]), (18, [.int .i64 (wlo (ival a b p q).1 (ival c d q p).1), .int .i64 (whi (ival a b p q).2 (ival c d q p).2)]), (19, [.int .i64 (isect (ival a b p q).1 (ival a b p q).2 (ival c d q p).1 (ival c d q p).2).1, .int .i64 (isect (ival a b p q).1 (ival a b p q).2 (ival c d q p).1 (ival c d q p).2).2])] h))) [.int .i64 a, .int .i64 b, .int .i64 c, .int .i64 d, .int .i64 p, .int .i64 q, .int .i64 n] h Q = (
  brS (decide (Prod.fst (ival a b p q) > Prod.snd (ival a b p q))) (Q (IV.bool true) h)
    (brS (decide (Prod.fst (ival c d q p) > Prod.snd (ival c d q p))) (Q (IV.bool true) h)
      (brS (contains (Prod.fst (ival a b p q)) (Prod.snd (ival a b p q)) n)
          (some (TV.l (15 : Nat) (0 : Nat)) = some (TV.l (15 : Nat) (0 : Nat)) ∧
            some (TV.l (16 : Nat) (0 : Nat)) = some (TV.l (16 : Nat) (0 : Nat)) ∧
              some (TV.l (17 : Nat) (0 : Nat)) = some (TV.l (17 : Nat) (0 : Nat)) ∧
                some (TV.l (18 : Nat) (0 : Nat)) = some (TV.l (18 : Nat) (0 : Nat)) ∧
                  some (TV.l (19 : Nat) (0 : Nat)) = some (TV.l (19 : Nat) (0 : Nat)) ∧
                    some (TV.v (IV.int IntKind.i64 n)) = some (TV.v (IV.int IntKind.i64 n)) ∧
                      some (TV.v (IV.bool (meets (Prod.fst (ival a b p q)) (Prod.snd (ival a b p q)) (Prod.fst (ival c d q p)) (Prod.snd (ival c d q p))))) =
                          some (TV.v (IV.bool (meets (Prod.fst (ival a b p q)) (Prod.snd (ival a b p q)) (Prod.fst (ival c d q p)) (Prod.snd (ival c d q p))))) ∧
                        some (TV.v (IV.bool (contains (Prod.fst (ival c d q p)) (Prod.snd (ival c d q p)) n))) =
                            some (TV.v (IV.bool (contains (Prod.fst (ival a b p q)) (Prod.snd (ival a b p q)) n && contains (Prod.fst (ival c d q p)) (Prod.snd (ival c d q p)) n))) ∧
                          some [IV.int IntKind.i64 (Prod.fst (ival a b p q)), IV.int IntKind.i64 (Prod.snd (ival a b p q))] = some [IV.int IntKind.i64 (Prod.fst (ival a b p q)), IV.int IntKind.i64 (Prod.snd (ival a b p q))] ∧
                            some [IV.int IntKind.i64 (Prod.fst (ival c d q p)), IV.int IntKind.i64 (Prod.snd (ival c d q p))] = some [IV.int IntKind.i64 (Prod.fst (ival c d q p)), IV.int IntKind.i64 (Prod.snd (ival c d q p))] ∧
                              some [IV.int IntKind.i64 (min (Prod.fst (ival a b p q)) (Prod.fst (ival c d q p))), IV.int IntKind.i64 (max (Prod.snd (ival a b p q)) (Prod.snd (ival c d q p)))] =
                                  some [IV.int IntKind.i64 (min (Prod.fst (ival a b p q)) (Prod.fst (ival c d q p))), IV.int IntKind.i64 (max (Prod.snd (ival a b p q)) (Prod.snd (ival c d q p)))] ∧
                                some [IV.int IntKind.i64 (wlo (Prod.fst (ival a b p q)) (Prod.fst (ival c d q p))), IV.int IntKind.i64 (whi (Prod.snd (ival a b p q)) (Prod.snd (ival c d q p)))] =
                                    some [IV.int IntKind.i64 (wlo (Prod.fst (ival a b p q)) (Prod.fst (ival c d q p))), IV.int IntKind.i64 (whi (Prod.snd (ival a b p q)) (Prod.snd (ival c d q p)))] ∧
                                  some
                                        [IV.int IntKind.i64 (Prod.fst (isect (Prod.fst (ival a b p q)) (Prod.snd (ival a b p q)) (Prod.fst (ival c d q p)) (Prod.snd (ival c d q p)))),
                                          IV.int IntKind.i64 (Prod.snd (isect (Prod.fst (ival a b p q)) (Prod.snd (ival a b p q)) (Prod.fst (ival c d q p)) (Prod.snd (ival c d q p))))] =
                                      some
                                        [IV.int IntKind.i64 (Prod.fst (isect (Prod.fst (ival a b p q)) (Prod.snd (ival a b p q)) (Prod.fst (ival c d q p)) (Prod.snd (ival c d q p)))),
                                          IV.int IntKind.i64 (Prod.snd (isect (Prod.fst (ival a b p q)) (Prod.snd (ival a b p q)) (Prod.fst (ival c d q p)) (Prod.snd (ival c d q p))))] ∧
                                    h = h ∧ True ∧ True)
          (some (TV.l (15 : Nat) (0 : Nat)) = some (TV.l (15 : Nat) (0 : Nat)) ∧
            some (TV.l (16 : Nat) (0 : Nat)) = some (TV.l (16 : Nat) (0 : Nat)) ∧
              some (TV.l (17 : Nat) (0 : Nat)) = some (TV.l (17 : Nat) (0 : Nat)) ∧
                some (TV.l (18 : Nat) (0 : Nat)) = some (TV.l (18 : Nat) (0 : Nat)) ∧
                  some (TV.l (19 : Nat) (0 : Nat)) = some (TV.l (19 : Nat) (0 : Nat)) ∧
                    some (TV.v (IV.int IntKind.i64 n)) = some (TV.v (IV.int IntKind.i64 n)) ∧
                      some (TV.v (IV.bool (meets (Prod.fst (ival a b p q)) (Prod.snd (ival a b p q)) (Prod.fst (ival c d q p)) (Prod.snd (ival c d q p))))) =
                          some (TV.v (IV.bool (meets (Prod.fst (ival a b p q)) (Prod.snd (ival a b p q)) (Prod.fst (ival c d q p)) (Prod.snd (ival c d q p))))) ∧
                        some (TV.v (IV.bool false)) = some (TV.v (IV.bool (contains (Prod.fst (ival a b p q)) (Prod.snd (ival a b p q)) n && contains (Prod.fst (ival c d q p)) (Prod.snd (ival c d q p)) n))) ∧
                          some [IV.int IntKind.i64 (Prod.fst (ival a b p q)), IV.int IntKind.i64 (Prod.snd (ival a b p q))] = some [IV.int IntKind.i64 (Prod.fst (ival a b p q)), IV.int IntKind.i64 (Prod.snd (ival a b p q))] ∧
                            some [IV.int IntKind.i64 (Prod.fst (ival c d q p)), IV.int IntKind.i64 (Prod.snd (ival c d q p))] = some [IV.int IntKind.i64 (Prod.fst (ival c d q p)), IV.int IntKind.i64 (Prod.snd (ival c d q p))] ∧
                              some [IV.int IntKind.i64 (min (Prod.fst (ival a b p q)) (Prod.fst (ival c d q p))), IV.int IntKind.i64 (max (Prod.snd (ival a b p q)) (Prod.snd (ival c d q p)))] =
                                  some [IV.int IntKind.i64 (min (Prod.fst (ival a b p q)) (Prod.fst (ival c d q p))), IV.int IntKind.i64 (max (Prod.snd (ival a b p q)) (Prod.snd (ival c d q p)))] ∧
                                some [IV.int IntKind.i64 (wlo (Prod.fst (ival a b p q)) (Prod.fst (ival c d q p))), IV.int IntKind.i64 (whi (Prod.snd (ival a b p q)) (Prod.snd (ival c d q p)))] =
                                    some [IV.int IntKind.i64 (wlo (Prod.fst (ival a b p q)) (Prod.fst (ival c d q p))), IV.int IntKind.i64 (whi (Prod.snd (ival a b p q)) (Prod.snd (ival c d q p)))] ∧
                                  some
                                        [IV.int IntKind.i64 (Prod.fst (isect (Prod.fst (ival a b p q)) (Prod.snd (ival a b p q)) (Prod.fst (ival c d q p)) (Prod.snd (ival c d q p)))),
                                          IV.int IntKind.i64 (Prod.snd (isect (Prod.fst (ival a b p q)) (Prod.snd (ival a b p q)) (Prod.fst (ival c d q p)) (Prod.snd (ival c d q p))))] =
                                      some
                                        [IV.int IntKind.i64 (Prod.fst (isect (Prod.fst (ival a b p q)) (Prod.snd (ival a b p q)) (Prod.fst (ival c d q p)) (Prod.snd (ival c d q p)))),
                                          IV.int IntKind.i64 (Prod.snd (isect (Prod.fst (ival a b p q)) (Prod.snd (ival a b p q)) (Prod.fst (ival c d q p)) (Prod.snd (ival c d q p))))] ∧
                                    h = h ∧ True ∧ True) ∧
        ∀ (x : Unit) (b_1 : FF),
          True →
            brS (contains (Prod.fst (ival a b p q)) (Prod.snd (ival a b p q)) n)
                (brS (!contains (min (Prod.fst (ival a b p q)) (Prod.fst (ival c d q p))) (max (Prod.snd (ival a b p q)) (Prod.snd (ival c d q p))) n) (Q (IV.bool false) h)
                  (brS (!contains (wlo (Prod.fst (ival a b p q)) (Prod.fst (ival c d q p))) (whi (Prod.snd (ival a b p q)) (Prod.snd (ival c d q p))) n) (Q (IV.bool false) h)
                    (brS (contains (Prod.fst (ival c d q p)) (Prod.snd (ival c d q p)) n)
                      (brS (!contains (min (Prod.fst (ival a b p q)) (Prod.fst (ival c d q p))) (max (Prod.snd (ival a b p q)) (Prod.snd (ival c d q p))) n) (Q (IV.bool false) h)
                        (brS (!contains (wlo (Prod.fst (ival a b p q)) (Prod.fst (ival c d q p))) (whi (Prod.snd (ival a b p q)) (Prod.snd (ival c d q p))) n) (Q (IV.bool false) h)
                          (brS (meets (Prod.fst (ival a b p q)) (Prod.snd (ival a b p q)) (Prod.fst (ival c d q p)) (Prod.snd (ival c d q p)))
                            (brS
                              (!contains (Prod.fst (isect (Prod.fst (ival a b p q)) (Prod.snd (ival a b p q)) (Prod.fst (ival c d q p)) (Prod.snd (ival c d q p))))
                                    (Prod.snd (isect (Prod.fst (ival a b p q)) (Prod.snd (ival a b p q)) (Prod.fst (ival c d q p)) (Prod.snd (ival c d q p)))) n ==
                                  (contains (Prod.fst (ival a b p q)) (Prod.snd (ival a b p q)) n && contains (Prod.fst (ival c d q p)) (Prod.snd (ival c d q p)) n))
                              (Q (IV.bool false) h)
                              (brS (!meets (Prod.fst (ival a b p q)) (Prod.snd (ival a b p q)) (Prod.fst (ival c d q p)) (Prod.snd (ival c d q p)))
                                (brS (contains (Prod.fst (ival a b p q)) (Prod.snd (ival a b p q)) n && contains (Prod.fst (ival c d q p)) (Prod.snd (ival c d q p)) n) (Q (IV.bool false) h)
                                  (some (TV.l (15 : Nat) (0 : Nat)) = some (TV.l (15 : Nat) (0 : Nat)) ∧
                                    some (TV.l (16 : Nat) (0 : Nat)) = some (TV.l (16 : Nat) (0 : Nat)) ∧
                                      some (TV.l (17 : Nat) (0 : Nat)) = some (TV.l (17 : Nat) (0 : Nat)) ∧
                                        some (TV.l (18 : Nat) (0 : Nat)) = some (TV.l (18 : Nat) (0 : Nat)) ∧
                                          some (TV.l (19 : Nat) (0 : Nat)) = some (TV.l (19 : Nat) (0 : Nat)) ∧
                                            some (TV.v (IV.int IntKind.i64 n)) = some (TV.v (IV.int IntKind.i64 n)) ∧
                                              some (TV.v (IV.bool (meets (Prod.fst (ival a b p q)) (Prod.snd (ival a b p q)) (Prod.fst (ival c d q p)) (Prod.snd (ival c d q p))))) =
                                                  some (TV.v (IV.bool (meets (Prod.fst (ival a b p q)) (Prod.snd (ival a b p q)) (Prod.fst (ival c d q p)) (Prod.snd (ival c d q p))))) ∧
                                                some [IV.int IntKind.i64 (Prod.fst (ival a b p q)), IV.int IntKind.i64 (Prod.snd (ival a b p q))] =
                                                    some [IV.int IntKind.i64 (Prod.fst (ival a b p q)), IV.int IntKind.i64 (Prod.snd (ival a b p q))] ∧
                                                  some [IV.int IntKind.i64 (Prod.fst (ival c d q p)), IV.int IntKind.i64 (Prod.snd (ival c d q p))] =
                                                      some [IV.int IntKind.i64 (Prod.fst (ival c d q p)), IV.int IntKind.i64 (Prod.snd (ival c d q p))] ∧
                                                    some [IV.int IntKind.i64 (min (Prod.fst (ival a b p q)) (Prod.fst (ival c d q p))), IV.int IntKind.i64 (max (Prod.snd (ival a b p q)) (Prod.snd (ival c d q p)))] =
                                                        some [IV.int IntKind.i64 (min (Prod.fst (ival a b p q)) (Prod.fst (ival c d q p))), IV.int IntKind.i64 (max (Prod.snd (ival a b p q)) (Prod.snd (ival c d q p)))] ∧
                                                      some [IV.int IntKind.i64 (wlo (Prod.fst (ival a b p q)) (Prod.fst (ival c d q p))), IV.int IntKind.i64 (whi (Prod.snd (ival a b p q)) (Prod.snd (ival c d q p)))] =
                                                          some [IV.int IntKind.i64 (wlo (Prod.fst (ival a b p q)) (Prod.fst (ival c d q p))), IV.int IntKind.i64 (whi (Prod.snd (ival a b p q)) (Prod.snd (ival c d q p)))] ∧
                                                        some
                                                              [IV.int IntKind.i64 (Prod.fst (isect (Prod.fst (ival a b p q)) (Prod.snd (ival a b p q)) (Prod.fst (ival c d q p)) (Prod.snd (ival c d q p)))),
                                                                IV.int IntKind.i64 (Prod.snd (isect (Prod.fst (ival a b p q)) (Prod.snd (ival a b p q)) (Prod.fst (ival c d q p)) (Prod.snd (ival c d q p))))] =
                                                            some
                                                              [IV.int IntKind.i64 (Prod.fst (isect (Prod.fst (ival a b p q)) (Prod.snd (ival a b p q)) (Prod.fst (ival c d q p)) (Prod.snd (ival c d q p)))),
                                                                IV.int IntKind.i64 (Prod.snd (isect (Prod.fst (ival a b p q)) (Prod.snd (ival a b p q)) (Prod.fst (ival c d q p)) (Prod.snd (ival c d q p))))] ∧
                                                          h = h ∧ True ∧ True))
                                (some (TV.l (15 : Nat) (0 : Nat)) = some (TV.l (15 : Nat) (0 : Nat)) ∧
                                  some (TV.l (16 : Nat) (0 : Nat)) = some (TV.l (16 : Nat) (0 : Nat)) ∧
                                    some (TV.l (17 : Nat) (0 : Nat)) = some (TV.l (17 : Nat) (0 : Nat)) ∧
                                      some (TV.l (18 : Nat) (0 : Nat)) = some (TV.l (18 : Nat) (0 : Nat)) ∧
                                        some (TV.l (19 : Nat) (0 : Nat)) = some (TV.l (19 : Nat) (0 : Nat)) ∧
                                          some (TV.v (IV.int IntKind.i64 n)) = some (TV.v (IV.int IntKind.i64 n)) ∧
                                            some (TV.v (IV.bool (meets (Prod.fst (ival a b p q)) (Prod.snd (ival a b p q)) (Prod.fst (ival c d q p)) (Prod.snd (ival c d q p))))) =
                                                some (TV.v (IV.bool (meets (Prod.fst (ival a b p q)) (Prod.snd (ival a b p q)) (Prod.fst (ival c d q p)) (Prod.snd (ival c d q p))))) ∧
                                              some [IV.int IntKind.i64 (Prod.fst (ival a b p q)), IV.int IntKind.i64 (Prod.snd (ival a b p q))] =
                                                  some [IV.int IntKind.i64 (Prod.fst (ival a b p q)), IV.int IntKind.i64 (Prod.snd (ival a b p q))] ∧
                                                some [IV.int IntKind.i64 (Prod.fst (ival c d q p)), IV.int IntKind.i64 (Prod.snd (ival c d q p))] =
                                                    some [IV.int IntKind.i64 (Prod.fst (ival c d q p)), IV.int IntKind.i64 (Prod.snd (ival c d q p))] ∧
                                                  some [IV.int IntKind.i64 (min (Prod.fst (ival a b p q)) (Prod.fst (ival c d q p))), IV.int IntKind.i64 (max (Prod.snd (ival a b p q)) (Prod.snd (ival c d q p)))] =
                                                      some [IV.int IntKind.i64 (min (Prod.fst (ival a b p q)) (Prod.fst (ival c d q p))), IV.int IntKind.i64 (max (Prod.snd (ival a b p q)) (Prod.snd (ival c d q p)))] ∧
                                                    some [IV.int IntKind.i64 (wlo (Prod.fst (ival a b p q)) (Prod.fst (ival c d q p))), IV.int IntKind.i64 (whi (Prod.snd (ival a b p q)) (Prod.snd (ival c d q p)))] =
                                                        some [IV.int IntKind.i64 (wlo (Prod.fst (ival a b p q)) (Prod.fst (ival c d q p))), IV.int IntKind.i64 (whi (Prod.snd (ival a b p q)) (Prod.snd (ival c d q p)))] ∧
                                                      some
                                                            [IV.int IntKind.i64 (Prod.fst (isect (Prod.fst (ival a b p q)) (Prod.snd (ival a b p q)) (Prod.fst (ival c d q p)) (Prod.snd (ival c d q p)))),
                                                              IV.int IntKind.i64 (Prod.snd (isect (Prod.fst (ival a b p q)) (Prod.snd (ival a b p q)) (Prod.fst (ival c d q p)) (Prod.snd (ival c d q p))))] =
                                                          some
                                                            [IV.int IntKind.i64 (Prod.fst (isect (Prod.fst (ival a b p q)) (Prod.snd (ival a b p q)) (Prod.fst (ival c d q p)) (Prod.snd (ival c d q p)))),
                                                              IV.int IntKind.i64 (Prod.snd (isect (Prod.fst (ival a b p q)) (Prod.snd (ival a b p q)) (Prod.fst (ival c d q p)) (Prod.snd (ival c d q p))))] ∧
                                                        h = h ∧ True ∧ True)))
                            (brS (!meets (Prod.fst (ival a b p q)) (Prod.snd (ival a b p q)) (Prod.fst (ival c d q p)) (Prod.snd (ival c d q p)))
                              (brS (contains (Prod.fst (ival a b p q)) (Prod.snd (ival a b p q)) n && contains (Prod.fst (ival c d q p)) (Prod.snd (ival c d q p)) n) (Q (IV.bool false) h)
                                (some (TV.l (15 : Nat) (0 : Nat)) = some (TV.l (15 : Nat) (0 : Nat)) ∧
                                  some (TV.l (16 : Nat) (0 : Nat)) = some (TV.l (16 : Nat) (0 : Nat)) ∧
                                    some (TV.l (17 : Nat) (0 : Nat)) = some (TV.l (17 : Nat) (0 : Nat)) ∧
                                      some (TV.l (18 : Nat) (0 : Nat)) = some (TV.l (18 : Nat) (0 : Nat)) ∧
                                        some (TV.l (19 : Nat) (0 : Nat)) = some (TV.l (19 : Nat) (0 : Nat)) ∧
                                          some (TV.v (IV.int IntKind.i64 n)) = some (TV.v (IV.int IntKind.i64 n)) ∧
                                            some (TV.v (IV.bool (meets (Prod.fst (ival a b p q)) (Prod.snd (ival a b p q)) (Prod.fst (ival c d q p)) (Prod.snd (ival c d q p))))) =
                                                some (TV.v (IV.bool (meets (Prod.fst (ival a b p q)) (Prod.snd (ival a b p q)) (Prod.fst (ival c d q p)) (Prod.snd (ival c d q p))))) ∧
                                              some [IV.int IntKind.i64 (Prod.fst (ival a b p q)), IV.int IntKind.i64 (Prod.snd (ival a b p q))] =
                                                  some [IV.int IntKind.i64 (Prod.fst (ival a b p q)), IV.int IntKind.i64 (Prod.snd (ival a b p q))] ∧
                                                some [IV.int IntKind.i64 (Prod.fst (ival c d q p)), IV.int IntKind.i64 (Prod.snd (ival c d q p))] =
                                                    some [IV.int IntKind.i64 (Prod.fst (ival c d q p)), IV.int IntKind.i64 (Prod.snd (ival c d q p))] ∧
                                                  some [IV.int IntKind.i64 (min (Prod.fst (ival a b p q)) (Prod.fst (ival c d q p))), IV.int IntKind.i64 (max (Prod.snd (ival a b p q)) (Prod.snd (ival c d q p)))] =
                                                      some [IV.int IntKind.i64 (min (Prod.fst (ival a b p q)) (Prod.fst (ival c d q p))), IV.int IntKind.i64 (max (Prod.snd (ival a b p q)) (Prod.snd (ival c d q p)))] ∧
                                                    some [IV.int IntKind.i64 (wlo (Prod.fst (ival a b p q)) (Prod.fst (ival c d q p))), IV.int IntKind.i64 (whi (Prod.snd (ival a b p q)) (Prod.snd (ival c d q p)))] =
                                                        some [IV.int IntKind.i64 (wlo (Prod.fst (ival a b p q)) (Prod.fst (ival c d q p))), IV.int IntKind.i64 (whi (Prod.snd (ival a b p q)) (Prod.snd (ival c d q p)))] ∧
                                                      some
                                                            [IV.int IntKind.i64 (Prod.fst (isect (Prod.fst (ival a b p q)) (Prod.snd (ival a b p q)) (Prod.fst (ival c d q p)) (Prod.snd (ival c d q p)))),
                                                              IV.int IntKind.i64 (Prod.snd (isect (Prod.fst (ival a b p q)) (Prod.snd (ival a b p q)) (Prod.fst (ival c d q p)) (Prod.snd (ival c d q p))))] =
                                                          some
                                                            [IV.int IntKind.i64 (Prod.fst (isect (Prod.fst (ival a b p q)) (Prod.snd (ival a b p q)) (Prod.fst (ival c d q p)) (Prod.snd (ival c d q p)))),
                                                              IV.int IntKind.i64 (Prod.snd (isect (Prod.fst (ival a b p q)) (Prod.snd (ival a b p q)) (Prod.fst (ival c d q p)) (Prod.snd (ival c d q p))))] ∧
                                                        h = h ∧ True ∧ True))
                              (some (TV.l (15 : Nat) (0 : Nat)) = some (TV.l (15 : Nat) (0 : Nat)) ∧
                                some (TV.l (16 : Nat) (0 : Nat)) = some (TV.l (16 : Nat) (0 : Nat)) ∧
                                  some (TV.l (17 : Nat) (0 : Nat)) = some (TV.l (17 : Nat) (0 : Nat)) ∧
                                    some (TV.l (18 : Nat) (0 : Nat)) = some (TV.l (18 : Nat) (0 : Nat)) ∧
                                      some (TV.l (19 : Nat) (0 : Nat)) = some (TV.l (19 : Nat) (0 : Nat)) ∧
                                        some (TV.v (IV.int IntKind.i64 n)) = some (TV.v (IV.int IntKind.i64 n)) ∧
                                          some (TV.v (IV.bool (meets (Prod.fst (ival a b p q)) (Prod.snd (ival a b p q)) (Prod.fst (ival c d q p)) (Prod.snd (ival c d q p))))) =
                                              some (TV.v (IV.bool (meets (Prod.fst (ival a b p q)) (Prod.snd (ival a b p q)) (Prod.fst (ival c d q p)) (Prod.snd (ival c d q p))))) ∧
                                            some [IV.int IntKind.i64 (Prod.fst (ival a b p q)), IV.int IntKind.i64 (Prod.snd (ival a b p q))] =
                                                some [IV.int IntKind.i64 (Prod.fst (ival a b p q)), IV.int IntKind.i64 (Prod.snd (ival a b p q))] ∧
                                              some [IV.int IntKind.i64 (Prod.fst (ival c d q p)), IV.int IntKind.i64 (Prod.snd (ival c d q p))] =
                                                  some [IV.int IntKind.i64 (Prod.fst (ival c d q p)), IV.int IntKind.i64 (Prod.snd (ival c d q p))] ∧
                                                some [IV.int IntKind.i64 (min (Prod.fst (ival a b p q)) (Prod.fst (ival c d q p))), IV.int IntKind.i64 (max (Prod.snd (ival a b p q)) (Prod.snd (ival c d q p)))] =
                                                    some [IV.int IntKind.i64 (min (Prod.fst (ival a b p q)) (Prod.fst (ival c d q p))), IV.int IntKind.i64 (max (Prod.snd (ival a b p q)) (Prod.snd (ival c d q p)))] ∧
                                                  some [IV.int IntKind.i64 (wlo (Prod.fst (ival a b p q)) (Prod.fst (ival c d q p))), IV.int IntKind.i64 (whi (Prod.snd (ival a b p q)) (Prod.snd (ival c d q p)))] =
                                                      some [IV.int IntKind.i64 (wlo (Prod.fst (ival a b p q)) (Prod.fst (ival c d q p))), IV.int IntKind.i64 (whi (Prod.snd (ival a b p q)) (Prod.snd (ival c d q p)))] ∧
                                                    some
                                                          [IV.int IntKind.i64 (Prod.fst (isect (Prod.fst (ival a b p q)) (Prod.snd (ival a b p q)) (Prod.fst (ival c d q p)) (Prod.snd (ival c d q p)))),
                                                            IV.int IntKind.i64 (Prod.snd (isect (Prod.fst (ival a b p q)) (Prod.snd (ival a b p q)) (Prod.fst (ival c d q p)) (Prod.snd (ival c d q p))))] =
                                                        some
                                                          [IV.int IntKind.i64 (Prod.fst (isect (Prod.fst (ival a b p q)) (Prod.snd (ival a b p q)) (Prod.fst (ival c d q p)) (Prod.snd (ival c d q p)))),
                                                            IV.int IntKind.i64 (Prod.snd (isect (Prod.fst (ival a b p q)) (Prod.snd (ival a b p q)) (Prod.fst (ival c d q p)) (Prod.snd (ival c d q p))))] ∧
                                                      h = h ∧ True ∧ True)))))
                      (brS (meets (Prod.fst (ival a b p q)) (Prod.snd (ival a b p q)) (Prod.fst (ival c d q p)) (Prod.snd (ival c d q p)))
                        (brS
                          (!contains (Prod.fst (isect (Prod.fst (ival a b p q)) (Prod.snd (ival a b p q)) (Prod.fst (ival c d q p)) (Prod.snd (ival c d q p))))
                                (Prod.snd (isect (Prod.fst (ival a b p q)) (Prod.snd (ival a b p q)) (Prod.fst (ival c d q p)) (Prod.snd (ival c d q p)))) n ==
                              (contains (Prod.fst (ival a b p q)) (Prod.snd (ival a b p q)) n && contains (Prod.fst (ival c d q p)) (Prod.snd (ival c d q p)) n))
                          (Q (IV.bool false) h)
                          (brS (!meets (Prod.fst (ival a b p q)) (Prod.snd (ival a b p q)) (Prod.fst (ival c d q p)) (Prod.snd (ival c d q p)))
                            (brS (contains (Prod.fst (ival a b p q)) (Prod.snd (ival a b p q)) n && contains (Prod.fst (ival c d q p)) (Prod.snd (ival c d q p)) n) (Q (IV.bool false) h)
                              (some (TV.l (15 : Nat) (0 : Nat)) = some (TV.l (15 : Nat) (0 : Nat)) ∧
                                some (TV.l (16 : Nat) (0 : Nat)) = some (TV.l (16 : Nat) (0 : Nat)) ∧
                                  some (TV.l (17 : Nat) (0 : Nat)) = some (TV.l (17 : Nat) (0 : Nat)) ∧
                                    some (TV.l (18 : Nat) (0 : Nat)) = some (TV.l (18 : Nat) (0 : Nat)) ∧
                                      some (TV.l (19 : Nat) (0 : Nat)) = some (TV.l (19 : Nat) (0 : Nat)) ∧
                                        some (TV.v (IV.int IntKind.i64 n)) = some (TV.v (IV.int IntKind.i64 n)) ∧
                                          some (TV.v (IV.bool (meets (Prod.fst (ival a b p q)) (Prod.snd (ival a b p q)) (Prod.fst (ival c d q p)) (Prod.snd (ival c d q p))))) =
                                              some (TV.v (IV.bool (meets (Prod.fst (ival a b p q)) (Prod.snd (ival a b p q)) (Prod.fst (ival c d q p)) (Prod.snd (ival c d q p))))) ∧
                                            some [IV.int IntKind.i64 (Prod.fst (ival a b p q)), IV.int IntKind.i64 (Prod.snd (ival a b p q))] =
                                                some [IV.int IntKind.i64 (Prod.fst (ival a b p q)), IV.int IntKind.i64 (Prod.snd (ival a b p q))] ∧
                                              some [IV.int IntKind.i64 (Prod.fst (ival c d q p)), IV.int IntKind.i64 (Prod.snd (ival c d q p))] =
                                                  some [IV.int IntKind.i64 (Prod.fst (ival c d q p)), IV.int IntKind.i64 (Prod.snd (ival c d q p))] ∧
                                                some [IV.int IntKind.i64 (min (Prod.fst (ival a b p q)) (Prod.fst (ival c d q p))), IV.int IntKind.i64 (max (Prod.snd (ival a b p q)) (Prod.snd (ival c d q p)))] =
                                                    some [IV.int IntKind.i64 (min (Prod.fst (ival a b p q)) (Prod.fst (ival c d q p))), IV.int IntKind.i64 (max (Prod.snd (ival a b p q)) (Prod.snd (ival c d q p)))] ∧
                                                  some [IV.int IntKind.i64 (wlo (Prod.fst (ival a b p q)) (Prod.fst (ival c d q p))), IV.int IntKind.i64 (whi (Prod.snd (ival a b p q)) (Prod.snd (ival c d q p)))] =
                                                      some [IV.int IntKind.i64 (wlo (Prod.fst (ival a b p q)) (Prod.fst (ival c d q p))), IV.int IntKind.i64 (whi (Prod.snd (ival a b p q)) (Prod.snd (ival c d q p)))] ∧
                                                    some
                                                          [IV.int IntKind.i64 (Prod.fst (isect (Prod.fst (ival a b p q)) (Prod.snd (ival a b p q)) (Prod.fst (ival c d q p)) (Prod.snd (ival c d q p)))),
                                                            IV.int IntKind.i64 (Prod.snd (isect (Prod.fst (ival a b p q)) (Prod.snd (ival a b p q)) (Prod.fst (ival c d q p)) (Prod.snd (ival c d q p))))] =
                                                        some
                                                          [IV.int IntKind.i64 (Prod.fst (isect (Prod.fst (ival a b p q)) (Prod.snd (ival a b p q)) (Prod.fst (ival c d q p)) (Prod.snd (ival c d q p)))),
                                                            IV.int IntKind.i64 (Prod.snd (isect (Prod.fst (ival a b p q)) (Prod.snd (ival a b p q)) (Prod.fst (ival c d q p)) (Prod.snd (ival c d q p))))] ∧
                                                      h = h ∧ True ∧ True))
                            (some (TV.l (15 : Nat) (0 : Nat)) = some (TV.l (15 : Nat) (0 : Nat)) ∧
                              some (TV.l (16 : Nat) (0 : Nat)) = some (TV.l (16 : Nat) (0 : Nat)) ∧
                                some (TV.l (17 : Nat) (0 : Nat)) = some (TV.l (17 : Nat) (0 : Nat)) ∧
                                  some (TV.l (18 : Nat) (0 : Nat)) = some (TV.l (18 : Nat) (0 : Nat)) ∧
                                    some (TV.l (19 : Nat) (0 : Nat)) = some (TV.l (19 : Nat) (0 : Nat)) ∧
                                      some (TV.v (IV.int IntKind.i64 n)) = some (TV.v (IV.int IntKind.i64 n)) ∧
                                        some (TV.v (IV.bool (meets (Prod.fst (ival a b p q)) (Prod.snd (ival a b p q)) (Prod.fst (ival c d q p)) (Prod.snd (ival c d q p))))) =
                                            some (TV.v (IV.bool (meets (Prod.fst (ival a b p q)) (Prod.snd (ival a b p q)) (Prod.fst (ival c d q p)) (Prod.snd (ival c d q p))))) ∧
                                          some [IV.int IntKind.i64 (Prod.fst (ival a b p q)), IV.int IntKind.i64 (Prod.snd (ival a b p q))] = some [IV.int IntKind.i64 (Prod.fst (ival a b p q)), IV.int IntKind.i64 (Prod.snd (ival a b p q))] ∧
                                            some [IV.int IntKind.i64 (Prod.fst (ival c d q p)), IV.int IntKind.i64 (Prod.snd (ival c d q p))] =
                                                some [IV.int IntKind.i64 (Prod.fst (ival c d q p)), IV.int IntKind.i64 (Prod.snd (ival c d q p))] ∧
                                              some [IV.int IntKind.i64 (min (Prod.fst (ival a b p q)) (Prod.fst (ival c d q p))), IV.int IntKind.i64 (max (Prod.snd (ival a b p q)) (Prod.snd (ival c d q p)))] =
                                                  some [IV.int IntKind.i64 (min (Prod.fst (ival a b p q)) (Prod.fst (ival c d q p))), IV.int IntKind.i64 (max (Prod.snd (ival a b p q)) (Prod.snd (ival c d q p)))] ∧
                                                some [IV.int IntKind.i64 (wlo (Prod.fst (ival a b p q)) (Prod.fst (ival c d q p))), IV.int IntKind.i64 (whi (Prod.snd (ival a b p q)) (Prod.snd (ival c d q p)))] =
                                                    some [IV.int IntKind.i64 (wlo (Prod.fst (ival a b p q)) (Prod.fst (ival c d q p))), IV.int IntKind.i64 (whi (Prod.snd (ival a b p q)) (Prod.snd (ival c d q p)))] ∧
                                                  some
                                                        [IV.int IntKind.i64 (Prod.fst (isect (Prod.fst (ival a b p q)) (Prod.snd (ival a b p q)) (Prod.fst (ival c d q p)) (Prod.snd (ival c d q p)))),
                                                          IV.int IntKind.i64 (Prod.snd (isect (Prod.fst (ival a b p q)) (Prod.snd (ival a b p q)) (Prod.fst (ival c d q p)) (Prod.snd (ival c d q p))))] =
                                                      some
                                                        [IV.int IntKind.i64 (Prod.fst (isect (Prod.fst (ival a b p q)) (Prod.snd (ival a b p q)) (Prod.fst (ival c d q p)) (Prod.snd (ival c d q p)))),
                                                          IV.int IntKind.i64 (Prod.snd (isect (Prod.fst (ival a b p q)) (Prod.snd (ival a b p q)) (Prod.fst (ival c d q p)) (Prod.snd (ival c d q p))))] ∧
                                                    h = h ∧ True ∧ True)))
                        (brS (!meets (Prod.fst (ival a b p q)) (Prod.snd (ival a b p q)) (Prod.fst (ival c d q p)) (Prod.snd (ival c d q p)))
                          (brS (contains (Prod.fst (ival a b p q)) (Prod.snd (ival a b p q)) n && contains (Prod.fst (ival c d q p)) (Prod.snd (ival c d q p)) n) (Q (IV.bool false) h)
                            (some (TV.l (15 : Nat) (0 : Nat)) = some (TV.l (15 : Nat) (0 : Nat)) ∧
                              some (TV.l (16 : Nat) (0 : Nat)) = some (TV.l (16 : Nat) (0 : Nat)) ∧
                                some (TV.l (17 : Nat) (0 : Nat)) = some (TV.l (17 : Nat) (0 : Nat)) ∧
                                  some (TV.l (18 : Nat) (0 : Nat)) = some (TV.l (18 : Nat) (0 : Nat)) ∧
                                    some (TV.l (19 : Nat) (0 : Nat)) = some (TV.l (19 : Nat) (0 : Nat)) ∧
                                      some (TV.v (IV.int IntKind.i64 n)) = some (TV.v (IV.int IntKind.i64 n)) ∧
                                        some (TV.v (IV.bool (meets (Prod.fst (ival a b p q)) (Prod.snd (ival a b p q)) (Prod.fst (ival c d q p)) (Prod.snd (ival c d q p))))) =
                                            some (TV.v (IV.bool (meets (Prod.fst (ival a b p q)) (Prod.snd (ival a b p q)) (Prod.fst (ival c d q p)) (Prod.snd (ival c d q p))))) ∧
                                          some [IV.int IntKind.i64 (Prod.fst (ival a b p q)), IV.int IntKind.i64 (Prod.snd (ival a b p q))] = some [IV.int IntKind.i64 (Prod.fst (ival a b p q)), IV.int IntKind.i64 (Prod.snd (ival a b p q))] ∧
                                            some [IV.int IntKind.i64 (Prod.fst (ival c d q p)), IV.int IntKind.i64 (Prod.snd (ival c d q p))] =
                                                some [IV.int IntKind.i64 (Prod.fst (ival c d q p)), IV.int IntKind.i64 (Prod.snd (ival c d q p))] ∧
                                              some [IV.int IntKind.i64 (min (Prod.fst (ival a b p q)) (Prod.fst (ival c d q p))), IV.int IntKind.i64 (max (Prod.snd (ival a b p q)) (Prod.snd (ival c d q p)))] =
                                                  some [IV.int IntKind.i64 (min (Prod.fst (ival a b p q)) (Prod.fst (ival c d q p))), IV.int IntKind.i64 (max (Prod.snd (ival a b p q)) (Prod.snd (ival c d q p)))] ∧
                                                some [IV.int IntKind.i64 (wlo (Prod.fst (ival a b p q)) (Prod.fst (ival c d q p))), IV.int IntKind.i64 (whi (Prod.snd (ival a b p q)) (Prod.snd (ival c d q p)))] =
                                                    some [IV.int IntKind.i64 (wlo (Prod.fst (ival a b p q)) (Prod.fst (ival c d q p))), IV.int IntKind.i64 (whi (Prod.snd (ival a b p q)) (Prod.snd (ival c d q p)))] ∧
                                                  some
                                                        [IV.int IntKind.i64 (Prod.fst (isect (Prod.fst (ival a b p q)) (Prod.snd (ival a b p q)) (Prod.fst (ival c d q p)) (Prod.snd (ival c d q p)))),
                                                          IV.int IntKind.i64 (Prod.snd (isect (Prod.fst (ival a b p q)) (Prod.snd (ival a b p q)) (Prod.fst (ival c d q p)) (Prod.snd (ival c d q p))))] =
                                                      some
                                                        [IV.int IntKind.i64 (Prod.fst (isect (Prod.fst (ival a b p q)) (Prod.snd (ival a b p q)) (Prod.fst (ival c d q p)) (Prod.snd (ival c d q p)))),
                                                          IV.int IntKind.i64 (Prod.snd (isect (Prod.fst (ival a b p q)) (Prod.snd (ival a b p q)) (Prod.fst (ival c d q p)) (Prod.snd (ival c d q p))))] ∧
                                                    h = h ∧ True ∧ True))
                          (some (TV.l (15 : Nat) (0 : Nat)) = some (TV.l (15 : Nat) (0 : Nat)) ∧
                            some (TV.l (16 : Nat) (0 : Nat)) = some (TV.l (16 : Nat) (0 : Nat)) ∧
                              some (TV.l (17 : Nat) (0 : Nat)) = some (TV.l (17 : Nat) (0 : Nat)) ∧
                                some (TV.l (18 : Nat) (0 : Nat)) = some (TV.l (18 : Nat) (0 : Nat)) ∧
                                  some (TV.l (19 : Nat) (0 : Nat)) = some (TV.l (19 : Nat) (0 : Nat)) ∧
                                    some (TV.v (IV.int IntKind.i64 n)) = some (TV.v (IV.int IntKind.i64 n)) ∧
                                      some (TV.v (IV.bool (meets (Prod.fst (ival a b p q)) (Prod.snd (ival a b p q)) (Prod.fst (ival c d q p)) (Prod.snd (ival c d q p))))) =
                                          some (TV.v (IV.bool (meets (Prod.fst (ival a b p q)) (Prod.snd (ival a b p q)) (Prod.fst (ival c d q p)) (Prod.snd (ival c d q p))))) ∧
                                        some [IV.int IntKind.i64 (Prod.fst (ival a b p q)), IV.int IntKind.i64 (Prod.snd (ival a b p q))] = some [IV.int IntKind.i64 (Prod.fst (ival a b p q)), IV.int IntKind.i64 (Prod.snd (ival a b p q))] ∧
                                          some [IV.int IntKind.i64 (Prod.fst (ival c d q p)), IV.int IntKind.i64 (Prod.snd (ival c d q p))] = some [IV.int IntKind.i64 (Prod.fst (ival c d q p)), IV.int IntKind.i64 (Prod.snd (ival c d q p))] ∧
                                            some [IV.int IntKind.i64 (min (Prod.fst (ival a b p q)) (Prod.fst (ival c d q p))), IV.int IntKind.i64 (max (Prod.snd (ival a b p q)) (Prod.snd (ival c d q p)))] =
                                                some [IV.int IntKind.i64 (min (Prod.fst (ival a b p q)) (Prod.fst (ival c d q p))), IV.int IntKind.i64 (max (Prod.snd (ival a b p q)) (Prod.snd (ival c d q p)))] ∧
                                              some [IV.int IntKind.i64 (wlo (Prod.fst (ival a b p q)) (Prod.fst (ival c d q p))), IV.int IntKind.i64 (whi (Prod.snd (ival a b p q)) (Prod.snd (ival c d q p)))] =
                                                  some [IV.int IntKind.i64 (wlo (Prod.fst (ival a b p q)) (Prod.fst (ival c d q p))), IV.int IntKind.i64 (whi (Prod.snd (ival a b p q)) (Prod.snd (ival c d q p)))] ∧
                                                some
                                                      [IV.int IntKind.i64 (Prod.fst (isect (Prod.fst (ival a b p q)) (Prod.snd (ival a b p q)) (Prod.fst (ival c d q p)) (Prod.snd (ival c d q p)))),
                                                        IV.int IntKind.i64 (Prod.snd (isect (Prod.fst (ival a b p q)) (Prod.snd (ival a b p q)) (Prod.fst (ival c d q p)) (Prod.snd (ival c d q p))))] =
                                                    some
                                                      [IV.int IntKind.i64 (Prod.fst (isect (Prod.fst (ival a b p q)) (Prod.snd (ival a b p q)) (Prod.fst (ival c d q p)) (Prod.snd (ival c d q p)))),
                                                        IV.int IntKind.i64 (Prod.snd (isect (Prod.fst (ival a b p q)) (Prod.snd (ival a b p q)) (Prod.fst (ival c d q p)) (Prod.snd (ival c d q p))))] ∧
                                                  h = h ∧ True ∧ True))))))
                (brS (contains (Prod.fst (ival c d q p)) (Prod.snd (ival c d q p)) n)
                  (brS (!contains (min (Prod.fst (ival a b p q)) (Prod.fst (ival c d q p))) (max (Prod.snd (ival a b p q)) (Prod.snd (ival c d q p))) n) (Q (IV.bool false) h)
                    (brS (!contains (wlo (Prod.fst (ival a b p q)) (Prod.fst (ival c d q p))) (whi (Prod.snd (ival a b p q)) (Prod.snd (ival c d q p))) n) (Q (IV.bool false) h)
                      (brS (meets (Prod.fst (ival a b p q)) (Prod.snd (ival a b p q)) (Prod.fst (ival c d q p)) (Prod.snd (ival c d q p)))
                        (brS
                          (!contains (Prod.fst (isect (Prod.fst (ival a b p q)) (Prod.snd (ival a b p q)) (Prod.fst (ival c d q p)) (Prod.snd (ival c d q p))))
                                (Prod.snd (isect (Prod.fst (ival a b p q)) (Prod.snd (ival a b p q)) (Prod.fst (ival c d q p)) (Prod.snd (ival c d q p)))) n ==
                              (contains (Prod.fst (ival a b p q)) (Prod.snd (ival a b p q)) n && contains (Prod.fst (ival c d q p)) (Prod.snd (ival c d q p)) n))
                          (Q (IV.bool false) h)
                          (brS (!meets (Prod.fst (ival a b p q)) (Prod.snd (ival a b p q)) (Prod.fst (ival c d q p)) (Prod.snd (ival c d q p)))
                            (brS (contains (Prod.fst (ival a b p q)) (Prod.snd (ival a b p q)) n && contains (Prod.fst (ival c d q p)) (Prod.snd (ival c d q p)) n) (Q (IV.bool false) h)
                              (some (TV.l (15 : Nat) (0 : Nat)) = some (TV.l (15 : Nat) (0 : Nat)) ∧
                                some (TV.l (16 : Nat) (0 : Nat)) = some (TV.l (16 : Nat) (0 : Nat)) ∧
                                  some (TV.l (17 : Nat) (0 : Nat)) = some (TV.l (17 : Nat) (0 : Nat)) ∧
                                    some (TV.l (18 : Nat) (0 : Nat)) = some (TV.l (18 : Nat) (0 : Nat)) ∧
                                      some (TV.l (19 : Nat) (0 : Nat)) = some (TV.l (19 : Nat) (0 : Nat)) ∧
                                        some (TV.v (IV.int IntKind.i64 n)) = some (TV.v (IV.int IntKind.i64 n)) ∧
                                          some (TV.v (IV.bool (meets (Prod.fst (ival a b p q)) (Prod.snd (ival a b p q)) (Prod.fst (ival c d q p)) (Prod.snd (ival c d q p))))) =
                                              some (TV.v (IV.bool (meets (Prod.fst (ival a b p q)) (Prod.snd (ival a b p q)) (Prod.fst (ival c d q p)) (Prod.snd (ival c d q p))))) ∧
                                            some [IV.int IntKind.i64 (Prod.fst (ival a b p q)), IV.int IntKind.i64 (Prod.snd (ival a b p q))] =
                                                some [IV.int IntKind.i64 (Prod.fst (ival a b p q)), IV.int IntKind.i64 (Prod.snd (ival a b p q))] ∧
                                              some [IV.int IntKind.i64 (Prod.fst (ival c d q p)), IV.int IntKind.i64 (Prod.snd (ival c d q p))] =
                                                  some [IV.int IntKind.i64 (Prod.fst (ival c d q p)), IV.int IntKind.i64 (Prod.snd (ival c d q p))] ∧
                                                some [IV.int IntKind.i64 (min (Prod.fst (ival a b p q)) (Prod.fst (ival c d q p))), IV.int IntKind.i64 (max (Prod.snd (ival a b p q)) (Prod.snd (ival c d q p)))] =
                                                    some [IV.int IntKind.i64 (min (Prod.fst (ival a b p q)) (Prod.fst (ival c d q p))), IV.int IntKind.i64 (max (Prod.snd (ival a b p q)) (Prod.snd (ival c d q p)))] ∧
                                                  some [IV.int IntKind.i64 (wlo (Prod.fst (ival a b p q)) (Prod.fst (ival c d q p))), IV.int IntKind.i64 (whi (Prod.snd (ival a b p q)) (Prod.snd (ival c d q p)))] =
                                                      some [IV.int IntKind.i64 (wlo (Prod.fst (ival a b p q)) (Prod.fst (ival c d q p))), IV.int IntKind.i64 (whi (Prod.snd (ival a b p q)) (Prod.snd (ival c d q p)))] ∧
                                                    some
                                                          [IV.int IntKind.i64 (Prod.fst (isect (Prod.fst (ival a b p q)) (Prod.snd (ival a b p q)) (Prod.fst (ival c d q p)) (Prod.snd (ival c d q p)))),
                                                            IV.int IntKind.i64 (Prod.snd (isect (Prod.fst (ival a b p q)) (Prod.snd (ival a b p q)) (Prod.fst (ival c d q p)) (Prod.snd (ival c d q p))))] =
                                                        some
                                                          [IV.int IntKind.i64 (Prod.fst (isect (Prod.fst (ival a b p q)) (Prod.snd (ival a b p q)) (Prod.fst (ival c d q p)) (Prod.snd (ival c d q p)))),
                                                            IV.int IntKind.i64 (Prod.snd (isect (Prod.fst (ival a b p q)) (Prod.snd (ival a b p q)) (Prod.fst (ival c d q p)) (Prod.snd (ival c d q p))))] ∧
                                                      h = h ∧ True ∧ True))
                            (some (TV.l (15 : Nat) (0 : Nat)) = some (TV.l (15 : Nat) (0 : Nat)) ∧
                              some (TV.l (16 : Nat) (0 : Nat)) = some (TV.l (16 : Nat) (0 : Nat)) ∧
                                some (TV.l (17 : Nat) (0 : Nat)) = some (TV.l (17 : Nat) (0 : Nat)) ∧
                                  some (TV.l (18 : Nat) (0 : Nat)) = some (TV.l (18 : Nat) (0 : Nat)) ∧
                                    some (TV.l (19 : Nat) (0 : Nat)) = some (TV.l (19 : Nat) (0 : Nat)) ∧
                                      some (TV.v (IV.int IntKind.i64 n)) = some (TV.v (IV.int IntKind.i64 n)) ∧
                                        some (TV.v (IV.bool (meets (Prod.fst (ival a b p q)) (Prod.snd (ival a b p q)) (Prod.fst (ival c d q p)) (Prod.snd (ival c d q p))))) =
                                            some (TV.v (IV.bool (meets (Prod.fst (ival a b p q)) (Prod.snd (ival a b p q)) (Prod.fst (ival c d q p)) (Prod.snd (ival c d q p))))) ∧
                                          some [IV.int IntKind.i64 (Prod.fst (ival a b p q)), IV.int IntKind.i64 (Prod.snd (ival a b p q))] = some [IV.int IntKind.i64 (Prod.fst (ival a b p q)), IV.int IntKind.i64 (Prod.snd (ival a b p q))] ∧
                                            some [IV.int IntKind.i64 (Prod.fst (ival c d q p)), IV.int IntKind.i64 (Prod.snd (ival c d q p))] =
                                                some [IV.int IntKind.i64 (Prod.fst (ival c d q p)), IV.int IntKind.i64 (Prod.snd (ival c d q p))] ∧
                                              some [IV.int IntKind.i64 (min (Prod.fst (ival a b p q)) (Prod.fst (ival c d q p))), IV.int IntKind.i64 (max (Prod.snd (ival a b p q)) (Prod.snd (ival c d q p)))] =
                                                  some [IV.int IntKind.i64 (min (Prod.fst (ival a b p q)) (Prod.fst (ival c d q p))), IV.int IntKind.i64 (max (Prod.snd (ival a b p q)) (Prod.snd (ival c d q p)))] ∧
                                                some [IV.int IntKind.i64 (wlo (Prod.fst (ival a b p q)) (Prod.fst (ival c d q p))), IV.int IntKind.i64 (whi (Prod.snd (ival a b p q)) (Prod.snd (ival c d q p)))] =
                                                    some [IV.int IntKind.i64 (wlo (Prod.fst (ival a b p q)) (Prod.fst (ival c d q p))), IV.int IntKind.i64 (whi (Prod.snd (ival a b p q)) (Prod.snd (ival c d q p)))] ∧
                                                  some
                                                        [IV.int IntKind.i64 (Prod.fst (isect (Prod.fst (ival a b p q)) (Prod.snd (ival a b p q)) (Prod.fst (ival c d q p)) (Prod.snd (ival c d q p)))),
                                                          IV.int IntKind.i64 (Prod.snd (isect (Prod.fst (ival a b p q)) (Prod.snd (ival a b p q)) (Prod.fst (ival c d q p)) (Prod.snd (ival c d q p))))] =
                                                      some
                                                        [IV.int IntKind.i64 (Prod.fst (isect (Prod.fst (ival a b p q)) (Prod.snd (ival a b p q)) (Prod.fst (ival c d q p)) (Prod.snd (ival c d q p)))),
                                                          IV.int IntKind.i64 (Prod.snd (isect (Prod.fst (ival a b p q)) (Prod.snd (ival a b p q)) (Prod.fst (ival c d q p)) (Prod.snd (ival c d q p))))] ∧
                                                    h = h ∧ True ∧ True)))
                        (brS (!meets (Prod.fst (ival a b p q)) (Prod.snd (ival a b p q)) (Prod.fst (ival c d q p)) (Prod.snd (ival c d q p)))
                          (brS (contains (Prod.fst (ival a b p q)) (Prod.snd (ival a b p q)) n && contains (Prod.fst (ival c d q p)) (Prod.snd (ival c d q p)) n) (Q (IV.bool false) h)
                            (some (TV.l (15 : Nat) (0 : Nat)) = some (TV.l (15 : Nat) (0 : Nat)) ∧
                              some (TV.l (16 : Nat) (0 : Nat)) = some (TV.l (16 : Nat) (0 : Nat)) ∧
                                some (TV.l (17 : Nat) (0 : Nat)) = some (TV.l (17 : Nat) (0 : Nat)) ∧
                                  some (TV.l (18 : Nat) (0 : Nat)) = some (TV.l (18 : Nat) (0 : Nat)) ∧
                                    some (TV.l (19 : Nat) (0 : Nat)) = some (TV.l (19 : Nat) (0 : Nat)) ∧
                                      some (TV.v (IV.int IntKind.i64 n)) = some (TV.v (IV.int IntKind.i64 n)) ∧
                                        some (TV.v (IV.bool (meets (Prod.fst (ival a b p q)) (Prod.snd (ival a b p q)) (Prod.fst (ival c d q p)) (Prod.snd (ival c d q p))))) =
                                            some (TV.v (IV.bool (meets (Prod.fst (ival a b p q)) (Prod.snd (ival a b p q)) (Prod.fst (ival c d q p)) (Prod.snd (ival c d q p))))) ∧
                                          some [IV.int IntKind.i64 (Prod.fst (ival a b p q)), IV.int IntKind.i64 (Prod.snd (ival a b p q))] = some [IV.int IntKind.i64 (Prod.fst (ival a b p q)), IV.int IntKind.i64 (Prod.snd (ival a b p q))] ∧
                                            some [IV.int IntKind.i64 (Prod.fst (ival c d q p)), IV.int IntKind.i64 (Prod.snd (ival c d q p))] =
                                                some [IV.int IntKind.i64 (Prod.fst (ival c d q p)), IV.int IntKind.i64 (Prod.snd (ival c d q p))] ∧
                                              some [IV.int IntKind.i64 (min (Prod.fst (ival a b p q)) (Prod.fst (ival c d q p))), IV.int IntKind.i64 (max (Prod.snd (ival a b p q)) (Prod.snd (ival c d q p)))] =
                                                  some [IV.int IntKind.i64 (min (Prod.fst (ival a b p q)) (Prod.fst (ival c d q p))), IV.int IntKind.i64 (max (Prod.snd (ival a b p q)) (Prod.snd (ival c d q p)))] ∧
                                                some [IV.int IntKind.i64 (wlo (Prod.fst (ival a b p q)) (Prod.fst (ival c d q p))), IV.int IntKind.i64 (whi (Prod.snd (ival a b p q)) (Prod.snd (ival c d q p)))] =
                                                    some [IV.int IntKind.i64 (wlo (Prod.fst (ival a b p q)) (Prod.fst (ival c d q p))), IV.int IntKind.i64 (whi (Prod.snd (ival a b p q)) (Prod.snd (ival c d q p)))] ∧
                                                  some
                                                        [IV.int IntKind.i64 (Prod.fst (isect (Prod.fst (ival a b p q)) (Prod.snd (ival a b p q)) (Prod.fst (ival c d q p)) (Prod.snd (ival c d q p)))),
                                                          IV.int IntKind.i64 (Prod.snd (isect (Prod.fst (ival a b p q)) (Prod.snd (ival a b p q)) (Prod.fst (ival c d q p)) (Prod.snd (ival c d q p))))] =
                                                      some
                                                        [IV.int IntKind.i64 (Prod.fst (isect (Prod.fst (ival a b p q)) (Prod.snd (ival a b p q)) (Prod.fst (ival c d q p)) (Prod.snd (ival c d q p)))),
                                                          IV.int IntKind.i64 (Prod.snd (isect (Prod.fst (ival a b p q)) (Prod.snd (ival a b p q)) (Prod.fst (ival c d q p)) (Prod.snd (ival c d q p))))] ∧
                                                    h = h ∧ True ∧ True))
                          (some (TV.l (15 : Nat) (0 : Nat)) = some (TV.l (15 : Nat) (0 : Nat)) ∧
                            some (TV.l (16 : Nat) (0 : Nat)) = some (TV.l (16 : Nat) (0 : Nat)) ∧
                              some (TV.l (17 : Nat) (0 : Nat)) = some (TV.l (17 : Nat) (0 : Nat)) ∧
                                some (TV.l (18 : Nat) (0 : Nat)) = some (TV.l (18 : Nat) (0 : Nat)) ∧
                                  some (TV.l (19 : Nat) (0 : Nat)) = some (TV.l (19 : Nat) (0 : Nat)) ∧
                                    some (TV.v (IV.int IntKind.i64 n)) = some (TV.v (IV.int IntKind.i64 n)) ∧
                                      some (TV.v (IV.bool (meets (Prod.fst (ival a b p q)) (Prod.snd (ival a b p q)) (Prod.fst (ival c d q p)) (Prod.snd (ival c d q p))))) =
                                          some (TV.v (IV.bool (meets (Prod.fst (ival a b p q)) (Prod.snd (ival a b p q)) (Prod.fst (ival c d q p)) (Prod.snd (ival c d q p))))) ∧
                                        some [IV.int IntKind.i64 (Prod.fst (ival a b p q)), IV.int IntKind.i64 (Prod.snd (ival a b p q))] = some [IV.int IntKind.i64 (Prod.fst (ival a b p q)), IV.int IntKind.i64 (Prod.snd (ival a b p q))] ∧
                                          some [IV.int IntKind.i64 (Prod.fst (ival c d q p)), IV.int IntKind.i64 (Prod.snd (ival c d q p))] = some [IV.int IntKind.i64 (Prod.fst (ival c d q p)), IV.int IntKind.i64 (Prod.snd (ival c d q p))] ∧
                                            some [IV.int IntKind.i64 (min (Prod.fst (ival a b p q)) (Prod.fst (ival c d q p))), IV.int IntKind.i64 (max (Prod.snd (ival a b p q)) (Prod.snd (ival c d q p)))] =
                                                some [IV.int IntKind.i64 (min (Prod.fst (ival a b p q)) (Prod.fst (ival c d q p))), IV.int IntKind.i64 (max (Prod.snd (ival a b p q)) (Prod.snd (ival c d q p)))] ∧
                                              some [IV.int IntKind.i64 (wlo (Prod.fst (ival a b p q)) (Prod.fst (ival c d q p))), IV.int IntKind.i64 (whi (Prod.snd (ival a b p q)) (Prod.snd (ival c d q p)))] =
                                                  some [IV.int IntKind.i64 (wlo (Prod.fst (ival a b p q)) (Prod.fst (ival c d q p))), IV.int IntKind.i64 (whi (Prod.snd (ival a b p q)) (Prod.snd (ival c d q p)))] ∧
                                                some
                                                      [IV.int IntKind.i64 (Prod.fst (isect (Prod.fst (ival a b p q)) (Prod.snd (ival a b p q)) (Prod.fst (ival c d q p)) (Prod.snd (ival c d q p)))),
                                                        IV.int IntKind.i64 (Prod.snd (isect (Prod.fst (ival a b p q)) (Prod.snd (ival a b p q)) (Prod.fst (ival c d q p)) (Prod.snd (ival c d q p))))] =
                                                    some
                                                      [IV.int IntKind.i64 (Prod.fst (isect (Prod.fst (ival a b p q)) (Prod.snd (ival a b p q)) (Prod.fst (ival c d q p)) (Prod.snd (ival c d q p)))),
                                                        IV.int IntKind.i64 (Prod.snd (isect (Prod.fst (ival a b p q)) (Prod.snd (ival a b p q)) (Prod.fst (ival c d q p)) (Prod.snd (ival c d q p))))] ∧
                                                  h = h ∧ True ∧ True)))))
                  (brS (meets (Prod.fst (ival a b p q)) (Prod.snd (ival a b p q)) (Prod.fst (ival c d q p)) (Prod.snd (ival c d q p)))
                    (brS
                      (!contains (Prod.fst (isect (Prod.fst (ival a b p q)) (Prod.snd (ival a b p q)) (Prod.fst (ival c d q p)) (Prod.snd (ival c d q p))))
                            (Prod.snd (isect (Prod.fst (ival a b p q)) (Prod.snd (ival a b p q)) (Prod.fst (ival c d q p)) (Prod.snd (ival c d q p)))) n ==
                          (contains (Prod.fst (ival a b p q)) (Prod.snd (ival a b p q)) n && contains (Prod.fst (ival c d q p)) (Prod.snd (ival c d q p)) n))
                      (Q (IV.bool false) h)
                      (brS (!meets (Prod.fst (ival a b p q)) (Prod.snd (ival a b p q)) (Prod.fst (ival c d q p)) (Prod.snd (ival c d q p)))
                        (brS (contains (Prod.fst (ival a b p q)) (Prod.snd (ival a b p q)) n && contains (Prod.fst (ival c d q p)) (Prod.snd (ival c d q p)) n) (Q (IV.bool false) h)
                          (some (TV.l (15 : Nat) (0 : Nat)) = some (TV.l (15 : Nat) (0 : Nat)) ∧
                            some (TV.l (16 : Nat) (0 : Nat)) = some (TV.l (16 : Nat) (0 : Nat)) ∧
                              some (TV.l (17 : Nat) (0 : Nat)) = some (TV.l (17 : Nat) (0 : Nat)) ∧
                                some (TV.l (18 : Nat) (0 : Nat)) = some (TV.l (18 : Nat) (0 : Nat)) ∧
                                  some (TV.l (19 : Nat) (0 : Nat)) = some (TV.l (19 : Nat) (0 : Nat)) ∧
                                    some (TV.v (IV.int IntKind.i64 n)) = some (TV.v (IV.int IntKind.i64 n)) ∧
                                      some (TV.v (IV.bool (meets (Prod.fst (ival a b p q)) (Prod.snd (ival a b p q)) (Prod.fst (ival c d q p)) (Prod.snd (ival c d q p))))) =
                                          some (TV.v (IV.bool (meets (Prod.fst (ival a b p q)) (Prod.snd (ival a b p q)) (Prod.fst (ival c d q p)) (Prod.snd (ival c d q p))))) ∧
                                        some [IV.int IntKind.i64 (Prod.fst (ival a b p q)), IV.int IntKind.i64 (Prod.snd (ival a b p q))] = some [IV.int IntKind.i64 (Prod.fst (ival a b p q)), IV.int IntKind.i64 (Prod.snd (ival a b p q))] ∧
                                          some [IV.int IntKind.i64 (Prod.fst (ival c d q p)), IV.int IntKind.i64 (Prod.snd (ival c d q p))] = some [IV.int IntKind.i64 (Prod.fst (ival c d q p)), IV.int IntKind.i64 (Prod.snd (ival c d q p))] ∧
                                            some [IV.int IntKind.i64 (min (Prod.fst (ival a b p q)) (Prod.fst (ival c d q p))), IV.int IntKind.i64 (max (Prod.snd (ival a b p q)) (Prod.snd (ival c d q p)))] =
                                                some [IV.int IntKind.i64 (min (Prod.fst (ival a b p q)) (Prod.fst (ival c d q p))), IV.int IntKind.i64 (max (Prod.snd (ival a b p q)) (Prod.snd (ival c d q p)))] ∧
                                              some [IV.int IntKind.i64 (wlo (Prod.fst (ival a b p q)) (Prod.fst (ival c d q p))), IV.int IntKind.i64 (whi (Prod.snd (ival a b p q)) (Prod.snd (ival c d q p)))] =
                                                  some [IV.int IntKind.i64 (wlo (Prod.fst (ival a b p q)) (Prod.fst (ival c d q p))), IV.int IntKind.i64 (whi (Prod.snd (ival a b p q)) (Prod.snd (ival c d q p)))] ∧
                                                some
                                                      [IV.int IntKind.i64 (Prod.fst (isect (Prod.fst (ival a b p q)) (Prod.snd (ival a b p q)) (Prod.fst (ival c d q p)) (Prod.snd (ival c d q p)))),
                                                        IV.int IntKind.i64 (Prod.snd (isect (Prod.fst (ival a b p q)) (Prod.snd (ival a b p q)) (Prod.fst (ival c d q p)) (Prod.snd (ival c d q p))))] =
                                                    some
                                                      [IV.int IntKind.i64 (Prod.fst (isect (Prod.fst (ival a b p q)) (Prod.snd (ival a b p q)) (Prod.fst (ival c d q p)) (Prod.snd (ival c d q p)))),
                                                        IV.int IntKind.i64 (Prod.snd (isect (Prod.fst (ival a b p q)) (Prod.snd (ival a b p q)) (Prod.fst (ival c d q p)) (Prod.snd (ival c d q p))))] ∧
                                                  h = h ∧ True ∧ True))
                        (some (TV.l (15 : Nat) (0 : Nat)) = some (TV.l (15 : Nat) (0 : Nat)) ∧
                          some (TV.l (16 : Nat) (0 : Nat)) = some (TV.l (16 : Nat) (0 : Nat)) ∧
                            some (TV.l (17 : Nat) (0 : Nat)) = some (TV.l (17 : Nat) (0 : Nat)) ∧
                              some (TV.l (18 : Nat) (0 : Nat)) = some (TV.l (18 : Nat) (0 : Nat)) ∧
                                some (TV.l (19 : Nat) (0 : Nat)) = some (TV.l (19 : Nat) (0 : Nat)) ∧
                                  some (TV.v (IV.int IntKind.i64 n)) = some (TV.v (IV.int IntKind.i64 n)) ∧
                                    some (TV.v (IV.bool (meets (Prod.fst (ival a b p q)) (Prod.snd (ival a b p q)) (Prod.fst (ival c d q p)) (Prod.snd (ival c d q p))))) =
                                        some (TV.v (IV.bool (meets (Prod.fst (ival a b p q)) (Prod.snd (ival a b p q)) (Prod.fst (ival c d q p)) (Prod.snd (ival c d q p))))) ∧
                                      some [IV.int IntKind.i64 (Prod.fst (ival a b p q)), IV.int IntKind.i64 (Prod.snd (ival a b p q))] = some [IV.int IntKind.i64 (Prod.fst (ival a b p q)), IV.int IntKind.i64 (Prod.snd (ival a b p q))] ∧
                                        some [IV.int IntKind.i64 (Prod.fst (ival c d q p)), IV.int IntKind.i64 (Prod.snd (ival c d q p))] = some [IV.int IntKind.i64 (Prod.fst (ival c d q p)), IV.int IntKind.i64 (Prod.snd (ival c d q p))] ∧
                                          some [IV.int IntKind.i64 (min (Prod.fst (ival a b p q)) (Prod.fst (ival c d q p))), IV.int IntKind.i64 (max (Prod.snd (ival a b p q)) (Prod.snd (ival c d q p)))] =
                                              some [IV.int IntKind.i64 (min (Prod.fst (ival a b p q)) (Prod.fst (ival c d q p))), IV.int IntKind.i64 (max (Prod.snd (ival a b p q)) (Prod.snd (ival c d q p)))] ∧
                                            some [IV.int IntKind.i64 (wlo (Prod.fst (ival a b p q)) (Prod.fst (ival c d q p))), IV.int IntKind.i64 (whi (Prod.snd (ival a b p q)) (Prod.snd (ival c d q p)))] =
                                                some [IV.int IntKind.i64 (wlo (Prod.fst (ival a b p q)) (Prod.fst (ival c d q p))), IV.int IntKind.i64 (whi (Prod.snd (ival a b p q)) (Prod.snd (ival c d q p)))] ∧
                                              some
                                                    [IV.int IntKind.i64 (Prod.fst (isect (Prod.fst (ival a b p q)) (Prod.snd (ival a b p q)) (Prod.fst (ival c d q p)) (Prod.snd (ival c d q p)))),
                                                      IV.int IntKind.i64 (Prod.snd (isect (Prod.fst (ival a b p q)) (Prod.snd (ival a b p q)) (Prod.fst (ival c d q p)) (Prod.snd (ival c d q p))))] =
                                                  some
                                                    [IV.int IntKind.i64 (Prod.fst (isect (Prod.fst (ival a b p q)) (Prod.snd (ival a b p q)) (Prod.fst (ival c d q p)) (Prod.snd (ival c d q p)))),
                                                      IV.int IntKind.i64 (Prod.snd (isect (Prod.fst (ival a b p q)) (Prod.snd (ival a b p q)) (Prod.fst (ival c d q p)) (Prod.snd (ival c d q p))))] ∧
                                                h = h ∧ True ∧ True)))
                    (brS (!meets (Prod.fst (ival a b p q)) (Prod.snd (ival a b p q)) (Prod.fst (ival c d q p)) (Prod.snd (ival c d q p)))
                      (brS (contains (Prod.fst (ival a b p q)) (Prod.snd (ival a b p q)) n && contains (Prod.fst (ival c d q p)) (Prod.snd (ival c d q p)) n) (Q (IV.bool false) h)
                        (some (TV.l (15 : Nat) (0 : Nat)) = some (TV.l (15 : Nat) (0 : Nat)) ∧
                          some (TV.l (16 : Nat) (0 : Nat)) = some (TV.l (16 : Nat) (0 : Nat)) ∧
                            some (TV.l (17 : Nat) (0 : Nat)) = some (TV.l (17 : Nat) (0 : Nat)) ∧
                              some (TV.l (18 : Nat) (0 : Nat)) = some (TV.l (18 : Nat) (0 : Nat)) ∧
                                some (TV.l (19 : Nat) (0 : Nat)) = some (TV.l (19 : Nat) (0 : Nat)) ∧
                                  some (TV.v (IV.int IntKind.i64 n)) = some (TV.v (IV.int IntKind.i64 n)) ∧
                                    some (TV.v (IV.bool (meets (Prod.fst (ival a b p q)) (Prod.snd (ival a b p q)) (Prod.fst (ival c d q p)) (Prod.snd (ival c d q p))))) =
                                        some (TV.v (IV.bool (meets (Prod.fst (ival a b p q)) (Prod.snd (ival a b p q)) (Prod.fst (ival c d q p)) (Prod.snd (ival c d q p))))) ∧
                                      some [IV.int IntKind.i64 (Prod.fst (ival a b p q)), IV.int IntKind.i64 (Prod.snd (ival a b p q))] = some [IV.int IntKind.i64 (Prod.fst (ival a b p q)), IV.int IntKind.i64 (Prod.snd (ival a b p q))] ∧
                                        some [IV.int IntKind.i64 (Prod.fst (ival c d q p)), IV.int IntKind.i64 (Prod.snd (ival c d q p))] = some [IV.int IntKind.i64 (Prod.fst (ival c d q p)), IV.int IntKind.i64 (Prod.snd (ival c d q p))] ∧
                                          some [IV.int IntKind.i64 (min (Prod.fst (ival a b p q)) (Prod.fst (ival c d q p))), IV.int IntKind.i64 (max (Prod.snd (ival a b p q)) (Prod.snd (ival c d q p)))] =
                                              some [IV.int IntKind.i64 (min (Prod.fst (ival a b p q)) (Prod.fst (ival c d q p))), IV.int IntKind.i64 (max (Prod.snd (ival a b p q)) (Prod.snd (ival c d q p)))] ∧
                                            some [IV.int IntKind.i64 (wlo (Prod.fst (ival a b p q)) (Prod.fst (ival c d q p))), IV.int IntKind.i64 (whi (Prod.snd (ival a b p q)) (Prod.snd (ival c d q p)))] =
                                                some [IV.int IntKind.i64 (wlo (Prod.fst (ival a b p q)) (Prod.fst (ival c d q p))), IV.int IntKind.i64 (whi (Prod.snd (ival a b p q)) (Prod.snd (ival c d q p)))] ∧
                                              some
                                                    [IV.int IntKind.i64 (Prod.fst (isect (Prod.fst (ival a b p q)) (Prod.snd (ival a b p q)) (Prod.fst (ival c d q p)) (Prod.snd (ival c d q p)))),
                                                      IV.int IntKind.i64 (Prod.snd (isect (Prod.fst (ival a b p q)) (Prod.snd (ival a b p q)) (Prod.fst (ival c d q p)) (Prod.snd (ival c d q p))))] =
                                                  some
                                                    [IV.int IntKind.i64 (Prod.fst (isect (Prod.fst (ival a b p q)) (Prod.snd (ival a b p q)) (Prod.fst (ival c d q p)) (Prod.snd (ival c d q p)))),
                                                      IV.int IntKind.i64 (Prod.snd (isect (Prod.fst (ival a b p q)) (Prod.snd (ival a b p q)) (Prod.fst (ival c d q p)) (Prod.snd (ival c d q p))))] ∧
                                                h = h ∧ True ∧ True))
                      (some (TV.l (15 : Nat) (0 : Nat)) = some (TV.l (15 : Nat) (0 : Nat)) ∧
                        some (TV.l (16 : Nat) (0 : Nat)) = some (TV.l (16 : Nat) (0 : Nat)) ∧
                          some (TV.l (17 : Nat) (0 : Nat)) = some (TV.l (17 : Nat) (0 : Nat)) ∧
                            some (TV.l (18 : Nat) (0 : Nat)) = some (TV.l (18 : Nat) (0 : Nat)) ∧
                              some (TV.l (19 : Nat) (0 : Nat)) = some (TV.l (19 : Nat) (0 : Nat)) ∧
                                some (TV.v (IV.int IntKind.i64 n)) = some (TV.v (IV.int IntKind.i64 n)) ∧
                                  some (TV.v (IV.bool (meets (Prod.fst (ival a b p q)) (Prod.snd (ival a b p q)) (Prod.fst (ival c d q p)) (Prod.snd (ival c d q p))))) =
                                      some (TV.v (IV.bool (meets (Prod.fst (ival a b p q)) (Prod.snd (ival a b p q)) (Prod.fst (ival c d q p)) (Prod.snd (ival c d q p))))) ∧
                                    some [IV.int IntKind.i64 (Prod.fst (ival a b p q)), IV.int IntKind.i64 (Prod.snd (ival a b p q))] = some [IV.int IntKind.i64 (Prod.fst (ival a b p q)), IV.int IntKind.i64 (Prod.snd (ival a b p q))] ∧
                                      some [IV.int IntKind.i64 (Prod.fst (ival c d q p)), IV.int IntKind.i64 (Prod.snd (ival c d q p))] = some [IV.int IntKind.i64 (Prod.fst (ival c d q p)), IV.int IntKind.i64 (Prod.snd (ival c d q p))] ∧
                                        some [IV.int IntKind.i64 (min (Prod.fst (ival a b p q)) (Prod.fst (ival c d q p))), IV.int IntKind.i64 (max (Prod.snd (ival a b p q)) (Prod.snd (ival c d q p)))] =
                                            some [IV.int IntKind.i64 (min (Prod.fst (ival a b p q)) (Prod.fst (ival c d q p))), IV.int IntKind.i64 (max (Prod.snd (ival a b p q)) (Prod.snd (ival c d q p)))] ∧
                                          some [IV.int IntKind.i64 (wlo (Prod.fst (ival a b p q)) (Prod.fst (ival c d q p))), IV.int IntKind.i64 (whi (Prod.snd (ival a b p q)) (Prod.snd (ival c d q p)))] =
                                              some [IV.int IntKind.i64 (wlo (Prod.fst (ival a b p q)) (Prod.fst (ival c d q p))), IV.int IntKind.i64 (whi (Prod.snd (ival a b p q)) (Prod.snd (ival c d q p)))] ∧
                                            some
                                                  [IV.int IntKind.i64 (Prod.fst (isect (Prod.fst (ival a b p q)) (Prod.snd (ival a b p q)) (Prod.fst (ival c d q p)) (Prod.snd (ival c d q p)))),
                                                    IV.int IntKind.i64 (Prod.snd (isect (Prod.fst (ival a b p q)) (Prod.snd (ival a b p q)) (Prod.fst (ival c d q p)) (Prod.snd (ival c d q p))))] =
                                                some
                                                  [IV.int IntKind.i64 (Prod.fst (isect (Prod.fst (ival a b p q)) (Prod.snd (ival a b p q)) (Prod.fst (ival c d q p)) (Prod.snd (ival c d q p)))),
                                                    IV.int IntKind.i64 (Prod.snd (isect (Prod.fst (ival a b p q)) (Prod.snd (ival a b p q)) (Prod.fst (ival c d q p)) (Prod.snd (ival c d q p))))] ∧
                                              h = h ∧ True ∧ True)))) ∧
              ∀ (x : Unit) (b_2 : FF),
                True →
                  brS
                    (min (Prod.fst (ival a b p q)) (Prod.fst (ival c d q p)) == min (Prod.fst (ival c d q p)) (Prod.fst (ival a b p q)) &&
                      (max (Prod.snd (ival a b p q)) (Prod.snd (ival c d q p)) == max (Prod.snd (ival c d q p)) (Prod.snd (ival a b p q)) && true))
                    (brS
                      (Prod.fst (isect (Prod.fst (ival c d q p)) (Prod.snd (ival c d q p)) (Prod.fst (ival a b p q)) (Prod.snd (ival a b p q))) ==
                          Prod.fst (isect (Prod.fst (ival a b p q)) (Prod.snd (ival a b p q)) (Prod.fst (ival c d q p)) (Prod.snd (ival c d q p))) &&
                        (Prod.snd (isect (Prod.fst (ival c d q p)) (Prod.snd (ival c d q p)) (Prod.fst (ival a b p q)) (Prod.snd (ival a b p q))) ==
                            Prod.snd (isect (Prod.fst (ival a b p q)) (Prod.snd (ival a b p q)) (Prod.fst (ival c d q p)) (Prod.snd (ival c d q p))) &&
                          true))
                      (brS
                        (meets (Prod.fst (ival c d q p)) (Prod.snd (ival c d q p)) (Prod.fst (ival a b p q)) (Prod.snd (ival a b p q)) ==
                          meets (Prod.fst (ival a b p q)) (Prod.snd (ival a b p q)) (Prod.fst (ival c d q p)) (Prod.snd (ival c d q p)))
                        (brS (min (Prod.fst (ival a b p q)) (Prod.fst (ival a b p q)) == Prod.fst (ival a b p q) && (max (Prod.snd (ival a b p q)) (Prod.snd (ival a b p q)) == Prod.snd (ival a b p q) && true))
                          (brS (wlo (Prod.fst (ival a b p q)) (Prod.fst (ival a b p q)) == Prod.fst (ival a b p q) && (whi (Prod.snd (ival a b p q)) (Prod.snd (ival a b p q)) == Prod.snd (ival a b p q) && true))
                            (brS
                              (wlo (wlo (Prod.fst (ival a b p q)) (Prod.fst (ival c d q p))) (Prod.fst (ival c d q p)) == wlo (Prod.fst (ival a b p q)) (Prod.fst (ival c d q p)) &&
                                (whi (whi (Prod.snd (ival a b p q)) (Prod.snd (ival c d q p))) (Prod.snd (ival c d q p)) == whi (Prod.snd (ival a b p q)) (Prod.snd (ival c d q p)) && true))
                              (Q (IV.bool true) h) (Q (IV.bool false) h))
                            (Q (IV.bool false) h))
                          (Q (IV.bool false) h))
                        (Q (IV.bool false) h))
                      (Q (IV.bool false) h))
                    (Q (IV.bool false) h)))) := by kernel_rfl
theorem sLattice : ∀ xs h Q, kLattice xs h Q → CallW env 4 xs h Q := by
  intro xs h Q hk
  unfold kLattice at hk
  split at hk
  · rename_i a b c d p q n
    refine dF_sound (okEx) (mp_eq (vLattice a b c d p q n h Q) ?_)
    obtain ⟨hn, hk⟩ := hk
    generalize (ival a b p q).1 = x1, (ival a b p q).2 = x2, (ival c d q p).1 = y1, (ival c d q p).2 = y2
    repeat' (first | refine needS_intro ?_ ?_ | refine brS_intro (fun _ => ?_) (fun _ => ?_) | refine And.intro ?_ ?_ | (intro _))
    all_goals first | rfl | assumption | trivial | (simp_all; done) | (exfalso; grind [contains, isect, meets, wlo, whi])
  · exact hk.elim
def cLattice := addC 4 kLattice cEx
theorem okLattice : Sound env cLattice := sound_add sLattice (okEx)

end Go.Proofs.Ytahafnjlmcmhfaa
