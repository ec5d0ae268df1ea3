/-
  Patterns: which are valid, for the program and for the reference.
  Conditions: none.
-/
import Derived.Test.YtmfnadojephcpaaB15
import Derived.Test.YtmfnadojephcpaaN15
import Derived.KernelRfl
set_option linter.unusedVariables false
set_option linter.unusedSimpArgs false
namespace Go.Proofs.Ytmfnadojephcpaa
open Go.Pv Go.M15
def kIArity (xs : List IV) (h : Heap) (K : IV → Heap → Prop) : Prop := match xs with
  | [.int .i64 op] => K (.tuple [.int .i64 (ar op), .bool (arOk op)]) h
  | _ => False
set_option maxRecDepth 100000 in
theorem vIArity (op : Int) (h : Heap) (Q : IV → Heap → Prop) : dF (stdS cExT) env 55 noU noI noI [.int .i64 op] h Q = (
  brS (op == (1 : Int)) (Q (IV.tuple [IV.int IntKind.i64 (0 : Int), IV.bool true]) h)
 (brS (op == (2 : Int)) (Q (IV.tuple [IV.int IntKind.i64 (0 : Int), IV.bool true]) h)
 (brS (op == (3 : Int)) (Q (IV.tuple [IV.int IntKind.i64 (0 : Int), IV.bool true]) h)
 (brS (op == (26 : Int)) (Q (IV.tuple [IV.int IntKind.i64 (0 : Int), IV.bool true]) h)
 (brS (op == (20 : Int)) (Q (IV.tuple [IV.int IntKind.i64 (1 : Int), IV.bool true]) h)
 (brS (op == (21 : Int)) (Q (IV.tuple [IV.int IntKind.i64 (1 : Int), IV.bool true]) h)
 (brS (op == (24 : Int)) (Q (IV.tuple [IV.int IntKind.i64 (1 : Int), IV.bool true]) h)
 (brS (op == (25 : Int)) (Q (IV.tuple [IV.int IntKind.i64 (1 : Int), IV.bool true]) h)
 (brS (op == (23 : Int)) (Q (IV.tuple [IV.int IntKind.i64 (2 : Int), IV.bool true]) h)
 (brS (op == (27 : Int)) (Q (IV.tuple [IV.int IntKind.i64 (2 : Int), IV.bool true]) h)
 (brS (op == (29 : Int)) (Q (IV.tuple [IV.int IntKind.i64 (2 : Int), IV.bool true]) h)
 (brS (op == (22 : Int)) (Q (IV.tuple [IV.int IntKind.i64 (3 : Int), IV.bool true]) h)
 (brS (op == (28 : Int)) (Q (IV.tuple [IV.int IntKind.i64 (3 : Int), IV.bool true]) h)
 (brS (op == (30 : Int)) (Q (IV.tuple [IV.int IntKind.i64 (-1 : Int), IV.bool true]) h)
 (brS (op == (31 : Int)) (Q (IV.tuple [IV.int IntKind.i64 (-1 : Int), IV.bool true]) h)
 (brS (decide (op ≥ (4 : Int))) (brS (decide (op ≤ (19 : Int))) (Q (IV.tuple [IV.int IntKind.i64 (2 : Int), IV.bool true]) h) (Q (IV.tuple [IV.int IntKind.i64 (0 : Int), IV.bool false]) h))
 (Q (IV.tuple [IV.int IntKind.i64 (0 : Int), IV.bool false]) h))))))))))))))))) := by kernel_rfl
set_option maxHeartbeats 2000000 in
theorem sIArity : ∀ xs h Q, kIArity xs h Q → CallW env 55 xs h Q := by
  intro xs h Q hk
  unfold kIArity at hk
  split at hk
  · rename_i op
    refine dF_run (okExT) (vIArity op h Q) ?_
    repeat' (first | refine needS_intro ?_ ?_ | refine brS_intro (fun _ => ?_) (fun _ => ?_) | refine And.intro ?_ ?_)
    all_goals first | assumption | omega | (refine q_eq hk ?_; simp only [IV.agg.injEq, IV.tuple.injEq, IV.int.injEq, IV.bool.injEq, List.cons.injEq, true_and, and_true]; grind [ar, arOk])
  · exact hk.elim
def cIArity := addC 55 kIArity cExT
theorem okIArity : Sound env cIArity := sound_add sIArity (okExT)

def kPHasImm (xs : List IV) (h : Heap) (K : IV → Heap → Prop) : Prop := match xs with
  | [.int .i64 op] => K (.bool (hasImm op)) h
  | _ => False
set_option maxRecDepth 100000 in
theorem vPHasImm (op : Int) (h : Heap) (Q : IV → Heap → Prop) : dF (stdS cIArity) env 56 noU noI noI [.int .i64 op] h Q = (
  brS (op == (1 : Int)) (Q (IV.bool true) h) (brS (op == (23 : Int)) (Q (IV.bool true) h) (brS (op == (27 : Int)) (Q (IV.bool true) h) (Q (IV.bool (op == (28 : Int))) h)))) := by kernel_rfl
theorem sPHasImm : ∀ xs h Q, kPHasImm xs h Q → CallW env 56 xs h Q := by
  intro xs h Q hk
  unfold kPHasImm at hk
  split at hk
  · rename_i op
    refine dF_run (okIArity) (vPHasImm op h Q) ?_
    repeat' (first | refine needS_intro ?_ ?_ | refine brS_intro (fun _ => ?_) (fun _ => ?_) | refine And.intro ?_ ?_)
    all_goals first | assumption | omega | (refine q_eq hk ?_; simp only [IV.agg.injEq, IV.tuple.injEq, IV.int.injEq, IV.bool.injEq, List.cons.injEq, true_and, and_true]; grind [hasImm])
  · exact hk.elim
def cPHasImm := addC 56 kPHasImm cIArity
theorem okPHasImm : Sound env cPHasImm := sound_add sPHasImm (okIArity)

def kOpSorts (xs : List IV) (h : Heap) (K : IV → Heap → Prop) : Prop := match xs with
  | [.int .i64 op] => K (.tuple [.vslice none 0 (opk op).length 1 ((opk op).map (IV.int .i64)), .int .i64 (opS op), .bool (opOk op)]) h
  | _ => False
set_option maxRecDepth 100000 in
theorem vOpSorts (op : Int) (h : Heap) (Q : IV → Heap → Prop) : dF (stdS cPHasImm) env 43 noU noI noI [.int .i64 op] h Q = (
  brS (op == (1 : Int)) (Q (IV.tuple [IV.vslice none (0 : Nat) (0 : Nat) (1 : Nat) [], IV.int IntKind.i64 (1 : Int), IV.bool true]) h)
 (brS (op == (23 : Int)) (Q (IV.tuple [IV.vslice none (0 : Nat) (2 : Nat) (1 : Nat) [IV.int IntKind.i64 (2 : Int), IV.int IntKind.i64 (1 : Int)], IV.int IntKind.i64 (1 : Int), IV.bool true]) h)
 (brS (op == (24 : Int)) (Q (IV.tuple [IV.vslice none (0 : Nat) (1 : Nat) (1 : Nat) [IV.int IntKind.i64 (2 : Int)], IV.int IntKind.i64 (1 : Int), IV.bool true]) h)
 (brS (op == (27 : Int)) (Q (IV.tuple [IV.vslice none (0 : Nat) (2 : Nat) (1 : Nat) [IV.int IntKind.i64 (2 : Int), IV.int IntKind.i64 (1 : Int)], IV.int IntKind.i64 (2 : Int), IV.bool true]) h)
 (brS (op == (29 : Int)) (Q (IV.tuple [IV.vslice none (0 : Nat) (2 : Nat) (1 : Nat) [IV.int IntKind.i64 (2 : Int), IV.int IntKind.i64 (1 : Int)], IV.int IntKind.i64 (2 : Int), IV.bool true]) h)
 (brS (op == (28 : Int)) (Q (IV.tuple [IV.vslice none (0 : Nat) (3 : Nat) (1 : Nat) [IV.int IntKind.i64 (2 : Int), IV.int IntKind.i64 (1 : Int), IV.int IntKind.i64 (1 : Int)], IV.int IntKind.i64 (2 : Int), IV.bool true]) h)
 (brS (!arOk op) (Q (IV.tuple [IV.vslice none (0 : Nat) (0 : Nat) (1 : Nat) [], IV.int IntKind.i64 (0 : Int), IV.bool false]) h)
 (brS (decide (op < (4 : Int))) (Q (IV.tuple [IV.vslice none (0 : Nat) (0 : Nat) (1 : Nat) [], IV.int IntKind.i64 (0 : Int), IV.bool false]) h)
 (brS (decide (op > (22 : Int))) (Q (IV.tuple [IV.vslice none (0 : Nat) (0 : Nat) (1 : Nat) [], IV.int IntKind.i64 (0 : Int), IV.bool false]) h)
 (needS (true && (decide ((0 : Int) ≤ ar op) && decide (ar op ≤ (3 : Int))))
 (needS
 (pureL
 [IV.vslice none (0 : Nat) (Int.toNat (ar op) - (0 : Nat)) (1 : Nat)
 (List.take ((Int.toNat (ar op) - (0 : Nat)) * (1 : Nat)) [IV.int IntKind.i64 (1 : Int), IV.int IntKind.i64 (1 : Int), IV.int IntKind.i64 (1 : Int)]),
 IV.int IntKind.i64 (1 : Int), IV.bool true])
 (Q
 (IV.tuple
 [IV.vslice none (0 : Nat) (Int.toNat (ar op) - (0 : Nat)) (1 : Nat)
 (List.take ((Int.toNat (ar op) - (0 : Nat)) * (1 : Nat)) [IV.int IntKind.i64 (1 : Int), IV.int IntKind.i64 (1 : Int), IV.int IntKind.i64 (1 : Int)]),
 IV.int IntKind.i64 (1 : Int), IV.bool true])
 h)))))))))))) := by kernel_rfl
theorem sOpSorts : ∀ xs h Q, kOpSorts xs h Q → CallW env 43 xs h Q := by
  intro xs h Q hk
  unfold kOpSorts at hk
  split at hk
  · rename_i op
    refine dF_run (okPHasImm) (vOpSorts op h Q) ?_
    have fin : ∀ (ks : List Int) (s : Int) (b : Bool), ks = opk op → s = opS op → b = opOk op → Q (.tuple [.vslice none 0 ks.length 1 (ks.map (IV.int .i64)), .int .i64 s, .bool b]) h := by
      rintro _ _ _ rfl rfl rfl
      exact hk
    have no : opOk op = false → Q (.tuple [.vslice none 0 0 1 [], .int .i64 0, .bool false]) h := fun e => fin [] 0 false (opk_no e).1.symm (opk_no e).2.symm e.symm
    have e1 : ∀ a b, (4 : Int) ≤ op → op ≤ 22 → a = ar op → b = a.toNat → b ≤ 3 ∧ ([1, 1, 1] : List Int).take b = opk op ∧ 1 = opS op ∧ true = opOk op := by
      rintro a b h1 h2 rfl rfl
      have hd : op = 4 ∨ op = 5 ∨ op = 6 ∨ op = 7 ∨ op = 8 ∨ op = 9 ∨ op = 10 ∨ op = 11 ∨ op = 12 ∨ op = 13 ∨ op = 14 ∨ op = 15 ∨ op = 16 ∨ op = 17 ∨ op = 18 ∨ op = 19 ∨ op = 20 ∨ op = 21 ∨ op = 22 := by omega
      rcases hd with rfl | rfl | rfl | rfl | rfl | rfl | rfl | rfl | rfl | rfl | rfl | rfl | rfl | rfl | rfl | rfl | rfl | rfl | rfl <;> decide
    repeat' (first | refine needS_intro ?_ ?_ | refine brS_intro (fun _ => ?_) (fun _ => ?_))
    all_goals simp only [beq_iff_eq, decide_eq_true_eq, decide_eq_false_iff_not, beq_eq_false_iff_ne, Bool.not_eq_true', Bool.not_eq_false'] at *
    all_goals first
      | (subst_vars; exact fin [] 1 true rfl rfl rfl)
      | (subst_vars; exact fin [2, 1] 1 true rfl rfl rfl)
      | (subst_vars; exact fin [2] 1 true rfl rfl rfl)
      | (subst_vars; exact fin [2, 1] 2 true rfl rfl rfl)
      | (subst_vars; exact fin [2, 1, 1] 2 true rfl rfl rfl)
      | skip
    · refine no ?_
      simp only [arOk, opOk, decide_eq_false_iff_not] at *
      omega
    · refine no ?_
      simp only [arOk, opOk, decide_eq_true_eq, decide_eq_false_iff_not] at *
      omega
    · refine no ?_
      simp only [arOk, opOk, decide_eq_true_eq, decide_eq_false_iff_not] at *
      omega
    all_goals
      have hd : op = 4 ∨ op = 5 ∨ op = 6 ∨ op = 7 ∨ op = 8 ∨ op = 9 ∨ op = 10 ∨ op = 11 ∨ op = 12 ∨ op = 13 ∨ op = 14 ∨ op = 15 ∨ op = 16 ∨ op = 17 ∨ op = 18 ∨ op = 19 ∨ op = 20 ∨ op = 21 ∨ op = 22 := by omega
      clear hk e1 no
      rcases hd with rfl | rfl | rfl | rfl | rfl | rfl | rfl | rfl | rfl | rfl | rfl | rfl | rfl | rfl | rfl | rfl | rfl | rfl | rfl
      all_goals first | rfl | exact fin [1, 1] 1 true rfl rfl rfl | exact fin [1] 1 true rfl rfl rfl | exact fin [1, 1, 1] 1 true rfl rfl rfl
  · exact hk.elim
def cOpSorts := addC 43 kOpSorts cPHasImm
theorem okOpSorts : Sound env cOpSorts := sound_add sOpSorts (okPHasImm)

def kVImm (xs : List IV) (h : Heap) (K : IV → Heap → Prop) : Prop := match xs with
  | [.agg [.int .i64 v, .int .i64 op, .int .i64 im, .int .i64 iv, .vslice none e1 n1 5 c1], .int .i64 imms] => ∃ ks : List T, (n1 = ks.length ∧ c1 = cTs ks) ∧ K (.bool (vIm op im iv imms)) h
  | _ => False
set_option maxRecDepth 100000 in
theorem vVImm (v op im iv imms : Int) (ks : List T) (e1 : Nat) (h : Heap) (Q : IV → Heap → Prop) : dF (stdS cOpSorts) env 44 noU noI noI [.agg [.int .i64 v, .int .i64 op, .int .i64 im, .int .i64 iv, .vslice none e1 (ks).length 5 (cTs ks)], .int .i64 imms] h Q = (
  needS (pureL [IV.agg [IV.int IntKind.i64 v, IV.int IntKind.i64 op, IV.int IntKind.i64 im, IV.int IntKind.i64 iv, IV.vslice none (0 : Nat) (List.length ks) (5 : Nat) (cTs ks)], IV.int IntKind.i64 imms])
 (brS (iv != (0 : Int)) (brS (hasImm op) (brS (im == (0 : Int)) (brS (decide (iv ≥ (1 : Int))) (Q (IV.bool (decide (iv ≤ imms))) h) (Q (IV.bool false) h)) (Q (IV.bool false) h)) (Q (IV.bool false) h))
 (brS (op == (23 : Int)) (brS (decide (im ≥ (0 : Int))) (Q (IV.bool (decide (im < (4 : Int)))) h) (Q (IV.bool false) h))
 (brS (op == (28 : Int)) (brS (decide (im ≥ (0 : Int))) (Q (IV.bool (decide (im < (4 : Int)))) h) (Q (IV.bool false) h))
 (brS (op == (27 : Int)) (brS (decide (im ≥ (1 : Int))) (Q (IV.bool (decide (im ≤ (1000016 : Int)))) h) (Q (IV.bool false) h)) (brS (op == (1 : Int)) (Q (IV.bool true) h) (Q (IV.bool (im == (0 : Int))) h))))))) := by kernel_rfl
theorem sVImm : ∀ xs h Q, kVImm xs h Q → CallW env 44 xs h Q := by
  intro xs h Q hk
  unfold kVImm at hk
  split at hk
  · rename_i v op im iv e1 n1 c1 imms
    obtain ⟨ks, ⟨rfl, rfl⟩, hk⟩ := hk
    refine dF_run (okOpSorts) (vVImm v op im iv imms ks e1 h Q) ?_
    refine needS_intro (by simp only [pureL, pureB, pureL_cTs, Bool.and_true]) ?_
    repeat' refine brS_intro (fun _ => ?_) (fun _ => ?_)
    all_goals
      refine q_eq hk ?_
      simp only [IV.bool.injEq, vIm, hasImm, beq_iff_eq, bne_iff_ne, decide_eq_true_eq, decide_eq_false_iff_not, beq_eq_false_iff_ne, bne_eq_false_iff_eq, Bool.not_eq_true', Bool.not_eq_false', ge_iff_le, Bool.decide_eq_true] at *
      first
      | omega
      | (rw [decide_eq_true_eq]; omega)
      | (rw [decide_eq_false_iff_not]; omega)
      | (rw [decide_eq_decide]; omega)
      | (rw [Bool.beq_eq_decide_eq, decide_eq_decide]; omega)
  · exact hk.elim
def cVImm := addC 44 kVImm cOpSorts
theorem okVImm : Sound env cVImm := sound_add sVImm (okOpSorts)

def kAllowed (xs : List IV) (h : Heap) (K : IV → Heap → Prop) : Prop := match xs with
  | [.int .i64 op] => K (.bool (opOk op)) h
  | _ => False
set_option maxRecDepth 100000 in
theorem vAllowed (op : Int) (h : Heap) (Q : IV → Heap → Prop) : dF (stdS cVImm) env 46 noU noI noI [.int .i64 op] h Q = (
  brS (op == (1 : Int)) (Q (IV.bool true) h)
 (brS (decide (op ≥ (4 : Int))) (brS (decide (op ≤ (24 : Int))) (Q (IV.bool true) h) (brS (op == (27 : Int)) (Q (IV.bool true) h) (brS (op == (28 : Int)) (Q (IV.bool true) h) (Q (IV.bool (op == (29 : Int))) h))))
 (brS (op == (27 : Int)) (Q (IV.bool true) h) (brS (op == (28 : Int)) (Q (IV.bool true) h) (Q (IV.bool (op == (29 : Int))) h))))) := by kernel_rfl
theorem sAllowed : ∀ xs h Q, kAllowed xs h Q → CallW env 46 xs h Q := by
  intro xs h Q hk
  unfold kAllowed at hk
  split at hk
  · rename_i op
    refine dF_run (okVImm) (vAllowed op h Q) ?_
    repeat' (first | refine needS_intro ?_ ?_ | refine brS_intro (fun _ => ?_) (fun _ => ?_) | refine And.intro ?_ ?_)
    all_goals first | assumption | omega | (refine q_eq hk ?_; simp only [IV.agg.injEq, IV.tuple.injEq, IV.int.injEq, IV.bool.injEq, List.cons.injEq, true_and, and_true]; grind [opOk])
  · exact hk.elim
def cAllowed := addC 46 kAllowed cVImm
theorem okAllowed : Sound env cAllowed := sound_add sAllowed (okVImm)

def kMaxImm (xs : List IV) (h : Heap) (K : IV → Heap → Prop) : Prop := match xs with
  | [.int .i64 op] => K (.int .i64 (mxI op)) h
  | _ => False
set_option maxRecDepth 100000 in
theorem vMaxImm (op : Int) (h : Heap) (Q : IV → Heap → Prop) : dF (stdS cAllowed) env 57 noU noI noI [.int .i64 op] h Q = (
  brS (op == (2 : Int)) (Q (IV.int IntKind.i64 (5 : Int)) h)
 (brS (op == (3 : Int)) (Q (IV.int IntKind.i64 (255 : Int)) h)
 (brS (op == (23 : Int)) (Q (IV.int IntKind.i64 (3 : Int)) h)
 (brS (op == (28 : Int)) (Q (IV.int IntKind.i64 (3 : Int)) h)
 (brS (op == (27 : Int)) (Q (IV.int IntKind.i64 (1000016 : Int)) h)
 (brS (op == (30 : Int)) (Q (IV.int IntKind.i64 (7 : Int)) h) (brS (op == (31 : Int)) (Q (IV.int IntKind.i64 (15 : Int)) h) (brS (op == (25 : Int)) (Q (IV.int IntKind.i64 (15 : Int)) h) (Q (IV.int IntKind.i64 (-1 : Int)) h))))))))) := by kernel_rfl
theorem sMaxImm : ∀ xs h Q, kMaxImm xs h Q → CallW env 57 xs h Q := by
  intro xs h Q hk
  unfold kMaxImm at hk
  split at hk
  · rename_i op
    refine dF_run (okAllowed) (vMaxImm op h Q) ?_
    repeat' (first | refine needS_intro ?_ ?_ | refine brS_intro (fun _ => ?_) (fun _ => ?_) | refine And.intro ?_ ?_)
    all_goals first | assumption | omega | (refine q_eq hk ?_; simp only [IV.agg.injEq, IV.tuple.injEq, IV.int.injEq, IV.bool.injEq, List.cons.injEq, true_and, and_true]; grind [mxI])
  · exact hk.elim
def cMaxImm := addC 57 kMaxImm cAllowed
theorem okMaxImm : Sound env cMaxImm := sound_add sMaxImm (okAllowed)

def kRVImm (xs : List IV) (h : Heap) (K : IV → Heap → Prop) : Prop := match xs with
  | [.int .i64 op, .int .i64 n] => K (.bool (vImm op n)) h
  | _ => False
set_option maxRecDepth 100000 in
theorem vRVImm (op n : Int) (h : Heap) (Q : IV → Heap → Prop) : dF (stdS cMaxImm) env 48 noU noI noI [.int .i64 op, .int .i64 n] h Q = (
  brS (op == (1 : Int)) (Q (IV.bool true) h)
 (brS (decide (mxI op < (0 : Int))) (Q (IV.bool (n == (0 : Int))) h)
 (brS (decide (n ≥ (0 : Int))) (brS (decide (n ≤ mxI op)) (brS (op != (27 : Int)) (Q (IV.bool true) h) (Q (IV.bool (decide (n > (0 : Int)))) h)) (Q (IV.bool false) h)) (Q (IV.bool false) h)))) := by kernel_rfl
theorem sRVImm : ∀ xs h Q, kRVImm xs h Q → CallW env 48 xs h Q := by
  intro xs h Q hk
  unfold kRVImm at hk
  split at hk
  · rename_i op n
    refine dF_run (okMaxImm) (vRVImm op n h Q) ?_
    repeat' (first | refine needS_intro ?_ ?_ | refine brS_intro (fun _ => ?_) (fun _ => ?_) | refine And.intro ?_ ?_)
    all_goals first | assumption | omega | (refine q_eq hk ?_; simp only [IV.agg.injEq, IV.tuple.injEq, IV.int.injEq, IV.bool.injEq, List.cons.injEq, true_and, and_true]; grind [vImm])
  · exact hk.elim
def cRVImm := addC 48 kRVImm cMaxImm
theorem okRVImm : Sound env cRVImm := sound_add sRVImm (okMaxImm)

def vaCut (v op im iv s imms : Int) (ks : List T) (io : Option Nat) (e1 id : Nat) (vs : List Int) (h : Heap) : Inv' := atP (v = 0 ∧ nodeOk op im iv ks.length s imms) [(2, .v (.int .i64 imms)), (3, .v (.hslice id 0 vs.length 1)), (4, .l 4 0), (10, .v (.vslice none 0 (opk op).length 1 ((opk op).map (IV.int .i64))))] [(4, [.int .i64 v, .int .i64 op, .int .i64 im, .int .i64 iv, .vslice io e1 ks.length 5 (cTs ks)])] h
def vaInv (v op im iv s imms : Int) (ks : List T) (io : Option Nat) (e1 id : Nat) (vs : List Int) : Inv' := atX (Nat × List Int × Heap) (fun x => [(2, .v (.int .i64 imms)), (3, .v (.hslice id 0 vs.length 1)), (10, .v (.vslice none 0 (opk op).length 1 ((opk op).map (IV.int .i64)))), (103, .v (.vslice io e1 ks.length 5 (cTs ks))), (104, .v (.int .i64 ks.length)), (105, .v (.int .i64 x.1))]) (fun _ => []) (fun x => x.2.2)
  (fun x => x.1 ≤ ks.length ∧ x.2.1.length = vs.length ∧ x.2.2.get id = .cells (x.2.1.map (IV.int .i64)) ∧ valPs (ks.drop x.1) ((opk op).drop x.1) imms x.2.1 = valP (.mk v op im iv ks) s imms vs ∧ ks.length = (opk op).length) (fun x => ks.length - x.1)
def kVald (d : Nat) (xs : List IV) (h : Heap) (K : IV → Heap → Prop) : Prop := match xs with
  | [.agg [.int .i64 v, .int .i64 op, .int .i64 im, .int .i64 iv, .vslice io e1 n1 5 c1], .int .i64 s, .int .i64 imms, .hslice id 0 n 1] => ∃ (ks : List T) (vs : List Int), (n1 = ks.length ∧ c1 = cTs ks) ∧ (n = vs.length ∧ h.get id = .cells (vs.map (IV.int .i64))) ∧ (nums ks < d ∧ thins ks ∧ ks.length ≤ 1000000000000000 ∧ vs.length ≤ 1000) ∧
   ∀ h2 : Heap, h2.get id = .cells ((valP (.mk v op im iv ks) s imms vs).2.map (IV.int .i64)) → K (.bool (valP (.mk v op im iv ks) s imms vs).1) h2
  | _ => False
set_option maxRecDepth 100000 in
theorem vVald (dd : Nat) (v op im iv : Int) (ks : List T) (io : Option Nat) (e1 : Nat) (s imms : Int) (id : Nat) (vs : List Int) (h : Heap) (Q : IV → Heap → Prop) : dF (stdS (addC 28 (kVald dd) cRVImm)) env 28 noU (ic1 15 (vaInv v op im iv s imms ks io e1 id vs)) (icS (ic1 14 (vaCut v op im iv s imms ks io e1 id vs h))) [.agg [.int .i64 v, .int .i64 op, .int .i64 im, .int .i64 iv, .vslice io e1 ks.length 5 (cTs ks)], .int .i64 s, .int .i64 imms, .hslice id 0 vs.length 1] h Q = (
  brS (v != (0 : Int))
 (brS (decide (v < (1 : Int))) (Q (IV.bool false) h)
 (brS (decide (v > (↑(List.length vs) : Int))) (Q (IV.bool false) h)
 (brS (op != (0 : Int)) (Q (IV.bool false) h)
 (brS (im != (0 : Int)) (Q (IV.bool false) h)
 (brS (iv != (0 : Int)) (Q (IV.bool false) h)
 (brS (decide ((↑(List.length ks) : Int) > (0 : Int))) (Q (IV.bool false) h)
 (needS (decide ((0 : Int) ≤ IntKind.wrap IntKind.i64 (v - (1 : Int))) && decide (IntKind.wrap IntKind.i64 (v - (1 : Int)) < (↑(List.length vs) : Int)))
 (hgetS h id fun (r0 : List IV) =>
 ldIS IntKind.i64 r0 ((0 : Nat) + Int.toNat (IntKind.wrap IntKind.i64 (v - (1 : Int))) * (1 : Nat)) fun (n1 : Int) =>
 brS (n1 == (0 : Int))
 (needS (decide ((0 : Int) ≤ IntKind.wrap IntKind.i64 (v - (1 : Int))) && decide (IntKind.wrap IntKind.i64 (v - (1 : Int)) < (↑(List.length vs) : Int)))
 (hgetS h id fun (r2 : List IV) =>
 needS (Nat.ble ((0 : Nat) + Int.toNat (IntKind.wrap IntKind.i64 (v - (1 : Int))) * (1 : Nat) + (1 : Nat)) (List.length r2))
 (Q (IV.bool true)
 (Heap.set h id
 (IObj.cells
 (List.take ((0 : Nat) + Int.toNat (IntKind.wrap IntKind.i64 (v - (1 : Int))) * (1 : Nat)) r2 ++ [IV.int IntKind.i64 s] ++
 List.drop ((0 : Nat) + Int.toNat (IntKind.wrap IntKind.i64 (v - (1 : Int))) * (1 : Nat) + (1 : Nat)) r2))))))
 (brS (s != (0 : Int)) (brS (s != n1) (Q (IV.bool false) h) (Q (IV.bool true) h)) (Q (IV.bool true) h))))))))))
 (brS (!opOk op) (Q (IV.bool false) h)
 (brS ((↑(List.length ks) : Int) != (↑(List.length (opk op)) : Int)) (Q (IV.bool false) h)
 (brS (s != (0 : Int))
 (brS (s != opS op) (Q (IV.bool false) h)
 (∃ (ks_1 : List T),
 (List.length ks = List.length ks_1 ∧ cTs ks = cTs ks_1) ∧
 brS (!vIm op im iv imms) (Q (IV.bool false) h)
 (some (TV.v (IV.int IntKind.i64 imms)) = some (TV.v (IV.int IntKind.i64 imms)) ∧
 some (TV.v (IV.hslice id (0 : Nat) (List.length vs) (1 : Nat))) = some (TV.v (IV.hslice id (0 : Nat) (List.length vs) (1 : Nat))) ∧
 some (TV.l (4 : Nat) (0 : Nat)) = some (TV.l (4 : Nat) (0 : Nat)) ∧
 some (TV.v (IV.vslice none (0 : Nat) (List.length (opk op)) (1 : Nat) (List.map (IV.int IntKind.i64) (opk op)))) =
 some (TV.v (IV.vslice none (0 : Nat) (List.length (opk op)) (1 : Nat) (List.map (IV.int IntKind.i64) (opk op)))) ∧
 some [IV.int IntKind.i64 v, IV.int IntKind.i64 op, IV.int IntKind.i64 im, IV.int IntKind.i64 iv, IV.vslice io e1 (List.length ks) (5 : Nat) (cTs ks)] =
 some [IV.int IntKind.i64 v, IV.int IntKind.i64 op, IV.int IntKind.i64 im, IV.int IntKind.i64 iv, IV.vslice io e1 (List.length ks) (5 : Nat) (cTs ks)] ∧
 h = h ∧ (v = (0 : Int) ∧ nodeOk op im iv (List.length ks) s imms) ∧ True)))
 (∃ (ks_1 : List T),
 (List.length ks = List.length ks_1 ∧ cTs ks = cTs ks_1) ∧
 brS (!vIm op im iv imms) (Q (IV.bool false) h)
 (some (TV.v (IV.int IntKind.i64 imms)) = some (TV.v (IV.int IntKind.i64 imms)) ∧
 some (TV.v (IV.hslice id (0 : Nat) (List.length vs) (1 : Nat))) = some (TV.v (IV.hslice id (0 : Nat) (List.length vs) (1 : Nat))) ∧
 some (TV.l (4 : Nat) (0 : Nat)) = some (TV.l (4 : Nat) (0 : Nat)) ∧
 some (TV.v (IV.vslice none (0 : Nat) (List.length (opk op)) (1 : Nat) (List.map (IV.int IntKind.i64) (opk op)))) =
 some (TV.v (IV.vslice none (0 : Nat) (List.length (opk op)) (1 : Nat) (List.map (IV.int IntKind.i64) (opk op)))) ∧
 some [IV.int IntKind.i64 v, IV.int IntKind.i64 op, IV.int IntKind.i64 im, IV.int IntKind.i64 iv, IV.vslice io e1 (List.length ks) (5 : Nat) (cTs ks)] =
 some [IV.int IntKind.i64 v, IV.int IntKind.i64 op, IV.int IntKind.i64 im, IV.int IntKind.i64 iv, IV.vslice io e1 (List.length ks) (5 : Nat) (cTs ks)] ∧
 h = h ∧ (v = (0 : Int) ∧ nodeOk op im iv (List.length ks) s imms) ∧ True))))) ∧
 (∀ (x : Unit) (b : FF),
 v = (0 : Int) ∧ nodeOk op im iv (List.length ks) s imms →
 (∃ (x : Nat × List Int × Heap),
 some (TV.v (IV.int IntKind.i64 imms)) = some (TV.v (IV.int IntKind.i64 imms)) ∧
 some (TV.v (IV.hslice id (0 : Nat) (List.length vs) (1 : Nat))) = some (TV.v (IV.hslice id (0 : Nat) (List.length vs) (1 : Nat))) ∧
 some (TV.v (IV.vslice none (0 : Nat) (List.length (opk op)) (1 : Nat) (List.map (IV.int IntKind.i64) (opk op)))) =
 some (TV.v (IV.vslice none (0 : Nat) (List.length (opk op)) (1 : Nat) (List.map (IV.int IntKind.i64) (opk op)))) ∧
 some (TV.v (IV.vslice io e1 (List.length ks) (5 : Nat) (cTs ks))) = some (TV.v (IV.vslice io e1 (List.length ks) (5 : Nat) (cTs ks))) ∧
 some (TV.v (IV.int IntKind.i64 (↑(List.length ks) : Int))) = some (TV.v (IV.int IntKind.i64 (↑(List.length ks) : Int))) ∧
 some (TV.v (IV.int IntKind.i64 (0 : Int))) = some (TV.v (IV.int IntKind.i64 (↑(Prod.fst x) : Int))) ∧
 h = Prod.snd (Prod.snd x) ∧
 (Prod.fst x ≤ List.length ks ∧
 List.length (Prod.fst (Prod.snd x)) = List.length vs ∧
 Heap.get (Prod.snd (Prod.snd x)) id = IObj.cells (List.map (IV.int IntKind.i64) (Prod.fst (Prod.snd x))) ∧
 valPs (List.drop (Prod.fst x) ks) (List.drop (Prod.fst x) (opk op)) imms (Prod.fst (Prod.snd x)) = valP (T.mk v op im iv ks) s imms vs ∧ List.length ks = List.length (opk op)) ∧
 True) ∧
 ∀ (x : Nat × List Int × Heap) (b : FF),
 Prod.fst x ≤ List.length ks ∧
 List.length (Prod.fst (Prod.snd x)) = List.length vs ∧
 Heap.get (Prod.snd (Prod.snd x)) id = IObj.cells (List.map (IV.int IntKind.i64) (Prod.fst (Prod.snd x))) ∧
 valPs (List.drop (Prod.fst x) ks) (List.drop (Prod.fst x) (opk op)) imms (Prod.fst (Prod.snd x)) = valP (T.mk v op im iv ks) s imms vs ∧ List.length ks = List.length (opk op) →
 brS (decide ((↑(Prod.fst x) : Int) < (↑(List.length ks) : Int)))
 (needS (decide ((0 : Int) ≤ (↑(Prod.fst x) : Int)) && decide ((↑(Prod.fst x) : Int) < (↑(List.length ks) : Int)))
 (ldIS IntKind.i64 (cTs ks) (Int.toNat (↑(Prod.fst x) : Int) * (5 : Nat)) fun (n3 : Int) =>
 ldIS IntKind.i64 (cTs ks) (Int.toNat (↑(Prod.fst x) : Int) * (5 : Nat) + (1 : Nat)) fun (n4 : Int) =>
 ldIS IntKind.i64 (cTs ks) (Int.toNat (↑(Prod.fst x) : Int) * (5 : Nat) + (1 : Nat) + (1 : Nat)) fun (n5 : Int) =>
 ldIS IntKind.i64 (cTs ks) (Int.toNat (↑(Prod.fst x) : Int) * (5 : Nat) + (1 : Nat) + (1 : Nat) + (1 : Nat)) fun (n6 : Int) =>
 ldVS (5 : Nat) (cTs ks) (Int.toNat (↑(Prod.fst x) : Int) * (5 : Nat) + (1 : Nat) + (1 : Nat) + (1 : Nat) + (1 : Nat)) fun (i7 : Option Nat) (e8 l9 : Nat) (c10 : List IV) =>
 needS (decide ((0 : Int) ≤ (↑(Prod.fst x) : Int)) && decide ((↑(Prod.fst x) : Int) < (↑(List.length (opk op)) : Int)))
 (ldIS IntKind.i64 (List.map (IV.int IntKind.i64) (opk op)) (Int.toNat (↑(Prod.fst x) : Int) * (1 : Nat)) fun (n11 : Int) =>
 ∃ (ks_1 : List T),
 ∃ (vs_1 : List Int),
 (l9 = List.length ks_1 ∧ c10 = cTs ks_1) ∧
 (List.length vs = List.length vs_1 ∧ Heap.get (Prod.snd (Prod.snd x)) id = IObj.cells (List.map (IV.int IntKind.i64) vs_1)) ∧
 (nums ks_1 < dd ∧ thins ks_1 ∧ List.length ks_1 ≤ (1000000000000000 : Nat) ∧ List.length vs_1 ≤ (1000 : Nat)) ∧
 ∀ (h2 : Heap),
 Heap.get h2 id = IObj.cells (List.map (IV.int IntKind.i64) (Prod.snd (valP (T.mk n3 n4 n5 n6 ks_1) n11 imms vs_1))) →
 brS (!Prod.fst (valP (T.mk n3 n4 n5 n6 ks_1) n11 imms vs_1)) (Q (IV.bool false) h2)
 (∃ (x_1 : Nat × List Int × Heap),
 some (TV.v (IV.int IntKind.i64 imms)) = some (TV.v (IV.int IntKind.i64 imms)) ∧
 some (TV.v (IV.hslice id (0 : Nat) (List.length vs) (1 : Nat))) = some (TV.v (IV.hslice id (0 : Nat) (List.length vs) (1 : Nat))) ∧
 some (TV.v (IV.vslice none (0 : Nat) (List.length (opk op)) (1 : Nat) (List.map (IV.int IntKind.i64) (opk op)))) =
 some (TV.v (IV.vslice none (0 : Nat) (List.length (opk op)) (1 : Nat) (List.map (IV.int IntKind.i64) (opk op)))) ∧
 some (TV.v (IV.vslice io e1 (List.length ks) (5 : Nat) (cTs ks))) = some (TV.v (IV.vslice io e1 (List.length ks) (5 : Nat) (cTs ks))) ∧
 some (TV.v (IV.int IntKind.i64 (↑(List.length ks) : Int))) = some (TV.v (IV.int IntKind.i64 (↑(List.length ks) : Int))) ∧
 some (TV.v (IV.int IntKind.i64 (IntKind.wrap IntKind.i64 ((↑(Prod.fst x) : Int) + (1 : Int))))) = some (TV.v (IV.int IntKind.i64 (↑(Prod.fst x_1) : Int))) ∧
 h2 = Prod.snd (Prod.snd x_1) ∧
 (Prod.fst x_1 ≤ List.length ks ∧
 List.length (Prod.fst (Prod.snd x_1)) = List.length vs ∧
 Heap.get (Prod.snd (Prod.snd x_1)) id = IObj.cells (List.map (IV.int IntKind.i64) (Prod.fst (Prod.snd x_1))) ∧
 valPs (List.drop (Prod.fst x_1) ks) (List.drop (Prod.fst x_1) (opk op)) imms (Prod.fst (Prod.snd x_1)) = valP (T.mk v op im iv ks) s imms vs ∧
 List.length ks = List.length (opk op)) ∧
 List.length ks - Prod.fst x_1 < List.length ks - Prod.fst x))))
 (Q (IV.bool true) (Prod.snd (Prod.snd x)))) ∧
 True) := by kernel_rfl
set_option maxHeartbeats 2000000 in
theorem rVald : ∀ d xs h Q, kVald d xs h Q → CallW env 28 xs h Q := by
  intro d
  induction d with
  | zero =>
    intro xs h Q hk
    unfold kVald at hk
    split at hk
    · rename_i v op im iv io e1 n1 c1 s imms id n
      obtain ⟨ks, vs, ⟨rfl, rfl⟩, ⟨rfl, hg⟩, hb, hk⟩ := hk
      skip
      omega
    · exact hk.elim
  | succ dd ih =>
    intro xs h Q hk
    unfold kVald at hk
    split at hk
    · rename_i v op im iv io e1 n1 c1 s imms id n
      obtain ⟨ks, vs, ⟨rfl, rfl⟩, ⟨rfl, hg⟩, hb, hk⟩ := hk
      refine dF_run (sound_add ih (okRVImm)) (vVald dd v op im iv ks io e1 s imms id vs h Q) ?_
      have fin : ∀ (b : Bool) (vs2 : List Int) (g : Heap), valP (.mk v op im iv ks) s imms vs = (b, vs2) → g.get id = .cells (vs2.map (IV.int .i64)) → Q (.bool b) g := by
        intro b vs2 g e1 e2
        rw [e1] at hk
        exact hk g e2
      have hks : ∀ i (h : i < ks.length), nums ks[i].ks < dd ∧ thins ks[i].ks ∧ ks[i].ks.length ≤ 1000000000000000 := fun i hi => by
        have h1 := num_lt (List.getElem_mem hi)
        have h2 := thin_ks (thin_kid hb.2.1 (List.getElem_mem hi))
        refine ⟨?_, h2.2, h2.1⟩
        generalize ks[i] = t at *
        cases t
        simp only [T.num, T.ks] at *
        omega
      have bad : v ≠ 0 → badVar v op im iv ks.length vs.length → Q (.bool false) h := fun h1 h2 => fin false vs h (valP_bad h1 h2) hg
      have no : v = 0 → ¬ nodeOk op im iv ks.length s imms → Q (.bool false) h := fun h1 h2 => fin false vs h (valP_no h1 h2) hg
      have eta : ∀ t : T, T.mk t.v t.op t.im t.iv t.ks = t := fun t => by cases t; rfl
      refine ⟨brS_intro (fun cv => ?_) (fun cv => ?_), ?_, trivial⟩
      · have cv : v ≠ 0 := bne_iff_ne.1 cv
        refine brS_intro (fun c => bad cv (.inl (of_decide_eq_true c))) (fun c1 => brS_intro (fun c => bad cv (.inr (.inl (of_decide_eq_true c)))) (fun c2 => brS_intro (fun c => bad cv (.inr (.inr (.inl (bne_iff_ne.1 c))))) (fun c3 =>
          brS_intro (fun c => bad cv (.inr (.inr (.inr (.inl (bne_iff_ne.1 c)))))) (fun c4 => brS_intro (fun c => bad cv (.inr (.inr (.inr (.inr (.inl (bne_iff_ne.1 c))))))) (fun c5 => brS_intro (fun c => bad cv (.inr (.inr (.inr (.inr (.inr (by simpa using c))))))) (fun c6 => ?_))))))
        have nb : ¬ badVar v op im iv ks.length vs.length := by
          simp only [decide_eq_false_iff_not, bne_eq_false_iff_eq] at c1 c2 c3 c4 c5 c6
          unfold badVar
          omega
        have hr : 1 ≤ v ∧ v ≤ vs.length := by unfold badVar at nb; omega
        have hw : IntKind.i64.wrap (v - 1) = v - 1 := IntWalk.i64_in _ (by omega)
        have hlt : (v - 1).toNat < vs.length := by omega
        have hgd : vs.getD (v - 1).toNat 0 = vs[(v - 1).toNat] := by rw [List.getD_eq_getElem?_getD, List.getElem?_eq_getElem hlt]; rfl
        rw [hw]
        simp only [Nat.zero_add, Nat.mul_one]
        refine needS_intro (by simp; omega) (hget_intro hg (ldIS_map hlt (brS_intro (fun c => needS_intro (by simp; omega) (hget_intro hg (needS_intro (by rw [Nat.ble_eq, List.length_map]; omega) ?_))) (fun c => ?_))))
        · refine fin true (vs.set (v - 1).toNat s) _ (valP_new cv nb (by rw [hgd]; simpa using c)) ?_
          refine (get_set_eq (h := h)).trans ?_
          rw [List.set_eq_take_append_cons_drop, if_pos hlt]
          simp [List.map_take, List.map_drop]
        · have hne : vs.getD (v - 1).toNat 0 ≠ 0 := by rw [hgd]; simpa using c
          have ho := valP_old (s := s) (imms := imms) cv nb hne
          rw [hgd] at ho
          refine brS_intro (fun d1 => brS_intro (fun d2 => fin false vs h ?_ hg) (fun d2 => fin true vs h ?_ hg)) (fun d1 => fin true vs h ?_ hg)
          all_goals
            rw [ho]
            congr 1
            simp at d1
          · simp at d2; simp; omega
          · simp at d2; simp; omega
          · simp; omega
      · have cv : v = 0 := by simpa using cv
        refine brS_intro (fun c => no cv (fun hn => by simp [hn.1] at c)) (fun c1 => brS_intro (fun c => no cv (fun hn => ?_)) (fun c2 => brS_intro (fun c3 => brS_intro (fun c => no cv (fun hn => ?_)) (fun c4 => ⟨ks, ⟨rfl, rfl⟩, brS_intro (fun c => no cv (fun hn => ?_)) (fun c5 => ?_)⟩)) (fun c3 => ⟨ks, ⟨rfl, rfl⟩, brS_intro (fun c => no cv (fun hn => ?_)) (fun c5 => ?_)⟩)))
        · simp [hn.2.1] at c
        · have := hn.2.2.1
          simp at c c3
          omega
        · simp [hn.2.2.2] at c
        · repeat (refine And.intro (by first | rfl | exact True.intro) ?_)
          refine ⟨⟨cv, by simpa using c1, ?_, ?_, by simpa using c5⟩, trivial⟩
          · simp at c2; omega
          · simp at c4; exact .inr c4
        · simp [hn.2.2.2] at c
        · repeat (refine And.intro (by first | rfl | exact True.intro) ?_)
          refine ⟨⟨cv, by simpa using c1, ?_, ?_, by simpa using c5⟩, trivial⟩
          · simp at c2; omega
          · simp at c3; exact .inl c3
      · rintro _ _ ⟨cv, hn⟩
        refine ⟨⟨(0, vs, h), ?_⟩, ?_⟩
        · repeat (refine And.intro (by first | rfl | exact True.intro) ?_)
          refine ⟨⟨Nat.zero_le _, rfl, hg, ?_, hn.2.1⟩, trivial⟩
          rw [valP_node cv hn]
          rfl
        · rintro ⟨i, ws, g⟩ _ ⟨hi, hwl, hgw, hv, hl⟩
          simp only at hi hwl hgw hv hl ⊢
          refine brS_intro (fun c => ?_) (fun c => ?_)
          · rw [decide_eq_true_eq] at c
            have hlt : i < ks.length := by omega
            have hlq : i < (opk op).length := by omega
            simp only [Int.toNat_natCast]
            refine needS_intro (by simp; omega) (ldT hlt rfl (needS_intro (by simp; omega) ?_))
            rw [Nat.mul_one]
            obtain ⟨k1, k2, k3⟩ := hks i hlt
            refine ldIS_map hlq ⟨ks[i].ks, ws, ⟨rfl, rfl⟩, ⟨hwl.symm, hgw⟩, ⟨k1, k2, k3, by omega⟩, fun h2 hg2 => ?_⟩
            rw [eta] at hg2 ⊢
            rw [valPs_step hlt hlq] at hv
            have hlen := valP_len ks[i] (opk op)[i] imms ws
            generalize valP ks[i] (opk op)[i] imms ws = r at *
            obtain ⟨b, ws2⟩ := r
            cases b with
            | false => exact fin false ws2 h2 hv.symm hg2
            | true =>
              refine brS_intro (fun c => by cases c) (fun _ => ⟨(i + 1, ws2, h2), ?_⟩)
              simp only at hv hlen hg2 ⊢
              repeat (refine And.intro (by first | rfl | exact True.intro) ?_)
              refine ⟨by rw [IntWalk.i64_in _ (by omega)]; rfl, ?_⟩
              repeat (refine And.intro (by first | rfl | exact True.intro) ?_)
              exact ⟨⟨hlt, by omega, hg2, hv, hl⟩, by omega⟩
          · rw [decide_eq_false_iff_not] at c
            rw [valPs_end (by omega)] at hv
            exact fin true ws g hv.symm hgw
    · exact hk.elim
def cVald := addC 28 (fun xs h K => ∃ d, kVald d xs h K) cRVImm
theorem okVald : Sound env cVald := sound_add (fun xs h Q hk => hk.elim fun d hk => rVald d xs h Q hk) (okRVImm)

def kValid (xs : List IV) (h : Heap) (K : IV → Heap → Prop) : Prop := match xs with
  | [.agg [.int .i64 v, .int .i64 op, .int .i64 im, .int .i64 iv, .vslice none e1 n1 5 c1], .int .i64 vars, .int .i64 imms] => ∃ ks : List T, (n1 = ks.length ∧ c1 = cTs ks) ∧ (thins ks ∧ ks.length ≤ 1000000000000000) ∧ K (.bool (valB (.mk v op im iv ks) vars imms)) h
  | _ => False
set_option maxRecDepth 100000 in
theorem vValid (v op im iv vars imms : Int) (ks : List T) (e1 : Nat) (h : Heap) (Q : IV → Heap → Prop) : dF (stdS cVald) env 10 noU noI noI [.agg [.int .i64 v, .int .i64 op, .int .i64 im, .int .i64 iv, .vslice none e1 (ks).length 5 (cTs ks)], .int .i64 vars, .int .i64 imms] h Q = (
  needS (pureL [IV.agg [IV.int IntKind.i64 v, IV.int IntKind.i64 op, IV.int IntKind.i64 im, IV.int IntKind.i64 iv, IV.vslice none (0 : Nat) (List.length ks) (5 : Nat) (cTs ks)], IV.int IntKind.i64 vars, IV.int IntKind.i64 imms])
 (brS (decide (vars < (0 : Int))) (Q (IV.bool false) h)
 (brS (decide (vars > (6 : Int))) (Q (IV.bool false) h)
 (brS (decide (imms < (0 : Int))) (Q (IV.bool false) h)
 (brS (decide (imms > (6 : Int))) (Q (IV.bool false) h)
 (∃ (d : Nat),
 ∃ (ks_1 : List T),
 (List.length ks = List.length ks_1 ∧ cTs ks = cTs ks_1) ∧
 (nums ks_1 < d ∧ thins ks_1 ∧ List.length ks_1 ≤ (1000000000000000 : Nat)) ∧
 brS (decide (sizes (1 : Int) ks_1 > (24 : Int))) (Q (IV.bool false) h)
 (needS (decide ((0 : Int) ≤ vars) && (decide (vars ≤ vars) && (decide (vars ≤ (9223372036854775807 : Int)) && decide ((8 : Int) * vars ≤ (140737488355328 : Int)))))
 (∃ (d : Nat),
 ∃ (ks_2 : List T),
 ∃ (vs : List Int),
 (List.length ks = List.length ks_2 ∧ cTs ks = cTs ks_2) ∧
 (Int.toNat vars = List.length vs ∧ IObj.cells (repl (Int.toNat vars) [IV.int IntKind.i64 (0 : Int)]) = IObj.cells (List.map (IV.int IntKind.i64) vs)) ∧
 (nums ks_2 < d ∧ thins ks_2 ∧ List.length ks_2 ≤ (1000000000000000 : Nat) ∧ List.length vs ≤ (1000 : Nat)) ∧
 ∀ (h2 : Heap),
 Heap.get h2 (0 : Nat) = IObj.cells (List.map (IV.int IntKind.i64) (Prod.snd (valP (T.mk v op im iv ks_2) (0 : Int) imms vs))) →
 Q (IV.bool (Prod.fst (valP (T.mk v op im iv ks_2) (0 : Int) imms vs))) h)))))))) := by kernel_rfl
set_option maxHeartbeats 2000000 in
theorem sValid : ∀ xs h Q, kValid xs h Q → CallW env 10 xs h Q := by
  intro xs h Q hk
  unfold kValid at hk
  split at hk
  · rename_i v op im iv e1 n1 c1 vars imms
    obtain ⟨ks, ⟨rfl, rfl⟩, hb, hk⟩ := hk
    refine dF_run (okVald) (vValid v op im iv vars imms ks e1 h Q) ?_
    obtain ⟨h1, h2⟩ := hb
    have pre : ∀ b, (0 ≤ vars ∧ vars ≤ 6 ∧ 0 ≤ imms ∧ imms ≤ 6 → b = (decide ((T.mk v op im iv ks).size ≤ 24) && (valP (.mk v op im iv ks) 0 imms (List.replicate vars.toNat 0)).1)) → (¬ (0 ≤ vars ∧ vars ≤ 6 ∧ 0 ≤ imms ∧ imms ≤ 6) → b = false) → Q (.bool b) h := by
      intro b e1 e2
      have e : b = valB (.mk v op im iv ks) vars imms := by
        unfold valB
        by_cases c : 0 ≤ vars ∧ vars ≤ 6 ∧ 0 ≤ imms ∧ imms ≤ 6
        · rw [e1 c, decide_eq_true c, Bool.true_and]
        · rw [e2 c, decide_eq_false c, Bool.false_and]
      rw [e]
      exact hk
    have hsz : (T.mk v op im iv ks).size = sizes 1 ks := rfl
    have no : ¬ (0 ≤ vars ∧ vars ≤ 6 ∧ 0 ≤ imms ∧ imms ≤ 6) → Q (.bool false) h := fun c => pre false (fun e => absurd e c) (fun _ => rfl)
    refine needS_intro (by simp only [pureL, pureB, pureL_cTs, Bool.and_true]) (brS_intro (fun c => no (by rw [decide_eq_true_eq] at c; omega)) (fun c1 => brS_intro (fun c => no (by rw [decide_eq_true_eq] at c; omega)) (fun c2 => brS_intro (fun c => no (by rw [decide_eq_true_eq] at c; omega)) (fun c3 => brS_intro (fun c => no (by rw [decide_eq_true_eq] at c; omega)) (fun c4 => ?_)))))
    rw [decide_eq_false_iff_not] at c1 c2 c3 c4
    have hr : 0 ≤ vars ∧ vars ≤ 6 ∧ 0 ≤ imms ∧ imms ≤ 6 := by omega
    refine ⟨nums ks + 1, ks, ⟨rfl, rfl⟩, ⟨Nat.lt_succ_self _, h1, h2⟩, brS_intro (fun c => pre false (fun _ => ?_) (fun _ => rfl)) (fun c => needS_intro (by simp; omega) ⟨nums ks + 1, ks, List.replicate vars.toNat 0, ⟨rfl, rfl⟩, ⟨by simp, by rw [repl_zero]⟩, ⟨Nat.lt_succ_self _, h1, h2, by simp; omega⟩, fun h3 _ => pre _ (fun _ => ?_) (fun e => absurd hr e)⟩)⟩
    · rw [hsz, decide_eq_false (by rw [decide_eq_true_eq] at c; omega), Bool.false_and]
    · rw [hsz, decide_eq_true (by rw [decide_eq_false_iff_not] at c; omega), Bool.true_and]
  · exact hk.elim
def cValid := addC 10 kValid cVald
theorem okValid : Sound env cValid := sound_add sValid (okVald)

def fiCut (v op im iv s imms : Int) (ks : List T) (io : Option Nat) (e1 id : Nat) (x0 : Int) (vs : List Int) (h : Heap) : Inv' := atP (v = 0 ∧ nodeOk op im iv ks.length s imms) [(2, .v (.hslice id 0 (vs.length + 1) 1)), (3, .v (.int .i64 imms)), (4, .l 4 0)] [(4, [.int .i64 v, .int .i64 op, .int .i64 im, .int .i64 iv, .vslice io e1 ks.length 5 (cTs ks)])] h
def fiInv (v op im iv s imms : Int) (ks : List T) (io : Option Nat) (e1 id : Nat) (x0 : Int) (vs : List Int) : Inv' := atX (Nat × List Int × Heap) (fun x => [(2, .v (.hslice id 0 (vs.length + 1) 1)), (3, .v (.int .i64 imms)), (4, .l 4 0), (11, .v (.int .i64 x.1))]) (fun _ => [(4, [.int .i64 v, .int .i64 op, .int .i64 im, .int .i64 iv, .vslice io e1 ks.length 5 (cTs ks)])]) (fun x => x.2.2)
  (fun x => x.1 ≤ ks.length ∧ x.2.1.length = vs.length ∧ x.2.2.get id = .cells (.int .i64 x0 :: x.2.1.map (IV.int .i64)) ∧ valPs (ks.drop x.1) ((opk op).drop x.1) imms x.2.1 = valP (.mk v op im iv ks) s imms vs ∧ ks.length = (opk op).length ∧ opOk op = true) (fun x => ks.length - x.1)
def kFits (d : Nat) (xs : List IV) (h : Heap) (K : IV → Heap → Prop) : Prop := match xs with
  | [.agg [.int .i64 v, .int .i64 op, .int .i64 im, .int .i64 iv, .vslice io e1 n1 5 c1], .int .i64 s, .hslice id 0 n 1, .int .i64 imms] => ∃ (ks : List T) (x0 : Int) (vs : List Int), (n1 = ks.length ∧ c1 = cTs ks) ∧ (n = vs.length + 1 ∧ h.get id = .cells (.int .i64 x0 :: vs.map (IV.int .i64))) ∧ (nums ks < d ∧ thins ks ∧ ks.length ≤ 1000000000000000 ∧ vs.length ≤ 1000 ∧ 0 ≤ imms) ∧
   ∀ h2 : Heap, h2.get id = .cells (.int .i64 x0 :: (valP (.mk v op im iv ks) s imms vs).2.map (IV.int .i64)) → K (.bool (valP (.mk v op im iv ks) s imms vs).1) h2
  | _ => False
set_option maxRecDepth 100000 in
theorem vFits (dd : Nat) (v op im iv : Int) (ks : List T) (io : Option Nat) (e1 : Nat) (s imms : Int) (id : Nat) (x0 : Int) (vs : List Int) (h : Heap) (Q : IV → Heap → Prop) : dF (stdS (addC 31 (kFits dd) cValid)) env 31 noU (ic1 14 (fiInv v op im iv s imms ks io e1 id x0 vs)) (icS (ic1 13 (fiCut v op im iv s imms ks io e1 id x0 vs h))) [.agg [.int .i64 v, .int .i64 op, .int .i64 im, .int .i64 iv, .vslice io e1 ks.length 5 (cTs ks)], .int .i64 s, .hslice id 0 (vs.length + 1) 1, .int .i64 imms] h Q = (
  brS (v != (0 : Int))
 (brS (decide (v < (1 : Int))) (Q (IV.bool false) h)
 (brS (decide (v ≥ (↑(List.length vs + (1 : Nat)) : Int))) (Q (IV.bool false) h)
 (brS (op != (0 : Int)) (Q (IV.bool false) h)
 (brS (im != (0 : Int)) (Q (IV.bool false) h)
 (brS (iv != (0 : Int)) (Q (IV.bool false) h)
 (brS ((↑(List.length ks) : Int) != (0 : Int)) (Q (IV.bool false) h)
 (brS (s != (0 : Int))
 (needS (decide ((0 : Int) ≤ v) && decide (v < (↑(List.length vs + (1 : Nat)) : Int)))
 (hgetS h id fun (r0 : List IV) =>
 ldIS IntKind.i64 r0 ((0 : Nat) + Int.toNat v * (1 : Nat)) fun (n1 : Int) =>
 brS (n1 == (0 : Int))
 (needS (decide ((0 : Int) ≤ v) && decide (v < (↑(List.length vs + (1 : Nat)) : Int)))
 (hgetS h id fun (r2 : List IV) =>
 needS (Nat.ble ((0 : Nat) + Int.toNat v * (1 : Nat) + (1 : Nat)) (List.length r2))
 (brS (s == (0 : Int))
 (Q (IV.bool true) (Heap.set h id (IObj.cells (List.take ((0 : Nat) + Int.toNat v * (1 : Nat)) r2 ++ [IV.int IntKind.i64 s] ++ List.drop ((0 : Nat) + Int.toNat v * (1 : Nat) + (1 : Nat)) r2))))
 (needS (decide ((0 : Int) ≤ v) && decide (v < (↑(List.length vs + (1 : Nat)) : Int)))
 (hgetS (Heap.set h id (IObj.cells (List.take ((0 : Nat) + Int.toNat v * (1 : Nat)) r2 ++ [IV.int IntKind.i64 s] ++ List.drop ((0 : Nat) + Int.toNat v * (1 : Nat) + (1 : Nat)) r2))) id
 fun (r3 : List IV) =>
 ldIS IntKind.i64 r3 ((0 : Nat) + Int.toNat v * (1 : Nat)) fun (n4 : Int) =>
 Q (IV.bool (n4 == s)) (Heap.set h id (IObj.cells (List.take ((0 : Nat) + Int.toNat v * (1 : Nat)) r2 ++ [IV.int IntKind.i64 s] ++ List.drop ((0 : Nat) + Int.toNat v * (1 : Nat) + (1 : Nat)) r2))))))))
 (brS (s == (0 : Int)) (Q (IV.bool true) h)
 (needS (decide ((0 : Int) ≤ v) && decide (v < (↑(List.length vs + (1 : Nat)) : Int)))
 (hgetS h id fun (r5 : List IV) => ldIS IntKind.i64 r5 ((0 : Nat) + Int.toNat v * (1 : Nat)) fun (n6 : Int) => Q (IV.bool (n6 == s)) h)))))
 (brS (s == (0 : Int)) (Q (IV.bool true) h)
 (needS (decide ((0 : Int) ≤ v) && decide (v < (↑(List.length vs + (1 : Nat)) : Int)))
 (hgetS h id fun (r7 : List IV) => ldIS IntKind.i64 r7 ((0 : Nat) + Int.toNat v * (1 : Nat)) fun (n8 : Int) => Q (IV.bool (n8 == s)) h))))))))))
 (brS (!opOk op) (Q (IV.bool false) h)
 (brS ((↑(List.length ks) : Int) != ar op) (Q (IV.bool false) h)
 (brS (s != (0 : Int))
 (brS (sort op != s) (Q (IV.bool false) h)
 (brS (decide (iv < (0 : Int))) (Q (IV.bool false) h)
 (brS (decide (iv > imms)) (Q (IV.bool false) h)
 (brS (decide (iv > (0 : Int)))
 (brS (im != (0 : Int)) (Q (IV.bool false) h)
 (brS (!hasImm op) (Q (IV.bool false) h)
 (brS (iv == (0 : Int))
 (brS (!vImm op im) (Q (IV.bool false) h)
 (some (TV.v (IV.hslice id (0 : Nat) (List.length vs + (1 : Nat)) (1 : Nat))) = some (TV.v (IV.hslice id (0 : Nat) (List.length vs + (1 : Nat)) (1 : Nat))) ∧
 some (TV.v (IV.int IntKind.i64 imms)) = some (TV.v (IV.int IntKind.i64 imms)) ∧
 some (TV.l (4 : Nat) (0 : Nat)) = some (TV.l (4 : Nat) (0 : Nat)) ∧
 some [IV.int IntKind.i64 v, IV.int IntKind.i64 op, IV.int IntKind.i64 im, IV.int IntKind.i64 iv, IV.vslice io e1 (List.length ks) (5 : Nat) (cTs ks)] =
 some [IV.int IntKind.i64 v, IV.int IntKind.i64 op, IV.int IntKind.i64 im, IV.int IntKind.i64 iv, IV.vslice io e1 (List.length ks) (5 : Nat) (cTs ks)] ∧
 h = h ∧ (v = (0 : Int) ∧ nodeOk op im iv (List.length ks) s imms) ∧ True))
 (some (TV.v (IV.hslice id (0 : Nat) (List.length vs + (1 : Nat)) (1 : Nat))) = some (TV.v (IV.hslice id (0 : Nat) (List.length vs + (1 : Nat)) (1 : Nat))) ∧
 some (TV.v (IV.int IntKind.i64 imms)) = some (TV.v (IV.int IntKind.i64 imms)) ∧
 some (TV.l (4 : Nat) (0 : Nat)) = some (TV.l (4 : Nat) (0 : Nat)) ∧
 some [IV.int IntKind.i64 v, IV.int IntKind.i64 op, IV.int IntKind.i64 im, IV.int IntKind.i64 iv, IV.vslice io e1 (List.length ks) (5 : Nat) (cTs ks)] =
 some [IV.int IntKind.i64 v, IV.int IntKind.i64 op, IV.int IntKind.i64 im, IV.int IntKind.i64 iv, IV.vslice io e1 (List.length ks) (5 : Nat) (cTs ks)] ∧
 h = h ∧ (v = (0 : Int) ∧ nodeOk op im iv (List.length ks) s imms) ∧ True))))
 (brS (iv == (0 : Int))
 (brS (!vImm op im) (Q (IV.bool false) h)
 (some (TV.v (IV.hslice id (0 : Nat) (List.length vs + (1 : Nat)) (1 : Nat))) = some (TV.v (IV.hslice id (0 : Nat) (List.length vs + (1 : Nat)) (1 : Nat))) ∧
 some (TV.v (IV.int IntKind.i64 imms)) = some (TV.v (IV.int IntKind.i64 imms)) ∧
 some (TV.l (4 : Nat) (0 : Nat)) = some (TV.l (4 : Nat) (0 : Nat)) ∧
 some [IV.int IntKind.i64 v, IV.int IntKind.i64 op, IV.int IntKind.i64 im, IV.int IntKind.i64 iv, IV.vslice io e1 (List.length ks) (5 : Nat) (cTs ks)] =
 some [IV.int IntKind.i64 v, IV.int IntKind.i64 op, IV.int IntKind.i64 im, IV.int IntKind.i64 iv, IV.vslice io e1 (List.length ks) (5 : Nat) (cTs ks)] ∧
 h = h ∧ (v = (0 : Int) ∧ nodeOk op im iv (List.length ks) s imms) ∧ True))
 (some (TV.v (IV.hslice id (0 : Nat) (List.length vs + (1 : Nat)) (1 : Nat))) = some (TV.v (IV.hslice id (0 : Nat) (List.length vs + (1 : Nat)) (1 : Nat))) ∧
 some (TV.v (IV.int IntKind.i64 imms)) = some (TV.v (IV.int IntKind.i64 imms)) ∧
 some (TV.l (4 : Nat) (0 : Nat)) = some (TV.l (4 : Nat) (0 : Nat)) ∧
 some [IV.int IntKind.i64 v, IV.int IntKind.i64 op, IV.int IntKind.i64 im, IV.int IntKind.i64 iv, IV.vslice io e1 (List.length ks) (5 : Nat) (cTs ks)] =
 some [IV.int IntKind.i64 v, IV.int IntKind.i64 op, IV.int IntKind.i64 im, IV.int IntKind.i64 iv, IV.vslice io e1 (List.length ks) (5 : Nat) (cTs ks)] ∧
 h = h ∧ (v = (0 : Int) ∧ nodeOk op im iv (List.length ks) s imms) ∧ True))))))
 (brS (decide (iv < (0 : Int))) (Q (IV.bool false) h)
 (brS (decide (iv > imms)) (Q (IV.bool false) h)
 (brS (decide (iv > (0 : Int)))
 (brS (im != (0 : Int)) (Q (IV.bool false) h)
 (brS (!hasImm op) (Q (IV.bool false) h)
 (brS (iv == (0 : Int))
 (brS (!vImm op im) (Q (IV.bool false) h)
 (some (TV.v (IV.hslice id (0 : Nat) (List.length vs + (1 : Nat)) (1 : Nat))) = some (TV.v (IV.hslice id (0 : Nat) (List.length vs + (1 : Nat)) (1 : Nat))) ∧
 some (TV.v (IV.int IntKind.i64 imms)) = some (TV.v (IV.int IntKind.i64 imms)) ∧
 some (TV.l (4 : Nat) (0 : Nat)) = some (TV.l (4 : Nat) (0 : Nat)) ∧
 some [IV.int IntKind.i64 v, IV.int IntKind.i64 op, IV.int IntKind.i64 im, IV.int IntKind.i64 iv, IV.vslice io e1 (List.length ks) (5 : Nat) (cTs ks)] =
 some [IV.int IntKind.i64 v, IV.int IntKind.i64 op, IV.int IntKind.i64 im, IV.int IntKind.i64 iv, IV.vslice io e1 (List.length ks) (5 : Nat) (cTs ks)] ∧
 h = h ∧ (v = (0 : Int) ∧ nodeOk op im iv (List.length ks) s imms) ∧ True))
 (some (TV.v (IV.hslice id (0 : Nat) (List.length vs + (1 : Nat)) (1 : Nat))) = some (TV.v (IV.hslice id (0 : Nat) (List.length vs + (1 : Nat)) (1 : Nat))) ∧
 some (TV.v (IV.int IntKind.i64 imms)) = some (TV.v (IV.int IntKind.i64 imms)) ∧
 some (TV.l (4 : Nat) (0 : Nat)) = some (TV.l (4 : Nat) (0 : Nat)) ∧
 some [IV.int IntKind.i64 v, IV.int IntKind.i64 op, IV.int IntKind.i64 im, IV.int IntKind.i64 iv, IV.vslice io e1 (List.length ks) (5 : Nat) (cTs ks)] =
 some [IV.int IntKind.i64 v, IV.int IntKind.i64 op, IV.int IntKind.i64 im, IV.int IntKind.i64 iv, IV.vslice io e1 (List.length ks) (5 : Nat) (cTs ks)] ∧
 h = h ∧ (v = (0 : Int) ∧ nodeOk op im iv (List.length ks) s imms) ∧ True))))
 (brS (iv == (0 : Int))
 (brS (!vImm op im) (Q (IV.bool false) h)
 (some (TV.v (IV.hslice id (0 : Nat) (List.length vs + (1 : Nat)) (1 : Nat))) = some (TV.v (IV.hslice id (0 : Nat) (List.length vs + (1 : Nat)) (1 : Nat))) ∧
 some (TV.v (IV.int IntKind.i64 imms)) = some (TV.v (IV.int IntKind.i64 imms)) ∧
 some (TV.l (4 : Nat) (0 : Nat)) = some (TV.l (4 : Nat) (0 : Nat)) ∧
 some [IV.int IntKind.i64 v, IV.int IntKind.i64 op, IV.int IntKind.i64 im, IV.int IntKind.i64 iv, IV.vslice io e1 (List.length ks) (5 : Nat) (cTs ks)] =
 some [IV.int IntKind.i64 v, IV.int IntKind.i64 op, IV.int IntKind.i64 im, IV.int IntKind.i64 iv, IV.vslice io e1 (List.length ks) (5 : Nat) (cTs ks)] ∧
 h = h ∧ (v = (0 : Int) ∧ nodeOk op im iv (List.length ks) s imms) ∧ True))
 (some (TV.v (IV.hslice id (0 : Nat) (List.length vs + (1 : Nat)) (1 : Nat))) = some (TV.v (IV.hslice id (0 : Nat) (List.length vs + (1 : Nat)) (1 : Nat))) ∧
 some (TV.v (IV.int IntKind.i64 imms)) = some (TV.v (IV.int IntKind.i64 imms)) ∧
 some (TV.l (4 : Nat) (0 : Nat)) = some (TV.l (4 : Nat) (0 : Nat)) ∧
 some [IV.int IntKind.i64 v, IV.int IntKind.i64 op, IV.int IntKind.i64 im, IV.int IntKind.i64 iv, IV.vslice io e1 (List.length ks) (5 : Nat) (cTs ks)] =
 some [IV.int IntKind.i64 v, IV.int IntKind.i64 op, IV.int IntKind.i64 im, IV.int IntKind.i64 iv, IV.vslice io e1 (List.length ks) (5 : Nat) (cTs ks)] ∧
 h = h ∧ (v = (0 : Int) ∧ nodeOk op im iv (List.length ks) s imms) ∧ True)))))))) ∧
 (∀ (x : Unit) (b : FF),
 v = (0 : Int) ∧ nodeOk op im iv (List.length ks) s imms →
 (∃ (x : Nat × List Int × Heap),
 some (TV.v (IV.hslice id (0 : Nat) (List.length vs + (1 : Nat)) (1 : Nat))) = some (TV.v (IV.hslice id (0 : Nat) (List.length vs + (1 : Nat)) (1 : Nat))) ∧
 some (TV.v (IV.int IntKind.i64 imms)) = some (TV.v (IV.int IntKind.i64 imms)) ∧
 some (TV.l (4 : Nat) (0 : Nat)) = some (TV.l (4 : Nat) (0 : Nat)) ∧
 some (TV.v (IV.int IntKind.i64 (0 : Int))) = some (TV.v (IV.int IntKind.i64 (↑(Prod.fst x) : Int))) ∧
 some [IV.int IntKind.i64 v, IV.int IntKind.i64 op, IV.int IntKind.i64 im, IV.int IntKind.i64 iv, IV.vslice io e1 (List.length ks) (5 : Nat) (cTs ks)] =
 some [IV.int IntKind.i64 v, IV.int IntKind.i64 op, IV.int IntKind.i64 im, IV.int IntKind.i64 iv, IV.vslice io e1 (List.length ks) (5 : Nat) (cTs ks)] ∧
 h = Prod.snd (Prod.snd x) ∧
 (Prod.fst x ≤ List.length ks ∧
 List.length (Prod.fst (Prod.snd x)) = List.length vs ∧
 Heap.get (Prod.snd (Prod.snd x)) id = IObj.cells (IV.int IntKind.i64 x0 :: List.map (IV.int IntKind.i64) (Prod.fst (Prod.snd x))) ∧
 valPs (List.drop (Prod.fst x) ks) (List.drop (Prod.fst x) (opk op)) imms (Prod.fst (Prod.snd x)) = valP (T.mk v op im iv ks) s imms vs ∧ List.length ks = List.length (opk op) ∧ opOk op = true) ∧
 True) ∧
 ∀ (x : Nat × List Int × Heap) (b : FF),
 Prod.fst x ≤ List.length ks ∧
 List.length (Prod.fst (Prod.snd x)) = List.length vs ∧
 Heap.get (Prod.snd (Prod.snd x)) id = IObj.cells (IV.int IntKind.i64 x0 :: List.map (IV.int IntKind.i64) (Prod.fst (Prod.snd x))) ∧
 valPs (List.drop (Prod.fst x) ks) (List.drop (Prod.fst x) (opk op)) imms (Prod.fst (Prod.snd x)) = valP (T.mk v op im iv ks) s imms vs ∧ List.length ks = List.length (opk op) ∧ opOk op = true →
 brS (decide ((↑(Prod.fst x) : Int) < (↑(List.length ks) : Int)))
 (needS (decide ((0 : Int) ≤ (↑(Prod.fst x) : Int)) && decide ((↑(Prod.fst x) : Int) < (↑(List.length ks) : Int)))
 (ldIS IntKind.i64 (cTs ks) (Int.toNat (↑(Prod.fst x) : Int) * (5 : Nat)) fun (n9 : Int) =>
 ldIS IntKind.i64 (cTs ks) (Int.toNat (↑(Prod.fst x) : Int) * (5 : Nat) + (1 : Nat)) fun (n10 : Int) =>
 ldIS IntKind.i64 (cTs ks) (Int.toNat (↑(Prod.fst x) : Int) * (5 : Nat) + (1 : Nat) + (1 : Nat)) fun (n11 : Int) =>
 ldIS IntKind.i64 (cTs ks) (Int.toNat (↑(Prod.fst x) : Int) * (5 : Nat) + (1 : Nat) + (1 : Nat) + (1 : Nat)) fun (n12 : Int) =>
 ldVS (5 : Nat) (cTs ks) (Int.toNat (↑(Prod.fst x) : Int) * (5 : Nat) + (1 : Nat) + (1 : Nat) + (1 : Nat) + (1 : Nat)) fun (i13 : Option Nat) (e14 l15 : Nat) (c16 : List IV) =>
 ∃ (ks_1 : List T),
 ∃ (x0_1 : Int),
 ∃ (vs_1 : List Int),
 (l15 = List.length ks_1 ∧ c16 = cTs ks_1) ∧
 (List.length vs + (1 : Nat) = List.length vs_1 + (1 : Nat) ∧ Heap.get (Prod.snd (Prod.snd x)) id = IObj.cells (IV.int IntKind.i64 x0_1 :: List.map (IV.int IntKind.i64) vs_1)) ∧
 (nums ks_1 < dd ∧ thins ks_1 ∧ List.length ks_1 ≤ (1000000000000000 : Nat) ∧ List.length vs_1 ≤ (1000 : Nat) ∧ (0 : Int) ≤ imms) ∧
 ∀ (h2 : Heap),
 Heap.get h2 id = IObj.cells (IV.int IntKind.i64 x0_1 :: List.map (IV.int IntKind.i64) (Prod.snd (valP (T.mk n9 n10 n11 n12 ks_1) (osort op (↑(Prod.fst x) : Int)) imms vs_1))) →
 brS (!Prod.fst (valP (T.mk n9 n10 n11 n12 ks_1) (osort op (↑(Prod.fst x) : Int)) imms vs_1)) (Q (IV.bool false) h2)
 (∃ (x_1 : Nat × List Int × Heap),
 some (TV.v (IV.hslice id (0 : Nat) (List.length vs + (1 : Nat)) (1 : Nat))) = some (TV.v (IV.hslice id (0 : Nat) (List.length vs + (1 : Nat)) (1 : Nat))) ∧
 some (TV.v (IV.int IntKind.i64 imms)) = some (TV.v (IV.int IntKind.i64 imms)) ∧
 some (TV.l (4 : Nat) (0 : Nat)) = some (TV.l (4 : Nat) (0 : Nat)) ∧
 some (TV.v (IV.int IntKind.i64 (IntKind.wrap IntKind.i64 ((↑(Prod.fst x) : Int) + (1 : Int))))) = some (TV.v (IV.int IntKind.i64 (↑(Prod.fst x_1) : Int))) ∧
 some [IV.int IntKind.i64 v, IV.int IntKind.i64 op, IV.int IntKind.i64 im, IV.int IntKind.i64 iv, IV.vslice io e1 (List.length ks) (5 : Nat) (cTs ks)] =
 some [IV.int IntKind.i64 v, IV.int IntKind.i64 op, IV.int IntKind.i64 im, IV.int IntKind.i64 iv, IV.vslice io e1 (List.length ks) (5 : Nat) (cTs ks)] ∧
 h2 = Prod.snd (Prod.snd x_1) ∧
 (Prod.fst x_1 ≤ List.length ks ∧
 List.length (Prod.fst (Prod.snd x_1)) = List.length vs ∧
 Heap.get (Prod.snd (Prod.snd x_1)) id = IObj.cells (IV.int IntKind.i64 x0 :: List.map (IV.int IntKind.i64) (Prod.fst (Prod.snd x_1))) ∧
 valPs (List.drop (Prod.fst x_1) ks) (List.drop (Prod.fst x_1) (opk op)) imms (Prod.fst (Prod.snd x_1)) = valP (T.mk v op im iv ks) s imms vs ∧
 List.length ks = List.length (opk op) ∧ opOk op = true) ∧
 List.length ks - Prod.fst x_1 < List.length ks - Prod.fst x)))
 (Q (IV.bool true) (Prod.snd (Prod.snd x)))) ∧
 True) := by kernel_rfl
set_option maxHeartbeats 2000000 in
theorem rFits : ∀ d xs h Q, kFits d xs h Q → CallW env 31 xs h Q := by
  intro d
  induction d with
  | zero =>
    intro xs h Q hk
    unfold kFits at hk
    split at hk
    · rename_i v op im iv io e1 n1 c1 s id n imms
      obtain ⟨ks, x0, vs, ⟨rfl, rfl⟩, ⟨rfl, hg⟩, hb, hk⟩ := hk
      skip
      omega
    · exact hk.elim
  | succ dd ih =>
    intro xs h Q hk
    unfold kFits at hk
    split at hk
    · rename_i v op im iv io e1 n1 c1 s id n imms
      obtain ⟨ks, x0, vs, ⟨rfl, rfl⟩, ⟨rfl, hg⟩, hb, hk⟩ := hk
      refine dF_run (sound_add ih (okValid)) (vFits dd v op im iv ks io e1 s imms id x0 vs h Q) ?_
      have fin : ∀ (b : Bool) (vs2 : List Int) (g : Heap), valP (.mk v op im iv ks) s imms vs = (b, vs2) → g.get id = .cells (.int .i64 x0 :: vs2.map (IV.int .i64)) → Q (.bool b) g := by
        intro b vs2 g e1 e2
        rw [e1] at hk
        exact hk g e2
      have hks : ∀ i (h : i < ks.length), nums ks[i].ks < dd ∧ thins ks[i].ks ∧ ks[i].ks.length ≤ 1000000000000000 := fun i hi => by
        have h1 := num_lt (List.getElem_mem hi)
        have h2 := thin_ks (thin_kid hb.2.1 (List.getElem_mem hi))
        refine ⟨?_, h2.2, h2.1⟩
        generalize ks[i] = t at *
        cases t
        simp only [T.num, T.ks] at *
        omega
      have bad : v ≠ 0 → badVar v op im iv ks.length vs.length → Q (.bool false) h := fun h1 h2 => fin false vs h (valP_bad h1 h2) hg
      have no : v = 0 → ¬ nodeOk op im iv ks.length s imms → Q (.bool false) h := fun h1 h2 => fin false vs h (valP_no h1 h2) hg
      have eta : ∀ t : T, T.mk t.v t.op t.im t.iv t.ks = t := fun t => by cases t; rfl
      obtain ⟨hb1, hb2, hb3, hb4, hb5⟩ := hb
      refine ⟨brS_intro (fun cv => ?_) (fun cv => ?_), ?_, trivial⟩
      · have cv : v ≠ 0 := bne_iff_ne.1 cv
        refine brS_intro (fun c => bad cv (.inl (of_decide_eq_true c))) (fun c1 => brS_intro (fun c => bad cv (.inr (.inl (by rw [decide_eq_true_eq] at c; omega)))) (fun c2 => brS_intro (fun c => bad cv (.inr (.inr (.inl (bne_iff_ne.1 c))))) (fun c3 =>
          brS_intro (fun c => bad cv (.inr (.inr (.inr (.inl (bne_iff_ne.1 c)))))) (fun c4 => brS_intro (fun c => bad cv (.inr (.inr (.inr (.inr (.inl (bne_iff_ne.1 c))))))) (fun c5 => brS_intro (fun c => bad cv (.inr (.inr (.inr (.inr (.inr (by have := bne_iff_ne.1 c; omega))))))) (fun c6 => ?_))))))
        have nb : ¬ badVar v op im iv ks.length vs.length := by
          simp only [decide_eq_false_iff_not, bne_eq_false_iff_eq] at c1 c2 c3 c4 c5 c6
          unfold badVar
          omega
        have hr : 1 ≤ v ∧ v ≤ vs.length := by unfold badVar at nb; omega
        have hlt : (v - 1).toNat < vs.length := by omega
        have hvn : v.toNat = (v - 1).toNat + 1 := by omega
        have hgd : vs.getD (v - 1).toNat 0 = vs[(v - 1).toNat] := by rw [List.getD_eq_getElem?_getD, List.getElem?_eq_getElem hlt]; rfl
        have ld : ∀ {ws : List Int} {K : Int → Prop} (hw : (v - 1).toNat < ws.length), K ws[(v - 1).toNat] → ldIS .i64 (.int .i64 x0 :: ws.map (IV.int .i64)) v.toNat K := by
          intro ws K hw hk
          unfold ldIS
          rw [hvn, List.getElem?_cons_succ, List.getElem?_map, List.getElem?_eq_getElem hw]
          exact hk
        have hset : List.take v.toNat (IV.int .i64 x0 :: vs.map (IV.int .i64)) ++ [IV.int .i64 s] ++ List.drop (v.toNat + 1) (IV.int .i64 x0 :: vs.map (IV.int .i64)) = IV.int .i64 x0 :: (vs.set (v - 1).toNat s).map (IV.int .i64) := by
          rw [hvn, List.set_eq_take_append_cons_drop, if_pos hlt]
          simp [List.map_take, List.map_drop]
        have old := valP_old (s := s) (imms := imms) cv nb
        have new := valP_new (s := s) (imms := imms) cv nb
        rw [hgd] at old new
        have zero : s = 0 → Q (.bool true) h := fun e => by
          by_cases h0 : vs[(v - 1).toNat] = 0
          · refine fin true vs h ?_ hg
            rw [new h0, e, set_same (by rw [hgd, h0]) hlt]
          · refine fin true vs h ?_ hg
            rw [old h0, decide_eq_true (.inl e)]
        simp only [Nat.zero_add, Nat.mul_one]
        have nd : (decide (0 ≤ v) && decide (v < ((vs.length + 1 : Nat) : Int))) = true := by simp; omega
        refine brS_intro (fun d1 => needS_intro nd (hget_intro hg (ld hlt (brS_intro (fun d2 => needS_intro nd (hget_intro hg (needS_intro (by rw [Nat.ble_eq, List.length_cons, List.length_map]; omega) (brS_intro (fun d3 => absurd (beq_iff_eq.1 d3) (bne_iff_ne.1 d1)) (fun d3 => needS_intro nd (hget_intro ((get_set_eq (h := h)).trans (by rw [hset])) (ld (by simpa using hlt) ?_))))))) (fun d2 => brS_intro (fun d3 => absurd (beq_iff_eq.1 d3) (bne_iff_ne.1 d1)) (fun d3 => needS_intro nd (hget_intro hg (ld hlt ?_)))))))) (fun d1 => brS_intro (fun d3 => zero (beq_iff_eq.1 d3)) (fun d3 => absurd (bne_eq_false_iff_eq.1 d1) (by simpa using d3)))
        · rw [hset]
          refine fin _ (vs.set (v - 1).toNat s) _ ?_ (get_set_eq (h := h))
          rw [new (by simpa using d2)]
          simp
        · refine fin _ vs h ?_ hg
          rw [old (by simpa using d2)]
          simp only [Prod.mk.injEq, and_true]
          rw [bne_iff_ne] at d1
          rw [Bool.eq_iff_iff, beq_iff_eq, decide_eq_true_eq]
          exact ⟨fun e => (e.resolve_left d1).symm, fun e => .inr e.symm⟩
      · have cv : v = 0 := by simpa using cv
        clear hk ih hks
        repeat' refine brS_intro (fun _ => ?_) (fun _ => ?_)
        all_goals simp only [bne_iff_ne, bne_eq_false_iff_eq, beq_iff_eq, beq_eq_false_iff_ne, decide_eq_true_eq, decide_eq_false_iff_not, Bool.not_eq_true', Bool.not_eq_false'] at *
        all_goals first
          | (refine no cv (fun hn => ?_); rw [nodeOk_iff hb5] at hn; grind)
          | (refine ⟨trivial, trivial, trivial, trivial, trivial, ⟨cv, (nodeOk_iff hb5).2 ?_⟩, trivial⟩; grind)
      · rintro _ _ ⟨cv, hn⟩
        refine ⟨⟨(0, vs, h), ?_⟩, ?_⟩
        · repeat (refine And.intro (by first | rfl | exact True.intro) ?_)
          refine ⟨⟨Nat.zero_le _, rfl, hg, ?_, hn.2.1, hn.1⟩, trivial⟩
          rw [valP_node cv hn]
          rfl
        · rintro ⟨i, ws, g⟩ _ ⟨hi, hwl, hgw, hv, hl, hop⟩
          simp only at hi hwl hgw hv hl hop ⊢
          refine brS_intro (fun c => ?_) (fun c => ?_)
          · rw [decide_eq_true_eq] at c
            have hlt : i < ks.length := by omega
            have hlq : i < (opk op).length := by omega
            rw [opk_at hop hlq]
            simp only [Int.toNat_natCast]
            refine needS_intro (by simp; omega) (ldT hlt rfl ?_)
            obtain ⟨k1, k2, k3⟩ := hks i hlt
            refine ⟨ks[i].ks, x0, ws, ⟨rfl, rfl⟩, ⟨by omega, hgw⟩, ⟨k1, k2, k3, by omega, hb5⟩, fun h2 hg2 => ?_⟩
            rw [eta] at hg2 ⊢
            rw [valPs_step hlt hlq] at hv
            have hlen := valP_len ks[i] (opk op)[i] imms ws
            generalize valP ks[i] (opk op)[i] imms ws = r at *
            obtain ⟨b, ws2⟩ := r
            cases b with
            | false => exact fin false ws2 h2 hv.symm hg2
            | true =>
              refine brS_intro (fun c => by cases c) (fun _ => ⟨(i + 1, ws2, h2), ?_⟩)
              simp only at hv hlen hg2 ⊢
              repeat (refine And.intro (by first | rfl | exact True.intro) ?_)
              refine ⟨by rw [IntWalk.i64_in _ (by omega)]; rfl, ?_⟩
              repeat (refine And.intro (by first | rfl | exact True.intro) ?_)
              exact ⟨⟨hlt, by omega, hg2, hv, hl, hop⟩, by omega⟩
          · rw [decide_eq_false_iff_not] at c
            rw [valPs_end (by omega)] at hv
            exact fin true ws g hv.symm hgw
    · exact hk.elim
def cFits := addC 31 (fun xs h K => ∃ d, kFits d xs h K) cValid
theorem okFits : Sound env cFits := sound_add (fun xs h Q hk => hk.elim fun d hk => rFits d xs h Q hk) (okValid)

def kRValid (xs : List IV) (h : Heap) (K : IV → Heap → Prop) : Prop := match xs with
  | [.agg [.int .i64 v, .int .i64 op, .int .i64 im, .int .i64 iv, .vslice none e1 n1 5 c1], .int .i64 vars, .int .i64 imms] => ∃ ks : List T, (n1 = ks.length ∧ c1 = cTs ks) ∧ (thins ks ∧ ks.length ≤ 1000000000000000) ∧ K (.bool (valB (.mk v op im iv ks) vars imms)) h
  | _ => False
set_option maxRecDepth 100000 in
theorem vRValid (v op im iv vars imms : Int) (ks : List T) (e1 : Nat) (h : Heap) (Q : IV → Heap → Prop) : dF (stdS cFits) env 13 noU noI noI [.agg [.int .i64 v, .int .i64 op, .int .i64 im, .int .i64 iv, .vslice none e1 (ks).length 5 (cTs ks)], .int .i64 vars, .int .i64 imms] h Q = (
  needS (pureL [IV.agg [IV.int IntKind.i64 v, IV.int IntKind.i64 op, IV.int IntKind.i64 im, IV.int IntKind.i64 iv, IV.vslice none (0 : Nat) (List.length ks) (5 : Nat) (cTs ks)], IV.int IntKind.i64 vars, IV.int IntKind.i64 imms])
 (brS (decide (vars < (0 : Int))) (Q (IV.bool false) h)
 (brS (decide (vars > (6 : Int))) (Q (IV.bool false) h)
 (brS (decide (imms < (0 : Int))) (Q (IV.bool false) h)
 (brS (decide (imms > (6 : Int))) (Q (IV.bool false) h)
 (needS
 (decide ((0 : Int) ≤ IntKind.wrap IntKind.i64 (vars + (1 : Int))) &&
 (decide (IntKind.wrap IntKind.i64 (vars + (1 : Int)) ≤ IntKind.wrap IntKind.i64 (vars + (1 : Int))) &&
 (decide (IntKind.wrap IntKind.i64 (vars + (1 : Int)) ≤ (9223372036854775807 : Int)) && decide ((8 : Int) * IntKind.wrap IntKind.i64 (vars + (1 : Int)) ≤ (140737488355328 : Int)))))
 (∃ (d : Nat),
 ∃ (ks_1 : List T),
 ∃ (x0 : Int),
 ∃ (vs : List Int),
 (List.length ks = List.length ks_1 ∧ cTs ks = cTs ks_1) ∧
 (Int.toNat (IntKind.wrap IntKind.i64 (vars + (1 : Int))) = List.length vs + (1 : Nat) ∧
 IObj.cells (repl (Int.toNat (IntKind.wrap IntKind.i64 (vars + (1 : Int)))) [IV.int IntKind.i64 (0 : Int)]) = IObj.cells (IV.int IntKind.i64 x0 :: List.map (IV.int IntKind.i64) vs)) ∧
 (nums ks_1 < d ∧ thins ks_1 ∧ List.length ks_1 ≤ (1000000000000000 : Nat) ∧ List.length vs ≤ (1000 : Nat) ∧ (0 : Int) ≤ imms) ∧
 ∀ (h2 : Heap),
 Heap.get h2 (0 : Nat) = IObj.cells (IV.int IntKind.i64 x0 :: List.map (IV.int IntKind.i64) (Prod.snd (valP (T.mk v op im iv ks_1) (0 : Int) imms vs))) →
 brS (Prod.fst (valP (T.mk v op im iv ks_1) (0 : Int) imms vs))
 (∃ (d : Nat),
 ∃ (ks_2 : List T),
 (List.length ks = List.length ks_2 ∧ cTs ks = cTs ks_2) ∧ (nums ks_2 < d ∧ thins ks_2 ∧ List.length ks_2 ≤ (1000000000000000 : Nat)) ∧ Q (IV.bool (decide (sizes (1 : Int) ks_2 ≤ (24 : Int)))) h)
 (Q (IV.bool false) h)))))))) := by kernel_rfl
set_option maxHeartbeats 2000000 in
theorem sRValid : ∀ xs h Q, kRValid xs h Q → CallW env 13 xs h Q := by
  intro xs h Q hk
  unfold kRValid at hk
  split at hk
  · rename_i v op im iv e1 n1 c1 vars imms
    obtain ⟨ks, ⟨rfl, rfl⟩, hb, hk⟩ := hk
    refine dF_run (okFits) (vRValid v op im iv vars imms ks e1 h Q) ?_
    obtain ⟨h1, h2⟩ := hb
    have pre : ∀ b, (0 ≤ vars ∧ vars ≤ 6 ∧ 0 ≤ imms ∧ imms ≤ 6 → b = (decide ((T.mk v op im iv ks).size ≤ 24) && (valP (.mk v op im iv ks) 0 imms (List.replicate vars.toNat 0)).1)) → (¬ (0 ≤ vars ∧ vars ≤ 6 ∧ 0 ≤ imms ∧ imms ≤ 6) → b = false) → Q (.bool b) h := by
      intro b e1 e2
      have e : b = valB (.mk v op im iv ks) vars imms := by
        unfold valB
        by_cases c : 0 ≤ vars ∧ vars ≤ 6 ∧ 0 ≤ imms ∧ imms ≤ 6
        · rw [e1 c, decide_eq_true c, Bool.true_and]
        · rw [e2 c, decide_eq_false c, Bool.false_and]
      rw [e]
      exact hk
    have hsz : (T.mk v op im iv ks).size = sizes 1 ks := rfl
    have no : ¬ (0 ≤ vars ∧ vars ≤ 6 ∧ 0 ≤ imms ∧ imms ≤ 6) → Q (.bool false) h := fun c => pre false (fun e => absurd e c) (fun _ => rfl)
    refine needS_intro (by simp only [pureL, pureB, pureL_cTs, Bool.and_true]) (brS_intro (fun c => no (by rw [decide_eq_true_eq] at c; omega)) (fun c1 => brS_intro (fun c => no (by rw [decide_eq_true_eq] at c; omega)) (fun c2 => brS_intro (fun c => no (by rw [decide_eq_true_eq] at c; omega)) (fun c3 => brS_intro (fun c => no (by rw [decide_eq_true_eq] at c; omega)) (fun c4 => ?_)))))
    rw [decide_eq_false_iff_not] at c1 c2 c3 c4
    have hr : 0 ≤ vars ∧ vars ≤ 6 ∧ 0 ≤ imms ∧ imms ≤ 6 := by omega
    have hw : IntKind.i64.wrap (vars + 1) = vars + 1 := IntWalk.i64_in _ (by omega)
    have hn : (vars + 1).toNat = vars.toNat + 1 := by omega
    rw [hw, hn]
    refine needS_intro (by simp; omega) ⟨nums ks + 1, ks, 0, List.replicate vars.toNat 0, ⟨rfl, rfl⟩, ⟨by simp, by rw [repl_zero]; rfl⟩, ⟨Nat.lt_succ_self _, h1, h2, by simp; omega, hr.2.2.1⟩, fun h3 _ => brS_intro (fun c => ⟨nums ks + 1, ks, ⟨rfl, rfl⟩, ⟨Nat.lt_succ_self _, h1, h2⟩, pre _ (fun _ => ?_) (fun e => absurd hr e)⟩) (fun c => pre false (fun _ => ?_) (fun _ => rfl))⟩
    · rw [hsz, c, Bool.and_true]
    · rw [c, Bool.and_false]
  · exact hk.elim
def cRValid := addC 13 kRValid cFits
theorem okRValid : Sound env cRValid := sound_add sRValid (okFits)

end Go.Proofs.Ytmfnadojephcpaa
