/-
  Sorts of nodes with loops: what the reference computes.
  Conditions: none.
-/
import Derived.Test.YthoehkkoaegeoaaEnv10
import Derived.Test.YthoehkkoaegeoaaM13
import Derived.Test.YthoehkkoaegeoaaV10
import Derived.Test.YthoehkkoaegeoaaG10
import Derived.KernelRfl
set_option linter.unusedVariables false
set_option linter.unusedSimpArgs false
namespace Go.Proofs.Ythoehkkoaegeoaa
open Go.Pv Go.M15 Go.M10

theorem ldNk {l : List Nd} {i o : Nat} {K : Option Nat → Nat → Nat → List IV → Prop} (h : i < l.length) (ho : o = i * 3 + 2) (hk : K none 0 l[i].ks.length (l[i].ks.map (IV.int .i64))) : ldVS 1 (l.flatMap cN) o K := by
  subst ho
  have e2 := cN_at (j := 2) h (by omega)
  unfold ldVS
  simp only [e2]
  exact hk
theorem cN_take : ∀ {l : List Nd} {n : Nat}, (l.flatMap cN).take (n * 3) = (l.take n).flatMap cN
  | [], n => by simp
  | x :: l, 0 => by simp
  | x :: l, n + 1 => by
    rw [List.flatMap_cons, List.take_succ_cons, List.flatMap_cons, List.take_append, show (n + 1) * 3 - (cN x).length = n * 3 by show (n + 1) * 3 - 3 = _; omega, cN_take, List.take_of_length_le (by show 3 ≤ _; omega)]
theorem ldI1 {k : IntKind} {l : List Int} {i o : Nat} {K : Int → Prop} (h : i < l.length) (ho : o = i) (hk : K l[i]) : ldIS k (l.map (IV.int k)) o K := by
  subst ho
  exact ldIS_map h hk
def kPick (xs : List IV) (h : Heap) (K : IV → Heap → Prop) : Prop := match xs with
  | [.int .i64 n, .int .i64 m] => (0 < m ∧ m < 4611686018427387904) ∧ K (.int .i64 (n % m)) h
  | _ => False
set_option maxRecDepth 100000 in
theorem vPick (n m : Int) (h : Heap) (Q : IV → Heap → Prop) : dF (stdS noC) env 9 noU noI noI [.int .i64 n, .int .i64 m] h Q = (
  needS (!m == (0 : Int)) (brS (decide (Int.tmod n m < (0 : Int))) (Q (IV.int IntKind.i64 (IntKind.wrap IntKind.i64 (Int.tmod n m + m))) h) (Q (IV.int IntKind.i64 (Int.tmod n m)) h))) := by kernel_rfl
theorem sPick : ∀ xs h Q, kPick xs h Q → CallW env 9 xs h Q := by
  intro xs h Q hk
  unfold kPick at hk
  split at hk
  · rename_i n m
    refine dF_run (sound_no env) (vPick n m h Q) ?_
    obtain ⟨hm, hk⟩ := hk
    have h1 := Int.emod_emod_of_dvd n (Int.dvd_refl m)
    have ht := Go.M13.tmod_cases n m hm.1
    refine needS_intro (by simp; omega) (brS_intro (fun hc => q_eq hk ?_) (fun hc => q_eq hk ?_))
    · simp only [decide_eq_true_eq] at hc; rw [IntWalk.i64_in _ (by omega)]; congr 1; omega
    · simp only [decide_eq_false_iff_not] at hc; congr 1; omega
  · exact hk.elim
def cPick := addC 9 kPick noC
theorem okPick : Sound env cPick := sound_add sPick (sound_no env)

def kArity (xs : List IV) (h : Heap) (K : IV → Heap → Prop) : Prop := match xs with
  | [.int .i64 op] => K (.tuple [.int .i64 (ar op), .bool (arOk op)]) h
  | _ => False
set_option maxRecDepth 100000 in
theorem vArity (op : Int) (h : Heap) (Q : IV → Heap → Prop) : dF (stdS cPick) env 15 noU noI noI [.int .i64 op] h Q = (
  brS (op == (1 : Int)) (Q (IV.tuple [IV.int IntKind.i64 (0 : Int), IV.bool true]) h)
 (brS (op == (2 : Int)) (Q (IV.tuple [IV.int IntKind.i64 (0 : Int), IV.bool true]) h)
 (brS (op == (3 : Int)) (Q (IV.tuple [IV.int IntKind.i64 (0 : Int), IV.bool true]) h)
 (brS (op == (26 : Int)) (Q (IV.tuple [IV.int IntKind.i64 (0 : Int), IV.bool true]) h)
 (brS (op == (20 : Int)) (Q (IV.tuple [IV.int IntKind.i64 (1 : Int), IV.bool true]) h)
 (brS (op == (21 : Int)) (Q (IV.tuple [IV.int IntKind.i64 (1 : Int), IV.bool true]) h)
 (brS (op == (24 : Int)) (Q (IV.tuple [IV.int IntKind.i64 (1 : Int), IV.bool true]) h)
 (brS (op == (25 : Int)) (Q (IV.tuple [IV.int IntKind.i64 (1 : Int), IV.bool true]) h)
 (brS (decide (op ≥ (4 : Int)))
 (brS (decide (op ≤ (19 : Int))) (Q (IV.tuple [IV.int IntKind.i64 (2 : Int), IV.bool true]) h)
 (brS (op == (23 : Int)) (Q (IV.tuple [IV.int IntKind.i64 (2 : Int), IV.bool true]) h)
 (brS (op == (27 : Int)) (Q (IV.tuple [IV.int IntKind.i64 (2 : Int), IV.bool true]) h)
 (brS (op == (29 : Int)) (Q (IV.tuple [IV.int IntKind.i64 (2 : Int), IV.bool true]) h)
 (brS (op == (22 : Int)) (Q (IV.tuple [IV.int IntKind.i64 (3 : Int), IV.bool true]) h)
 (brS (op == (28 : Int)) (Q (IV.tuple [IV.int IntKind.i64 (3 : Int), IV.bool true]) h)
 (brS (op == (30 : Int)) (Q (IV.tuple [IV.int IntKind.i64 (-1 : Int), IV.bool true]) h)
 (brS (op == (31 : Int)) (Q (IV.tuple [IV.int IntKind.i64 (-1 : Int), IV.bool true]) h) (Q (IV.tuple [IV.int IntKind.i64 (0 : Int), IV.bool false]) h)))))))))
 (brS (op == (23 : Int)) (Q (IV.tuple [IV.int IntKind.i64 (2 : Int), IV.bool true]) h)
 (brS (op == (27 : Int)) (Q (IV.tuple [IV.int IntKind.i64 (2 : Int), IV.bool true]) h)
 (brS (op == (29 : Int)) (Q (IV.tuple [IV.int IntKind.i64 (2 : Int), IV.bool true]) h)
 (brS (op == (22 : Int)) (Q (IV.tuple [IV.int IntKind.i64 (3 : Int), IV.bool true]) h)
 (brS (op == (28 : Int)) (Q (IV.tuple [IV.int IntKind.i64 (3 : Int), IV.bool true]) h)
 (brS (op == (30 : Int)) (Q (IV.tuple [IV.int IntKind.i64 (-1 : Int), IV.bool true]) h)
 (brS (op == (31 : Int)) (Q (IV.tuple [IV.int IntKind.i64 (-1 : Int), IV.bool true]) h) (Q (IV.tuple [IV.int IntKind.i64 (0 : Int), IV.bool false]) h))))))))))))))))) := by kernel_rfl
set_option maxHeartbeats 2000000 in
theorem sArity : ∀ xs h Q, kArity xs h Q → CallW env 15 xs h Q := by
  intro xs h Q hk
  unfold kArity at hk
  split at hk
  · rename_i op
    refine dF_run (okPick) (vArity op h Q) ?_
    repeat' (first | refine needS_intro ?_ ?_ | refine brS_intro (fun _ => ?_) (fun _ => ?_) | refine And.intro ?_ ?_)
    all_goals first | assumption | omega | (refine q_eq hk ?_; simp only [IV.agg.injEq, IV.tuple.injEq, IV.int.injEq, IV.bool.injEq, List.cons.injEq, true_and, and_true]; grind [ar, arOk])
  · exact hk.elim
def cArity := addC 15 kArity cPick
theorem okArity : Sound env cArity := sound_add sArity (okPick)

def kMaxImm (xs : List IV) (h : Heap) (K : IV → Heap → Prop) : Prop := match xs with
  | [.int .i64 op] => K (.int .i64 (mxI op)) h
  | _ => False
set_option maxRecDepth 100000 in
theorem vMaxImm (op : Int) (h : Heap) (Q : IV → Heap → Prop) : dF (stdS cArity) env 51 noU noI noI [.int .i64 op] h Q = (
  brS (op == (2 : Int)) (Q (IV.int IntKind.i64 (5 : Int)) h)
 (brS (op == (3 : Int)) (Q (IV.int IntKind.i64 (255 : Int)) h)
 (brS (op == (23 : Int)) (Q (IV.int IntKind.i64 (3 : Int)) h)
 (brS (op == (28 : Int)) (Q (IV.int IntKind.i64 (3 : Int)) h)
 (brS (op == (27 : Int)) (Q (IV.int IntKind.i64 (1000016 : Int)) h)
 (brS (op == (30 : Int)) (Q (IV.int IntKind.i64 (7 : Int)) h) (brS (op == (31 : Int)) (Q (IV.int IntKind.i64 (15 : Int)) h) (brS (op == (25 : Int)) (Q (IV.int IntKind.i64 (15 : Int)) h) (Q (IV.int IntKind.i64 (-1 : Int)) h))))))))) := by kernel_rfl
theorem sMaxImm : ∀ xs h Q, kMaxImm xs h Q → CallW env 51 xs h Q := by
  intro xs h Q hk
  unfold kMaxImm at hk
  split at hk
  · rename_i op
    refine dF_run (okArity) (vMaxImm op h Q) ?_
    repeat' (first | refine needS_intro ?_ ?_ | refine brS_intro (fun _ => ?_) (fun _ => ?_) | refine And.intro ?_ ?_)
    all_goals first | assumption | omega | (refine q_eq hk ?_; simp only [IV.agg.injEq, IV.tuple.injEq, IV.int.injEq, IV.bool.injEq, List.cons.injEq, true_and, and_true]; grind [mxI])
  · exact hk.elim
def cMaxImm := addC 51 kMaxImm cArity
theorem okMaxImm : Sound env cMaxImm := sound_add sMaxImm (okArity)

def kRVImm (xs : List IV) (h : Heap) (K : IV → Heap → Prop) : Prop := match xs with
  | [.int .i64 op, .int .i64 n] => K (.bool (vImm op n)) h
  | _ => False
set_option maxRecDepth 100000 in
theorem vRVImm (op n : Int) (h : Heap) (Q : IV → Heap → Prop) : dF (stdS cMaxImm) env 46 noU noI noI [.int .i64 op, .int .i64 n] h Q = (
  brS (op == (1 : Int)) (Q (IV.bool true) h)
 (brS (decide (mxI op < (0 : Int))) (Q (IV.bool (n == (0 : Int))) h)
 (brS (decide (n ≥ (0 : Int))) (brS (decide (n ≤ mxI op)) (brS (op != (27 : Int)) (Q (IV.bool true) h) (Q (IV.bool (decide (n > (0 : Int)))) h)) (Q (IV.bool false) h)) (Q (IV.bool false) h)))) := by kernel_rfl
theorem sRVImm : ∀ xs h Q, kRVImm xs h Q → CallW env 46 xs h Q := by
  intro xs h Q hk
  unfold kRVImm at hk
  split at hk
  · rename_i op n
    refine dF_run (okMaxImm) (vRVImm op n h Q) ?_
    repeat' (first | refine needS_intro ?_ ?_ | refine brS_intro (fun _ => ?_) (fun _ => ?_) | refine And.intro ?_ ?_)
    all_goals first | assumption | omega | (refine q_eq hk ?_; simp only [IV.agg.injEq, IV.tuple.injEq, IV.int.injEq, IV.bool.injEq, List.cons.injEq, true_and, and_true]; grind [vImm])
  · exact hk.elim
def cRVImm := addC 46 kRVImm cMaxImm
theorem okRVImm : Sound env cRVImm := sound_add sRVImm (okMaxImm)

def kSortIf (xs : List IV) (h : Heap) (K : IV → Heap → Prop) : Prop := match xs with
  | [.bool b, .int .i64 n] => K (.int .i64 (if b = true then n else 0)) h
  | _ => False
set_option maxRecDepth 100000 in
theorem vSortIf (b : Bool) (n : Int) (h : Heap) (Q : IV → Heap → Prop) : dF (stdS cRVImm) env 47 noU noI noI [.bool b, .int .i64 n] h Q = (
  brS b (Q (IV.int IntKind.i64 n) h) (Q (IV.int IntKind.i64 (0 : Int)) h)) := by kernel_rfl
theorem sSortIf : ∀ xs h Q, kSortIf xs h Q → CallW env 47 xs h Q := by
  intro xs h Q hk
  unfold kSortIf at hk
  split at hk
  · rename_i b n
    refine dF_run (okRVImm) (vSortIf b n h Q) ?_
    refine brS_intro (fun c => ?_) (fun c => ?_)
    · rw [if_pos c] at hk
      exact hk
    · rw [if_neg (by rw [c]; exact Bool.false_ne_true)] at hk
      exact hk
  · exact hk.elim
def cSortIf := addC 47 kSortIf cRVImm
theorem okSortIf : Sound env cSortIf := sound_add sSortIf (okRVImm)

def avInv (k : List Int) : Inv' := atX Nat (fun i => [(0, .v (.vslice none 0 (k).length 1 ((k).map (IV.int .i64)))), (3, .v (.int .i64 i))]) (fun _ => []) (fun _ => Heap.empty)
  (fun i => i ≤ k.length ∧ (k.drop i).all (fun x => decide (x = 1)) = k.all (fun x => decide (x = 1))) (fun i => k.length - i)
def kAllV (xs : List IV) (h : Heap) (K : IV → Heap → Prop) : Prop := match xs with
  | [.vslice none e1 n1 1 c1] => ∃ k : List Int, (n1 = k.length ∧ c1 = k.map (IV.int .i64)) ∧ k.length ≤ 1000000000 ∧ K (.bool (k.all fun x => decide (x = 1))) h
  | _ => False
set_option maxRecDepth 100000 in
theorem vAllV (k : List Int) (e1 : Nat) (h : Heap) (Q : IV → Heap → Prop) : dF (stdS cSortIf) env 48 noU (ic1 3 (avInv k)) noI [.vslice none e1 (k).length 1 ((k).map (IV.int .i64))] h Q = (
  needS (pureL [IV.vslice none (0 : Nat) (List.length k) (1 : Nat) (List.map (IV.int IntKind.i64) k)])
 ((∃ (x : Nat),
 some (TV.v (IV.vslice none (0 : Nat) (List.length k) (1 : Nat) (List.map (IV.int IntKind.i64) k))) = some (TV.v (IV.vslice none (0 : Nat) (List.length k) (1 : Nat) (List.map (IV.int IntKind.i64) k))) ∧
 some (TV.v (IV.int IntKind.i64 (0 : Int))) = some (TV.v (IV.int IntKind.i64 (↑x : Int))) ∧
 Heap.mk PT.nil (0 : Nat) = Heap.mk PT.nil (0 : Nat) ∧ (x ≤ List.length k ∧ (List.all (List.drop x k) fun (x : Int) => decide (x = (1 : Int))) = List.all k fun (x : Int) => decide (x = (1 : Int))) ∧ True) ∧
 ∀ (x : Nat) (b : FF),
 (x ≤ List.length k ∧ (List.all (List.drop x k) fun (x : Int) => decide (x = (1 : Int))) = List.all k fun (x : Int) => decide (x = (1 : Int))) →
 brS (decide ((↑x : Int) < (↑(List.length k) : Int)))
 (needS (decide ((0 : Int) ≤ (↑x : Int)) && decide ((↑x : Int) < (↑(List.length k) : Int)))
 (ldIS IntKind.i64 (List.map (IV.int IntKind.i64) k) (Int.toNat (↑x : Int) * (1 : Nat)) fun (n0 : Int) =>
 brS (n0 != (1 : Int)) (Q (IV.bool false) h)
 (∃ (x_1 : Nat),
 some (TV.v (IV.vslice none (0 : Nat) (List.length k) (1 : Nat) (List.map (IV.int IntKind.i64) k))) = some (TV.v (IV.vslice none (0 : Nat) (List.length k) (1 : Nat) (List.map (IV.int IntKind.i64) k))) ∧
 some (TV.v (IV.int IntKind.i64 (IntKind.wrap IntKind.i64 ((↑x : Int) + (1 : Int))))) = some (TV.v (IV.int IntKind.i64 (↑x_1 : Int))) ∧
 Heap.mk PT.nil (0 : Nat) = Heap.mk PT.nil (0 : Nat) ∧
 (x_1 ≤ List.length k ∧ (List.all (List.drop x_1 k) fun (x : Int) => decide (x = (1 : Int))) = List.all k fun (x : Int) => decide (x = (1 : Int))) ∧ List.length k - x_1 < List.length k - x)))
 (Q (IV.bool true) h))) := by kernel_rfl
set_option maxHeartbeats 1000000 in
theorem sAllV : ∀ xs h Q, kAllV xs h Q → CallW env 48 xs h Q := by
  intro xs h Q hk
  unfold kAllV at hk
  split at hk
  · rename_i e1 n1 c1
    obtain ⟨k, ⟨rfl, rfl⟩, hb, hk⟩ := hk
    refine dF_run (okSortIf) (vAllV k e1 h Q) ?_
    have tn : ∀ x : Nat, (x : Int).toNat = x := Int.toNat_natCast
    refine needS_intro (by simp only [pureL, pureB, pureL_ints, Bool.and_true]) ⟨⟨0, (by first | rfl | exact True.intro), (by first | rfl | exact True.intro), (by first | rfl | exact True.intro), ⟨Nat.zero_le _, rfl⟩, trivial⟩, ?_⟩
    rintro i _ ⟨hi, ha⟩
    try dsimp only at hi ha ⊢
    refine brS_intro (fun c => ?_) (fun c => ?_)
    · rw [decide_eq_true_eq] at c
      have hlt : i < k.length := by omega
      simp only [tn]
      rw [Nat.mul_one]
      rw [List.drop_eq_getElem_cons hlt, List.all_cons] at ha
      refine needS_intro (by simp; omega) (ldIS_map hlt (brS_intro (fun c1 => ?_) (fun c1 => ⟨i + 1, (by first | rfl | exact True.intro), ?_, (by first | rfl | exact True.intro), ⟨hlt, ?_⟩, by (try dsimp only); omega⟩)))
      · rw [decide_eq_false (bne_iff_ne.1 c1), Bool.false_and] at ha
        rw [← ha] at hk
        exact hk
      · rw [IntWalk.i64_in _ (by omega)]; rfl
      · rw [bne_eq_false_iff_eq] at c1
        rw [decide_eq_true c1, Bool.true_and] at ha
        exact ha
    · rw [decide_eq_false_iff_not] at c
      rw [List.drop_eq_nil_of_le (by omega)] at ha
      rw [← ha] at hk
      exact hk
  · exact hk.elim
def cAllV := addC 48 kAllV cSortIf
theorem okAllV : Sound env cAllV := sound_add sAllV (okSortIf)

def kNSort (xs : List IV) (h : Heap) (K : IV → Heap → Prop) : Prop := match xs with
  | [.vslice none e0 n0 3 c0, .agg [.int .i64 op, .int .i64 im, .vslice none e1 n1 1 c1], .vslice none e2 n2 1 c2] => ∃ (l : List Nd) (ks k : List Int), (n0 = l.length ∧ c0 = l.flatMap cN) ∧ (n1 = ks.length ∧ c1 = ks.map (IV.int .i64)) ∧ (n2 = k.length ∧ c2 = k.map (IV.int .i64)) ∧ ((op ≠ 25 ∧ op ≠ 30 ∧ op ≠ 31) ∧ ks.length = k.length ∧ k.length ≤ 1000000000) ∧ K (.int .i64 (nsort op im k)) h
  | _ => False
set_option maxRecDepth 100000 in
theorem vNSort (l : List Nd) (op im : Int) (ks k : List Int) (e0 e1 e2 : Nat) (h : Heap) (Q : IV → Heap → Prop) : dF (stdS cAllV) env 38 noU noI noI [.vslice none e0 (l).length 3 ((l).flatMap cN), .agg [.int .i64 op, .int .i64 im, .vslice none e1 ks.length 1 (ks.map (IV.int .i64))], .vslice none e2 (k).length 1 ((k).map (IV.int .i64))] h Q = (
  needS
 (pureL
 [IV.vslice none (0 : Nat) (List.length l) (3 : Nat) (List.flatMap cN l), IV.agg [IV.int IntKind.i64 op, IV.int IntKind.i64 im, IV.vslice none (0 : Nat) (List.length ks) (1 : Nat) (List.map (IV.int IntKind.i64) ks)],
 IV.vslice none (0 : Nat) (List.length k) (1 : Nat) (List.map (IV.int IntKind.i64) k)])
 (brS (!arOk op) (Q (IV.int IntKind.i64 (0 : Int)) h)
 (brS (decide (ar op ≥ (0 : Int)))
 (brS ((↑(List.length ks) : Int) != ar op) (Q (IV.int IntKind.i64 (0 : Int)) h)
 (brS (!vImm op im) (Q (IV.int IntKind.i64 (0 : Int)) h)
 (brS (op == (3 : Int)) (brS (Int.tmod im (16 : Int) == (0 : Int)) (Q (IV.int IntKind.i64 (2 : Int)) h) (Q (IV.int IntKind.i64 (1 : Int)) h))
 (brS (op == (26 : Int)) (Q (IV.int IntKind.i64 (2 : Int)) h)
 (brS (op == (22 : Int))
 (needS (true && decide ((0 : Int) < (↑(List.length k) : Int)))
 (ldIS IntKind.i64 (List.map (IV.int IntKind.i64) k) (0 : Nat) fun (n0 : Int) =>
 brS (n0 != (1 : Int)) (Q (IV.int IntKind.i64 (0 : Int)) h)
 (needS (true && decide ((1 : Int) < (↑(List.length k) : Int)))
 (ldIS IntKind.i64 (List.map (IV.int IntKind.i64) k) (1 : Nat) fun (n1 : Int) =>
 needS (true && decide ((2 : Int) < (↑(List.length k) : Int)))
 (ldIS IntKind.i64 (List.map (IV.int IntKind.i64) k) (2 : Nat) fun (n2 : Int) =>
 brS (n1 != n2) (Q (IV.int IntKind.i64 (0 : Int)) h)
 (needS (true && decide ((1 : Int) < (↑(List.length k) : Int)))
 (ldIS IntKind.i64 (List.map (IV.int IntKind.i64) k) (1 : Nat) fun (n3 : Int) =>
 brS (n3 == (3 : Int)) (Q (IV.int IntKind.i64 (0 : Int)) h)
 (needS (true && decide ((1 : Int) < (↑(List.length k) : Int))) (ldIS IntKind.i64 (List.map (IV.int IntKind.i64) k) (1 : Nat) fun (n4 : Int) => Q (IV.int IntKind.i64 n4) h)))))))))
 (brS (op == (23 : Int))
 (needS (true && decide ((0 : Int) < (↑(List.length k) : Int)))
 (ldIS IntKind.i64 (List.map (IV.int IntKind.i64) k) (0 : Nat) fun (n5 : Int) =>
 brS (n5 == (2 : Int))
 (needS (true && decide ((1 : Int) < (↑(List.length k) : Int)))
 (ldIS IntKind.i64 (List.map (IV.int IntKind.i64) k) (1 : Nat) fun (n6 : Int) => Q (IV.int IntKind.i64 (if (n6 == (1 : Int)) = true then (1 : Int) else (0 : Int))) h))
 (Q (IV.int IntKind.i64 (0 : Int)) h)))
 (brS (op == (24 : Int))
 (needS (true && decide ((0 : Int) < (↑(List.length k) : Int)))
 (ldIS IntKind.i64 (List.map (IV.int IntKind.i64) k) (0 : Nat) fun (n7 : Int) => Q (IV.int IntKind.i64 (if (n7 == (2 : Int)) = true then (1 : Int) else (0 : Int))) h))
 (brS (op == (25 : Int))
 (needS (true && decide ((0 : Int) < (↑(List.length k) : Int)))
 (ldIS IntKind.i64 (List.map (IV.int IntKind.i64) k) (0 : Nat) fun (n8 : Int) =>
 brS (n8 != (3 : Int)) (Q (IV.int IntKind.i64 (0 : Int)) h)
 (needS (true && decide ((0 : Int) < (↑(List.length ks) : Int)))
 (ldIS IntKind.i64 (List.map (IV.int IntKind.i64) ks) (0 : Nat) fun (n9 : Int) =>
 needS (decide ((0 : Int) ≤ n9) && decide (n9 < (↑(List.length l) : Int)))
 (ldVS (1 : Nat) (List.flatMap cN l) (Int.toNat n9 * (3 : Nat) + (2 : Nat)) fun (i10 : Option Nat) (e11 l12 : Nat) (c13 : List IV) =>
 brS (decide (im ≥ IntKind.wrap IntKind.i64 (Int.tdiv (↑l12 : Int) (2 : Int)))) (Q (IV.int IntKind.i64 (0 : Int)) h)
 (Q (IV.int IntKind.i64 (IntKind.wrap IntKind.i64 ((if (im == (0 : Int)) = true then (1 : Int) else (0 : Int)) + (1 : Int)))) h))))))
 (brS (op == (27 : Int))
 (needS (true && decide ((0 : Int) < (↑(List.length k) : Int)))
 (ldIS IntKind.i64 (List.map (IV.int IntKind.i64) k) (0 : Nat) fun (n14 : Int) =>
 brS (n14 == (2 : Int))
 (needS (true && decide ((1 : Int) < (↑(List.length k) : Int)))
 (ldIS IntKind.i64 (List.map (IV.int IntKind.i64) k) (1 : Nat) fun (n15 : Int) => Q (IV.int IntKind.i64 (if (n15 == (1 : Int)) = true then (2 : Int) else (0 : Int))) h))
 (Q (IV.int IntKind.i64 (0 : Int)) h)))
 (brS (op == (29 : Int))
 (needS (true && decide ((0 : Int) < (↑(List.length k) : Int)))
 (ldIS IntKind.i64 (List.map (IV.int IntKind.i64) k) (0 : Nat) fun (n16 : Int) =>
 brS (n16 == (2 : Int))
 (needS (true && decide ((1 : Int) < (↑(List.length k) : Int)))
 (ldIS IntKind.i64 (List.map (IV.int IntKind.i64) k) (1 : Nat) fun (n17 : Int) => Q (IV.int IntKind.i64 (if (n17 == (1 : Int)) = true then (2 : Int) else (0 : Int))) h))
 (Q (IV.int IntKind.i64 (0 : Int)) h)))
 (brS (op == (28 : Int))
 (needS (true && decide ((0 : Int) < (↑(List.length k) : Int)))
 (ldIS IntKind.i64 (List.map (IV.int IntKind.i64) k) (0 : Nat) fun (n18 : Int) =>
 brS (n18 == (2 : Int))
 (needS (true && decide ((1 : Int) < (↑(List.length k) : Int)))
 (ldIS IntKind.i64 (List.map (IV.int IntKind.i64) k) (1 : Nat) fun (n19 : Int) =>
 brS (n19 == (1 : Int))
 (needS (true && decide ((2 : Int) < (↑(List.length k) : Int)))
 (ldIS IntKind.i64 (List.map (IV.int IntKind.i64) k) (2 : Nat) fun (n20 : Int) => Q (IV.int IntKind.i64 (if (n20 == (1 : Int)) = true then (2 : Int) else (0 : Int))) h))
 (Q (IV.int IntKind.i64 (0 : Int)) h)))
 (Q (IV.int IntKind.i64 (0 : Int)) h)))
 (brS (op == (30 : Int))
 (brS (decide ((↑(List.length k) : Int) ≥ (1 : Int)))
 (brS (decide ((↑(List.length k) : Int) ≤ (7 : Int)))
 (needS (true && decide ((0 : Int) < (↑(List.length k) : Int)))
 (ldIS IntKind.i64 (List.map (IV.int IntKind.i64) k) (0 : Nat) fun (n21 : Int) =>
 brS (n21 == (2 : Int))
 (needS (true && (decide ((1 : Int) ≤ (↑(List.length k) : Int)) && decide ((↑(List.length k) : Int) ≤ (↑(List.length k) : Int))))
 (∃ (k_1 : List Int),
 (Int.toNat (↑(List.length k) : Int) - (1 : Nat) = List.length k_1 ∧
 List.take ((Int.toNat (↑(List.length k) : Int) - (1 : Nat)) * (1 : Nat)) (List.drop (1 : Nat) (List.map (IV.int IntKind.i64) k)) = List.map (IV.int IntKind.i64) k_1) ∧
 List.length k_1 ≤ (1000000000 : Nat) ∧ Q (IV.int IntKind.i64 (if (List.all k_1 fun (x : Int) => decide (x = (1 : Int))) = true then (2 : Int) else (0 : Int))) h))
 (Q (IV.int IntKind.i64 (0 : Int)) h)))
 (Q (IV.int IntKind.i64 (0 : Int)) h))
 (Q (IV.int IntKind.i64 (0 : Int)) h))
 (brS (op == (31 : Int))
 (brS (Int.tmod (↑(List.length k) : Int) (2 : Int) == (1 : Int))
 (brS (decide (IntKind.wrap IntKind.i64 (Int.tdiv (↑(List.length k) : Int) (2 : Int)) ≥ (1 : Int)))
 (brS (decide (IntKind.wrap IntKind.i64 (Int.tdiv (↑(List.length k) : Int) (2 : Int)) ≤ (16 : Int)))
 (needS (true && decide ((0 : Int) < (↑(List.length k) : Int)))
 (ldIS IntKind.i64 (List.map (IV.int IntKind.i64) k) (0 : Nat) fun (n22 : Int) =>
 brS (n22 == (2 : Int))
 (needS
 (true &&
 (decide ((1 : Int) ≤ IntKind.wrap IntKind.i64 (IntKind.wrap IntKind.i64 (Int.tdiv (↑(List.length k) : Int) (2 : Int)) + (1 : Int))) &&
 decide (IntKind.wrap IntKind.i64 (IntKind.wrap IntKind.i64 (Int.tdiv (↑(List.length k) : Int) (2 : Int)) + (1 : Int)) ≤ (↑(List.length k) : Int))))
 (∃ (k_1 : List Int),
 (Int.toNat (IntKind.wrap IntKind.i64 (IntKind.wrap IntKind.i64 (Int.tdiv (↑(List.length k) : Int) (2 : Int)) + (1 : Int))) - (1 : Nat) = List.length k_1 ∧
 List.take ((Int.toNat (IntKind.wrap IntKind.i64 (IntKind.wrap IntKind.i64 (Int.tdiv (↑(List.length k) : Int) (2 : Int)) + (1 : Int))) - (1 : Nat)) * (1 : Nat))
 (List.drop (1 : Nat) (List.map (IV.int IntKind.i64) k)) =
 List.map (IV.int IntKind.i64) k_1) ∧
 List.length k_1 ≤ (1000000000 : Nat) ∧
 brS (List.all k_1 fun (x : Int) => decide (x = (1 : Int)))
 (needS
 (decide ((0 : Int) ≤ IntKind.wrap IntKind.i64 (IntKind.wrap IntKind.i64 (Int.tdiv (↑(List.length k) : Int) (2 : Int)) + (1 : Int))) &&
 decide (IntKind.wrap IntKind.i64 (IntKind.wrap IntKind.i64 (Int.tdiv (↑(List.length k) : Int) (2 : Int)) + (1 : Int)) < (↑(List.length k) : Int)))
 (ldIS IntKind.i64 (List.map (IV.int IntKind.i64) k)
 (Int.toNat (IntKind.wrap IntKind.i64 (IntKind.wrap IntKind.i64 (Int.tdiv (↑(List.length k) : Int) (2 : Int)) + (1 : Int))) * (1 : Nat)) fun (n23 : Int) =>
 brS (n23 == (2 : Int))
 (needS
 (decide ((0 : Int) ≤ IntKind.wrap IntKind.i64 (IntKind.wrap IntKind.i64 (Int.tdiv (↑(List.length k) : Int) (2 : Int)) + (2 : Int))) &&
 (decide (IntKind.wrap IntKind.i64 (IntKind.wrap IntKind.i64 (Int.tdiv (↑(List.length k) : Int) (2 : Int)) + (2 : Int)) ≤ (↑(List.length k) : Int)) &&
 decide ((↑(List.length k) : Int) ≤ (↑(List.length k) : Int))))
 (∃ (k_2 : List Int),
 (Int.toNat (↑(List.length k) : Int) - Int.toNat (IntKind.wrap IntKind.i64 (IntKind.wrap IntKind.i64 (Int.tdiv (↑(List.length k) : Int) (2 : Int)) + (2 : Int))) =
 List.length k_2 ∧
 List.take
 ((Int.toNat (↑(List.length k) : Int) - Int.toNat (IntKind.wrap IntKind.i64 (IntKind.wrap IntKind.i64 (Int.tdiv (↑(List.length k) : Int) (2 : Int)) + (2 : Int)))) *
 (1 : Nat))
 (List.drop (Int.toNat (IntKind.wrap IntKind.i64 (IntKind.wrap IntKind.i64 (Int.tdiv (↑(List.length k) : Int) (2 : Int)) + (2 : Int))) * (1 : Nat))
 (List.map (IV.int IntKind.i64) k)) =
 List.map (IV.int IntKind.i64) k_2) ∧
 List.length k_2 ≤ (1000000000 : Nat) ∧ Q (IV.int IntKind.i64 (if (List.all k_2 fun (x : Int) => decide (x = (1 : Int))) = true then (3 : Int) else (0 : Int))) h))
 (Q (IV.int IntKind.i64 (0 : Int)) h)))
 (Q (IV.int IntKind.i64 (0 : Int)) h)))
 (Q (IV.int IntKind.i64 (0 : Int)) h)))
 (Q (IV.int IntKind.i64 (0 : Int)) h))
 (Q (IV.int IntKind.i64 (0 : Int)) h))
 (Q (IV.int IntKind.i64 (0 : Int)) h))
 (∃ (k_1 : List Int),
 (List.length k = List.length k_1 ∧ List.map (IV.int IntKind.i64) k = List.map (IV.int IntKind.i64) k_1) ∧
 List.length k_1 ≤ (1000000000 : Nat) ∧ Q (IV.int IntKind.i64 (if (List.all k_1 fun (x : Int) => decide (x = (1 : Int))) = true then (1 : Int) else (0 : Int))) h))))))))))))))
 (brS (!vImm op im) (Q (IV.int IntKind.i64 (0 : Int)) h)
 (brS (op == (3 : Int)) (brS (Int.tmod im (16 : Int) == (0 : Int)) (Q (IV.int IntKind.i64 (2 : Int)) h) (Q (IV.int IntKind.i64 (1 : Int)) h))
 (brS (op == (26 : Int)) (Q (IV.int IntKind.i64 (2 : Int)) h)
 (brS (op == (22 : Int))
 (needS (true && decide ((0 : Int) < (↑(List.length k) : Int)))
 (ldIS IntKind.i64 (List.map (IV.int IntKind.i64) k) (0 : Nat) fun (n24 : Int) =>
 brS (n24 != (1 : Int)) (Q (IV.int IntKind.i64 (0 : Int)) h)
 (needS (true && decide ((1 : Int) < (↑(List.length k) : Int)))
 (ldIS IntKind.i64 (List.map (IV.int IntKind.i64) k) (1 : Nat) fun (n25 : Int) =>
 needS (true && decide ((2 : Int) < (↑(List.length k) : Int)))
 (ldIS IntKind.i64 (List.map (IV.int IntKind.i64) k) (2 : Nat) fun (n26 : Int) =>
 brS (n25 != n26) (Q (IV.int IntKind.i64 (0 : Int)) h)
 (needS (true && decide ((1 : Int) < (↑(List.length k) : Int)))
 (ldIS IntKind.i64 (List.map (IV.int IntKind.i64) k) (1 : Nat) fun (n27 : Int) =>
 brS (n27 == (3 : Int)) (Q (IV.int IntKind.i64 (0 : Int)) h)
 (needS (true && decide ((1 : Int) < (↑(List.length k) : Int))) (ldIS IntKind.i64 (List.map (IV.int IntKind.i64) k) (1 : Nat) fun (n28 : Int) => Q (IV.int IntKind.i64 n28) h)))))))))
 (brS (op == (23 : Int))
 (needS (true && decide ((0 : Int) < (↑(List.length k) : Int)))
 (ldIS IntKind.i64 (List.map (IV.int IntKind.i64) k) (0 : Nat) fun (n29 : Int) =>
 brS (n29 == (2 : Int))
 (needS (true && decide ((1 : Int) < (↑(List.length k) : Int)))
 (ldIS IntKind.i64 (List.map (IV.int IntKind.i64) k) (1 : Nat) fun (n30 : Int) => Q (IV.int IntKind.i64 (if (n30 == (1 : Int)) = true then (1 : Int) else (0 : Int))) h))
 (Q (IV.int IntKind.i64 (0 : Int)) h)))
 (brS (op == (24 : Int))
 (needS (true && decide ((0 : Int) < (↑(List.length k) : Int)))
 (ldIS IntKind.i64 (List.map (IV.int IntKind.i64) k) (0 : Nat) fun (n31 : Int) => Q (IV.int IntKind.i64 (if (n31 == (2 : Int)) = true then (1 : Int) else (0 : Int))) h))
 (brS (op == (25 : Int))
 (needS (true && decide ((0 : Int) < (↑(List.length k) : Int)))
 (ldIS IntKind.i64 (List.map (IV.int IntKind.i64) k) (0 : Nat) fun (n32 : Int) =>
 brS (n32 != (3 : Int)) (Q (IV.int IntKind.i64 (0 : Int)) h)
 (needS (true && decide ((0 : Int) < (↑(List.length ks) : Int)))
 (ldIS IntKind.i64 (List.map (IV.int IntKind.i64) ks) (0 : Nat) fun (n33 : Int) =>
 needS (decide ((0 : Int) ≤ n33) && decide (n33 < (↑(List.length l) : Int)))
 (ldVS (1 : Nat) (List.flatMap cN l) (Int.toNat n33 * (3 : Nat) + (2 : Nat)) fun (i34 : Option Nat) (e35 l36 : Nat) (c37 : List IV) =>
 brS (decide (im ≥ IntKind.wrap IntKind.i64 (Int.tdiv (↑l36 : Int) (2 : Int)))) (Q (IV.int IntKind.i64 (0 : Int)) h)
 (Q (IV.int IntKind.i64 (IntKind.wrap IntKind.i64 ((if (im == (0 : Int)) = true then (1 : Int) else (0 : Int)) + (1 : Int)))) h))))))
 (brS (op == (27 : Int))
 (needS (true && decide ((0 : Int) < (↑(List.length k) : Int)))
 (ldIS IntKind.i64 (List.map (IV.int IntKind.i64) k) (0 : Nat) fun (n38 : Int) =>
 brS (n38 == (2 : Int))
 (needS (true && decide ((1 : Int) < (↑(List.length k) : Int)))
 (ldIS IntKind.i64 (List.map (IV.int IntKind.i64) k) (1 : Nat) fun (n39 : Int) => Q (IV.int IntKind.i64 (if (n39 == (1 : Int)) = true then (2 : Int) else (0 : Int))) h))
 (Q (IV.int IntKind.i64 (0 : Int)) h)))
 (brS (op == (29 : Int))
 (needS (true && decide ((0 : Int) < (↑(List.length k) : Int)))
 (ldIS IntKind.i64 (List.map (IV.int IntKind.i64) k) (0 : Nat) fun (n40 : Int) =>
 brS (n40 == (2 : Int))
 (needS (true && decide ((1 : Int) < (↑(List.length k) : Int)))
 (ldIS IntKind.i64 (List.map (IV.int IntKind.i64) k) (1 : Nat) fun (n41 : Int) => Q (IV.int IntKind.i64 (if (n41 == (1 : Int)) = true then (2 : Int) else (0 : Int))) h))
 (Q (IV.int IntKind.i64 (0 : Int)) h)))
 (brS (op == (28 : Int))
 (needS (true && decide ((0 : Int) < (↑(List.length k) : Int)))
 (ldIS IntKind.i64 (List.map (IV.int IntKind.i64) k) (0 : Nat) fun (n42 : Int) =>
 brS (n42 == (2 : Int))
 (needS (true && decide ((1 : Int) < (↑(List.length k) : Int)))
 (ldIS IntKind.i64 (List.map (IV.int IntKind.i64) k) (1 : Nat) fun (n43 : Int) =>
 brS (n43 == (1 : Int))
 (needS (true && decide ((2 : Int) < (↑(List.length k) : Int)))
 (ldIS IntKind.i64 (List.map (IV.int IntKind.i64) k) (2 : Nat) fun (n44 : Int) => Q (IV.int IntKind.i64 (if (n44 == (1 : Int)) = true then (2 : Int) else (0 : Int))) h))
 (Q (IV.int IntKind.i64 (0 : Int)) h)))
 (Q (IV.int IntKind.i64 (0 : Int)) h)))
 (brS (op == (30 : Int))
 (brS (decide ((↑(List.length k) : Int) ≥ (1 : Int)))
 (brS (decide ((↑(List.length k) : Int) ≤ (7 : Int)))
 (needS (true && decide ((0 : Int) < (↑(List.length k) : Int)))
 (ldIS IntKind.i64 (List.map (IV.int IntKind.i64) k) (0 : Nat) fun (n45 : Int) =>
 brS (n45 == (2 : Int))
 (needS (true && (decide ((1 : Int) ≤ (↑(List.length k) : Int)) && decide ((↑(List.length k) : Int) ≤ (↑(List.length k) : Int))))
 (∃ (k_1 : List Int),
 (Int.toNat (↑(List.length k) : Int) - (1 : Nat) = List.length k_1 ∧
 List.take ((Int.toNat (↑(List.length k) : Int) - (1 : Nat)) * (1 : Nat)) (List.drop (1 : Nat) (List.map (IV.int IntKind.i64) k)) = List.map (IV.int IntKind.i64) k_1) ∧
 List.length k_1 ≤ (1000000000 : Nat) ∧ Q (IV.int IntKind.i64 (if (List.all k_1 fun (x : Int) => decide (x = (1 : Int))) = true then (2 : Int) else (0 : Int))) h))
 (Q (IV.int IntKind.i64 (0 : Int)) h)))
 (Q (IV.int IntKind.i64 (0 : Int)) h))
 (Q (IV.int IntKind.i64 (0 : Int)) h))
 (brS (op == (31 : Int))
 (brS (Int.tmod (↑(List.length k) : Int) (2 : Int) == (1 : Int))
 (brS (decide (IntKind.wrap IntKind.i64 (Int.tdiv (↑(List.length k) : Int) (2 : Int)) ≥ (1 : Int)))
 (brS (decide (IntKind.wrap IntKind.i64 (Int.tdiv (↑(List.length k) : Int) (2 : Int)) ≤ (16 : Int)))
 (needS (true && decide ((0 : Int) < (↑(List.length k) : Int)))
 (ldIS IntKind.i64 (List.map (IV.int IntKind.i64) k) (0 : Nat) fun (n46 : Int) =>
 brS (n46 == (2 : Int))
 (needS
 (true &&
 (decide ((1 : Int) ≤ IntKind.wrap IntKind.i64 (IntKind.wrap IntKind.i64 (Int.tdiv (↑(List.length k) : Int) (2 : Int)) + (1 : Int))) &&
 decide (IntKind.wrap IntKind.i64 (IntKind.wrap IntKind.i64 (Int.tdiv (↑(List.length k) : Int) (2 : Int)) + (1 : Int)) ≤ (↑(List.length k) : Int))))
 (∃ (k_1 : List Int),
 (Int.toNat (IntKind.wrap IntKind.i64 (IntKind.wrap IntKind.i64 (Int.tdiv (↑(List.length k) : Int) (2 : Int)) + (1 : Int))) - (1 : Nat) = List.length k_1 ∧
 List.take ((Int.toNat (IntKind.wrap IntKind.i64 (IntKind.wrap IntKind.i64 (Int.tdiv (↑(List.length k) : Int) (2 : Int)) + (1 : Int))) - (1 : Nat)) * (1 : Nat))
 (List.drop (1 : Nat) (List.map (IV.int IntKind.i64) k)) =
 List.map (IV.int IntKind.i64) k_1) ∧
 List.length k_1 ≤ (1000000000 : Nat) ∧
 brS (List.all k_1 fun (x : Int) => decide (x = (1 : Int)))
 (needS
 (decide ((0 : Int) ≤ IntKind.wrap IntKind.i64 (IntKind.wrap IntKind.i64 (Int.tdiv (↑(List.length k) : Int) (2 : Int)) + (1 : Int))) &&
 decide (IntKind.wrap IntKind.i64 (IntKind.wrap IntKind.i64 (Int.tdiv (↑(List.length k) : Int) (2 : Int)) + (1 : Int)) < (↑(List.length k) : Int)))
 (ldIS IntKind.i64 (List.map (IV.int IntKind.i64) k)
 (Int.toNat (IntKind.wrap IntKind.i64 (IntKind.wrap IntKind.i64 (Int.tdiv (↑(List.length k) : Int) (2 : Int)) + (1 : Int))) * (1 : Nat)) fun (n47 : Int) =>
 brS (n47 == (2 : Int))
 (needS
 (decide ((0 : Int) ≤ IntKind.wrap IntKind.i64 (IntKind.wrap IntKind.i64 (Int.tdiv (↑(List.length k) : Int) (2 : Int)) + (2 : Int))) &&
 (decide (IntKind.wrap IntKind.i64 (IntKind.wrap IntKind.i64 (Int.tdiv (↑(List.length k) : Int) (2 : Int)) + (2 : Int)) ≤ (↑(List.length k) : Int)) &&
 decide ((↑(List.length k) : Int) ≤ (↑(List.length k) : Int))))
 (∃ (k_2 : List Int),
 (Int.toNat (↑(List.length k) : Int) - Int.toNat (IntKind.wrap IntKind.i64 (IntKind.wrap IntKind.i64 (Int.tdiv (↑(List.length k) : Int) (2 : Int)) + (2 : Int))) =
 List.length k_2 ∧
 List.take
 ((Int.toNat (↑(List.length k) : Int) - Int.toNat (IntKind.wrap IntKind.i64 (IntKind.wrap IntKind.i64 (Int.tdiv (↑(List.length k) : Int) (2 : Int)) + (2 : Int)))) *
 (1 : Nat))
 (List.drop (Int.toNat (IntKind.wrap IntKind.i64 (IntKind.wrap IntKind.i64 (Int.tdiv (↑(List.length k) : Int) (2 : Int)) + (2 : Int))) * (1 : Nat))
 (List.map (IV.int IntKind.i64) k)) =
 List.map (IV.int IntKind.i64) k_2) ∧
 List.length k_2 ≤ (1000000000 : Nat) ∧ Q (IV.int IntKind.i64 (if (List.all k_2 fun (x : Int) => decide (x = (1 : Int))) = true then (3 : Int) else (0 : Int))) h))
 (Q (IV.int IntKind.i64 (0 : Int)) h)))
 (Q (IV.int IntKind.i64 (0 : Int)) h)))
 (Q (IV.int IntKind.i64 (0 : Int)) h)))
 (Q (IV.int IntKind.i64 (0 : Int)) h))
 (Q (IV.int IntKind.i64 (0 : Int)) h))
 (Q (IV.int IntKind.i64 (0 : Int)) h))
 (∃ (k_1 : List Int),
 (List.length k = List.length k_1 ∧ List.map (IV.int IntKind.i64) k = List.map (IV.int IntKind.i64) k_1) ∧
 List.length k_1 ≤ (1000000000 : Nat) ∧ Q (IV.int IntKind.i64 (if (List.all k_1 fun (x : Int) => decide (x = (1 : Int))) = true then (1 : Int) else (0 : Int))) h)))))))))))))))) := by kernel_rfl
set_option maxHeartbeats 2000000 in
theorem sNSort : ∀ xs h Q, kNSort xs h Q → CallW env 38 xs h Q := by
  intro xs h Q hk
  unfold kNSort at hk
  split at hk
  · rename_i e0 n0 c0 op im e1 n1 c1 e2 n2 c2
    obtain ⟨l, ks, k, ⟨rfl, rfl⟩, ⟨rfl, rfl⟩, ⟨rfl, rfl⟩, hb, hk⟩ := hk
    refine dF_run (okAllV) (vNSort l op im ks k e0 e1 e2 h Q) ?_
    obtain ⟨hop, hkk, hkl⟩ := hb
    refine needS_intro (by simp only [pureL, pureB, pureL_ints, pureL_cN, Bool.and_true]) (brS_intro (fun c => ?_) (fun c0 => ?_))
    · unfold nsort at hk
      rw [if_pos (.inl (by simpa using c))] at hk
      exact hk
    rw [Bool.not_eq_false'] at c0
    have hz : ((k.length : Int) ≠ ar op ∨ vImm op im = false) → Q (.int .i64 0) h := fun e => by
      unfold nsort at hk
      rw [if_pos (.inr e)] at hk
      exact hk
    have har : op ≠ 30 → op ≠ 31 → 0 ≤ ar op := by unfold ar; repeat' split <;> omega
    refine brS_intro (fun _ => ?_) (fun c => by rw [decide_eq_false_iff_not] at c; exact absurd (har hop.2.1 hop.2.2) (by omega))
    refine brS_intro (fun c => hz (.inl (by rw [← hkk]; exact bne_iff_ne.1 c))) (fun c1 => brS_intro (fun c => hz (.inr (by simpa using c))) (fun c2 => ?_))
    rw [bne_eq_false_iff_eq, hkk] at c1
    rw [Bool.not_eq_false'] at c2
    rw [nsort_ops hop c0 c1 c2] at hk
    have rest : ∀ {o : Int}, (op == o) = false → ¬ op = o := fun c => by simpa using c
    refine brS_intro (fun c => ?_) (fun c3 => ?_)
    · have e := beq_iff_eq.1 c
      subst e
      rw [if_pos rfl] at hk
      have hi : 0 ≤ im := by
        unfold vImm at c2
        rw [decide_eq_true_eq] at c2
        have : mxI 3 = 255 := by decide
        omega
      rw [Int.tmod_eq_emod_of_nonneg hi]
      refine brS_intro (fun d => ?_) (fun d => ?_)
      · rw [if_pos (beq_iff_eq.1 d)] at hk
        exact hk
      · rw [if_neg (by simpa using d)] at hk
        exact hk
    rw [if_neg (rest c3)] at hk
    refine brS_intro (fun c => ?_) (fun c26 => ?_)
    · have e := beq_iff_eq.1 c
      rw [if_pos e] at hk
      exact hk
    rw [if_neg (rest c26)] at hk
    refine brS_intro (fun c => ?_) (fun c22 => ?_)
    · have e := beq_iff_eq.1 c
      subst e
      rw [if_pos rfl] at hk
      have h3 : k.length = 3 := by have : ar 22 = 3 := by decide
                                   omega
      match k, h3 with
      | [a, b, c], _ =>
        repeat' (first | refine needS_intro (by simp) ?_ | refine ldIS_map (by simp) ?_ | refine brS_intro (fun _ => ?_) (fun _ => ?_))
        all_goals
          refine q_eq hk ?_
          simp only [IV.int.injEq, true_and]
          simp_all
    rw [if_neg (rest c22)] at hk
    refine brS_intro (fun c => ?_) (fun c23 => ?_)
    · have e := beq_iff_eq.1 c
      subst e
      rw [if_pos rfl] at hk
      have h3 : k.length = 2 := by have : ar 23 = 2 := by decide
                                   omega
      match k, h3 with
      | [a, b], _ =>
        repeat' (first | refine needS_intro (by simp) ?_ | refine ldIS_map (by simp) ?_ | refine brS_intro (fun _ => ?_) (fun _ => ?_))
        all_goals
          refine q_eq hk ?_
          simp only [IV.int.injEq, true_and]
          simp_all
    rw [if_neg (rest c23)] at hk
    refine brS_intro (fun c => ?_) (fun c24 => ?_)
    · have e := beq_iff_eq.1 c
      subst e
      rw [if_pos rfl] at hk
      have h3 : k.length = 1 := by have : ar 24 = 1 := by decide
                                   omega
      match k, h3 with
      | [a], _ =>
        repeat' (first | refine needS_intro (by simp) ?_ | refine ldIS_map (by simp) ?_ | refine brS_intro (fun _ => ?_) (fun _ => ?_))
        all_goals
          refine q_eq hk ?_
          simp only [IV.int.injEq, true_and]
          simp_all
    rw [if_neg (rest c24)] at hk
    refine brS_intro (fun c => absurd (beq_iff_eq.1 c) hop.1) (fun _ => brS_intro (fun c => ?_) (fun c27 => brS_intro (fun c => ?_) (fun c29 => ?_)))
    · have e := beq_iff_eq.1 c
      subst e
      rw [if_pos (.inl rfl)] at hk
      have h3 : k.length = 2 := by have : ar 27 = 2 := by decide
                                   omega
      match k, h3 with
      | [a, b], _ =>
        repeat' (first | refine needS_intro (by simp) ?_ | refine ldIS_map (by simp) ?_ | refine brS_intro (fun _ => ?_) (fun _ => ?_))
        all_goals
          refine q_eq hk ?_
          simp only [IV.int.injEq, true_and]
          simp_all
    · have e := beq_iff_eq.1 c
      subst e
      rw [if_pos (.inr rfl)] at hk
      have h3 : k.length = 2 := by have : ar 29 = 2 := by decide
                                   omega
      match k, h3 with
      | [a, b], _ =>
        repeat' (first | refine needS_intro (by simp) ?_ | refine ldIS_map (by simp) ?_ | refine brS_intro (fun _ => ?_) (fun _ => ?_))
        all_goals
          refine q_eq hk ?_
          simp only [IV.int.injEq, true_and]
          simp_all
    rw [if_neg (fun e => e.elim (rest c27) (rest c29))] at hk
    refine brS_intro (fun c => ?_) (fun c28 => ?_)
    · have e := beq_iff_eq.1 c
      subst e
      rw [if_pos rfl] at hk
      have h3 : k.length = 3 := by have : ar 28 = 3 := by decide
                                   omega
      match k, h3 with
      | [a, b, c], _ =>
        repeat' (first | refine needS_intro (by simp) ?_ | refine ldIS_map (by simp) ?_ | refine brS_intro (fun _ => ?_) (fun _ => ?_))
        all_goals
          refine q_eq hk ?_
          simp only [IV.int.injEq, true_and]
          simp_all
    rw [if_neg (rest c28)] at hk
    exact brS_intro (fun c => absurd (beq_iff_eq.1 c) hop.2.1) (fun _ => brS_intro (fun c => absurd (beq_iff_eq.1 c) hop.2.2) (fun _ => ⟨k, ⟨rfl, rfl⟩, hkl, hk⟩))
  · exact hk.elim
def cNSort := addC 38 kNSort cAllV
theorem okNSort : Sound env cNSort := sound_add sNSort (okAllV)

def kNSort31 (xs : List IV) (h : Heap) (K : IV → Heap → Prop) : Prop := match xs with
  | [.vslice none e0 n0 3 c0, .agg [.int .i64 31, .int .i64 im, .vslice none e1 n1 1 c1], .vslice none e2 n2 1 c2] => ∃ (l : List Nd) (ks k : List Int), (n0 = l.length ∧ c0 = l.flatMap cN) ∧ (n1 = ks.length ∧ c1 = ks.map (IV.int .i64)) ∧ (n2 = k.length ∧ c2 = k.map (IV.int .i64)) ∧ (ks.length = k.length ∧ k.length ≤ 1000000 ∧ l.length ≤ 1000000 ∧ (∀ q ∈ ks, 0 ≤ q ∧ q < l.length) ∧ (k = [3] → eK l ⟨31, im, ks⟩ % 2 = 1) ∧ ∀ n ∈ l, n.ks.length ≤ 1000000) ∧ K (.int .i64 (nsortG (eK l ⟨31, im, ks⟩) 31 im k)) h
  | _ => False
set_option maxRecDepth 100000 in
theorem vNSort31 (l : List Nd) (im : Int) (ks k : List Int) (e0 e1 e2 : Nat) (h : Heap) (Q : IV → Heap → Prop) : dF (stdS cNSort) env 38 noU noI noI [.vslice none e0 (l).length 3 ((l).flatMap cN), .agg [.int .i64 31, .int .i64 im, .vslice none e1 ks.length 1 (ks.map (IV.int .i64))], .vslice none e2 (k).length 1 ((k).map (IV.int .i64))] h Q = (
  needS
 (pureL
 [IV.vslice none (0 : Nat) (List.length l) (3 : Nat) (List.flatMap cN l), IV.agg [IV.int IntKind.i64 (31 : Int), IV.int IntKind.i64 im, IV.vslice none (0 : Nat) (List.length ks) (1 : Nat) (List.map (IV.int IntKind.i64) ks)],
 IV.vslice none (0 : Nat) (List.length k) (1 : Nat) (List.map (IV.int IntKind.i64) k)])
 (brS (!vImm (31 : Int) im) (Q (IV.int IntKind.i64 (0 : Int)) h)
 (brS (Int.tmod (↑(List.length k) : Int) (2 : Int) == (1 : Int))
 (brS (decide (IntKind.wrap IntKind.i64 (Int.tdiv (↑(List.length k) : Int) (2 : Int)) ≥ (1 : Int)))
 (brS (decide (IntKind.wrap IntKind.i64 (Int.tdiv (↑(List.length k) : Int) (2 : Int)) ≤ (16 : Int)))
 (needS (true && decide ((0 : Int) < (↑(List.length k) : Int)))
 (ldIS IntKind.i64 (List.map (IV.int IntKind.i64) k) (0 : Nat) fun (n0 : Int) =>
 brS (n0 == (2 : Int))
 (needS
 (true &&
 (decide ((1 : Int) ≤ IntKind.wrap IntKind.i64 (IntKind.wrap IntKind.i64 (Int.tdiv (↑(List.length k) : Int) (2 : Int)) + (1 : Int))) &&
 decide (IntKind.wrap IntKind.i64 (IntKind.wrap IntKind.i64 (Int.tdiv (↑(List.length k) : Int) (2 : Int)) + (1 : Int)) ≤ (↑(List.length k) : Int))))
 (∃ (k_1 : List Int),
 (Int.toNat (IntKind.wrap IntKind.i64 (IntKind.wrap IntKind.i64 (Int.tdiv (↑(List.length k) : Int) (2 : Int)) + (1 : Int))) - (1 : Nat) = List.length k_1 ∧
 List.take ((Int.toNat (IntKind.wrap IntKind.i64 (IntKind.wrap IntKind.i64 (Int.tdiv (↑(List.length k) : Int) (2 : Int)) + (1 : Int))) - (1 : Nat)) * (1 : Nat))
 (List.drop (1 : Nat) (List.map (IV.int IntKind.i64) k)) =
 List.map (IV.int IntKind.i64) k_1) ∧
 List.length k_1 ≤ (1000000000 : Nat) ∧
 brS (List.all k_1 fun (x : Int) => decide (x = (1 : Int)))
 (needS
 (decide ((0 : Int) ≤ IntKind.wrap IntKind.i64 (IntKind.wrap IntKind.i64 (Int.tdiv (↑(List.length k) : Int) (2 : Int)) + (1 : Int))) &&
 decide (IntKind.wrap IntKind.i64 (IntKind.wrap IntKind.i64 (Int.tdiv (↑(List.length k) : Int) (2 : Int)) + (1 : Int)) < (↑(List.length k) : Int)))
 (ldIS IntKind.i64 (List.map (IV.int IntKind.i64) k) (Int.toNat (IntKind.wrap IntKind.i64 (IntKind.wrap IntKind.i64 (Int.tdiv (↑(List.length k) : Int) (2 : Int)) + (1 : Int))) * (1 : Nat)) fun (n1 : Int) =>
 brS (n1 == (2 : Int))
 (needS
 (decide ((0 : Int) ≤ IntKind.wrap IntKind.i64 (IntKind.wrap IntKind.i64 (Int.tdiv (↑(List.length k) : Int) (2 : Int)) + (2 : Int))) &&
 (decide (IntKind.wrap IntKind.i64 (IntKind.wrap IntKind.i64 (Int.tdiv (↑(List.length k) : Int) (2 : Int)) + (2 : Int)) ≤ (↑(List.length k) : Int)) &&
 decide ((↑(List.length k) : Int) ≤ (↑(List.length k) : Int))))
 (∃ (k_2 : List Int),
 (Int.toNat (↑(List.length k) : Int) - Int.toNat (IntKind.wrap IntKind.i64 (IntKind.wrap IntKind.i64 (Int.tdiv (↑(List.length k) : Int) (2 : Int)) + (2 : Int))) = List.length k_2 ∧
 List.take ((Int.toNat (↑(List.length k) : Int) - Int.toNat (IntKind.wrap IntKind.i64 (IntKind.wrap IntKind.i64 (Int.tdiv (↑(List.length k) : Int) (2 : Int)) + (2 : Int)))) * (1 : Nat))
 (List.drop (Int.toNat (IntKind.wrap IntKind.i64 (IntKind.wrap IntKind.i64 (Int.tdiv (↑(List.length k) : Int) (2 : Int)) + (2 : Int))) * (1 : Nat)) (List.map (IV.int IntKind.i64) k)) =
 List.map (IV.int IntKind.i64) k_2) ∧
 List.length k_2 ≤ (1000000000 : Nat) ∧ Q (IV.int IntKind.i64 (if (List.all k_2 fun (x : Int) => decide (x = (1 : Int))) = true then (3 : Int) else (0 : Int))) h))
 (Q (IV.int IntKind.i64 (0 : Int)) h)))
 (Q (IV.int IntKind.i64 (0 : Int)) h)))
 (Q (IV.int IntKind.i64 (0 : Int)) h)))
 (Q (IV.int IntKind.i64 (0 : Int)) h))
 (Q (IV.int IntKind.i64 (0 : Int)) h))
 (Q (IV.int IntKind.i64 (0 : Int)) h)))) := by kernel_rfl
set_option maxHeartbeats 2000000 in
theorem sNSort31 : ∀ xs h Q, kNSort31 xs h Q → CallW env 38 xs h Q := by
  intro xs h Q hk
  unfold kNSort31 at hk
  split at hk
  · rename_i e0 n0 c0 im e1 n1 c1 e2 n2 c2
    obtain ⟨l, ks, k, ⟨rfl, rfl⟩, ⟨rfl, rfl⟩, ⟨rfl, rfl⟩, hb, hk⟩ := hk
    refine dF_run (okNSort) (vNSort31 l im ks k e0 e1 e2 h Q) ?_
    have tn : ∀ x : Nat, (x : Int).toNat = x := Int.toNat_natCast
    obtain ⟨hkk, hkl, hll, hqs, hodd, _⟩ := hb
    have hz : ¬ (lsOk k = true ∧ vImm 31 im = true) → Q (.int .i64 0) h := fun e => by
      unfold nsortG at hk
      rw [if_pos rfl, if_neg e] at hk
      exact hk
    have ht : IntKind.i64.wrap (Int.tdiv (k.length : Int) 2) = ((k.length / 2 : Nat) : Int) := by
      rw [Int.tdiv_eq_ediv_of_nonneg (by omega), IntWalk.i64_in _ (by omega)]; omega
    have hm : Int.tmod (k.length : Int) 2 = ((k.length % 2 : Nat) : Int) := by
      rw [Int.tmod_eq_emod_of_nonneg (by omega)]; omega
    have hnl := fun q : lsOk k = true => lsOk_p q
    have hno := fun q : lsOk k = true => lsOk_odd q
    rw [ht, hm]
    generalize hM : k.length / 2 = M at *
    have w1 : IntKind.i64.wrap ((M : Int) + 1) = ((M + 1 : Nat) : Int) := by rw [IntWalk.i64_in _ (by omega)]; rfl
    have w2 : IntKind.i64.wrap ((M : Int) + 2) = ((M + 2 : Nat) : Int) := by rw [IntWalk.i64_in _ (by omega)]; rfl
    rw [w1, w2]
    simp only [tn, Nat.mul_one]
    refine needS_intro (by simp only [pureL, pureB, pureL_ints, pureL_cN, Bool.and_true]) (brS_intro (fun c => hz (fun e => by rw [e.2] at c; cases c)) (fun cv => brS_intro (fun c1 => ?_) (fun c => hz (fun e => ?_))))
    case refine_2 =>
      rw [beq_eq_false_iff_ne] at c
      have := (hno e.1).1
      omega
    rw [beq_iff_eq] at c1
    refine brS_intro (fun c2 => ?_) (fun c => hz (fun e => by rw [decide_eq_false_iff_not] at c; have := hno e.1; omega))
    refine brS_intro (fun c3 => ?_) (fun c => hz (fun e => by rw [decide_eq_false_iff_not] at c; have := hno e.1; omega))
    rw [decide_eq_true_eq] at c2 c3
    have hlen : k.length = 2 * M + 1 := by omega
    have l0 : 0 < k.length := by omega
    have l1 : M + 1 < k.length := by omega
    refine needS_intro (by simp; omega) (ldI1 l0 rfl (brS_intro (fun c4 => ?_) (fun c => hz (fun e => ?_))))
    case refine_2 =>
      rw [beq_eq_false_iff_ne] at c
      have := (hnl e.1).1
      rw [List.getElem?_eq_getElem l0, Option.some.injEq] at this
      exact c this
    rw [beq_iff_eq] at c4
    refine needS_intro (by simp; omega) ⟨(k.drop 1).take M, ⟨by rw [List.length_take, List.length_drop]; omega, by rw [show M + 1 - 1 = M by omega, List.map_take, List.map_drop]⟩, by rw [List.length_take]; omega, brS_intro (fun c5 => ?_) (fun c => hz (fun e => by rw [(hnl e.1).2.1] at c; cases c))⟩
    refine needS_intro (by simp; omega) (ldI1 l1 rfl (brS_intro (fun c6 => ?_) (fun c => hz (fun e => ?_))))
    case refine_2 =>
      rw [beq_eq_false_iff_ne] at c
      have := (hnl e.1).2.2.1
      rw [List.getElem?_eq_getElem l1, Option.some.injEq] at this
      exact c this
    rw [beq_iff_eq] at c6
    refine needS_intro (by simp; omega) ⟨k.drop (M + 2), ⟨by rw [List.length_drop], by rw [List.take_of_length_le (by simp), List.map_drop]⟩, by rw [List.length_drop]; omega, ?_⟩
    split
    · rename_i c7
      have hok : lsOk k = true := lsOk_of hlen (by omega) (by omega) (by rw [List.getElem?_eq_getElem l0, c4]) c5 (by rw [List.getElem?_eq_getElem l1, c6]) c7
      unfold nsortG at hk
      rw [if_pos rfl, if_pos ⟨hok, by simpa using cv⟩] at hk
      exact hk
    · rename_i c7
      exact hz (fun e => c7 (hnl e.1).2.2.2)
  · exact hk.elim
def cNSort31 := addC 38 kNSort31 cNSort
theorem okNSort31 : Sound env cNSort31 := sound_add sNSort31 (okNSort)

def kNSort25 (xs : List IV) (h : Heap) (K : IV → Heap → Prop) : Prop := match xs with
  | [.vslice none e0 n0 3 c0, .agg [.int .i64 25, .int .i64 im, .vslice none e1 n1 1 c1], .vslice none e2 n2 1 c2] => ∃ (l : List Nd) (ks k : List Int), (n0 = l.length ∧ c0 = l.flatMap cN) ∧ (n1 = ks.length ∧ c1 = ks.map (IV.int .i64)) ∧ (n2 = k.length ∧ c2 = k.map (IV.int .i64)) ∧ (ks.length = k.length ∧ k.length ≤ 1000000 ∧ l.length ≤ 1000000 ∧ (∀ q ∈ ks, 0 ≤ q ∧ q < l.length) ∧ (k = [3] → eK l ⟨25, im, ks⟩ % 2 = 1) ∧ ∀ n ∈ l, n.ks.length ≤ 1000000) ∧ K (.int .i64 (nsortG (eK l ⟨25, im, ks⟩) 25 im k)) h
  | _ => False
set_option maxRecDepth 100000 in
theorem vNSort25 (l : List Nd) (im : Int) (ks k : List Int) (e0 e1 e2 : Nat) (h : Heap) (Q : IV → Heap → Prop) : dF (stdS cNSort31) env 38 noU noI noI [.vslice none e0 (l).length 3 ((l).flatMap cN), .agg [.int .i64 25, .int .i64 im, .vslice none e1 ks.length 1 (ks.map (IV.int .i64))], .vslice none e2 (k).length 1 ((k).map (IV.int .i64))] h Q = (
  needS
 (pureL
 [IV.vslice none (0 : Nat) (List.length l) (3 : Nat) (List.flatMap cN l), IV.agg [IV.int IntKind.i64 (25 : Int), IV.int IntKind.i64 im, IV.vslice none (0 : Nat) (List.length ks) (1 : Nat) (List.map (IV.int IntKind.i64) ks)],
 IV.vslice none (0 : Nat) (List.length k) (1 : Nat) (List.map (IV.int IntKind.i64) k)])
 (brS ((↑(List.length ks) : Int) != (1 : Int)) (Q (IV.int IntKind.i64 (0 : Int)) h)
 (brS (!vImm (25 : Int) im) (Q (IV.int IntKind.i64 (0 : Int)) h)
 (needS (true && decide ((0 : Int) < (↑(List.length k) : Int)))
 (ldIS IntKind.i64 (List.map (IV.int IntKind.i64) k) (0 : Nat) fun (n0 : Int) =>
 brS (n0 != (3 : Int)) (Q (IV.int IntKind.i64 (0 : Int)) h)
 (needS (true && decide ((0 : Int) < (↑(List.length ks) : Int)))
 (ldIS IntKind.i64 (List.map (IV.int IntKind.i64) ks) (0 : Nat) fun (n1 : Int) =>
 needS (decide ((0 : Int) ≤ n1) && decide (n1 < (↑(List.length l) : Int)))
 (ldVS (1 : Nat) (List.flatMap cN l) (Int.toNat n1 * (3 : Nat) + (2 : Nat)) fun (i2 : Option Nat) (e3 l4 : Nat) (c5 : List IV) =>
 brS (decide (im ≥ IntKind.wrap IntKind.i64 (Int.tdiv (↑l4 : Int) (2 : Int)))) (Q (IV.int IntKind.i64 (0 : Int)) h)
 (Q (IV.int IntKind.i64 (IntKind.wrap IntKind.i64 ((if (im == (0 : Int)) = true then (1 : Int) else (0 : Int)) + (1 : Int)))) h))))))))) := by kernel_rfl
set_option maxHeartbeats 2000000 in
theorem sNSort25 : ∀ xs h Q, kNSort25 xs h Q → CallW env 38 xs h Q := by
  intro xs h Q hk
  unfold kNSort25 at hk
  split at hk
  · rename_i e0 n0 c0 im e1 n1 c1 e2 n2 c2
    obtain ⟨l, ks, k, ⟨rfl, rfl⟩, ⟨rfl, rfl⟩, ⟨rfl, rfl⟩, hb, hk⟩ := hk
    refine dF_run (okNSort31) (vNSort25 l im ks k e0 e1 e2 h Q) ?_
    have tn : ∀ x : Nat, (x : Int).toNat = x := Int.toNat_natCast
    obtain ⟨hkk, hkl, hll, hqs, hodd, hEs⟩ := hb
    have hz : ¬ (k = [3] ∧ 0 ≤ im ∧ im ≤ 15 ∧ 2 * im + 3 ≤ (eK l ⟨25, im, ks⟩ : Int)) → Q (.int .i64 0) h := fun e => by
      unfold nsortG at hk
      rw [if_neg (by decide), if_neg (by decide), if_pos rfl, if_neg e] at hk
      exact hk
    have hv : vImm 25 im = true ↔ (0 ≤ im ∧ im ≤ 15) := by
      have : mxI 25 = 15 := by decide
      unfold vImm
      rw [decide_eq_true_eq, this]
      omega
    refine needS_intro (by simp only [pureL, pureB, pureL_ints, pureL_cN, Bool.and_true]) (brS_intro (fun c => hz (fun e => ?_)) (fun c0 => brS_intro (fun c => hz (fun e => ?_)) (fun c1 => ?_)))
    · rw [e.1] at hkk
      rw [bne_iff_ne, hkk] at c
      exact c rfl
    · rw [hv.2 ⟨e.2.1, e.2.2.1⟩] at c
      cases c
    rw [bne_eq_false_iff_eq] at c0
    rw [Bool.not_eq_false'] at c1
    rw [hv] at c1
    match ks, k, hkk, c0 with
    | [q], [s], _, _ =>
      have hq := hqs q List.mem_cons_self
      refine needS_intro (by simp) (ldIS_map (l := [s]) (i := 0) (by simp) (brS_intro (fun c => hz (fun e => ?_)) (fun c2 => ?_)))
      · rw [bne_iff_ne] at c
        have := e.1
        rw [List.cons.injEq] at this
        exact c this.1
      rw [bne_eq_false_iff_eq] at c2
      have hs : s = 3 := c2
      subst hs
      have ho := hodd rfl
      have hlt : q.toNat < l.length := by omega
      have eE : eK l ⟨25, im, [q]⟩ = (l[q.toNat]).ks.length := by
        show (l.getD q.toNat default).ks.length = _
        rw [List.getD_eq_getElem?_getD, List.getElem?_eq_getElem hlt]
        rfl
      rw [eE] at ho hz
      refine needS_intro (by simp) (ldIS_map (l := [q]) (i := 0) (by simp) (needS_intro (by simp; omega) (ldNk hlt rfl (brS_intro (fun c => hz (fun e => ?_)) (fun c3 => ?_)))))
      · rw [decide_eq_true_eq, Int.tdiv_eq_ediv_of_nonneg (by omega)] at c
        have h4 := hEs _ (List.getElem_mem hlt)
        rw [IntWalk.i64_in _ (by omega)] at c
        omega
      · rw [decide_eq_false_iff_not, Int.tdiv_eq_ediv_of_nonneg (by omega)] at c3
        have h4 := hEs _ (List.getElem_mem hlt)
        rw [IntWalk.i64_in _ (by omega)] at c3
        unfold nsortG at hk
        rw [if_neg (by decide), if_neg (by decide), if_pos rfl, if_pos ⟨rfl, c1.1, c1.2, by rw [eE]; omega⟩] at hk
        refine q_eq hk ?_
        congr 1
        by_cases e : im = 0
        · subst e; rfl
        · rw [if_neg e, if_neg (by simpa using e)]; rfl
  · exact hk.elim
def cNSort25 := addC 38 kNSort25 cNSort31
theorem okNSort25 : Sound env cNSort25 := sound_add sNSort25 (okNSort31)

def kNSortG (xs : List IV) (h : Heap) (K : IV → Heap → Prop) : Prop := match xs with
  | [.vslice none e0 n0 3 c0, .agg [.int .i64 op, .int .i64 im, .vslice none e1 n1 1 c1], .vslice none e2 n2 1 c2] => ∃ (l : List Nd) (ks k : List Int), (n0 = l.length ∧ c0 = l.flatMap cN) ∧ (n1 = ks.length ∧ c1 = ks.map (IV.int .i64)) ∧ (n2 = k.length ∧ c2 = k.map (IV.int .i64)) ∧ (op ≠ 30 ∧ ks.length = k.length ∧ k.length ≤ 1000000 ∧ l.length ≤ 1000000 ∧ (∀ q ∈ ks, 0 ≤ q ∧ q < l.length) ∧ (k = [3] → eK l ⟨op, im, ks⟩ % 2 = 1) ∧ ∀ n ∈ l, n.ks.length ≤ 1000000) ∧ K (.int .i64 (nsortG (eK l ⟨op, im, ks⟩) op im k)) h
  | _ => False
theorem sNSortG : ∀ xs h Q, kNSortG xs h Q → CallW env 38 xs h Q := by
  intro xs h Q hk
  unfold kNSortG at hk
  split at hk
  · rename_i e0 n0 c0 op im e1 n1 c1 e2 n2 c2
    obtain ⟨l, ks, k, ⟨rfl, rfl⟩, ⟨rfl, rfl⟩, ⟨rfl, rfl⟩, ⟨h30, hb⟩, hk⟩ := hk
    by_cases o31 : op = 31
    · subst o31
      exact sNSort31 _ _ _ ⟨l, ks, k, ⟨rfl, rfl⟩, ⟨rfl, rfl⟩, ⟨rfl, rfl⟩, hb, hk⟩
    by_cases o25 : op = 25
    · subst o25
      exact sNSort25 _ _ _ ⟨l, ks, k, ⟨rfl, rfl⟩, ⟨rfl, rfl⟩, ⟨rfl, rfl⟩, hb, hk⟩
    unfold nsortG at hk
    rw [if_neg o31, if_neg h30, if_neg o25] at hk
    exact sNSort _ _ _ ⟨l, ks, k, ⟨rfl, rfl⟩, ⟨rfl, rfl⟩, ⟨rfl, rfl⟩, ⟨⟨o25, h30, o31⟩, hb.1, by omega⟩, hk⟩
  · exact hk.elim
def cNSortG := addC 38 kNSortG cNSort25
theorem okNSortG : Sound env cNSortG := sound_add sNSortG (okNSort25)

/-- at the outer loop: no sort so far, or some -/
def soInv (l : List Nd) : Inv' := .or
  (atX Heap (fun _ => [(0, .v (.vslice none 0 (l).length 3 ((l).flatMap cN))), (4, .v (.int .i64 0)), (3, .v .nilslice)]) (fun _ => []) (fun x => x) (fun _ => True) (fun _ => l.length))
  (atX (Nat × Nat × Heap) (fun x => [(0, .v (.vslice none 0 (l).length 3 ((l).flatMap cN))), (4, .v (.int .i64 x.1)), (3, .v (.vslice (some x.2.1) x.1 x.1 1 ((sortsG (l.take x.1)).map (IV.int .i64))))]) (fun _ => []) (fun x => x.2.2) (fun x => SO l x.1 x.2.1 x.2.2) (fun x => l.length - x.1))
def siInv (l : List Nd) : Inv' := .or
  (atX Heap (fun _ => [(0, .v (.vslice none 0 (l).length 3 ((l).flatMap cN))), (4, .v (.int .i64 0)), (3, .v .nilslice), (5, .v .nilslice), (6, .v (.bool true)), (7, .v (.int .i64 0))]) (fun _ => []) (fun x => x) (fun _ => 0 < l.length) (fun _ => l.length * 1000002 + kRest l 0 0))
  (.or
  (atX (Nat × Nat × Heap) (fun x => [(0, .v (.vslice none 0 (l).length 3 ((l).flatMap cN))), (4, .v (.int .i64 x.1)), (3, .v (.vslice (some x.2.1) x.1 x.1 1 ((sortsG (l.take x.1)).map (IV.int .i64)))), (5, .v .nilslice), (6, .v (.bool true)), (7, .v (.int .i64 0))]) (fun _ => []) (fun x => x.2.2) (fun x => x.1 < l.length ∧ SO l x.1 x.2.1 x.2.2) (fun x => (l.length - x.1) * 1000002 + kRest l x.1 0))
  (atX (Nat × Nat × Heap × Nat × List Int × Nat) (fun x => [(0, .v (.vslice none 0 (l).length 3 ((l).flatMap cN))), (4, .v (.int .i64 x.1)), (3, .v (.vslice (some x.2.1) x.1 x.1 1 ((sortsG (l.take x.1)).map (IV.int .i64)))), (5, .v (.vslice (some x.2.2.2.2.2) x.2.2.2.2.1.length x.2.2.2.2.1.length 1 (x.2.2.2.2.1.map (IV.int .i64)))), (6, .v (.bool true)), (7, .v (.int .i64 x.2.2.2.1))]) (fun _ => []) (fun x => x.2.2.1)
    (fun x => x.1 < l.length ∧ SO l x.1 x.2.1 x.2.2.1 ∧ SIG l x.1 x.2.2.2.1 x.2.2.2.2.1 ∧ SK x.2.2.2.2.1 x.2.1 x.2.2.2.2.2 x.2.2.1) (fun x => (l.length - x.1) * 1000002 + kRest l x.1 x.2.2.2.1)))
def kSorts (xs : List IV) (h : Heap) (K : IV → Heap → Prop) : Prop := match xs with
  | [.vslice none e1 n1 3 c1] => ∃ l : List Nd, (n1 = l.length ∧ c1 = l.flatMap cN) ∧ ((∀ x ∈ l, x.ks.length ≤ 1000000 ∧ x.op ≠ 30) ∧ l.length ≤ 1000000) ∧ K (.vslice none 0 (sortsG l).length 1 ((sortsG l).map (IV.int .i64))) h
  | _ => False
set_option maxRecDepth 100000 in
theorem vSorts (l : List Nd) (e1 : Nat) (h : Heap) (Q : IV → Heap → Prop) : dF (stdS cNSortG) env 26 noU (icA 4 (soInv l) (ic1 1000009 (siInv l))) noI [.vslice none e1 (l).length 3 ((l).flatMap cN)] h Q = (
  needS (pureL [IV.vslice none (0 : Nat) (List.length l) (3 : Nat) (List.flatMap cN l)])
 (((∃ (x : Heap),
 some (TV.v (IV.vslice none (0 : Nat) (List.length l) (3 : Nat) (List.flatMap cN l))) = some (TV.v (IV.vslice none (0 : Nat) (List.length l) (3 : Nat) (List.flatMap cN l))) ∧
 some (TV.v (IV.int IntKind.i64 (0 : Int))) = some (TV.v (IV.int IntKind.i64 (0 : Int))) ∧ some (TV.v IV.nilslice) = some (TV.v IV.nilslice) ∧ Heap.mk PT.nil (0 : Nat) = x ∧ True ∧ True) ∨
 ∃ (x : Nat × Nat × Heap),
 some (TV.v (IV.vslice none (0 : Nat) (List.length l) (3 : Nat) (List.flatMap cN l))) = some (TV.v (IV.vslice none (0 : Nat) (List.length l) (3 : Nat) (List.flatMap cN l))) ∧
 some (TV.v (IV.int IntKind.i64 (0 : Int))) = some (TV.v (IV.int IntKind.i64 (↑(Prod.fst x) : Int))) ∧
 some (TV.v IV.nilslice) = some (TV.v (IV.vslice (some (Prod.fst (Prod.snd x))) (Prod.fst x) (Prod.fst x) (1 : Nat) (List.map (IV.int IntKind.i64) (sortsG (List.take (Prod.fst x) l))))) ∧
 Heap.mk PT.nil (0 : Nat) = Prod.snd (Prod.snd x) ∧
 (((0 : Nat) < Prod.fst x ∧ Prod.fst x ≤ List.length l) ∧ Heap.get (Prod.snd (Prod.snd x)) (Prod.fst (Prod.snd x)) = IObj.tip (Prod.fst x) ∧ Prod.fst (Prod.snd x) < Heap.next (Prod.snd (Prod.snd x))) ∧ True) ∧
 (∀ (x : Heap) (b : FF),
 True →
 brS (decide ((0 : Int) < (↑(List.length l) : Int)))
 (∃ (M : Nat),
 ((∃ (x_1 : Heap),
 some (TV.v (IV.vslice none (0 : Nat) (List.length l) (3 : Nat) (List.flatMap cN l))) = some (TV.v (IV.vslice none (0 : Nat) (List.length l) (3 : Nat) (List.flatMap cN l))) ∧
 some (TV.v (IV.int IntKind.i64 (0 : Int))) = some (TV.v (IV.int IntKind.i64 (0 : Int))) ∧
 some (TV.v IV.nilslice) = some (TV.v IV.nilslice) ∧
 some (TV.v IV.nilslice) = some (TV.v IV.nilslice) ∧
 some (TV.v (IV.bool true)) = some (TV.v (IV.bool true)) ∧
 some (TV.v (IV.int IntKind.i64 (0 : Int))) = some (TV.v (IV.int IntKind.i64 (0 : Int))) ∧ x = x_1 ∧ Nat.le (1 : Nat) (List.length l) ∧ List.length l * (1000002 : Nat) + kRest l (0 : Nat) (0 : Nat) ≤ M) ∨
 (∃ (x_1 : Nat × Nat × Heap),
 some (TV.v (IV.vslice none (0 : Nat) (List.length l) (3 : Nat) (List.flatMap cN l))) = some (TV.v (IV.vslice none (0 : Nat) (List.length l) (3 : Nat) (List.flatMap cN l))) ∧
 some (TV.v (IV.int IntKind.i64 (0 : Int))) = some (TV.v (IV.int IntKind.i64 (↑(Prod.fst x_1) : Int))) ∧
 some (TV.v IV.nilslice) = some (TV.v (IV.vslice (some (Prod.fst (Prod.snd x_1))) (Prod.fst x_1) (Prod.fst x_1) (1 : Nat) (List.map (IV.int IntKind.i64) (sortsG (List.take (Prod.fst x_1) l))))) ∧
 some (TV.v IV.nilslice) = some (TV.v IV.nilslice) ∧
 some (TV.v (IV.bool true)) = some (TV.v (IV.bool true)) ∧
 some (TV.v (IV.int IntKind.i64 (0 : Int))) = some (TV.v (IV.int IntKind.i64 (0 : Int))) ∧
 x = Prod.snd (Prod.snd x_1) ∧
 (Prod.fst x_1 < List.length l ∧ SO l (Prod.fst x_1) (Prod.fst (Prod.snd x_1)) (Prod.snd (Prod.snd x_1))) ∧ (List.length l - Prod.fst x_1) * (1000002 : Nat) + kRest l (Prod.fst x_1) (0 : Nat) ≤ M) ∨
 ∃ (x_1 : Nat × Nat × Heap × Nat × List Int × Nat),
 some (TV.v (IV.vslice none (0 : Nat) (List.length l) (3 : Nat) (List.flatMap cN l))) = some (TV.v (IV.vslice none (0 : Nat) (List.length l) (3 : Nat) (List.flatMap cN l))) ∧
 some (TV.v (IV.int IntKind.i64 (0 : Int))) = some (TV.v (IV.int IntKind.i64 (↑(Prod.fst x_1) : Int))) ∧
 some (TV.v IV.nilslice) = some (TV.v (IV.vslice (some (Prod.fst (Prod.snd x_1))) (Prod.fst x_1) (Prod.fst x_1) (1 : Nat) (List.map (IV.int IntKind.i64) (sortsG (List.take (Prod.fst x_1) l))))) ∧
 some (TV.v IV.nilslice) =
 some
 (TV.v
 (IV.vslice (some (Prod.snd (Prod.snd (Prod.snd (Prod.snd (Prod.snd x_1)))))) (List.length (Prod.fst (Prod.snd (Prod.snd (Prod.snd (Prod.snd x_1))))))
 (List.length (Prod.fst (Prod.snd (Prod.snd (Prod.snd (Prod.snd x_1)))))) (1 : Nat) (List.map (IV.int IntKind.i64) (Prod.fst (Prod.snd (Prod.snd (Prod.snd (Prod.snd x_1)))))))) ∧
 some (TV.v (IV.bool true)) = some (TV.v (IV.bool true)) ∧
 some (TV.v (IV.int IntKind.i64 (0 : Int))) = some (TV.v (IV.int IntKind.i64 (↑(Prod.fst (Prod.snd (Prod.snd (Prod.snd x_1)))) : Int))) ∧
 x = Prod.fst (Prod.snd (Prod.snd x_1)) ∧
 (Prod.fst x_1 < List.length l ∧
 SO l (Prod.fst x_1) (Prod.fst (Prod.snd x_1)) (Prod.fst (Prod.snd (Prod.snd x_1))) ∧
 SIG l (Prod.fst x_1) (Prod.fst (Prod.snd (Prod.snd (Prod.snd x_1)))) (Prod.fst (Prod.snd (Prod.snd (Prod.snd (Prod.snd x_1))))) ∧
 SK (Prod.fst (Prod.snd (Prod.snd (Prod.snd (Prod.snd x_1))))) (Prod.fst (Prod.snd x_1)) (Prod.snd (Prod.snd (Prod.snd (Prod.snd (Prod.snd x_1))))) (Prod.fst (Prod.snd (Prod.snd x_1)))) ∧
 (List.length l - Prod.fst x_1) * (1000002 : Nat) + kRest l (Prod.fst x_1) (Prod.fst (Prod.snd (Prod.snd (Prod.snd x_1)))) ≤ M) ∧
 (∀ (x : Heap) (b : FF),
 (0 : Nat) < List.length l →
 List.length l * (1000002 : Nat) + kRest l (0 : Nat) (0 : Nat) ≤ M →
 needS (true && decide ((0 : Int) < (↑(List.length l) : Int)))
 (ldVS (1 : Nat) (List.flatMap cN l) (2 : Nat) fun (i0 : Option Nat) (e1 l2 : Nat) (c3 : List IV) =>
 brS (decide ((0 : Int) < (↑l2 : Int)))
 (needS (true && decide ((0 : Int) < (↑(List.length l) : Int)))
 (ldVS (1 : Nat) (List.flatMap cN l) (2 : Nat) fun (i4 : Option Nat) (e5 l6 : Nat) (c7 : List IV) =>
 needS (true && decide ((0 : Int) < (↑l6 : Int)))
 (ldIS IntKind.i64 c7 (0 : Nat) fun (n8 : Int) =>
 brS (decide (n8 < (0 : Int)))
 ((∃ (x_1 : Heap),
 some (TV.v (IV.vslice none (0 : Nat) (List.length l) (3 : Nat) (List.flatMap cN l))) = some (TV.v (IV.vslice none (0 : Nat) (List.length l) (3 : Nat) (List.flatMap cN l))) ∧
 some (TV.v (IV.int IntKind.i64 (1 : Int))) = some (TV.v (IV.int IntKind.i64 (0 : Int))) ∧
 some (TV.v (IV.vslice (some (Heap.next x)) (1 : Nat) (1 : Nat) (1 : Nat) [IV.int IntKind.i64 (0 : Int)])) = some (TV.v IV.nilslice) ∧
 Heap.push x (IObj.tip (1 : Nat)) = x_1 ∧ True ∧ List.length l < List.length l) ∨
 ∃ (x_1 : Nat × Nat × Heap),
 some (TV.v (IV.vslice none (0 : Nat) (List.length l) (3 : Nat) (List.flatMap cN l))) = some (TV.v (IV.vslice none (0 : Nat) (List.length l) (3 : Nat) (List.flatMap cN l))) ∧
 some (TV.v (IV.int IntKind.i64 (1 : Int))) = some (TV.v (IV.int IntKind.i64 (↑(Prod.fst x_1) : Int))) ∧
 some (TV.v (IV.vslice (some (Heap.next x)) (1 : Nat) (1 : Nat) (1 : Nat) [IV.int IntKind.i64 (0 : Int)])) =
 some (TV.v (IV.vslice (some (Prod.fst (Prod.snd x_1))) (Prod.fst x_1) (Prod.fst x_1) (1 : Nat) (List.map (IV.int IntKind.i64) (sortsG (List.take (Prod.fst x_1) l))))) ∧
 Heap.push x (IObj.tip (1 : Nat)) = Prod.snd (Prod.snd x_1) ∧
 (((0 : Nat) < Prod.fst x_1 ∧ Prod.fst x_1 ≤ List.length l) ∧
 Heap.get (Prod.snd (Prod.snd x_1)) (Prod.fst (Prod.snd x_1)) = IObj.tip (Prod.fst x_1) ∧ Prod.fst (Prod.snd x_1) < Heap.next (Prod.snd (Prod.snd x_1))) ∧
 List.length l - Prod.fst x_1 < List.length l)
 (brS (decide (n8 ≥ (0 : Int)))
 ((∃ (x_1 : Heap),
 some (TV.v (IV.vslice none (0 : Nat) (List.length l) (3 : Nat) (List.flatMap cN l))) = some (TV.v (IV.vslice none (0 : Nat) (List.length l) (3 : Nat) (List.flatMap cN l))) ∧
 some (TV.v (IV.int IntKind.i64 (1 : Int))) = some (TV.v (IV.int IntKind.i64 (0 : Int))) ∧
 some (TV.v (IV.vslice (some (Heap.next x)) (1 : Nat) (1 : Nat) (1 : Nat) [IV.int IntKind.i64 (0 : Int)])) = some (TV.v IV.nilslice) ∧
 Heap.push x (IObj.tip (1 : Nat)) = x_1 ∧ True ∧ List.length l < List.length l) ∨
 ∃ (x_1 : Nat × Nat × Heap),
 some (TV.v (IV.vslice none (0 : Nat) (List.length l) (3 : Nat) (List.flatMap cN l))) = some (TV.v (IV.vslice none (0 : Nat) (List.length l) (3 : Nat) (List.flatMap cN l))) ∧
 some (TV.v (IV.int IntKind.i64 (1 : Int))) = some (TV.v (IV.int IntKind.i64 (↑(Prod.fst x_1) : Int))) ∧
 some (TV.v (IV.vslice (some (Heap.next x)) (1 : Nat) (1 : Nat) (1 : Nat) [IV.int IntKind.i64 (0 : Int)])) =
 some (TV.v (IV.vslice (some (Prod.fst (Prod.snd x_1))) (Prod.fst x_1) (Prod.fst x_1) (1 : Nat) (List.map (IV.int IntKind.i64) (sortsG (List.take (Prod.fst x_1) l))))) ∧
 Heap.push x (IObj.tip (1 : Nat)) = Prod.snd (Prod.snd x_1) ∧
 (((0 : Nat) < Prod.fst x_1 ∧ Prod.fst x_1 ≤ List.length l) ∧
 Heap.get (Prod.snd (Prod.snd x_1)) (Prod.fst (Prod.snd x_1)) = IObj.tip (Prod.fst x_1) ∧ Prod.fst (Prod.snd x_1) < Heap.next (Prod.snd (Prod.snd x_1))) ∧
 List.length l - Prod.fst x_1 < List.length l)
 False))))
 (needS (true && decide ((0 : Int) < (↑(List.length l) : Int)))
 (ldIS IntKind.i64 (List.flatMap cN l) (0 : Nat) fun (n9 : Int) =>
 ldIS IntKind.i64 (List.flatMap cN l) (1 : Nat) fun (n10 : Int) =>
 ldVS (1 : Nat) (List.flatMap cN l) (2 : Nat) fun (i11 : Option Nat) (e12 l13 : Nat) (c14 : List IV) =>
 ∃ (l_1 : List Nd),
 ∃ (ks : List Int),
 ∃ (k : List Int),
 (List.length l = List.length l_1 ∧ List.flatMap cN l = List.flatMap cN l_1) ∧
 (l13 = List.length ks ∧ c14 = List.map (IV.int IntKind.i64) ks) ∧
 ((0 : Nat) = List.length k ∧ [] = List.map (IV.int IntKind.i64) k) ∧
 (n9 ≠ (30 : Int) ∧
 List.length ks = List.length k ∧
 List.length k ≤ (1000000 : Nat) ∧
 List.length l_1 ≤ (1000000 : Nat) ∧
 (∀ (q : Int), q ∈ ks → (0 : Int) ≤ q ∧ q < (↑(List.length l_1) : Int)) ∧
 (k = [(3 : Int)] → eK l_1 (Nd.mk n9 n10 ks) % (2 : Nat) = (1 : Nat)) ∧ ∀ (n : Nd), n ∈ l_1 → List.length (Nd.ks n) ≤ (1000000 : Nat)) ∧
 ((∃ (x_1 : Heap),
 some (TV.v (IV.vslice none (0 : Nat) (List.length l) (3 : Nat) (List.flatMap cN l))) = some (TV.v (IV.vslice none (0 : Nat) (List.length l) (3 : Nat) (List.flatMap cN l))) ∧
 some (TV.v (IV.int IntKind.i64 (1 : Int))) = some (TV.v (IV.int IntKind.i64 (0 : Int))) ∧
 some (TV.v (IV.vslice (some (Heap.next x)) (1 : Nat) (1 : Nat) (1 : Nat) [IV.int IntKind.i64 (nsortG (eK l_1 (Nd.mk n9 n10 ks)) n9 n10 k)])) = some (TV.v IV.nilslice) ∧
 Heap.push x (IObj.tip (1 : Nat)) = x_1 ∧ True ∧ List.length l < List.length l) ∨
 ∃ (x_1 : Nat × Nat × Heap),
 some (TV.v (IV.vslice none (0 : Nat) (List.length l) (3 : Nat) (List.flatMap cN l))) = some (TV.v (IV.vslice none (0 : Nat) (List.length l) (3 : Nat) (List.flatMap cN l))) ∧
 some (TV.v (IV.int IntKind.i64 (1 : Int))) = some (TV.v (IV.int IntKind.i64 (↑(Prod.fst x_1) : Int))) ∧
 some (TV.v (IV.vslice (some (Heap.next x)) (1 : Nat) (1 : Nat) (1 : Nat) [IV.int IntKind.i64 (nsortG (eK l_1 (Nd.mk n9 n10 ks)) n9 n10 k)])) =
 some (TV.v (IV.vslice (some (Prod.fst (Prod.snd x_1))) (Prod.fst x_1) (Prod.fst x_1) (1 : Nat) (List.map (IV.int IntKind.i64) (sortsG (List.take (Prod.fst x_1) l))))) ∧
 Heap.push x (IObj.tip (1 : Nat)) = Prod.snd (Prod.snd x_1) ∧
 (((0 : Nat) < Prod.fst x_1 ∧ Prod.fst x_1 ≤ List.length l) ∧
 Heap.get (Prod.snd (Prod.snd x_1)) (Prod.fst (Prod.snd x_1)) = IObj.tip (Prod.fst x_1) ∧ Prod.fst (Prod.snd x_1) < Heap.next (Prod.snd (Prod.snd x_1))) ∧
 List.length l - Prod.fst x_1 < List.length l))))) ∧
 (∀ (x : Nat × Nat × Heap) (b : FF),
 Prod.fst x < List.length l ∧ SO l (Prod.fst x) (Prod.fst (Prod.snd x)) (Prod.snd (Prod.snd x)) →
 (List.length l - Prod.fst x) * (1000002 : Nat) + kRest l (Prod.fst x) (0 : Nat) ≤ M →
 needS (decide ((0 : Int) ≤ (↑(Prod.fst x) : Int)) && decide ((↑(Prod.fst x) : Int) < (↑(List.length l) : Int)))
 (ldVS (1 : Nat) (List.flatMap cN l) (Int.toNat (↑(Prod.fst x) : Int) * (3 : Nat) + (2 : Nat)) fun (i15 : Option Nat) (e16 l17 : Nat) (c18 : List IV) =>
 brS (decide ((0 : Int) < (↑l17 : Int)))
 (needS (decide ((0 : Int) ≤ (↑(Prod.fst x) : Int)) && decide ((↑(Prod.fst x) : Int) < (↑(List.length l) : Int)))
 (ldVS (1 : Nat) (List.flatMap cN l) (Int.toNat (↑(Prod.fst x) : Int) * (3 : Nat) + (2 : Nat)) fun (i19 : Option Nat) (e20 l21 : Nat) (c22 : List IV) =>
 needS (true && decide ((0 : Int) < (↑l21 : Int)))
 (ldIS IntKind.i64 c22 (0 : Nat) fun (n23 : Int) =>
 brS (decide (n23 < (0 : Int)))
 (tipS (Prod.snd (Prod.snd x)) (Prod.fst (Prod.snd x)) fun (m24 : Nat) =>
 needS (Nat.beq m24 (Prod.fst x) && Nat.ble ((Prod.fst x + (1 : Nat)) * (8 : Nat)) (140737488355328 : Nat))
 ((∃ (x_1 : Heap),
 some (TV.v (IV.vslice none (0 : Nat) (List.length l) (3 : Nat) (List.flatMap cN l))) = some (TV.v (IV.vslice none (0 : Nat) (List.length l) (3 : Nat) (List.flatMap cN l))) ∧
 some (TV.v (IV.int IntKind.i64 (IntKind.wrap IntKind.i64 ((↑(Prod.fst x) : Int) + (1 : Int))))) = some (TV.v (IV.int IntKind.i64 (0 : Int))) ∧
 some
 (TV.v
 (IV.vslice (some (Prod.fst (Prod.snd x))) (Prod.fst x + (1 : Nat)) (Prod.fst x + (1 : Nat)) (1 : Nat)
 (List.map (IV.int IntKind.i64) (sortsG (List.take (Prod.fst x) l)) ++ [IV.int IntKind.i64 (0 : Int)]))) =
 some (TV.v IV.nilslice) ∧
 Heap.set (Prod.snd (Prod.snd x)) (Prod.fst (Prod.snd x)) (IObj.tip (Prod.fst x + (1 : Nat))) = x_1 ∧ True ∧ List.length l < List.length l) ∨
 ∃ (x_1 : Nat × Nat × Heap),
 some (TV.v (IV.vslice none (0 : Nat) (List.length l) (3 : Nat) (List.flatMap cN l))) = some (TV.v (IV.vslice none (0 : Nat) (List.length l) (3 : Nat) (List.flatMap cN l))) ∧
 some (TV.v (IV.int IntKind.i64 (IntKind.wrap IntKind.i64 ((↑(Prod.fst x) : Int) + (1 : Int))))) = some (TV.v (IV.int IntKind.i64 (↑(Prod.fst x_1) : Int))) ∧
 some
 (TV.v
 (IV.vslice (some (Prod.fst (Prod.snd x))) (Prod.fst x + (1 : Nat)) (Prod.fst x + (1 : Nat)) (1 : Nat)
 (List.map (IV.int IntKind.i64) (sortsG (List.take (Prod.fst x) l)) ++ [IV.int IntKind.i64 (0 : Int)]))) =
 some (TV.v (IV.vslice (some (Prod.fst (Prod.snd x_1))) (Prod.fst x_1) (Prod.fst x_1) (1 : Nat) (List.map (IV.int IntKind.i64) (sortsG (List.take (Prod.fst x_1) l))))) ∧
 Heap.set (Prod.snd (Prod.snd x)) (Prod.fst (Prod.snd x)) (IObj.tip (Prod.fst x + (1 : Nat))) = Prod.snd (Prod.snd x_1) ∧
 (((0 : Nat) < Prod.fst x_1 ∧ Prod.fst x_1 ≤ List.length l) ∧
 Heap.get (Prod.snd (Prod.snd x_1)) (Prod.fst (Prod.snd x_1)) = IObj.tip (Prod.fst x_1) ∧ Prod.fst (Prod.snd x_1) < Heap.next (Prod.snd (Prod.snd x_1))) ∧
 List.length l - Prod.fst x_1 < List.length l))
 (brS (decide (n23 ≥ (↑(Prod.fst x) : Int)))
 (tipS (Prod.snd (Prod.snd x)) (Prod.fst (Prod.snd x)) fun (m25 : Nat) =>
 needS (Nat.beq m25 (Prod.fst x) && Nat.ble ((Prod.fst x + (1 : Nat)) * (8 : Nat)) (140737488355328 : Nat))
 ((∃ (x_1 : Heap),
 some (TV.v (IV.vslice none (0 : Nat) (List.length l) (3 : Nat) (List.flatMap cN l))) = some (TV.v (IV.vslice none (0 : Nat) (List.length l) (3 : Nat) (List.flatMap cN l))) ∧
 some (TV.v (IV.int IntKind.i64 (IntKind.wrap IntKind.i64 ((↑(Prod.fst x) : Int) + (1 : Int))))) = some (TV.v (IV.int IntKind.i64 (0 : Int))) ∧
 some
 (TV.v
 (IV.vslice (some (Prod.fst (Prod.snd x))) (Prod.fst x + (1 : Nat)) (Prod.fst x + (1 : Nat)) (1 : Nat)
 (List.map (IV.int IntKind.i64) (sortsG (List.take (Prod.fst x) l)) ++ [IV.int IntKind.i64 (0 : Int)]))) =
 some (TV.v IV.nilslice) ∧
 Heap.set (Prod.snd (Prod.snd x)) (Prod.fst (Prod.snd x)) (IObj.tip (Prod.fst x + (1 : Nat))) = x_1 ∧ True ∧ List.length l < List.length l) ∨
 ∃ (x_1 : Nat × Nat × Heap),
 some (TV.v (IV.vslice none (0 : Nat) (List.length l) (3 : Nat) (List.flatMap cN l))) = some (TV.v (IV.vslice none (0 : Nat) (List.length l) (3 : Nat) (List.flatMap cN l))) ∧
 some (TV.v (IV.int IntKind.i64 (IntKind.wrap IntKind.i64 ((↑(Prod.fst x) : Int) + (1 : Int))))) = some (TV.v (IV.int IntKind.i64 (↑(Prod.fst x_1) : Int))) ∧
 some
 (TV.v
 (IV.vslice (some (Prod.fst (Prod.snd x))) (Prod.fst x + (1 : Nat)) (Prod.fst x + (1 : Nat)) (1 : Nat)
 (List.map (IV.int IntKind.i64) (sortsG (List.take (Prod.fst x) l)) ++ [IV.int IntKind.i64 (0 : Int)]))) =
 some (TV.v (IV.vslice (some (Prod.fst (Prod.snd x_1))) (Prod.fst x_1) (Prod.fst x_1) (1 : Nat) (List.map (IV.int IntKind.i64) (sortsG (List.take (Prod.fst x_1) l))))) ∧
 Heap.set (Prod.snd (Prod.snd x)) (Prod.fst (Prod.snd x)) (IObj.tip (Prod.fst x + (1 : Nat))) = Prod.snd (Prod.snd x_1) ∧
 (((0 : Nat) < Prod.fst x_1 ∧ Prod.fst x_1 ≤ List.length l) ∧
 Heap.get (Prod.snd (Prod.snd x_1)) (Prod.fst (Prod.snd x_1)) = IObj.tip (Prod.fst x_1) ∧ Prod.fst (Prod.snd x_1) < Heap.next (Prod.snd (Prod.snd x_1))) ∧
 List.length l - Prod.fst x_1 < List.length l))
 (needS (decide ((0 : Int) ≤ n23) && decide (n23 < (↑(Prod.fst x) : Int)))
 (ldIS IntKind.i64 (List.map (IV.int IntKind.i64) (sortsG (List.take (Prod.fst x) l))) (Int.toNat n23 * (1 : Nat)) fun (n26 : Int) =>
 brS (n26 == (0 : Int))
 (tipS (Prod.snd (Prod.snd x)) (Prod.fst (Prod.snd x)) fun (m27 : Nat) =>
 needS (Nat.beq m27 (Prod.fst x) && Nat.ble ((Prod.fst x + (1 : Nat)) * (8 : Nat)) (140737488355328 : Nat))
 ((∃ (x_1 : Heap),
 some (TV.v (IV.vslice none (0 : Nat) (List.length l) (3 : Nat) (List.flatMap cN l))) = some (TV.v (IV.vslice none (0 : Nat) (List.length l) (3 : Nat) (List.flatMap cN l))) ∧
 some (TV.v (IV.int IntKind.i64 (IntKind.wrap IntKind.i64 ((↑(Prod.fst x) : Int) + (1 : Int))))) = some (TV.v (IV.int IntKind.i64 (0 : Int))) ∧
 some
 (TV.v
 (IV.vslice (some (Prod.fst (Prod.snd x))) (Prod.fst x + (1 : Nat)) (Prod.fst x + (1 : Nat)) (1 : Nat)
 (List.map (IV.int IntKind.i64) (sortsG (List.take (Prod.fst x) l)) ++ [IV.int IntKind.i64 (0 : Int)]))) =
 some (TV.v IV.nilslice) ∧
 Heap.set (Prod.snd (Prod.snd x)) (Prod.fst (Prod.snd x)) (IObj.tip (Prod.fst x + (1 : Nat))) = x_1 ∧ True ∧ List.length l < List.length l) ∨
 ∃ (x_1 : Nat × Nat × Heap),
 some (TV.v (IV.vslice none (0 : Nat) (List.length l) (3 : Nat) (List.flatMap cN l))) = some (TV.v (IV.vslice none (0 : Nat) (List.length l) (3 : Nat) (List.flatMap cN l))) ∧
 some (TV.v (IV.int IntKind.i64 (IntKind.wrap IntKind.i64 ((↑(Prod.fst x) : Int) + (1 : Int))))) = some (TV.v (IV.int IntKind.i64 (↑(Prod.fst x_1) : Int))) ∧
 some
 (TV.v
 (IV.vslice (some (Prod.fst (Prod.snd x))) (Prod.fst x + (1 : Nat)) (Prod.fst x + (1 : Nat)) (1 : Nat)
 (List.map (IV.int IntKind.i64) (sortsG (List.take (Prod.fst x) l)) ++ [IV.int IntKind.i64 (0 : Int)]))) =
 some (TV.v (IV.vslice (some (Prod.fst (Prod.snd x_1))) (Prod.fst x_1) (Prod.fst x_1) (1 : Nat) (List.map (IV.int IntKind.i64) (sortsG (List.take (Prod.fst x_1) l))))) ∧
 Heap.set (Prod.snd (Prod.snd x)) (Prod.fst (Prod.snd x)) (IObj.tip (Prod.fst x + (1 : Nat))) = Prod.snd (Prod.snd x_1) ∧
 (((0 : Nat) < Prod.fst x_1 ∧ Prod.fst x_1 ≤ List.length l) ∧
 Heap.get (Prod.snd (Prod.snd x_1)) (Prod.fst (Prod.snd x_1)) = IObj.tip (Prod.fst x_1) ∧ Prod.fst (Prod.snd x_1) < Heap.next (Prod.snd (Prod.snd x_1))) ∧
 List.length l - Prod.fst x_1 < List.length l))
 (needS (decide ((0 : Int) ≤ n23) && decide (n23 < (↑(Prod.fst x) : Int)))
 (ldIS IntKind.i64 (List.map (IV.int IntKind.i64) (sortsG (List.take (Prod.fst x) l))) (Int.toNat n23 * (1 : Nat)) fun (n28 : Int) =>
 (∃ (x_1 : Heap),
 some (TV.v (IV.vslice none (0 : Nat) (List.length l) (3 : Nat) (List.flatMap cN l))) = some (TV.v (IV.vslice none (0 : Nat) (List.length l) (3 : Nat) (List.flatMap cN l))) ∧
 some (TV.v (IV.int IntKind.i64 (↑(Prod.fst x) : Int))) = some (TV.v (IV.int IntKind.i64 (0 : Int))) ∧
 some (TV.v (IV.vslice (some (Prod.fst (Prod.snd x))) (Prod.fst x) (Prod.fst x) (1 : Nat) (List.map (IV.int IntKind.i64) (sortsG (List.take (Prod.fst x) l))))) =
 some (TV.v IV.nilslice) ∧
 some (TV.v (IV.vslice (some (Heap.next (Prod.snd (Prod.snd x)))) (1 : Nat) (1 : Nat) (1 : Nat) [IV.int IntKind.i64 n28])) = some (TV.v IV.nilslice) ∧
 some (TV.v (IV.bool true)) = some (TV.v (IV.bool true)) ∧
 some (TV.v (IV.int IntKind.i64 (1 : Int))) = some (TV.v (IV.int IntKind.i64 (0 : Int))) ∧
 Heap.push (Prod.snd (Prod.snd x)) (IObj.tip (1 : Nat)) = x_1 ∧
 Nat.le (1 : Nat) (List.length l) ∧
 List.length l * (1000002 : Nat) + kRest l (0 : Nat) (0 : Nat) < (List.length l - Prod.fst x) * (1000002 : Nat) + kRest l (Prod.fst x) (0 : Nat)) ∨
 (∃ (x_1 : Nat × Nat × Heap),
 some (TV.v (IV.vslice none (0 : Nat) (List.length l) (3 : Nat) (List.flatMap cN l))) = some (TV.v (IV.vslice none (0 : Nat) (List.length l) (3 : Nat) (List.flatMap cN l))) ∧
 some (TV.v (IV.int IntKind.i64 (↑(Prod.fst x) : Int))) = some (TV.v (IV.int IntKind.i64 (↑(Prod.fst x_1) : Int))) ∧
 some (TV.v (IV.vslice (some (Prod.fst (Prod.snd x))) (Prod.fst x) (Prod.fst x) (1 : Nat) (List.map (IV.int IntKind.i64) (sortsG (List.take (Prod.fst x) l))))) =
 some (TV.v (IV.vslice (some (Prod.fst (Prod.snd x_1))) (Prod.fst x_1) (Prod.fst x_1) (1 : Nat) (List.map (IV.int IntKind.i64) (sortsG (List.take (Prod.fst x_1) l))))) ∧
 some (TV.v (IV.vslice (some (Heap.next (Prod.snd (Prod.snd x)))) (1 : Nat) (1 : Nat) (1 : Nat) [IV.int IntKind.i64 n28])) = some (TV.v IV.nilslice) ∧
 some (TV.v (IV.bool true)) = some (TV.v (IV.bool true)) ∧
 some (TV.v (IV.int IntKind.i64 (1 : Int))) = some (TV.v (IV.int IntKind.i64 (0 : Int))) ∧
 Heap.push (Prod.snd (Prod.snd x)) (IObj.tip (1 : Nat)) = Prod.snd (Prod.snd x_1) ∧
 (Prod.fst x_1 < List.length l ∧ SO l (Prod.fst x_1) (Prod.fst (Prod.snd x_1)) (Prod.snd (Prod.snd x_1))) ∧
 (List.length l - Prod.fst x_1) * (1000002 : Nat) + kRest l (Prod.fst x_1) (0 : Nat) <
 (List.length l - Prod.fst x) * (1000002 : Nat) + kRest l (Prod.fst x) (0 : Nat)) ∨
 ∃ (x_1 : Nat × Nat × Heap × Nat × List Int × Nat),
 some (TV.v (IV.vslice none (0 : Nat) (List.length l) (3 : Nat) (List.flatMap cN l))) = some (TV.v (IV.vslice none (0 : Nat) (List.length l) (3 : Nat) (List.flatMap cN l))) ∧
 some (TV.v (IV.int IntKind.i64 (↑(Prod.fst x) : Int))) = some (TV.v (IV.int IntKind.i64 (↑(Prod.fst x_1) : Int))) ∧
 some (TV.v (IV.vslice (some (Prod.fst (Prod.snd x))) (Prod.fst x) (Prod.fst x) (1 : Nat) (List.map (IV.int IntKind.i64) (sortsG (List.take (Prod.fst x) l))))) =
 some (TV.v (IV.vslice (some (Prod.fst (Prod.snd x_1))) (Prod.fst x_1) (Prod.fst x_1) (1 : Nat) (List.map (IV.int IntKind.i64) (sortsG (List.take (Prod.fst x_1) l))))) ∧
 some (TV.v (IV.vslice (some (Heap.next (Prod.snd (Prod.snd x)))) (1 : Nat) (1 : Nat) (1 : Nat) [IV.int IntKind.i64 n28])) =
 some
 (TV.v
 (IV.vslice (some (Prod.snd (Prod.snd (Prod.snd (Prod.snd (Prod.snd x_1)))))) (List.length (Prod.fst (Prod.snd (Prod.snd (Prod.snd (Prod.snd x_1))))))
 (List.length (Prod.fst (Prod.snd (Prod.snd (Prod.snd (Prod.snd x_1)))))) (1 : Nat)
 (List.map (IV.int IntKind.i64) (Prod.fst (Prod.snd (Prod.snd (Prod.snd (Prod.snd x_1)))))))) ∧
 some (TV.v (IV.bool true)) = some (TV.v (IV.bool true)) ∧
 some (TV.v (IV.int IntKind.i64 (1 : Int))) = some (TV.v (IV.int IntKind.i64 (↑(Prod.fst (Prod.snd (Prod.snd (Prod.snd x_1)))) : Int))) ∧
 Heap.push (Prod.snd (Prod.snd x)) (IObj.tip (1 : Nat)) = Prod.fst (Prod.snd (Prod.snd x_1)) ∧
 (Prod.fst x_1 < List.length l ∧
 SO l (Prod.fst x_1) (Prod.fst (Prod.snd x_1)) (Prod.fst (Prod.snd (Prod.snd x_1))) ∧
 SIG l (Prod.fst x_1) (Prod.fst (Prod.snd (Prod.snd (Prod.snd x_1)))) (Prod.fst (Prod.snd (Prod.snd (Prod.snd (Prod.snd x_1))))) ∧
 SK (Prod.fst (Prod.snd (Prod.snd (Prod.snd (Prod.snd x_1))))) (Prod.fst (Prod.snd x_1)) (Prod.snd (Prod.snd (Prod.snd (Prod.snd (Prod.snd x_1)))))
 (Prod.fst (Prod.snd (Prod.snd x_1)))) ∧
 (List.length l - Prod.fst x_1) * (1000002 : Nat) + kRest l (Prod.fst x_1) (Prod.fst (Prod.snd (Prod.snd (Prod.snd x_1)))) <
 (List.length l - Prod.fst x) * (1000002 : Nat) + kRest l (Prod.fst x) (0 : Nat)))))))))
 (needS (decide ((0 : Int) ≤ (↑(Prod.fst x) : Int)) && decide ((↑(Prod.fst x) : Int) < (↑(List.length l) : Int)))
 (ldIS IntKind.i64 (List.flatMap cN l) (Int.toNat (↑(Prod.fst x) : Int) * (3 : Nat)) fun (n29 : Int) =>
 ldIS IntKind.i64 (List.flatMap cN l) (Int.toNat (↑(Prod.fst x) : Int) * (3 : Nat) + (1 : Nat)) fun (n30 : Int) =>
 ldVS (1 : Nat) (List.flatMap cN l) (Int.toNat (↑(Prod.fst x) : Int) * (3 : Nat) + (1 : Nat) + (1 : Nat)) fun (i31 : Option Nat) (e32 l33 : Nat) (c34 : List IV) =>
 ∃ (l_1 : List Nd),
 ∃ (ks : List Int),
 ∃ (k : List Int),
 (List.length l = List.length l_1 ∧ List.flatMap cN l = List.flatMap cN l_1) ∧
 (l33 = List.length ks ∧ c34 = List.map (IV.int IntKind.i64) ks) ∧
 ((0 : Nat) = List.length k ∧ [] = List.map (IV.int IntKind.i64) k) ∧
 (n29 ≠ (30 : Int) ∧
 List.length ks = List.length k ∧
 List.length k ≤ (1000000 : Nat) ∧
 List.length l_1 ≤ (1000000 : Nat) ∧
 (∀ (q : Int), q ∈ ks → (0 : Int) ≤ q ∧ q < (↑(List.length l_1) : Int)) ∧
 (k = [(3 : Int)] → eK l_1 (Nd.mk n29 n30 ks) % (2 : Nat) = (1 : Nat)) ∧ ∀ (n : Nd), n ∈ l_1 → List.length (Nd.ks n) ≤ (1000000 : Nat)) ∧
 tipS (Prod.snd (Prod.snd x)) (Prod.fst (Prod.snd x)) fun (m35 : Nat) =>
 needS (Nat.beq m35 (Prod.fst x) && Nat.ble ((Prod.fst x + (1 : Nat)) * (8 : Nat)) (140737488355328 : Nat))
 ((∃ (x_1 : Heap),
 some (TV.v (IV.vslice none (0 : Nat) (List.length l) (3 : Nat) (List.flatMap cN l))) = some (TV.v (IV.vslice none (0 : Nat) (List.length l) (3 : Nat) (List.flatMap cN l))) ∧
 some (TV.v (IV.int IntKind.i64 (IntKind.wrap IntKind.i64 ((↑(Prod.fst x) : Int) + (1 : Int))))) = some (TV.v (IV.int IntKind.i64 (0 : Int))) ∧
 some
 (TV.v
 (IV.vslice (some (Prod.fst (Prod.snd x))) (Prod.fst x + (1 : Nat)) (Prod.fst x + (1 : Nat)) (1 : Nat)
 (List.map (IV.int IntKind.i64) (sortsG (List.take (Prod.fst x) l)) ++ [IV.int IntKind.i64 (nsortG (eK l_1 (Nd.mk n29 n30 ks)) n29 n30 k)]))) =
 some (TV.v IV.nilslice) ∧
 Heap.set (Prod.snd (Prod.snd x)) (Prod.fst (Prod.snd x)) (IObj.tip (Prod.fst x + (1 : Nat))) = x_1 ∧ True ∧ List.length l < List.length l) ∨
 ∃ (x_1 : Nat × Nat × Heap),
 some (TV.v (IV.vslice none (0 : Nat) (List.length l) (3 : Nat) (List.flatMap cN l))) = some (TV.v (IV.vslice none (0 : Nat) (List.length l) (3 : Nat) (List.flatMap cN l))) ∧
 some (TV.v (IV.int IntKind.i64 (IntKind.wrap IntKind.i64 ((↑(Prod.fst x) : Int) + (1 : Int))))) = some (TV.v (IV.int IntKind.i64 (↑(Prod.fst x_1) : Int))) ∧
 some
 (TV.v
 (IV.vslice (some (Prod.fst (Prod.snd x))) (Prod.fst x + (1 : Nat)) (Prod.fst x + (1 : Nat)) (1 : Nat)
 (List.map (IV.int IntKind.i64) (sortsG (List.take (Prod.fst x) l)) ++ [IV.int IntKind.i64 (nsortG (eK l_1 (Nd.mk n29 n30 ks)) n29 n30 k)]))) =
 some (TV.v (IV.vslice (some (Prod.fst (Prod.snd x_1))) (Prod.fst x_1) (Prod.fst x_1) (1 : Nat) (List.map (IV.int IntKind.i64) (sortsG (List.take (Prod.fst x_1) l))))) ∧
 Heap.set (Prod.snd (Prod.snd x)) (Prod.fst (Prod.snd x)) (IObj.tip (Prod.fst x + (1 : Nat))) = Prod.snd (Prod.snd x_1) ∧
 (((0 : Nat) < Prod.fst x_1 ∧ Prod.fst x_1 ≤ List.length l) ∧
 Heap.get (Prod.snd (Prod.snd x_1)) (Prod.fst (Prod.snd x_1)) = IObj.tip (Prod.fst x_1) ∧ Prod.fst (Prod.snd x_1) < Heap.next (Prod.snd (Prod.snd x_1))) ∧
 List.length l - Prod.fst x_1 < List.length l))))) ∧
 ∀ (x : Nat × Nat × Heap × Nat × List Int × Nat) (b : FF),
 Prod.fst x < List.length l ∧
 SO l (Prod.fst x) (Prod.fst (Prod.snd x)) (Prod.fst (Prod.snd (Prod.snd x))) ∧
 SIG l (Prod.fst x) (Prod.fst (Prod.snd (Prod.snd (Prod.snd x)))) (Prod.fst (Prod.snd (Prod.snd (Prod.snd (Prod.snd x))))) ∧
 SK (Prod.fst (Prod.snd (Prod.snd (Prod.snd (Prod.snd x))))) (Prod.fst (Prod.snd x)) (Prod.snd (Prod.snd (Prod.snd (Prod.snd (Prod.snd x))))) (Prod.fst (Prod.snd (Prod.snd x))) →
 (List.length l - Prod.fst x) * (1000002 : Nat) + kRest l (Prod.fst x) (Prod.fst (Prod.snd (Prod.snd (Prod.snd x)))) ≤ M →
 needS (decide ((0 : Int) ≤ (↑(Prod.fst x) : Int)) && decide ((↑(Prod.fst x) : Int) < (↑(List.length l) : Int)))
 (ldVS (1 : Nat) (List.flatMap cN l) (Int.toNat (↑(Prod.fst x) : Int) * (3 : Nat) + (2 : Nat)) fun (i36 : Option Nat) (e37 l38 : Nat) (c39 : List IV) =>
 brS (decide ((↑(Prod.fst (Prod.snd (Prod.snd (Prod.snd x)))) : Int) < (↑l38 : Int)))
 (needS (decide ((0 : Int) ≤ (↑(Prod.fst x) : Int)) && decide ((↑(Prod.fst x) : Int) < (↑(List.length l) : Int)))
 (ldVS (1 : Nat) (List.flatMap cN l) (Int.toNat (↑(Prod.fst x) : Int) * (3 : Nat) + (2 : Nat)) fun (i40 : Option Nat) (e41 l42 : Nat) (c43 : List IV) =>
 needS (decide ((0 : Int) ≤ (↑(Prod.fst (Prod.snd (Prod.snd (Prod.snd x)))) : Int)) && decide ((↑(Prod.fst (Prod.snd (Prod.snd (Prod.snd x)))) : Int) < (↑l42 : Int)))
 (ldIS IntKind.i64 c43 (Int.toNat (↑(Prod.fst (Prod.snd (Prod.snd (Prod.snd x)))) : Int) * (1 : Nat)) fun (n44 : Int) =>
 brS (decide (n44 < (0 : Int)))
 (tipS (Prod.fst (Prod.snd (Prod.snd x))) (Prod.fst (Prod.snd x)) fun (m45 : Nat) =>
 needS (Nat.beq m45 (Prod.fst x) && Nat.ble ((Prod.fst x + (1 : Nat)) * (8 : Nat)) (140737488355328 : Nat))
 ((∃ (x_1 : Heap),
 some (TV.v (IV.vslice none (0 : Nat) (List.length l) (3 : Nat) (List.flatMap cN l))) = some (TV.v (IV.vslice none (0 : Nat) (List.length l) (3 : Nat) (List.flatMap cN l))) ∧
 some (TV.v (IV.int IntKind.i64 (IntKind.wrap IntKind.i64 ((↑(Prod.fst x) : Int) + (1 : Int))))) = some (TV.v (IV.int IntKind.i64 (0 : Int))) ∧
 some
 (TV.v
 (IV.vslice (some (Prod.fst (Prod.snd x))) (Prod.fst x + (1 : Nat)) (Prod.fst x + (1 : Nat)) (1 : Nat)
 (List.map (IV.int IntKind.i64) (sortsG (List.take (Prod.fst x) l)) ++ [IV.int IntKind.i64 (0 : Int)]))) =
 some (TV.v IV.nilslice) ∧
 Heap.set (Prod.fst (Prod.snd (Prod.snd x))) (Prod.fst (Prod.snd x)) (IObj.tip (Prod.fst x + (1 : Nat))) = x_1 ∧ True ∧ List.length l < List.length l) ∨
 ∃ (x_1 : Nat × Nat × Heap),
 some (TV.v (IV.vslice none (0 : Nat) (List.length l) (3 : Nat) (List.flatMap cN l))) = some (TV.v (IV.vslice none (0 : Nat) (List.length l) (3 : Nat) (List.flatMap cN l))) ∧
 some (TV.v (IV.int IntKind.i64 (IntKind.wrap IntKind.i64 ((↑(Prod.fst x) : Int) + (1 : Int))))) = some (TV.v (IV.int IntKind.i64 (↑(Prod.fst x_1) : Int))) ∧
 some
 (TV.v
 (IV.vslice (some (Prod.fst (Prod.snd x))) (Prod.fst x + (1 : Nat)) (Prod.fst x + (1 : Nat)) (1 : Nat)
 (List.map (IV.int IntKind.i64) (sortsG (List.take (Prod.fst x) l)) ++ [IV.int IntKind.i64 (0 : Int)]))) =
 some (TV.v (IV.vslice (some (Prod.fst (Prod.snd x_1))) (Prod.fst x_1) (Prod.fst x_1) (1 : Nat) (List.map (IV.int IntKind.i64) (sortsG (List.take (Prod.fst x_1) l))))) ∧
 Heap.set (Prod.fst (Prod.snd (Prod.snd x))) (Prod.fst (Prod.snd x)) (IObj.tip (Prod.fst x + (1 : Nat))) = Prod.snd (Prod.snd x_1) ∧
 (((0 : Nat) < Prod.fst x_1 ∧ Prod.fst x_1 ≤ List.length l) ∧
 Heap.get (Prod.snd (Prod.snd x_1)) (Prod.fst (Prod.snd x_1)) = IObj.tip (Prod.fst x_1) ∧ Prod.fst (Prod.snd x_1) < Heap.next (Prod.snd (Prod.snd x_1))) ∧
 List.length l - Prod.fst x_1 < List.length l))
 (brS (decide (n44 ≥ (↑(Prod.fst x) : Int)))
 (tipS (Prod.fst (Prod.snd (Prod.snd x))) (Prod.fst (Prod.snd x)) fun (m46 : Nat) =>
 needS (Nat.beq m46 (Prod.fst x) && Nat.ble ((Prod.fst x + (1 : Nat)) * (8 : Nat)) (140737488355328 : Nat))
 ((∃ (x_1 : Heap),
 some (TV.v (IV.vslice none (0 : Nat) (List.length l) (3 : Nat) (List.flatMap cN l))) = some (TV.v (IV.vslice none (0 : Nat) (List.length l) (3 : Nat) (List.flatMap cN l))) ∧
 some (TV.v (IV.int IntKind.i64 (IntKind.wrap IntKind.i64 ((↑(Prod.fst x) : Int) + (1 : Int))))) = some (TV.v (IV.int IntKind.i64 (0 : Int))) ∧
 some
 (TV.v
 (IV.vslice (some (Prod.fst (Prod.snd x))) (Prod.fst x + (1 : Nat)) (Prod.fst x + (1 : Nat)) (1 : Nat)
 (List.map (IV.int IntKind.i64) (sortsG (List.take (Prod.fst x) l)) ++ [IV.int IntKind.i64 (0 : Int)]))) =
 some (TV.v IV.nilslice) ∧
 Heap.set (Prod.fst (Prod.snd (Prod.snd x))) (Prod.fst (Prod.snd x)) (IObj.tip (Prod.fst x + (1 : Nat))) = x_1 ∧ True ∧ List.length l < List.length l) ∨
 ∃ (x_1 : Nat × Nat × Heap),
 some (TV.v (IV.vslice none (0 : Nat) (List.length l) (3 : Nat) (List.flatMap cN l))) = some (TV.v (IV.vslice none (0 : Nat) (List.length l) (3 : Nat) (List.flatMap cN l))) ∧
 some (TV.v (IV.int IntKind.i64 (IntKind.wrap IntKind.i64 ((↑(Prod.fst x) : Int) + (1 : Int))))) = some (TV.v (IV.int IntKind.i64 (↑(Prod.fst x_1) : Int))) ∧
 some
 (TV.v
 (IV.vslice (some (Prod.fst (Prod.snd x))) (Prod.fst x + (1 : Nat)) (Prod.fst x + (1 : Nat)) (1 : Nat)
 (List.map (IV.int IntKind.i64) (sortsG (List.take (Prod.fst x) l)) ++ [IV.int IntKind.i64 (0 : Int)]))) =
 some (TV.v (IV.vslice (some (Prod.fst (Prod.snd x_1))) (Prod.fst x_1) (Prod.fst x_1) (1 : Nat) (List.map (IV.int IntKind.i64) (sortsG (List.take (Prod.fst x_1) l))))) ∧
 Heap.set (Prod.fst (Prod.snd (Prod.snd x))) (Prod.fst (Prod.snd x)) (IObj.tip (Prod.fst x + (1 : Nat))) = Prod.snd (Prod.snd x_1) ∧
 (((0 : Nat) < Prod.fst x_1 ∧ Prod.fst x_1 ≤ List.length l) ∧
 Heap.get (Prod.snd (Prod.snd x_1)) (Prod.fst (Prod.snd x_1)) = IObj.tip (Prod.fst x_1) ∧ Prod.fst (Prod.snd x_1) < Heap.next (Prod.snd (Prod.snd x_1))) ∧
 List.length l - Prod.fst x_1 < List.length l))
 (needS (decide ((0 : Int) ≤ n44) && decide (n44 < (↑(Prod.fst x) : Int)))
 (ldIS IntKind.i64 (List.map (IV.int IntKind.i64) (sortsG (List.take (Prod.fst x) l))) (Int.toNat n44 * (1 : Nat)) fun (n47 : Int) =>
 brS (n47 == (0 : Int))
 (tipS (Prod.fst (Prod.snd (Prod.snd x))) (Prod.fst (Prod.snd x)) fun (m48 : Nat) =>
 needS (Nat.beq m48 (Prod.fst x) && Nat.ble ((Prod.fst x + (1 : Nat)) * (8 : Nat)) (140737488355328 : Nat))
 ((∃ (x_1 : Heap),
 some (TV.v (IV.vslice none (0 : Nat) (List.length l) (3 : Nat) (List.flatMap cN l))) = some (TV.v (IV.vslice none (0 : Nat) (List.length l) (3 : Nat) (List.flatMap cN l))) ∧
 some (TV.v (IV.int IntKind.i64 (IntKind.wrap IntKind.i64 ((↑(Prod.fst x) : Int) + (1 : Int))))) = some (TV.v (IV.int IntKind.i64 (0 : Int))) ∧
 some
 (TV.v
 (IV.vslice (some (Prod.fst (Prod.snd x))) (Prod.fst x + (1 : Nat)) (Prod.fst x + (1 : Nat)) (1 : Nat)
 (List.map (IV.int IntKind.i64) (sortsG (List.take (Prod.fst x) l)) ++ [IV.int IntKind.i64 (0 : Int)]))) =
 some (TV.v IV.nilslice) ∧
 Heap.set (Prod.fst (Prod.snd (Prod.snd x))) (Prod.fst (Prod.snd x)) (IObj.tip (Prod.fst x + (1 : Nat))) = x_1 ∧ True ∧ List.length l < List.length l) ∨
 ∃ (x_1 : Nat × Nat × Heap),
 some (TV.v (IV.vslice none (0 : Nat) (List.length l) (3 : Nat) (List.flatMap cN l))) = some (TV.v (IV.vslice none (0 : Nat) (List.length l) (3 : Nat) (List.flatMap cN l))) ∧
 some (TV.v (IV.int IntKind.i64 (IntKind.wrap IntKind.i64 ((↑(Prod.fst x) : Int) + (1 : Int))))) = some (TV.v (IV.int IntKind.i64 (↑(Prod.fst x_1) : Int))) ∧
 some
 (TV.v
 (IV.vslice (some (Prod.fst (Prod.snd x))) (Prod.fst x + (1 : Nat)) (Prod.fst x + (1 : Nat)) (1 : Nat)
 (List.map (IV.int IntKind.i64) (sortsG (List.take (Prod.fst x) l)) ++ [IV.int IntKind.i64 (0 : Int)]))) =
 some (TV.v (IV.vslice (some (Prod.fst (Prod.snd x_1))) (Prod.fst x_1) (Prod.fst x_1) (1 : Nat) (List.map (IV.int IntKind.i64) (sortsG (List.take (Prod.fst x_1) l))))) ∧
 Heap.set (Prod.fst (Prod.snd (Prod.snd x))) (Prod.fst (Prod.snd x)) (IObj.tip (Prod.fst x + (1 : Nat))) = Prod.snd (Prod.snd x_1) ∧
 (((0 : Nat) < Prod.fst x_1 ∧ Prod.fst x_1 ≤ List.length l) ∧
 Heap.get (Prod.snd (Prod.snd x_1)) (Prod.fst (Prod.snd x_1)) = IObj.tip (Prod.fst x_1) ∧ Prod.fst (Prod.snd x_1) < Heap.next (Prod.snd (Prod.snd x_1))) ∧
 List.length l - Prod.fst x_1 < List.length l))
 (needS (decide ((0 : Int) ≤ n44) && decide (n44 < (↑(Prod.fst x) : Int)))
 (ldIS IntKind.i64 (List.map (IV.int IntKind.i64) (sortsG (List.take (Prod.fst x) l))) (Int.toNat n44 * (1 : Nat)) fun (n49 : Int) =>
 tipS (Prod.fst (Prod.snd (Prod.snd x))) (Prod.snd (Prod.snd (Prod.snd (Prod.snd (Prod.snd x))))) fun (m50 : Nat) =>
 needS
 (Nat.beq m50 (List.length (Prod.fst (Prod.snd (Prod.snd (Prod.snd (Prod.snd x)))))) &&
 Nat.ble ((List.length (Prod.fst (Prod.snd (Prod.snd (Prod.snd (Prod.snd x))))) + (1 : Nat)) * (8 : Nat)) (140737488355328 : Nat))
 ((∃ (x_1 : Heap),
 some (TV.v (IV.vslice none (0 : Nat) (List.length l) (3 : Nat) (List.flatMap cN l))) = some (TV.v (IV.vslice none (0 : Nat) (List.length l) (3 : Nat) (List.flatMap cN l))) ∧
 some (TV.v (IV.int IntKind.i64 (↑(Prod.fst x) : Int))) = some (TV.v (IV.int IntKind.i64 (0 : Int))) ∧
 some (TV.v (IV.vslice (some (Prod.fst (Prod.snd x))) (Prod.fst x) (Prod.fst x) (1 : Nat) (List.map (IV.int IntKind.i64) (sortsG (List.take (Prod.fst x) l))))) =
 some (TV.v IV.nilslice) ∧
 some
 (TV.v
 (IV.vslice (some (Prod.snd (Prod.snd (Prod.snd (Prod.snd (Prod.snd x)))))) (List.length (Prod.fst (Prod.snd (Prod.snd (Prod.snd (Prod.snd x))))) + (1 : Nat))
 (List.length (Prod.fst (Prod.snd (Prod.snd (Prod.snd (Prod.snd x))))) + (1 : Nat)) (1 : Nat)
 (List.map (IV.int IntKind.i64) (Prod.fst (Prod.snd (Prod.snd (Prod.snd (Prod.snd x))))) ++ [IV.int IntKind.i64 n49]))) =
 some (TV.v IV.nilslice) ∧
 some (TV.v (IV.bool true)) = some (TV.v (IV.bool true)) ∧
 some (TV.v (IV.int IntKind.i64 (IntKind.wrap IntKind.i64 ((↑(Prod.fst (Prod.snd (Prod.snd (Prod.snd x)))) : Int) + (1 : Int))))) =
 some (TV.v (IV.int IntKind.i64 (0 : Int))) ∧
 Heap.set (Prod.fst (Prod.snd (Prod.snd x))) (Prod.snd (Prod.snd (Prod.snd (Prod.snd (Prod.snd x)))))
 (IObj.tip (List.length (Prod.fst (Prod.snd (Prod.snd (Prod.snd (Prod.snd x))))) + (1 : Nat))) =
 x_1 ∧
 Nat.le (1 : Nat) (List.length l) ∧
 List.length l * (1000002 : Nat) + kRest l (0 : Nat) (0 : Nat) <
 (List.length l - Prod.fst x) * (1000002 : Nat) + kRest l (Prod.fst x) (Prod.fst (Prod.snd (Prod.snd (Prod.snd x))))) ∨
 (∃ (x_1 : Nat × Nat × Heap),
 some (TV.v (IV.vslice none (0 : Nat) (List.length l) (3 : Nat) (List.flatMap cN l))) = some (TV.v (IV.vslice none (0 : Nat) (List.length l) (3 : Nat) (List.flatMap cN l))) ∧
 some (TV.v (IV.int IntKind.i64 (↑(Prod.fst x) : Int))) = some (TV.v (IV.int IntKind.i64 (↑(Prod.fst x_1) : Int))) ∧
 some (TV.v (IV.vslice (some (Prod.fst (Prod.snd x))) (Prod.fst x) (Prod.fst x) (1 : Nat) (List.map (IV.int IntKind.i64) (sortsG (List.take (Prod.fst x) l))))) =
 some (TV.v (IV.vslice (some (Prod.fst (Prod.snd x_1))) (Prod.fst x_1) (Prod.fst x_1) (1 : Nat) (List.map (IV.int IntKind.i64) (sortsG (List.take (Prod.fst x_1) l))))) ∧
 some
 (TV.v
 (IV.vslice (some (Prod.snd (Prod.snd (Prod.snd (Prod.snd (Prod.snd x)))))) (List.length (Prod.fst (Prod.snd (Prod.snd (Prod.snd (Prod.snd x))))) + (1 : Nat))
 (List.length (Prod.fst (Prod.snd (Prod.snd (Prod.snd (Prod.snd x))))) + (1 : Nat)) (1 : Nat)
 (List.map (IV.int IntKind.i64) (Prod.fst (Prod.snd (Prod.snd (Prod.snd (Prod.snd x))))) ++ [IV.int IntKind.i64 n49]))) =
 some (TV.v IV.nilslice) ∧
 some (TV.v (IV.bool true)) = some (TV.v (IV.bool true)) ∧
 some (TV.v (IV.int IntKind.i64 (IntKind.wrap IntKind.i64 ((↑(Prod.fst (Prod.snd (Prod.snd (Prod.snd x)))) : Int) + (1 : Int))))) =
 some (TV.v (IV.int IntKind.i64 (0 : Int))) ∧
 Heap.set (Prod.fst (Prod.snd (Prod.snd x))) (Prod.snd (Prod.snd (Prod.snd (Prod.snd (Prod.snd x)))))
 (IObj.tip (List.length (Prod.fst (Prod.snd (Prod.snd (Prod.snd (Prod.snd x))))) + (1 : Nat))) =
 Prod.snd (Prod.snd x_1) ∧
 (Prod.fst x_1 < List.length l ∧ SO l (Prod.fst x_1) (Prod.fst (Prod.snd x_1)) (Prod.snd (Prod.snd x_1))) ∧
 (List.length l - Prod.fst x_1) * (1000002 : Nat) + kRest l (Prod.fst x_1) (0 : Nat) <
 (List.length l - Prod.fst x) * (1000002 : Nat) + kRest l (Prod.fst x) (Prod.fst (Prod.snd (Prod.snd (Prod.snd x))))) ∨
 ∃ (x_1 : Nat × Nat × Heap × Nat × List Int × Nat),
 some (TV.v (IV.vslice none (0 : Nat) (List.length l) (3 : Nat) (List.flatMap cN l))) = some (TV.v (IV.vslice none (0 : Nat) (List.length l) (3 : Nat) (List.flatMap cN l))) ∧
 some (TV.v (IV.int IntKind.i64 (↑(Prod.fst x) : Int))) = some (TV.v (IV.int IntKind.i64 (↑(Prod.fst x_1) : Int))) ∧
 some (TV.v (IV.vslice (some (Prod.fst (Prod.snd x))) (Prod.fst x) (Prod.fst x) (1 : Nat) (List.map (IV.int IntKind.i64) (sortsG (List.take (Prod.fst x) l))))) =
 some (TV.v (IV.vslice (some (Prod.fst (Prod.snd x_1))) (Prod.fst x_1) (Prod.fst x_1) (1 : Nat) (List.map (IV.int IntKind.i64) (sortsG (List.take (Prod.fst x_1) l))))) ∧
 some
 (TV.v
 (IV.vslice (some (Prod.snd (Prod.snd (Prod.snd (Prod.snd (Prod.snd x)))))) (List.length (Prod.fst (Prod.snd (Prod.snd (Prod.snd (Prod.snd x))))) + (1 : Nat))
 (List.length (Prod.fst (Prod.snd (Prod.snd (Prod.snd (Prod.snd x))))) + (1 : Nat)) (1 : Nat)
 (List.map (IV.int IntKind.i64) (Prod.fst (Prod.snd (Prod.snd (Prod.snd (Prod.snd x))))) ++ [IV.int IntKind.i64 n49]))) =
 some
 (TV.v
 (IV.vslice (some (Prod.snd (Prod.snd (Prod.snd (Prod.snd (Prod.snd x_1)))))) (List.length (Prod.fst (Prod.snd (Prod.snd (Prod.snd (Prod.snd x_1))))))
 (List.length (Prod.fst (Prod.snd (Prod.snd (Prod.snd (Prod.snd x_1)))))) (1 : Nat)
 (List.map (IV.int IntKind.i64) (Prod.fst (Prod.snd (Prod.snd (Prod.snd (Prod.snd x_1)))))))) ∧
 some (TV.v (IV.bool true)) = some (TV.v (IV.bool true)) ∧
 some (TV.v (IV.int IntKind.i64 (IntKind.wrap IntKind.i64 ((↑(Prod.fst (Prod.snd (Prod.snd (Prod.snd x)))) : Int) + (1 : Int))))) =
 some (TV.v (IV.int IntKind.i64 (↑(Prod.fst (Prod.snd (Prod.snd (Prod.snd x_1)))) : Int))) ∧
 Heap.set (Prod.fst (Prod.snd (Prod.snd x))) (Prod.snd (Prod.snd (Prod.snd (Prod.snd (Prod.snd x)))))
 (IObj.tip (List.length (Prod.fst (Prod.snd (Prod.snd (Prod.snd (Prod.snd x))))) + (1 : Nat))) =
 Prod.fst (Prod.snd (Prod.snd x_1)) ∧
 (Prod.fst x_1 < List.length l ∧
 SO l (Prod.fst x_1) (Prod.fst (Prod.snd x_1)) (Prod.fst (Prod.snd (Prod.snd x_1))) ∧
 SIG l (Prod.fst x_1) (Prod.fst (Prod.snd (Prod.snd (Prod.snd x_1)))) (Prod.fst (Prod.snd (Prod.snd (Prod.snd (Prod.snd x_1))))) ∧
 SK (Prod.fst (Prod.snd (Prod.snd (Prod.snd (Prod.snd x_1))))) (Prod.fst (Prod.snd x_1)) (Prod.snd (Prod.snd (Prod.snd (Prod.snd (Prod.snd x_1)))))
 (Prod.fst (Prod.snd (Prod.snd x_1)))) ∧
 (List.length l - Prod.fst x_1) * (1000002 : Nat) + kRest l (Prod.fst x_1) (Prod.fst (Prod.snd (Prod.snd (Prod.snd x_1)))) <
 (List.length l - Prod.fst x) * (1000002 : Nat) + kRest l (Prod.fst x) (Prod.fst (Prod.snd (Prod.snd (Prod.snd x)))))))))))))
 (needS (decide ((0 : Int) ≤ (↑(Prod.fst x) : Int)) && decide ((↑(Prod.fst x) : Int) < (↑(List.length l) : Int)))
 (ldIS IntKind.i64 (List.flatMap cN l) (Int.toNat (↑(Prod.fst x) : Int) * (3 : Nat)) fun (n51 : Int) =>
 ldIS IntKind.i64 (List.flatMap cN l) (Int.toNat (↑(Prod.fst x) : Int) * (3 : Nat) + (1 : Nat)) fun (n52 : Int) =>
 ldVS (1 : Nat) (List.flatMap cN l) (Int.toNat (↑(Prod.fst x) : Int) * (3 : Nat) + (1 : Nat) + (1 : Nat)) fun (i53 : Option Nat) (e54 l55 : Nat) (c56 : List IV) =>
 ∃ (l_1 : List Nd),
 ∃ (ks : List Int),
 ∃ (k : List Int),
 (List.length l = List.length l_1 ∧ List.flatMap cN l = List.flatMap cN l_1) ∧
 (l55 = List.length ks ∧ c56 = List.map (IV.int IntKind.i64) ks) ∧
 (List.length (Prod.fst (Prod.snd (Prod.snd (Prod.snd (Prod.snd x))))) = List.length k ∧
 List.map (IV.int IntKind.i64) (Prod.fst (Prod.snd (Prod.snd (Prod.snd (Prod.snd x))))) = List.map (IV.int IntKind.i64) k) ∧
 (n51 ≠ (30 : Int) ∧
 List.length ks = List.length k ∧
 List.length k ≤ (1000000 : Nat) ∧
 List.length l_1 ≤ (1000000 : Nat) ∧
 (∀ (q : Int), q ∈ ks → (0 : Int) ≤ q ∧ q < (↑(List.length l_1) : Int)) ∧
 (k = [(3 : Int)] → eK l_1 (Nd.mk n51 n52 ks) % (2 : Nat) = (1 : Nat)) ∧ ∀ (n : Nd), n ∈ l_1 → List.length (Nd.ks n) ≤ (1000000 : Nat)) ∧
 tipS (Prod.fst (Prod.snd (Prod.snd x))) (Prod.fst (Prod.snd x)) fun (m57 : Nat) =>
 needS (Nat.beq m57 (Prod.fst x) && Nat.ble ((Prod.fst x + (1 : Nat)) * (8 : Nat)) (140737488355328 : Nat))
 ((∃ (x_1 : Heap),
 some (TV.v (IV.vslice none (0 : Nat) (List.length l) (3 : Nat) (List.flatMap cN l))) = some (TV.v (IV.vslice none (0 : Nat) (List.length l) (3 : Nat) (List.flatMap cN l))) ∧
 some (TV.v (IV.int IntKind.i64 (IntKind.wrap IntKind.i64 ((↑(Prod.fst x) : Int) + (1 : Int))))) = some (TV.v (IV.int IntKind.i64 (0 : Int))) ∧
 some
 (TV.v
 (IV.vslice (some (Prod.fst (Prod.snd x))) (Prod.fst x + (1 : Nat)) (Prod.fst x + (1 : Nat)) (1 : Nat)
 (List.map (IV.int IntKind.i64) (sortsG (List.take (Prod.fst x) l)) ++ [IV.int IntKind.i64 (nsortG (eK l_1 (Nd.mk n51 n52 ks)) n51 n52 k)]))) =
 some (TV.v IV.nilslice) ∧
 Heap.set (Prod.fst (Prod.snd (Prod.snd x))) (Prod.fst (Prod.snd x)) (IObj.tip (Prod.fst x + (1 : Nat))) = x_1 ∧ True ∧ List.length l < List.length l) ∨
 ∃ (x_1 : Nat × Nat × Heap),
 some (TV.v (IV.vslice none (0 : Nat) (List.length l) (3 : Nat) (List.flatMap cN l))) = some (TV.v (IV.vslice none (0 : Nat) (List.length l) (3 : Nat) (List.flatMap cN l))) ∧
 some (TV.v (IV.int IntKind.i64 (IntKind.wrap IntKind.i64 ((↑(Prod.fst x) : Int) + (1 : Int))))) = some (TV.v (IV.int IntKind.i64 (↑(Prod.fst x_1) : Int))) ∧
 some
 (TV.v
 (IV.vslice (some (Prod.fst (Prod.snd x))) (Prod.fst x + (1 : Nat)) (Prod.fst x + (1 : Nat)) (1 : Nat)
 (List.map (IV.int IntKind.i64) (sortsG (List.take (Prod.fst x) l)) ++ [IV.int IntKind.i64 (nsortG (eK l_1 (Nd.mk n51 n52 ks)) n51 n52 k)]))) =
 some (TV.v (IV.vslice (some (Prod.fst (Prod.snd x_1))) (Prod.fst x_1) (Prod.fst x_1) (1 : Nat) (List.map (IV.int IntKind.i64) (sortsG (List.take (Prod.fst x_1) l))))) ∧
 Heap.set (Prod.fst (Prod.snd (Prod.snd x))) (Prod.fst (Prod.snd x)) (IObj.tip (Prod.fst x + (1 : Nat))) = Prod.snd (Prod.snd x_1) ∧
 (((0 : Nat) < Prod.fst x_1 ∧ Prod.fst x_1 ≤ List.length l) ∧
 Heap.get (Prod.snd (Prod.snd x_1)) (Prod.fst (Prod.snd x_1)) = IObj.tip (Prod.fst x_1) ∧ Prod.fst (Prod.snd x_1) < Heap.next (Prod.snd (Prod.snd x_1))) ∧
 List.length l - Prod.fst x_1 < List.length l)))))
 (Q (IV.vslice none (0 : Nat) (0 : Nat) (1 : Nat) []) h)) ∧
 ∀ (x : Nat × Nat × Heap) (b : FF),
 SO l (Prod.fst x) (Prod.fst (Prod.snd x)) (Prod.snd (Prod.snd x)) →
 brS (decide ((↑(Prod.fst x) : Int) < (↑(List.length l) : Int)))
 (∃ (M : Nat),
 ((∃ (x_1 : Heap),
 some (TV.v (IV.vslice none (0 : Nat) (List.length l) (3 : Nat) (List.flatMap cN l))) = some (TV.v (IV.vslice none (0 : Nat) (List.length l) (3 : Nat) (List.flatMap cN l))) ∧
 some (TV.v (IV.int IntKind.i64 (↑(Prod.fst x) : Int))) = some (TV.v (IV.int IntKind.i64 (0 : Int))) ∧
 some (TV.v (IV.vslice (some (Prod.fst (Prod.snd x))) (Prod.fst x) (Prod.fst x) (1 : Nat) (List.map (IV.int IntKind.i64) (sortsG (List.take (Prod.fst x) l))))) = some (TV.v IV.nilslice) ∧
 some (TV.v IV.nilslice) = some (TV.v IV.nilslice) ∧
 some (TV.v (IV.bool true)) = some (TV.v (IV.bool true)) ∧
 some (TV.v (IV.int IntKind.i64 (0 : Int))) = some (TV.v (IV.int IntKind.i64 (0 : Int))) ∧
 Prod.snd (Prod.snd x) = x_1 ∧ Nat.le (1 : Nat) (List.length l) ∧ List.length l * (1000002 : Nat) + kRest l (0 : Nat) (0 : Nat) ≤ M) ∨
 (∃ (x_1 : Nat × Nat × Heap),
 some (TV.v (IV.vslice none (0 : Nat) (List.length l) (3 : Nat) (List.flatMap cN l))) = some (TV.v (IV.vslice none (0 : Nat) (List.length l) (3 : Nat) (List.flatMap cN l))) ∧
 some (TV.v (IV.int IntKind.i64 (↑(Prod.fst x) : Int))) = some (TV.v (IV.int IntKind.i64 (↑(Prod.fst x_1) : Int))) ∧
 some (TV.v (IV.vslice (some (Prod.fst (Prod.snd x))) (Prod.fst x) (Prod.fst x) (1 : Nat) (List.map (IV.int IntKind.i64) (sortsG (List.take (Prod.fst x) l))))) =
 some (TV.v (IV.vslice (some (Prod.fst (Prod.snd x_1))) (Prod.fst x_1) (Prod.fst x_1) (1 : Nat) (List.map (IV.int IntKind.i64) (sortsG (List.take (Prod.fst x_1) l))))) ∧
 some (TV.v IV.nilslice) = some (TV.v IV.nilslice) ∧
 some (TV.v (IV.bool true)) = some (TV.v (IV.bool true)) ∧
 some (TV.v (IV.int IntKind.i64 (0 : Int))) = some (TV.v (IV.int IntKind.i64 (0 : Int))) ∧
 Prod.snd (Prod.snd x) = Prod.snd (Prod.snd x_1) ∧
 (Prod.fst x_1 < List.length l ∧ SO l (Prod.fst x_1) (Prod.fst (Prod.snd x_1)) (Prod.snd (Prod.snd x_1))) ∧ (List.length l - Prod.fst x_1) * (1000002 : Nat) + kRest l (Prod.fst x_1) (0 : Nat) ≤ M) ∨
 ∃ (x_1 : Nat × Nat × Heap × Nat × List Int × Nat),
 some (TV.v (IV.vslice none (0 : Nat) (List.length l) (3 : Nat) (List.flatMap cN l))) = some (TV.v (IV.vslice none (0 : Nat) (List.length l) (3 : Nat) (List.flatMap cN l))) ∧
 some (TV.v (IV.int IntKind.i64 (↑(Prod.fst x) : Int))) = some (TV.v (IV.int IntKind.i64 (↑(Prod.fst x_1) : Int))) ∧
 some (TV.v (IV.vslice (some (Prod.fst (Prod.snd x))) (Prod.fst x) (Prod.fst x) (1 : Nat) (List.map (IV.int IntKind.i64) (sortsG (List.take (Prod.fst x) l))))) =
 some (TV.v (IV.vslice (some (Prod.fst (Prod.snd x_1))) (Prod.fst x_1) (Prod.fst x_1) (1 : Nat) (List.map (IV.int IntKind.i64) (sortsG (List.take (Prod.fst x_1) l))))) ∧
 some (TV.v IV.nilslice) =
 some
 (TV.v
 (IV.vslice (some (Prod.snd (Prod.snd (Prod.snd (Prod.snd (Prod.snd x_1)))))) (List.length (Prod.fst (Prod.snd (Prod.snd (Prod.snd (Prod.snd x_1))))))
 (List.length (Prod.fst (Prod.snd (Prod.snd (Prod.snd (Prod.snd x_1)))))) (1 : Nat) (List.map (IV.int IntKind.i64) (Prod.fst (Prod.snd (Prod.snd (Prod.snd (Prod.snd x_1)))))))) ∧
 some (TV.v (IV.bool true)) = some (TV.v (IV.bool true)) ∧
 some (TV.v (IV.int IntKind.i64 (0 : Int))) = some (TV.v (IV.int IntKind.i64 (↑(Prod.fst (Prod.snd (Prod.snd (Prod.snd x_1)))) : Int))) ∧
 Prod.snd (Prod.snd x) = Prod.fst (Prod.snd (Prod.snd x_1)) ∧
 (Prod.fst x_1 < List.length l ∧
 SO l (Prod.fst x_1) (Prod.fst (Prod.snd x_1)) (Prod.fst (Prod.snd (Prod.snd x_1))) ∧
 SIG l (Prod.fst x_1) (Prod.fst (Prod.snd (Prod.snd (Prod.snd x_1)))) (Prod.fst (Prod.snd (Prod.snd (Prod.snd (Prod.snd x_1))))) ∧
 SK (Prod.fst (Prod.snd (Prod.snd (Prod.snd (Prod.snd x_1))))) (Prod.fst (Prod.snd x_1)) (Prod.snd (Prod.snd (Prod.snd (Prod.snd (Prod.snd x_1))))) (Prod.fst (Prod.snd (Prod.snd x_1)))) ∧
 (List.length l - Prod.fst x_1) * (1000002 : Nat) + kRest l (Prod.fst x_1) (Prod.fst (Prod.snd (Prod.snd (Prod.snd x_1)))) ≤ M) ∧
 (∀ (x_1 : Heap) (b : FF),
 (0 : Nat) < List.length l →
 List.length l * (1000002 : Nat) + kRest l (0 : Nat) (0 : Nat) ≤ M →
 needS (true && decide ((0 : Int) < (↑(List.length l) : Int)))
 (ldVS (1 : Nat) (List.flatMap cN l) (2 : Nat) fun (i58 : Option Nat) (e59 l60 : Nat) (c61 : List IV) =>
 brS (decide ((0 : Int) < (↑l60 : Int)))
 (needS (true && decide ((0 : Int) < (↑(List.length l) : Int)))
 (ldVS (1 : Nat) (List.flatMap cN l) (2 : Nat) fun (i62 : Option Nat) (e63 l64 : Nat) (c65 : List IV) =>
 needS (true && decide ((0 : Int) < (↑l64 : Int)))
 (ldIS IntKind.i64 c65 (0 : Nat) fun (n66 : Int) =>
 brS (decide (n66 < (0 : Int)))
 ((∃ (x_2 : Heap),
 some (TV.v (IV.vslice none (0 : Nat) (List.length l) (3 : Nat) (List.flatMap cN l))) = some (TV.v (IV.vslice none (0 : Nat) (List.length l) (3 : Nat) (List.flatMap cN l))) ∧
 some (TV.v (IV.int IntKind.i64 (1 : Int))) = some (TV.v (IV.int IntKind.i64 (0 : Int))) ∧
 some (TV.v (IV.vslice (some (Heap.next x_1)) (1 : Nat) (1 : Nat) (1 : Nat) [IV.int IntKind.i64 (0 : Int)])) = some (TV.v IV.nilslice) ∧
 Heap.push x_1 (IObj.tip (1 : Nat)) = x_2 ∧ True ∧ List.length l < List.length l - Prod.fst x) ∨
 ∃ (x_2 : Nat × Nat × Heap),
 some (TV.v (IV.vslice none (0 : Nat) (List.length l) (3 : Nat) (List.flatMap cN l))) = some (TV.v (IV.vslice none (0 : Nat) (List.length l) (3 : Nat) (List.flatMap cN l))) ∧
 some (TV.v (IV.int IntKind.i64 (1 : Int))) = some (TV.v (IV.int IntKind.i64 (↑(Prod.fst x_2) : Int))) ∧
 some (TV.v (IV.vslice (some (Heap.next x_1)) (1 : Nat) (1 : Nat) (1 : Nat) [IV.int IntKind.i64 (0 : Int)])) =
 some (TV.v (IV.vslice (some (Prod.fst (Prod.snd x_2))) (Prod.fst x_2) (Prod.fst x_2) (1 : Nat) (List.map (IV.int IntKind.i64) (sortsG (List.take (Prod.fst x_2) l))))) ∧
 Heap.push x_1 (IObj.tip (1 : Nat)) = Prod.snd (Prod.snd x_2) ∧
 (((0 : Nat) < Prod.fst x_2 ∧ Prod.fst x_2 ≤ List.length l) ∧
 Heap.get (Prod.snd (Prod.snd x_2)) (Prod.fst (Prod.snd x_2)) = IObj.tip (Prod.fst x_2) ∧ Prod.fst (Prod.snd x_2) < Heap.next (Prod.snd (Prod.snd x_2))) ∧
 List.length l - Prod.fst x_2 < List.length l - Prod.fst x)
 (brS (decide (n66 ≥ (0 : Int)))
 ((∃ (x_2 : Heap),
 some (TV.v (IV.vslice none (0 : Nat) (List.length l) (3 : Nat) (List.flatMap cN l))) = some (TV.v (IV.vslice none (0 : Nat) (List.length l) (3 : Nat) (List.flatMap cN l))) ∧
 some (TV.v (IV.int IntKind.i64 (1 : Int))) = some (TV.v (IV.int IntKind.i64 (0 : Int))) ∧
 some (TV.v (IV.vslice (some (Heap.next x_1)) (1 : Nat) (1 : Nat) (1 : Nat) [IV.int IntKind.i64 (0 : Int)])) = some (TV.v IV.nilslice) ∧
 Heap.push x_1 (IObj.tip (1 : Nat)) = x_2 ∧ True ∧ List.length l < List.length l - Prod.fst x) ∨
 ∃ (x_2 : Nat × Nat × Heap),
 some (TV.v (IV.vslice none (0 : Nat) (List.length l) (3 : Nat) (List.flatMap cN l))) = some (TV.v (IV.vslice none (0 : Nat) (List.length l) (3 : Nat) (List.flatMap cN l))) ∧
 some (TV.v (IV.int IntKind.i64 (1 : Int))) = some (TV.v (IV.int IntKind.i64 (↑(Prod.fst x_2) : Int))) ∧
 some (TV.v (IV.vslice (some (Heap.next x_1)) (1 : Nat) (1 : Nat) (1 : Nat) [IV.int IntKind.i64 (0 : Int)])) =
 some (TV.v (IV.vslice (some (Prod.fst (Prod.snd x_2))) (Prod.fst x_2) (Prod.fst x_2) (1 : Nat) (List.map (IV.int IntKind.i64) (sortsG (List.take (Prod.fst x_2) l))))) ∧
 Heap.push x_1 (IObj.tip (1 : Nat)) = Prod.snd (Prod.snd x_2) ∧
 (((0 : Nat) < Prod.fst x_2 ∧ Prod.fst x_2 ≤ List.length l) ∧
 Heap.get (Prod.snd (Prod.snd x_2)) (Prod.fst (Prod.snd x_2)) = IObj.tip (Prod.fst x_2) ∧ Prod.fst (Prod.snd x_2) < Heap.next (Prod.snd (Prod.snd x_2))) ∧
 List.length l - Prod.fst x_2 < List.length l - Prod.fst x)
 False))))
 (needS (true && decide ((0 : Int) < (↑(List.length l) : Int)))
 (ldIS IntKind.i64 (List.flatMap cN l) (0 : Nat) fun (n67 : Int) =>
 ldIS IntKind.i64 (List.flatMap cN l) (1 : Nat) fun (n68 : Int) =>
 ldVS (1 : Nat) (List.flatMap cN l) (2 : Nat) fun (i69 : Option Nat) (e70 l71 : Nat) (c72 : List IV) =>
 ∃ (l_1 : List Nd),
 ∃ (ks : List Int),
 ∃ (k : List Int),
 (List.length l = List.length l_1 ∧ List.flatMap cN l = List.flatMap cN l_1) ∧
 (l71 = List.length ks ∧ c72 = List.map (IV.int IntKind.i64) ks) ∧
 ((0 : Nat) = List.length k ∧ [] = List.map (IV.int IntKind.i64) k) ∧
 (n67 ≠ (30 : Int) ∧
 List.length ks = List.length k ∧
 List.length k ≤ (1000000 : Nat) ∧
 List.length l_1 ≤ (1000000 : Nat) ∧
 (∀ (q : Int), q ∈ ks → (0 : Int) ≤ q ∧ q < (↑(List.length l_1) : Int)) ∧
 (k = [(3 : Int)] → eK l_1 (Nd.mk n67 n68 ks) % (2 : Nat) = (1 : Nat)) ∧ ∀ (n : Nd), n ∈ l_1 → List.length (Nd.ks n) ≤ (1000000 : Nat)) ∧
 ((∃ (x_2 : Heap),
 some (TV.v (IV.vslice none (0 : Nat) (List.length l) (3 : Nat) (List.flatMap cN l))) = some (TV.v (IV.vslice none (0 : Nat) (List.length l) (3 : Nat) (List.flatMap cN l))) ∧
 some (TV.v (IV.int IntKind.i64 (1 : Int))) = some (TV.v (IV.int IntKind.i64 (0 : Int))) ∧
 some (TV.v (IV.vslice (some (Heap.next x_1)) (1 : Nat) (1 : Nat) (1 : Nat) [IV.int IntKind.i64 (nsortG (eK l_1 (Nd.mk n67 n68 ks)) n67 n68 k)])) = some (TV.v IV.nilslice) ∧
 Heap.push x_1 (IObj.tip (1 : Nat)) = x_2 ∧ True ∧ List.length l < List.length l - Prod.fst x) ∨
 ∃ (x_2 : Nat × Nat × Heap),
 some (TV.v (IV.vslice none (0 : Nat) (List.length l) (3 : Nat) (List.flatMap cN l))) = some (TV.v (IV.vslice none (0 : Nat) (List.length l) (3 : Nat) (List.flatMap cN l))) ∧
 some (TV.v (IV.int IntKind.i64 (1 : Int))) = some (TV.v (IV.int IntKind.i64 (↑(Prod.fst x_2) : Int))) ∧
 some (TV.v (IV.vslice (some (Heap.next x_1)) (1 : Nat) (1 : Nat) (1 : Nat) [IV.int IntKind.i64 (nsortG (eK l_1 (Nd.mk n67 n68 ks)) n67 n68 k)])) =
 some (TV.v (IV.vslice (some (Prod.fst (Prod.snd x_2))) (Prod.fst x_2) (Prod.fst x_2) (1 : Nat) (List.map (IV.int IntKind.i64) (sortsG (List.take (Prod.fst x_2) l))))) ∧
 Heap.push x_1 (IObj.tip (1 : Nat)) = Prod.snd (Prod.snd x_2) ∧
 (((0 : Nat) < Prod.fst x_2 ∧ Prod.fst x_2 ≤ List.length l) ∧
 Heap.get (Prod.snd (Prod.snd x_2)) (Prod.fst (Prod.snd x_2)) = IObj.tip (Prod.fst x_2) ∧ Prod.fst (Prod.snd x_2) < Heap.next (Prod.snd (Prod.snd x_2))) ∧
 List.length l - Prod.fst x_2 < List.length l - Prod.fst x))))) ∧
 (∀ (x_1 : Nat × Nat × Heap) (b : FF),
 Prod.fst x_1 < List.length l ∧ SO l (Prod.fst x_1) (Prod.fst (Prod.snd x_1)) (Prod.snd (Prod.snd x_1)) →
 (List.length l - Prod.fst x_1) * (1000002 : Nat) + kRest l (Prod.fst x_1) (0 : Nat) ≤ M →
 needS (decide ((0 : Int) ≤ (↑(Prod.fst x_1) : Int)) && decide ((↑(Prod.fst x_1) : Int) < (↑(List.length l) : Int)))
 (ldVS (1 : Nat) (List.flatMap cN l) (Int.toNat (↑(Prod.fst x_1) : Int) * (3 : Nat) + (2 : Nat)) fun (i73 : Option Nat) (e74 l75 : Nat) (c76 : List IV) =>
 brS (decide ((0 : Int) < (↑l75 : Int)))
 (needS (decide ((0 : Int) ≤ (↑(Prod.fst x_1) : Int)) && decide ((↑(Prod.fst x_1) : Int) < (↑(List.length l) : Int)))
 (ldVS (1 : Nat) (List.flatMap cN l) (Int.toNat (↑(Prod.fst x_1) : Int) * (3 : Nat) + (2 : Nat)) fun (i77 : Option Nat) (e78 l79 : Nat) (c80 : List IV) =>
 needS (true && decide ((0 : Int) < (↑l79 : Int)))
 (ldIS IntKind.i64 c80 (0 : Nat) fun (n81 : Int) =>
 brS (decide (n81 < (0 : Int)))
 (tipS (Prod.snd (Prod.snd x_1)) (Prod.fst (Prod.snd x_1)) fun (m82 : Nat) =>
 needS (Nat.beq m82 (Prod.fst x_1) && Nat.ble ((Prod.fst x_1 + (1 : Nat)) * (8 : Nat)) (140737488355328 : Nat))
 ((∃ (x_2 : Heap),
 some (TV.v (IV.vslice none (0 : Nat) (List.length l) (3 : Nat) (List.flatMap cN l))) = some (TV.v (IV.vslice none (0 : Nat) (List.length l) (3 : Nat) (List.flatMap cN l))) ∧
 some (TV.v (IV.int IntKind.i64 (IntKind.wrap IntKind.i64 ((↑(Prod.fst x_1) : Int) + (1 : Int))))) = some (TV.v (IV.int IntKind.i64 (0 : Int))) ∧
 some
 (TV.v
 (IV.vslice (some (Prod.fst (Prod.snd x_1))) (Prod.fst x_1 + (1 : Nat)) (Prod.fst x_1 + (1 : Nat)) (1 : Nat)
 (List.map (IV.int IntKind.i64) (sortsG (List.take (Prod.fst x_1) l)) ++ [IV.int IntKind.i64 (0 : Int)]))) =
 some (TV.v IV.nilslice) ∧
 Heap.set (Prod.snd (Prod.snd x_1)) (Prod.fst (Prod.snd x_1)) (IObj.tip (Prod.fst x_1 + (1 : Nat))) = x_2 ∧ True ∧ List.length l < List.length l - Prod.fst x) ∨
 ∃ (x_2 : Nat × Nat × Heap),
 some (TV.v (IV.vslice none (0 : Nat) (List.length l) (3 : Nat) (List.flatMap cN l))) = some (TV.v (IV.vslice none (0 : Nat) (List.length l) (3 : Nat) (List.flatMap cN l))) ∧
 some (TV.v (IV.int IntKind.i64 (IntKind.wrap IntKind.i64 ((↑(Prod.fst x_1) : Int) + (1 : Int))))) = some (TV.v (IV.int IntKind.i64 (↑(Prod.fst x_2) : Int))) ∧
 some
 (TV.v
 (IV.vslice (some (Prod.fst (Prod.snd x_1))) (Prod.fst x_1 + (1 : Nat)) (Prod.fst x_1 + (1 : Nat)) (1 : Nat)
 (List.map (IV.int IntKind.i64) (sortsG (List.take (Prod.fst x_1) l)) ++ [IV.int IntKind.i64 (0 : Int)]))) =
 some (TV.v (IV.vslice (some (Prod.fst (Prod.snd x_2))) (Prod.fst x_2) (Prod.fst x_2) (1 : Nat) (List.map (IV.int IntKind.i64) (sortsG (List.take (Prod.fst x_2) l))))) ∧
 Heap.set (Prod.snd (Prod.snd x_1)) (Prod.fst (Prod.snd x_1)) (IObj.tip (Prod.fst x_1 + (1 : Nat))) = Prod.snd (Prod.snd x_2) ∧
 (((0 : Nat) < Prod.fst x_2 ∧ Prod.fst x_2 ≤ List.length l) ∧
 Heap.get (Prod.snd (Prod.snd x_2)) (Prod.fst (Prod.snd x_2)) = IObj.tip (Prod.fst x_2) ∧ Prod.fst (Prod.snd x_2) < Heap.next (Prod.snd (Prod.snd x_2))) ∧
 List.length l - Prod.fst x_2 < List.length l - Prod.fst x))
 (brS (decide (n81 ≥ (↑(Prod.fst x_1) : Int)))
 (tipS (Prod.snd (Prod.snd x_1)) (Prod.fst (Prod.snd x_1)) fun (m83 : Nat) =>
 needS (Nat.beq m83 (Prod.fst x_1) && Nat.ble ((Prod.fst x_1 + (1 : Nat)) * (8 : Nat)) (140737488355328 : Nat))
 ((∃ (x_2 : Heap),
 some (TV.v (IV.vslice none (0 : Nat) (List.length l) (3 : Nat) (List.flatMap cN l))) = some (TV.v (IV.vslice none (0 : Nat) (List.length l) (3 : Nat) (List.flatMap cN l))) ∧
 some (TV.v (IV.int IntKind.i64 (IntKind.wrap IntKind.i64 ((↑(Prod.fst x_1) : Int) + (1 : Int))))) = some (TV.v (IV.int IntKind.i64 (0 : Int))) ∧
 some
 (TV.v
 (IV.vslice (some (Prod.fst (Prod.snd x_1))) (Prod.fst x_1 + (1 : Nat)) (Prod.fst x_1 + (1 : Nat)) (1 : Nat)
 (List.map (IV.int IntKind.i64) (sortsG (List.take (Prod.fst x_1) l)) ++ [IV.int IntKind.i64 (0 : Int)]))) =
 some (TV.v IV.nilslice) ∧
 Heap.set (Prod.snd (Prod.snd x_1)) (Prod.fst (Prod.snd x_1)) (IObj.tip (Prod.fst x_1 + (1 : Nat))) = x_2 ∧ True ∧ List.length l < List.length l - Prod.fst x) ∨
 ∃ (x_2 : Nat × Nat × Heap),
 some (TV.v (IV.vslice none (0 : Nat) (List.length l) (3 : Nat) (List.flatMap cN l))) = some (TV.v (IV.vslice none (0 : Nat) (List.length l) (3 : Nat) (List.flatMap cN l))) ∧
 some (TV.v (IV.int IntKind.i64 (IntKind.wrap IntKind.i64 ((↑(Prod.fst x_1) : Int) + (1 : Int))))) = some (TV.v (IV.int IntKind.i64 (↑(Prod.fst x_2) : Int))) ∧
 some
 (TV.v
 (IV.vslice (some (Prod.fst (Prod.snd x_1))) (Prod.fst x_1 + (1 : Nat)) (Prod.fst x_1 + (1 : Nat)) (1 : Nat)
 (List.map (IV.int IntKind.i64) (sortsG (List.take (Prod.fst x_1) l)) ++ [IV.int IntKind.i64 (0 : Int)]))) =
 some (TV.v (IV.vslice (some (Prod.fst (Prod.snd x_2))) (Prod.fst x_2) (Prod.fst x_2) (1 : Nat) (List.map (IV.int IntKind.i64) (sortsG (List.take (Prod.fst x_2) l))))) ∧
 Heap.set (Prod.snd (Prod.snd x_1)) (Prod.fst (Prod.snd x_1)) (IObj.tip (Prod.fst x_1 + (1 : Nat))) = Prod.snd (Prod.snd x_2) ∧
 (((0 : Nat) < Prod.fst x_2 ∧ Prod.fst x_2 ≤ List.length l) ∧
 Heap.get (Prod.snd (Prod.snd x_2)) (Prod.fst (Prod.snd x_2)) = IObj.tip (Prod.fst x_2) ∧ Prod.fst (Prod.snd x_2) < Heap.next (Prod.snd (Prod.snd x_2))) ∧
 List.length l - Prod.fst x_2 < List.length l - Prod.fst x))
 (needS (decide ((0 : Int) ≤ n81) && decide (n81 < (↑(Prod.fst x_1) : Int)))
 (ldIS IntKind.i64 (List.map (IV.int IntKind.i64) (sortsG (List.take (Prod.fst x_1) l))) (Int.toNat n81 * (1 : Nat)) fun (n84 : Int) =>
 brS (n84 == (0 : Int))
 (tipS (Prod.snd (Prod.snd x_1)) (Prod.fst (Prod.snd x_1)) fun (m85 : Nat) =>
 needS (Nat.beq m85 (Prod.fst x_1) && Nat.ble ((Prod.fst x_1 + (1 : Nat)) * (8 : Nat)) (140737488355328 : Nat))
 ((∃ (x_2 : Heap),
 some (TV.v (IV.vslice none (0 : Nat) (List.length l) (3 : Nat) (List.flatMap cN l))) = some (TV.v (IV.vslice none (0 : Nat) (List.length l) (3 : Nat) (List.flatMap cN l))) ∧
 some (TV.v (IV.int IntKind.i64 (IntKind.wrap IntKind.i64 ((↑(Prod.fst x_1) : Int) + (1 : Int))))) = some (TV.v (IV.int IntKind.i64 (0 : Int))) ∧
 some
 (TV.v
 (IV.vslice (some (Prod.fst (Prod.snd x_1))) (Prod.fst x_1 + (1 : Nat)) (Prod.fst x_1 + (1 : Nat)) (1 : Nat)
 (List.map (IV.int IntKind.i64) (sortsG (List.take (Prod.fst x_1) l)) ++ [IV.int IntKind.i64 (0 : Int)]))) =
 some (TV.v IV.nilslice) ∧
 Heap.set (Prod.snd (Prod.snd x_1)) (Prod.fst (Prod.snd x_1)) (IObj.tip (Prod.fst x_1 + (1 : Nat))) = x_2 ∧ True ∧ List.length l < List.length l - Prod.fst x) ∨
 ∃ (x_2 : Nat × Nat × Heap),
 some (TV.v (IV.vslice none (0 : Nat) (List.length l) (3 : Nat) (List.flatMap cN l))) = some (TV.v (IV.vslice none (0 : Nat) (List.length l) (3 : Nat) (List.flatMap cN l))) ∧
 some (TV.v (IV.int IntKind.i64 (IntKind.wrap IntKind.i64 ((↑(Prod.fst x_1) : Int) + (1 : Int))))) = some (TV.v (IV.int IntKind.i64 (↑(Prod.fst x_2) : Int))) ∧
 some
 (TV.v
 (IV.vslice (some (Prod.fst (Prod.snd x_1))) (Prod.fst x_1 + (1 : Nat)) (Prod.fst x_1 + (1 : Nat)) (1 : Nat)
 (List.map (IV.int IntKind.i64) (sortsG (List.take (Prod.fst x_1) l)) ++ [IV.int IntKind.i64 (0 : Int)]))) =
 some (TV.v (IV.vslice (some (Prod.fst (Prod.snd x_2))) (Prod.fst x_2) (Prod.fst x_2) (1 : Nat) (List.map (IV.int IntKind.i64) (sortsG (List.take (Prod.fst x_2) l))))) ∧
 Heap.set (Prod.snd (Prod.snd x_1)) (Prod.fst (Prod.snd x_1)) (IObj.tip (Prod.fst x_1 + (1 : Nat))) = Prod.snd (Prod.snd x_2) ∧
 (((0 : Nat) < Prod.fst x_2 ∧ Prod.fst x_2 ≤ List.length l) ∧
 Heap.get (Prod.snd (Prod.snd x_2)) (Prod.fst (Prod.snd x_2)) = IObj.tip (Prod.fst x_2) ∧ Prod.fst (Prod.snd x_2) < Heap.next (Prod.snd (Prod.snd x_2))) ∧
 List.length l - Prod.fst x_2 < List.length l - Prod.fst x))
 (needS (decide ((0 : Int) ≤ n81) && decide (n81 < (↑(Prod.fst x_1) : Int)))
 (ldIS IntKind.i64 (List.map (IV.int IntKind.i64) (sortsG (List.take (Prod.fst x_1) l))) (Int.toNat n81 * (1 : Nat)) fun (n86 : Int) =>
 (∃ (x : Heap),
 some (TV.v (IV.vslice none (0 : Nat) (List.length l) (3 : Nat) (List.flatMap cN l))) = some (TV.v (IV.vslice none (0 : Nat) (List.length l) (3 : Nat) (List.flatMap cN l))) ∧
 some (TV.v (IV.int IntKind.i64 (↑(Prod.fst x_1) : Int))) = some (TV.v (IV.int IntKind.i64 (0 : Int))) ∧
 some (TV.v (IV.vslice (some (Prod.fst (Prod.snd x_1))) (Prod.fst x_1) (Prod.fst x_1) (1 : Nat) (List.map (IV.int IntKind.i64) (sortsG (List.take (Prod.fst x_1) l))))) =
 some (TV.v IV.nilslice) ∧
 some (TV.v (IV.vslice (some (Heap.next (Prod.snd (Prod.snd x_1)))) (1 : Nat) (1 : Nat) (1 : Nat) [IV.int IntKind.i64 n86])) = some (TV.v IV.nilslice) ∧
 some (TV.v (IV.bool true)) = some (TV.v (IV.bool true)) ∧
 some (TV.v (IV.int IntKind.i64 (1 : Int))) = some (TV.v (IV.int IntKind.i64 (0 : Int))) ∧
 Heap.push (Prod.snd (Prod.snd x_1)) (IObj.tip (1 : Nat)) = x ∧
 Nat.le (1 : Nat) (List.length l) ∧
 List.length l * (1000002 : Nat) + kRest l (0 : Nat) (0 : Nat) < (List.length l - Prod.fst x_1) * (1000002 : Nat) + kRest l (Prod.fst x_1) (0 : Nat)) ∨
 (∃ (x : Nat × Nat × Heap),
 some (TV.v (IV.vslice none (0 : Nat) (List.length l) (3 : Nat) (List.flatMap cN l))) = some (TV.v (IV.vslice none (0 : Nat) (List.length l) (3 : Nat) (List.flatMap cN l))) ∧
 some (TV.v (IV.int IntKind.i64 (↑(Prod.fst x_1) : Int))) = some (TV.v (IV.int IntKind.i64 (↑(Prod.fst x) : Int))) ∧
 some (TV.v (IV.vslice (some (Prod.fst (Prod.snd x_1))) (Prod.fst x_1) (Prod.fst x_1) (1 : Nat) (List.map (IV.int IntKind.i64) (sortsG (List.take (Prod.fst x_1) l))))) =
 some (TV.v (IV.vslice (some (Prod.fst (Prod.snd x))) (Prod.fst x) (Prod.fst x) (1 : Nat) (List.map (IV.int IntKind.i64) (sortsG (List.take (Prod.fst x) l))))) ∧
 some (TV.v (IV.vslice (some (Heap.next (Prod.snd (Prod.snd x_1)))) (1 : Nat) (1 : Nat) (1 : Nat) [IV.int IntKind.i64 n86])) = some (TV.v IV.nilslice) ∧
 some (TV.v (IV.bool true)) = some (TV.v (IV.bool true)) ∧
 some (TV.v (IV.int IntKind.i64 (1 : Int))) = some (TV.v (IV.int IntKind.i64 (0 : Int))) ∧
 Heap.push (Prod.snd (Prod.snd x_1)) (IObj.tip (1 : Nat)) = Prod.snd (Prod.snd x) ∧
 (Prod.fst x < List.length l ∧ SO l (Prod.fst x) (Prod.fst (Prod.snd x)) (Prod.snd (Prod.snd x))) ∧
 (List.length l - Prod.fst x) * (1000002 : Nat) + kRest l (Prod.fst x) (0 : Nat) <
 (List.length l - Prod.fst x_1) * (1000002 : Nat) + kRest l (Prod.fst x_1) (0 : Nat)) ∨
 ∃ (x : Nat × Nat × Heap × Nat × List Int × Nat),
 some (TV.v (IV.vslice none (0 : Nat) (List.length l) (3 : Nat) (List.flatMap cN l))) = some (TV.v (IV.vslice none (0 : Nat) (List.length l) (3 : Nat) (List.flatMap cN l))) ∧
 some (TV.v (IV.int IntKind.i64 (↑(Prod.fst x_1) : Int))) = some (TV.v (IV.int IntKind.i64 (↑(Prod.fst x) : Int))) ∧
 some (TV.v (IV.vslice (some (Prod.fst (Prod.snd x_1))) (Prod.fst x_1) (Prod.fst x_1) (1 : Nat) (List.map (IV.int IntKind.i64) (sortsG (List.take (Prod.fst x_1) l))))) =
 some (TV.v (IV.vslice (some (Prod.fst (Prod.snd x))) (Prod.fst x) (Prod.fst x) (1 : Nat) (List.map (IV.int IntKind.i64) (sortsG (List.take (Prod.fst x) l))))) ∧
 some (TV.v (IV.vslice (some (Heap.next (Prod.snd (Prod.snd x_1)))) (1 : Nat) (1 : Nat) (1 : Nat) [IV.int IntKind.i64 n86])) =
 some
 (TV.v
 (IV.vslice (some (Prod.snd (Prod.snd (Prod.snd (Prod.snd (Prod.snd x)))))) (List.length (Prod.fst (Prod.snd (Prod.snd (Prod.snd (Prod.snd x))))))
 (List.length (Prod.fst (Prod.snd (Prod.snd (Prod.snd (Prod.snd x)))))) (1 : Nat)
 (List.map (IV.int IntKind.i64) (Prod.fst (Prod.snd (Prod.snd (Prod.snd (Prod.snd x)))))))) ∧
 some (TV.v (IV.bool true)) = some (TV.v (IV.bool true)) ∧
 some (TV.v (IV.int IntKind.i64 (1 : Int))) = some (TV.v (IV.int IntKind.i64 (↑(Prod.fst (Prod.snd (Prod.snd (Prod.snd x)))) : Int))) ∧
 Heap.push (Prod.snd (Prod.snd x_1)) (IObj.tip (1 : Nat)) = Prod.fst (Prod.snd (Prod.snd x)) ∧
 (Prod.fst x < List.length l ∧
 SO l (Prod.fst x) (Prod.fst (Prod.snd x)) (Prod.fst (Prod.snd (Prod.snd x))) ∧
 SIG l (Prod.fst x) (Prod.fst (Prod.snd (Prod.snd (Prod.snd x)))) (Prod.fst (Prod.snd (Prod.snd (Prod.snd (Prod.snd x))))) ∧
 SK (Prod.fst (Prod.snd (Prod.snd (Prod.snd (Prod.snd x))))) (Prod.fst (Prod.snd x)) (Prod.snd (Prod.snd (Prod.snd (Prod.snd (Prod.snd x)))))
 (Prod.fst (Prod.snd (Prod.snd x)))) ∧
 (List.length l - Prod.fst x) * (1000002 : Nat) + kRest l (Prod.fst x) (Prod.fst (Prod.snd (Prod.snd (Prod.snd x)))) <
 (List.length l - Prod.fst x_1) * (1000002 : Nat) + kRest l (Prod.fst x_1) (0 : Nat)))))))))
 (needS (decide ((0 : Int) ≤ (↑(Prod.fst x_1) : Int)) && decide ((↑(Prod.fst x_1) : Int) < (↑(List.length l) : Int)))
 (ldIS IntKind.i64 (List.flatMap cN l) (Int.toNat (↑(Prod.fst x_1) : Int) * (3 : Nat)) fun (n87 : Int) =>
 ldIS IntKind.i64 (List.flatMap cN l) (Int.toNat (↑(Prod.fst x_1) : Int) * (3 : Nat) + (1 : Nat)) fun (n88 : Int) =>
 ldVS (1 : Nat) (List.flatMap cN l) (Int.toNat (↑(Prod.fst x_1) : Int) * (3 : Nat) + (1 : Nat) + (1 : Nat)) fun (i89 : Option Nat) (e90 l91 : Nat) (c92 : List IV) =>
 ∃ (l_1 : List Nd),
 ∃ (ks : List Int),
 ∃ (k : List Int),
 (List.length l = List.length l_1 ∧ List.flatMap cN l = List.flatMap cN l_1) ∧
 (l91 = List.length ks ∧ c92 = List.map (IV.int IntKind.i64) ks) ∧
 ((0 : Nat) = List.length k ∧ [] = List.map (IV.int IntKind.i64) k) ∧
 (n87 ≠ (30 : Int) ∧
 List.length ks = List.length k ∧
 List.length k ≤ (1000000 : Nat) ∧
 List.length l_1 ≤ (1000000 : Nat) ∧
 (∀ (q : Int), q ∈ ks → (0 : Int) ≤ q ∧ q < (↑(List.length l_1) : Int)) ∧
 (k = [(3 : Int)] → eK l_1 (Nd.mk n87 n88 ks) % (2 : Nat) = (1 : Nat)) ∧ ∀ (n : Nd), n ∈ l_1 → List.length (Nd.ks n) ≤ (1000000 : Nat)) ∧
 tipS (Prod.snd (Prod.snd x_1)) (Prod.fst (Prod.snd x_1)) fun (m93 : Nat) =>
 needS (Nat.beq m93 (Prod.fst x_1) && Nat.ble ((Prod.fst x_1 + (1 : Nat)) * (8 : Nat)) (140737488355328 : Nat))
 ((∃ (x_2 : Heap),
 some (TV.v (IV.vslice none (0 : Nat) (List.length l) (3 : Nat) (List.flatMap cN l))) = some (TV.v (IV.vslice none (0 : Nat) (List.length l) (3 : Nat) (List.flatMap cN l))) ∧
 some (TV.v (IV.int IntKind.i64 (IntKind.wrap IntKind.i64 ((↑(Prod.fst x_1) : Int) + (1 : Int))))) = some (TV.v (IV.int IntKind.i64 (0 : Int))) ∧
 some
 (TV.v
 (IV.vslice (some (Prod.fst (Prod.snd x_1))) (Prod.fst x_1 + (1 : Nat)) (Prod.fst x_1 + (1 : Nat)) (1 : Nat)
 (List.map (IV.int IntKind.i64) (sortsG (List.take (Prod.fst x_1) l)) ++ [IV.int IntKind.i64 (nsortG (eK l_1 (Nd.mk n87 n88 ks)) n87 n88 k)]))) =
 some (TV.v IV.nilslice) ∧
 Heap.set (Prod.snd (Prod.snd x_1)) (Prod.fst (Prod.snd x_1)) (IObj.tip (Prod.fst x_1 + (1 : Nat))) = x_2 ∧ True ∧ List.length l < List.length l - Prod.fst x) ∨
 ∃ (x_2 : Nat × Nat × Heap),
 some (TV.v (IV.vslice none (0 : Nat) (List.length l) (3 : Nat) (List.flatMap cN l))) = some (TV.v (IV.vslice none (0 : Nat) (List.length l) (3 : Nat) (List.flatMap cN l))) ∧
 some (TV.v (IV.int IntKind.i64 (IntKind.wrap IntKind.i64 ((↑(Prod.fst x_1) : Int) + (1 : Int))))) = some (TV.v (IV.int IntKind.i64 (↑(Prod.fst x_2) : Int))) ∧
 some
 (TV.v
 (IV.vslice (some (Prod.fst (Prod.snd x_1))) (Prod.fst x_1 + (1 : Nat)) (Prod.fst x_1 + (1 : Nat)) (1 : Nat)
 (List.map (IV.int IntKind.i64) (sortsG (List.take (Prod.fst x_1) l)) ++ [IV.int IntKind.i64 (nsortG (eK l_1 (Nd.mk n87 n88 ks)) n87 n88 k)]))) =
 some (TV.v (IV.vslice (some (Prod.fst (Prod.snd x_2))) (Prod.fst x_2) (Prod.fst x_2) (1 : Nat) (List.map (IV.int IntKind.i64) (sortsG (List.take (Prod.fst x_2) l))))) ∧
 Heap.set (Prod.snd (Prod.snd x_1)) (Prod.fst (Prod.snd x_1)) (IObj.tip (Prod.fst x_1 + (1 : Nat))) = Prod.snd (Prod.snd x_2) ∧
 (((0 : Nat) < Prod.fst x_2 ∧ Prod.fst x_2 ≤ List.length l) ∧
 Heap.get (Prod.snd (Prod.snd x_2)) (Prod.fst (Prod.snd x_2)) = IObj.tip (Prod.fst x_2) ∧ Prod.fst (Prod.snd x_2) < Heap.next (Prod.snd (Prod.snd x_2))) ∧
 List.length l - Prod.fst x_2 < List.length l - Prod.fst x))))) ∧
 ∀ (x_1 : Nat × Nat × Heap × Nat × List Int × Nat) (b : FF),
 Prod.fst x_1 < List.length l ∧
 SO l (Prod.fst x_1) (Prod.fst (Prod.snd x_1)) (Prod.fst (Prod.snd (Prod.snd x_1))) ∧
 SIG l (Prod.fst x_1) (Prod.fst (Prod.snd (Prod.snd (Prod.snd x_1)))) (Prod.fst (Prod.snd (Prod.snd (Prod.snd (Prod.snd x_1))))) ∧
 SK (Prod.fst (Prod.snd (Prod.snd (Prod.snd (Prod.snd x_1))))) (Prod.fst (Prod.snd x_1)) (Prod.snd (Prod.snd (Prod.snd (Prod.snd (Prod.snd x_1))))) (Prod.fst (Prod.snd (Prod.snd x_1))) →
 (List.length l - Prod.fst x_1) * (1000002 : Nat) + kRest l (Prod.fst x_1) (Prod.fst (Prod.snd (Prod.snd (Prod.snd x_1)))) ≤ M →
 needS (decide ((0 : Int) ≤ (↑(Prod.fst x_1) : Int)) && decide ((↑(Prod.fst x_1) : Int) < (↑(List.length l) : Int)))
 (ldVS (1 : Nat) (List.flatMap cN l) (Int.toNat (↑(Prod.fst x_1) : Int) * (3 : Nat) + (2 : Nat)) fun (i94 : Option Nat) (e95 l96 : Nat) (c97 : List IV) =>
 brS (decide ((↑(Prod.fst (Prod.snd (Prod.snd (Prod.snd x_1)))) : Int) < (↑l96 : Int)))
 (needS (decide ((0 : Int) ≤ (↑(Prod.fst x_1) : Int)) && decide ((↑(Prod.fst x_1) : Int) < (↑(List.length l) : Int)))
 (ldVS (1 : Nat) (List.flatMap cN l) (Int.toNat (↑(Prod.fst x_1) : Int) * (3 : Nat) + (2 : Nat)) fun (i98 : Option Nat) (e99 l100 : Nat) (c101 : List IV) =>
 needS (decide ((0 : Int) ≤ (↑(Prod.fst (Prod.snd (Prod.snd (Prod.snd x_1)))) : Int)) && decide ((↑(Prod.fst (Prod.snd (Prod.snd (Prod.snd x_1)))) : Int) < (↑l100 : Int)))
 (ldIS IntKind.i64 c101 (Int.toNat (↑(Prod.fst (Prod.snd (Prod.snd (Prod.snd x_1)))) : Int) * (1 : Nat)) fun (n102 : Int) =>
 brS (decide (n102 < (0 : Int)))
 (tipS (Prod.fst (Prod.snd (Prod.snd x_1))) (Prod.fst (Prod.snd x_1)) fun (m103 : Nat) =>
 needS (Nat.beq m103 (Prod.fst x_1) && Nat.ble ((Prod.fst x_1 + (1 : Nat)) * (8 : Nat)) (140737488355328 : Nat))
 ((∃ (x_2 : Heap),
 some (TV.v (IV.vslice none (0 : Nat) (List.length l) (3 : Nat) (List.flatMap cN l))) = some (TV.v (IV.vslice none (0 : Nat) (List.length l) (3 : Nat) (List.flatMap cN l))) ∧
 some (TV.v (IV.int IntKind.i64 (IntKind.wrap IntKind.i64 ((↑(Prod.fst x_1) : Int) + (1 : Int))))) = some (TV.v (IV.int IntKind.i64 (0 : Int))) ∧
 some
 (TV.v
 (IV.vslice (some (Prod.fst (Prod.snd x_1))) (Prod.fst x_1 + (1 : Nat)) (Prod.fst x_1 + (1 : Nat)) (1 : Nat)
 (List.map (IV.int IntKind.i64) (sortsG (List.take (Prod.fst x_1) l)) ++ [IV.int IntKind.i64 (0 : Int)]))) =
 some (TV.v IV.nilslice) ∧
 Heap.set (Prod.fst (Prod.snd (Prod.snd x_1))) (Prod.fst (Prod.snd x_1)) (IObj.tip (Prod.fst x_1 + (1 : Nat))) = x_2 ∧ True ∧ List.length l < List.length l - Prod.fst x) ∨
 ∃ (x_2 : Nat × Nat × Heap),
 some (TV.v (IV.vslice none (0 : Nat) (List.length l) (3 : Nat) (List.flatMap cN l))) = some (TV.v (IV.vslice none (0 : Nat) (List.length l) (3 : Nat) (List.flatMap cN l))) ∧
 some (TV.v (IV.int IntKind.i64 (IntKind.wrap IntKind.i64 ((↑(Prod.fst x_1) : Int) + (1 : Int))))) = some (TV.v (IV.int IntKind.i64 (↑(Prod.fst x_2) : Int))) ∧
 some
 (TV.v
 (IV.vslice (some (Prod.fst (Prod.snd x_1))) (Prod.fst x_1 + (1 : Nat)) (Prod.fst x_1 + (1 : Nat)) (1 : Nat)
 (List.map (IV.int IntKind.i64) (sortsG (List.take (Prod.fst x_1) l)) ++ [IV.int IntKind.i64 (0 : Int)]))) =
 some (TV.v (IV.vslice (some (Prod.fst (Prod.snd x_2))) (Prod.fst x_2) (Prod.fst x_2) (1 : Nat) (List.map (IV.int IntKind.i64) (sortsG (List.take (Prod.fst x_2) l))))) ∧
 Heap.set (Prod.fst (Prod.snd (Prod.snd x_1))) (Prod.fst (Prod.snd x_1)) (IObj.tip (Prod.fst x_1 + (1 : Nat))) = Prod.snd (Prod.snd x_2) ∧
 (((0 : Nat) < Prod.fst x_2 ∧ Prod.fst x_2 ≤ List.length l) ∧
 Heap.get (Prod.snd (Prod.snd x_2)) (Prod.fst (Prod.snd x_2)) = IObj.tip (Prod.fst x_2) ∧ Prod.fst (Prod.snd x_2) < Heap.next (Prod.snd (Prod.snd x_2))) ∧
 List.length l - Prod.fst x_2 < List.length l - Prod.fst x))
 (brS (decide (n102 ≥ (↑(Prod.fst x_1) : Int)))
 (tipS (Prod.fst (Prod.snd (Prod.snd x_1))) (Prod.fst (Prod.snd x_1)) fun (m104 : Nat) =>
 needS (Nat.beq m104 (Prod.fst x_1) && Nat.ble ((Prod.fst x_1 + (1 : Nat)) * (8 : Nat)) (140737488355328 : Nat))
 ((∃ (x_2 : Heap),
 some (TV.v (IV.vslice none (0 : Nat) (List.length l) (3 : Nat) (List.flatMap cN l))) = some (TV.v (IV.vslice none (0 : Nat) (List.length l) (3 : Nat) (List.flatMap cN l))) ∧
 some (TV.v (IV.int IntKind.i64 (IntKind.wrap IntKind.i64 ((↑(Prod.fst x_1) : Int) + (1 : Int))))) = some (TV.v (IV.int IntKind.i64 (0 : Int))) ∧
 some
 (TV.v
 (IV.vslice (some (Prod.fst (Prod.snd x_1))) (Prod.fst x_1 + (1 : Nat)) (Prod.fst x_1 + (1 : Nat)) (1 : Nat)
 (List.map (IV.int IntKind.i64) (sortsG (List.take (Prod.fst x_1) l)) ++ [IV.int IntKind.i64 (0 : Int)]))) =
 some (TV.v IV.nilslice) ∧
 Heap.set (Prod.fst (Prod.snd (Prod.snd x_1))) (Prod.fst (Prod.snd x_1)) (IObj.tip (Prod.fst x_1 + (1 : Nat))) = x_2 ∧ True ∧ List.length l < List.length l - Prod.fst x) ∨
 ∃ (x_2 : Nat × Nat × Heap),
 some (TV.v (IV.vslice none (0 : Nat) (List.length l) (3 : Nat) (List.flatMap cN l))) = some (TV.v (IV.vslice none (0 : Nat) (List.length l) (3 : Nat) (List.flatMap cN l))) ∧
 some (TV.v (IV.int IntKind.i64 (IntKind.wrap IntKind.i64 ((↑(Prod.fst x_1) : Int) + (1 : Int))))) = some (TV.v (IV.int IntKind.i64 (↑(Prod.fst x_2) : Int))) ∧
 some
 (TV.v
 (IV.vslice (some (Prod.fst (Prod.snd x_1))) (Prod.fst x_1 + (1 : Nat)) (Prod.fst x_1 + (1 : Nat)) (1 : Nat)
 (List.map (IV.int IntKind.i64) (sortsG (List.take (Prod.fst x_1) l)) ++ [IV.int IntKind.i64 (0 : Int)]))) =
 some (TV.v (IV.vslice (some (Prod.fst (Prod.snd x_2))) (Prod.fst x_2) (Prod.fst x_2) (1 : Nat) (List.map (IV.int IntKind.i64) (sortsG (List.take (Prod.fst x_2) l))))) ∧
 Heap.set (Prod.fst (Prod.snd (Prod.snd x_1))) (Prod.fst (Prod.snd x_1)) (IObj.tip (Prod.fst x_1 + (1 : Nat))) = Prod.snd (Prod.snd x_2) ∧
 (((0 : Nat) < Prod.fst x_2 ∧ Prod.fst x_2 ≤ List.length l) ∧
 Heap.get (Prod.snd (Prod.snd x_2)) (Prod.fst (Prod.snd x_2)) = IObj.tip (Prod.fst x_2) ∧ Prod.fst (Prod.snd x_2) < Heap.next (Prod.snd (Prod.snd x_2))) ∧
 List.length l - Prod.fst x_2 < List.length l - Prod.fst x))
 (needS (decide ((0 : Int) ≤ n102) && decide (n102 < (↑(Prod.fst x_1) : Int)))
 (ldIS IntKind.i64 (List.map (IV.int IntKind.i64) (sortsG (List.take (Prod.fst x_1) l))) (Int.toNat n102 * (1 : Nat)) fun (n105 : Int) =>
 brS (n105 == (0 : Int))
 (tipS (Prod.fst (Prod.snd (Prod.snd x_1))) (Prod.fst (Prod.snd x_1)) fun (m106 : Nat) =>
 needS (Nat.beq m106 (Prod.fst x_1) && Nat.ble ((Prod.fst x_1 + (1 : Nat)) * (8 : Nat)) (140737488355328 : Nat))
 ((∃ (x_2 : Heap),
 some (TV.v (IV.vslice none (0 : Nat) (List.length l) (3 : Nat) (List.flatMap cN l))) = some (TV.v (IV.vslice none (0 : Nat) (List.length l) (3 : Nat) (List.flatMap cN l))) ∧
 some (TV.v (IV.int IntKind.i64 (IntKind.wrap IntKind.i64 ((↑(Prod.fst x_1) : Int) + (1 : Int))))) = some (TV.v (IV.int IntKind.i64 (0 : Int))) ∧
 some
 (TV.v
 (IV.vslice (some (Prod.fst (Prod.snd x_1))) (Prod.fst x_1 + (1 : Nat)) (Prod.fst x_1 + (1 : Nat)) (1 : Nat)
 (List.map (IV.int IntKind.i64) (sortsG (List.take (Prod.fst x_1) l)) ++ [IV.int IntKind.i64 (0 : Int)]))) =
 some (TV.v IV.nilslice) ∧
 Heap.set (Prod.fst (Prod.snd (Prod.snd x_1))) (Prod.fst (Prod.snd x_1)) (IObj.tip (Prod.fst x_1 + (1 : Nat))) = x_2 ∧ True ∧ List.length l < List.length l - Prod.fst x) ∨
 ∃ (x_2 : Nat × Nat × Heap),
 some (TV.v (IV.vslice none (0 : Nat) (List.length l) (3 : Nat) (List.flatMap cN l))) = some (TV.v (IV.vslice none (0 : Nat) (List.length l) (3 : Nat) (List.flatMap cN l))) ∧
 some (TV.v (IV.int IntKind.i64 (IntKind.wrap IntKind.i64 ((↑(Prod.fst x_1) : Int) + (1 : Int))))) = some (TV.v (IV.int IntKind.i64 (↑(Prod.fst x_2) : Int))) ∧
 some
 (TV.v
 (IV.vslice (some (Prod.fst (Prod.snd x_1))) (Prod.fst x_1 + (1 : Nat)) (Prod.fst x_1 + (1 : Nat)) (1 : Nat)
 (List.map (IV.int IntKind.i64) (sortsG (List.take (Prod.fst x_1) l)) ++ [IV.int IntKind.i64 (0 : Int)]))) =
 some (TV.v (IV.vslice (some (Prod.fst (Prod.snd x_2))) (Prod.fst x_2) (Prod.fst x_2) (1 : Nat) (List.map (IV.int IntKind.i64) (sortsG (List.take (Prod.fst x_2) l))))) ∧
 Heap.set (Prod.fst (Prod.snd (Prod.snd x_1))) (Prod.fst (Prod.snd x_1)) (IObj.tip (Prod.fst x_1 + (1 : Nat))) = Prod.snd (Prod.snd x_2) ∧
 (((0 : Nat) < Prod.fst x_2 ∧ Prod.fst x_2 ≤ List.length l) ∧
 Heap.get (Prod.snd (Prod.snd x_2)) (Prod.fst (Prod.snd x_2)) = IObj.tip (Prod.fst x_2) ∧ Prod.fst (Prod.snd x_2) < Heap.next (Prod.snd (Prod.snd x_2))) ∧
 List.length l - Prod.fst x_2 < List.length l - Prod.fst x))
 (needS (decide ((0 : Int) ≤ n102) && decide (n102 < (↑(Prod.fst x_1) : Int)))
 (ldIS IntKind.i64 (List.map (IV.int IntKind.i64) (sortsG (List.take (Prod.fst x_1) l))) (Int.toNat n102 * (1 : Nat)) fun (n107 : Int) =>
 tipS (Prod.fst (Prod.snd (Prod.snd x_1))) (Prod.snd (Prod.snd (Prod.snd (Prod.snd (Prod.snd x_1))))) fun (m108 : Nat) =>
 needS
 (Nat.beq m108 (List.length (Prod.fst (Prod.snd (Prod.snd (Prod.snd (Prod.snd x_1)))))) &&
 Nat.ble ((List.length (Prod.fst (Prod.snd (Prod.snd (Prod.snd (Prod.snd x_1))))) + (1 : Nat)) * (8 : Nat)) (140737488355328 : Nat))
 ((∃ (x : Heap),
 some (TV.v (IV.vslice none (0 : Nat) (List.length l) (3 : Nat) (List.flatMap cN l))) = some (TV.v (IV.vslice none (0 : Nat) (List.length l) (3 : Nat) (List.flatMap cN l))) ∧
 some (TV.v (IV.int IntKind.i64 (↑(Prod.fst x_1) : Int))) = some (TV.v (IV.int IntKind.i64 (0 : Int))) ∧
 some (TV.v (IV.vslice (some (Prod.fst (Prod.snd x_1))) (Prod.fst x_1) (Prod.fst x_1) (1 : Nat) (List.map (IV.int IntKind.i64) (sortsG (List.take (Prod.fst x_1) l))))) =
 some (TV.v IV.nilslice) ∧
 some
 (TV.v
 (IV.vslice (some (Prod.snd (Prod.snd (Prod.snd (Prod.snd (Prod.snd x_1)))))) (List.length (Prod.fst (Prod.snd (Prod.snd (Prod.snd (Prod.snd x_1))))) + (1 : Nat))
 (List.length (Prod.fst (Prod.snd (Prod.snd (Prod.snd (Prod.snd x_1))))) + (1 : Nat)) (1 : Nat)
 (List.map (IV.int IntKind.i64) (Prod.fst (Prod.snd (Prod.snd (Prod.snd (Prod.snd x_1))))) ++ [IV.int IntKind.i64 n107]))) =
 some (TV.v IV.nilslice) ∧
 some (TV.v (IV.bool true)) = some (TV.v (IV.bool true)) ∧
 some (TV.v (IV.int IntKind.i64 (IntKind.wrap IntKind.i64 ((↑(Prod.fst (Prod.snd (Prod.snd (Prod.snd x_1)))) : Int) + (1 : Int))))) =
 some (TV.v (IV.int IntKind.i64 (0 : Int))) ∧
 Heap.set (Prod.fst (Prod.snd (Prod.snd x_1))) (Prod.snd (Prod.snd (Prod.snd (Prod.snd (Prod.snd x_1)))))
 (IObj.tip (List.length (Prod.fst (Prod.snd (Prod.snd (Prod.snd (Prod.snd x_1))))) + (1 : Nat))) =
 x ∧
 Nat.le (1 : Nat) (List.length l) ∧
 List.length l * (1000002 : Nat) + kRest l (0 : Nat) (0 : Nat) <
 (List.length l - Prod.fst x_1) * (1000002 : Nat) + kRest l (Prod.fst x_1) (Prod.fst (Prod.snd (Prod.snd (Prod.snd x_1))))) ∨
 (∃ (x : Nat × Nat × Heap),
 some (TV.v (IV.vslice none (0 : Nat) (List.length l) (3 : Nat) (List.flatMap cN l))) = some (TV.v (IV.vslice none (0 : Nat) (List.length l) (3 : Nat) (List.flatMap cN l))) ∧
 some (TV.v (IV.int IntKind.i64 (↑(Prod.fst x_1) : Int))) = some (TV.v (IV.int IntKind.i64 (↑(Prod.fst x) : Int))) ∧
 some (TV.v (IV.vslice (some (Prod.fst (Prod.snd x_1))) (Prod.fst x_1) (Prod.fst x_1) (1 : Nat) (List.map (IV.int IntKind.i64) (sortsG (List.take (Prod.fst x_1) l))))) =
 some (TV.v (IV.vslice (some (Prod.fst (Prod.snd x))) (Prod.fst x) (Prod.fst x) (1 : Nat) (List.map (IV.int IntKind.i64) (sortsG (List.take (Prod.fst x) l))))) ∧
 some
 (TV.v
 (IV.vslice (some (Prod.snd (Prod.snd (Prod.snd (Prod.snd (Prod.snd x_1)))))) (List.length (Prod.fst (Prod.snd (Prod.snd (Prod.snd (Prod.snd x_1))))) + (1 : Nat))
 (List.length (Prod.fst (Prod.snd (Prod.snd (Prod.snd (Prod.snd x_1))))) + (1 : Nat)) (1 : Nat)
 (List.map (IV.int IntKind.i64) (Prod.fst (Prod.snd (Prod.snd (Prod.snd (Prod.snd x_1))))) ++ [IV.int IntKind.i64 n107]))) =
 some (TV.v IV.nilslice) ∧
 some (TV.v (IV.bool true)) = some (TV.v (IV.bool true)) ∧
 some (TV.v (IV.int IntKind.i64 (IntKind.wrap IntKind.i64 ((↑(Prod.fst (Prod.snd (Prod.snd (Prod.snd x_1)))) : Int) + (1 : Int))))) =
 some (TV.v (IV.int IntKind.i64 (0 : Int))) ∧
 Heap.set (Prod.fst (Prod.snd (Prod.snd x_1))) (Prod.snd (Prod.snd (Prod.snd (Prod.snd (Prod.snd x_1)))))
 (IObj.tip (List.length (Prod.fst (Prod.snd (Prod.snd (Prod.snd (Prod.snd x_1))))) + (1 : Nat))) =
 Prod.snd (Prod.snd x) ∧
 (Prod.fst x < List.length l ∧ SO l (Prod.fst x) (Prod.fst (Prod.snd x)) (Prod.snd (Prod.snd x))) ∧
 (List.length l - Prod.fst x) * (1000002 : Nat) + kRest l (Prod.fst x) (0 : Nat) <
 (List.length l - Prod.fst x_1) * (1000002 : Nat) + kRest l (Prod.fst x_1) (Prod.fst (Prod.snd (Prod.snd (Prod.snd x_1))))) ∨
 ∃ (x : Nat × Nat × Heap × Nat × List Int × Nat),
 some (TV.v (IV.vslice none (0 : Nat) (List.length l) (3 : Nat) (List.flatMap cN l))) = some (TV.v (IV.vslice none (0 : Nat) (List.length l) (3 : Nat) (List.flatMap cN l))) ∧
 some (TV.v (IV.int IntKind.i64 (↑(Prod.fst x_1) : Int))) = some (TV.v (IV.int IntKind.i64 (↑(Prod.fst x) : Int))) ∧
 some (TV.v (IV.vslice (some (Prod.fst (Prod.snd x_1))) (Prod.fst x_1) (Prod.fst x_1) (1 : Nat) (List.map (IV.int IntKind.i64) (sortsG (List.take (Prod.fst x_1) l))))) =
 some (TV.v (IV.vslice (some (Prod.fst (Prod.snd x))) (Prod.fst x) (Prod.fst x) (1 : Nat) (List.map (IV.int IntKind.i64) (sortsG (List.take (Prod.fst x) l))))) ∧
 some
 (TV.v
 (IV.vslice (some (Prod.snd (Prod.snd (Prod.snd (Prod.snd (Prod.snd x_1)))))) (List.length (Prod.fst (Prod.snd (Prod.snd (Prod.snd (Prod.snd x_1))))) + (1 : Nat))
 (List.length (Prod.fst (Prod.snd (Prod.snd (Prod.snd (Prod.snd x_1))))) + (1 : Nat)) (1 : Nat)
 (List.map (IV.int IntKind.i64) (Prod.fst (Prod.snd (Prod.snd (Prod.snd (Prod.snd x_1))))) ++ [IV.int IntKind.i64 n107]))) =
 some
 (TV.v
 (IV.vslice (some (Prod.snd (Prod.snd (Prod.snd (Prod.snd (Prod.snd x)))))) (List.length (Prod.fst (Prod.snd (Prod.snd (Prod.snd (Prod.snd x))))))
 (List.length (Prod.fst (Prod.snd (Prod.snd (Prod.snd (Prod.snd x)))))) (1 : Nat)
 (List.map (IV.int IntKind.i64) (Prod.fst (Prod.snd (Prod.snd (Prod.snd (Prod.snd x)))))))) ∧
 some (TV.v (IV.bool true)) = some (TV.v (IV.bool true)) ∧
 some (TV.v (IV.int IntKind.i64 (IntKind.wrap IntKind.i64 ((↑(Prod.fst (Prod.snd (Prod.snd (Prod.snd x_1)))) : Int) + (1 : Int))))) =
 some (TV.v (IV.int IntKind.i64 (↑(Prod.fst (Prod.snd (Prod.snd (Prod.snd x)))) : Int))) ∧
 Heap.set (Prod.fst (Prod.snd (Prod.snd x_1))) (Prod.snd (Prod.snd (Prod.snd (Prod.snd (Prod.snd x_1)))))
 (IObj.tip (List.length (Prod.fst (Prod.snd (Prod.snd (Prod.snd (Prod.snd x_1))))) + (1 : Nat))) =
 Prod.fst (Prod.snd (Prod.snd x)) ∧
 (Prod.fst x < List.length l ∧
 SO l (Prod.fst x) (Prod.fst (Prod.snd x)) (Prod.fst (Prod.snd (Prod.snd x))) ∧
 SIG l (Prod.fst x) (Prod.fst (Prod.snd (Prod.snd (Prod.snd x)))) (Prod.fst (Prod.snd (Prod.snd (Prod.snd (Prod.snd x))))) ∧
 SK (Prod.fst (Prod.snd (Prod.snd (Prod.snd (Prod.snd x))))) (Prod.fst (Prod.snd x)) (Prod.snd (Prod.snd (Prod.snd (Prod.snd (Prod.snd x)))))
 (Prod.fst (Prod.snd (Prod.snd x)))) ∧
 (List.length l - Prod.fst x) * (1000002 : Nat) + kRest l (Prod.fst x) (Prod.fst (Prod.snd (Prod.snd (Prod.snd x)))) <
 (List.length l - Prod.fst x_1) * (1000002 : Nat) + kRest l (Prod.fst x_1) (Prod.fst (Prod.snd (Prod.snd (Prod.snd x_1)))))))))))))
 (needS (decide ((0 : Int) ≤ (↑(Prod.fst x_1) : Int)) && decide ((↑(Prod.fst x_1) : Int) < (↑(List.length l) : Int)))
 (ldIS IntKind.i64 (List.flatMap cN l) (Int.toNat (↑(Prod.fst x_1) : Int) * (3 : Nat)) fun (n109 : Int) =>
 ldIS IntKind.i64 (List.flatMap cN l) (Int.toNat (↑(Prod.fst x_1) : Int) * (3 : Nat) + (1 : Nat)) fun (n110 : Int) =>
 ldVS (1 : Nat) (List.flatMap cN l) (Int.toNat (↑(Prod.fst x_1) : Int) * (3 : Nat) + (1 : Nat) + (1 : Nat)) fun (i111 : Option Nat) (e112 l113 : Nat) (c114 : List IV) =>
 ∃ (l_1 : List Nd),
 ∃ (ks : List Int),
 ∃ (k : List Int),
 (List.length l = List.length l_1 ∧ List.flatMap cN l = List.flatMap cN l_1) ∧
 (l113 = List.length ks ∧ c114 = List.map (IV.int IntKind.i64) ks) ∧
 (List.length (Prod.fst (Prod.snd (Prod.snd (Prod.snd (Prod.snd x_1))))) = List.length k ∧
 List.map (IV.int IntKind.i64) (Prod.fst (Prod.snd (Prod.snd (Prod.snd (Prod.snd x_1))))) = List.map (IV.int IntKind.i64) k) ∧
 (n109 ≠ (30 : Int) ∧
 List.length ks = List.length k ∧
 List.length k ≤ (1000000 : Nat) ∧
 List.length l_1 ≤ (1000000 : Nat) ∧
 (∀ (q : Int), q ∈ ks → (0 : Int) ≤ q ∧ q < (↑(List.length l_1) : Int)) ∧
 (k = [(3 : Int)] → eK l_1 (Nd.mk n109 n110 ks) % (2 : Nat) = (1 : Nat)) ∧ ∀ (n : Nd), n ∈ l_1 → List.length (Nd.ks n) ≤ (1000000 : Nat)) ∧
 tipS (Prod.fst (Prod.snd (Prod.snd x_1))) (Prod.fst (Prod.snd x_1)) fun (m115 : Nat) =>
 needS (Nat.beq m115 (Prod.fst x_1) && Nat.ble ((Prod.fst x_1 + (1 : Nat)) * (8 : Nat)) (140737488355328 : Nat))
 ((∃ (x_2 : Heap),
 some (TV.v (IV.vslice none (0 : Nat) (List.length l) (3 : Nat) (List.flatMap cN l))) = some (TV.v (IV.vslice none (0 : Nat) (List.length l) (3 : Nat) (List.flatMap cN l))) ∧
 some (TV.v (IV.int IntKind.i64 (IntKind.wrap IntKind.i64 ((↑(Prod.fst x_1) : Int) + (1 : Int))))) = some (TV.v (IV.int IntKind.i64 (0 : Int))) ∧
 some
 (TV.v
 (IV.vslice (some (Prod.fst (Prod.snd x_1))) (Prod.fst x_1 + (1 : Nat)) (Prod.fst x_1 + (1 : Nat)) (1 : Nat)
 (List.map (IV.int IntKind.i64) (sortsG (List.take (Prod.fst x_1) l)) ++ [IV.int IntKind.i64 (nsortG (eK l_1 (Nd.mk n109 n110 ks)) n109 n110 k)]))) =
 some (TV.v IV.nilslice) ∧
 Heap.set (Prod.fst (Prod.snd (Prod.snd x_1))) (Prod.fst (Prod.snd x_1)) (IObj.tip (Prod.fst x_1 + (1 : Nat))) = x_2 ∧ True ∧ List.length l < List.length l - Prod.fst x) ∨
 ∃ (x_2 : Nat × Nat × Heap),
 some (TV.v (IV.vslice none (0 : Nat) (List.length l) (3 : Nat) (List.flatMap cN l))) = some (TV.v (IV.vslice none (0 : Nat) (List.length l) (3 : Nat) (List.flatMap cN l))) ∧
 some (TV.v (IV.int IntKind.i64 (IntKind.wrap IntKind.i64 ((↑(Prod.fst x_1) : Int) + (1 : Int))))) = some (TV.v (IV.int IntKind.i64 (↑(Prod.fst x_2) : Int))) ∧
 some
 (TV.v
 (IV.vslice (some (Prod.fst (Prod.snd x_1))) (Prod.fst x_1 + (1 : Nat)) (Prod.fst x_1 + (1 : Nat)) (1 : Nat)
 (List.map (IV.int IntKind.i64) (sortsG (List.take (Prod.fst x_1) l)) ++ [IV.int IntKind.i64 (nsortG (eK l_1 (Nd.mk n109 n110 ks)) n109 n110 k)]))) =
 some (TV.v (IV.vslice (some (Prod.fst (Prod.snd x_2))) (Prod.fst x_2) (Prod.fst x_2) (1 : Nat) (List.map (IV.int IntKind.i64) (sortsG (List.take (Prod.fst x_2) l))))) ∧
 Heap.set (Prod.fst (Prod.snd (Prod.snd x_1))) (Prod.fst (Prod.snd x_1)) (IObj.tip (Prod.fst x_1 + (1 : Nat))) = Prod.snd (Prod.snd x_2) ∧
 (((0 : Nat) < Prod.fst x_2 ∧ Prod.fst x_2 ≤ List.length l) ∧
 Heap.get (Prod.snd (Prod.snd x_2)) (Prod.fst (Prod.snd x_2)) = IObj.tip (Prod.fst x_2) ∧ Prod.fst (Prod.snd x_2) < Heap.next (Prod.snd (Prod.snd x_2))) ∧
 List.length l - Prod.fst x_2 < List.length l - Prod.fst x)))))
 (needS (pureL [IV.vslice none (0 : Nat) (Prod.fst x) (1 : Nat) (List.map (IV.int IntKind.i64) (sortsG (List.take (Prod.fst x) l)))])
 (Q (IV.vslice none (0 : Nat) (Prod.fst x) (1 : Nat) (List.map (IV.int IntKind.i64) (sortsG (List.take (Prod.fst x) l)))) h)))) := by kernel_rfl
set_option maxHeartbeats 2000000 in
theorem sSorts : ∀ xs h Q, kSorts xs h Q → CallW env 26 xs h Q := by
  intro xs h Q hk
  unfold kSorts at hk
  split at hk
  · rename_i e1 n1 c1
    obtain ⟨l, ⟨rfl, rfl⟩, hb, hk⟩ := hk
    refine dF_run (okNSortG) (vSorts l e1 h Q) ?_
    have tn : ∀ x : Nat, (x : Int).toNat = x := Int.toNat_natCast
    obtain ⟨hb1, hbl⟩ := hb
    have hel : ∀ {i : Nat} (h : i < l.length), l[i].ks.length ≤ 1000000 := fun h => (hb1 _ (List.getElem_mem h)).1
    have hkr : ∀ i, kRest l i 0 ≤ 1000000 := fun i => by
      rcases Nat.lt_or_ge i l.length with q | q
      · rw [kRest_at q]
        have := hel q
        omega
      · unfold kRest
        rw [List.getElem?_eq_none q]
        exact Nat.zero_le _
    refine needS_intro (by simp only [pureL, pureB, pureL_cN, Bool.and_true]) ⟨.inl ⟨Heap.empty, (by first | rfl | exact True.intro), (by first | rfl | exact True.intro), (by first | rfl | exact True.intro), (by first | rfl | exact True.intro), trivial, trivial⟩, ?_, ?_⟩
    · rintro g _ _
      refine brS_intro (fun c => ?_) (fun c => ?_)
      · rw [decide_eq_true_eq] at c
        have hlt0 : 0 < l.length := by omega
        refine ⟨l.length * 1000002 + kRest l 0 0, .inl ⟨g, (by first | rfl | exact True.intro), (by first | rfl | exact True.intro), (by first | rfl | exact True.intro), (by first | rfl | exact True.intro), (by first | rfl | exact True.intro), (by first | rfl | exact True.intro), (by first | rfl | exact True.intro), hlt0, Nat.le_refl _⟩, ?_, ?_, ?_⟩
        · rintro g _ hlt hM
          refine needS_intro (by simp; omega) (ldNk hlt rfl (brS_intro (fun c1 => ?_) (fun c1 => ?_)))
          · rw [decide_eq_true_eq] at c1
            have hj : 0 < l[0].ks.length := by omega
            have hm : l[0].ks[0] ∈ l[0].ks := List.getElem_mem hj
            refine needS_intro (by simp; omega) (ldNk hlt rfl (needS_intro (by simp; omega) (ldI1 hj rfl (brS_intro (fun c2 => ?_) (fun c2 => brS_intro (fun c3 => ?_) (fun c3 => ?_))))))
            · rw [decide_eq_true_eq] at c2
              exact (.inr ⟨(1, g.next, g.push (.tip 1)), (by first | rfl | exact True.intro), (by first | rfl | exact True.intro), (by rw [sortsG_step hlt, sstepG_bad hm (kidOk_neg c2)]; rfl), (by first | rfl | exact True.intro), ⟨⟨Nat.one_pos, hlt⟩, get_push_eq, Nat.lt_succ_self _⟩, by dsimp only; omega⟩)
            · rw [decide_eq_true_eq] at c3
              exact (.inr ⟨(1, g.next, g.push (.tip 1)), (by first | rfl | exact True.intro), (by first | rfl | exact True.intro), (by rw [sortsG_step hlt, sstepG_bad hm (kidOk_big (by show (0 : Int) ≤ _; omega))]; rfl), (by first | rfl | exact True.intro), ⟨⟨Nat.one_pos, hlt⟩, get_push_eq, Nat.lt_succ_self _⟩, by dsimp only; omega⟩)
            · rw [decide_eq_false_iff_not] at c2 c3
              omega
          · rw [decide_eq_false_iff_not] at c1
            have hl := (SIG.zero hlt).lst hlt (by omega)
            refine needS_intro (by simp; omega) (ldNd (i := 0) (o := 0) hlt rfl ⟨l, l[0].ks, [], ⟨rfl, rfl⟩, ⟨rfl, rfl⟩, ⟨rfl, rfl⟩, ⟨(hb1 _ (List.getElem_mem hlt)).2, hl.2.1.symm, by simp, hbl, hl.2.2.1, hl.2.2.2, fun n hn => (hb1 n hn).1⟩, ?_⟩)
            exact (.inr ⟨(1, g.next, g.push (.tip 1)), (by first | rfl | exact True.intro), (by first | rfl | exact True.intro), (by rw [sortsG_step hlt, show sstepG (l.take 0) (sortsG (l.take 0)) l[0] = nsortG (eK l l[0]) l[0].op l[0].im [] from hl.1]; rfl), (by first | rfl | exact True.intro), ⟨⟨Nat.one_pos, hlt⟩, get_push_eq, Nat.lt_succ_self _⟩, by dsimp only; omega⟩)
        · rintro ⟨i, id, g⟩ _ ⟨hi, ⟨⟨hi0, hi1⟩, hg, hid⟩⟩ hM
          dsimp only at hi hi0 hi1 hg hid hM ⊢
          have hol : (sortsG (l.take i)).length = i := by rw [sortsG_len, List.length_take]; omega
          have hkl := hel hi
          simp only [kRest_at hi] at hM
          refine needS_intro (by simp; omega) (ldNk hi (by rw [tn]) (brS_intro (fun c1 => ?_) (fun c1 => ?_)))
          · rw [decide_eq_true_eq] at c1
            have hj : 0 < l[i].ks.length := by omega
            have hm : l[i].ks[0] ∈ l[i].ks := List.getElem_mem hj
            refine needS_intro (by simp; omega) (ldNk hi (by rw [tn]) (needS_intro (by simp; omega) (ldI1 hj rfl (brS_intro (fun c2 => ?_) (fun c2 => brS_intro (fun c3 => ?_) (fun c3 => ?_))))))
            · rw [decide_eq_true_eq] at c2
              exact tip_intro hg (needS_intro (by simp only [Nat.mul_one, Bool.and_eq_true, nbeq_t, Nat.ble_eq, true_and]; omega) (.inr ⟨(i + 1, id, g.set id (.tip (i + 1))), (by first | rfl | exact True.intro), (by rw [IntWalk.i64_in _ (by omega)]; rfl), (by rw [sortsG_step hi, sstepG_bad hm (kidOk_neg c2)]; simp), (by first | rfl | exact True.intro), ⟨⟨Nat.succ_pos _, hi⟩, get_set_eq, hid⟩, by dsimp only; omega⟩))
            · rw [decide_eq_true_eq] at c3
              exact tip_intro hg (needS_intro (by simp only [Nat.mul_one, Bool.and_eq_true, nbeq_t, Nat.ble_eq, true_and]; omega) (.inr ⟨(i + 1, id, g.set id (.tip (i + 1))), (by first | rfl | exact True.intro), (by rw [IntWalk.i64_in _ (by omega)]; rfl), (by rw [sortsG_step hi, sstepG_bad hm (kidOk_big (by omega))]; simp), (by first | rfl | exact True.intro), ⟨⟨Nat.succ_pos _, hi⟩, get_set_eq, hid⟩, by dsimp only; omega⟩))
            rw [decide_eq_false_iff_not] at c2 c3
            have hq : (l[i].ks[0]).toNat < (sortsG (l.take i)).length := by omega
            refine needS_intro (by simp; omega) (ldI1 hq (Nat.mul_one _) (brS_intro (fun c4 => ?_) (fun c4 => ?_)))
            · rw [beq_iff_eq] at c4
              exact tip_intro hg (needS_intro (by simp only [Nat.mul_one, Bool.and_eq_true, nbeq_t, Nat.ble_eq, true_and]; omega) (.inr ⟨(i + 1, id, g.set id (.tip (i + 1))), (by first | rfl | exact True.intro), (by rw [IntWalk.i64_in _ (by omega)]; rfl), (by rw [sortsG_step hi, sstepG_bad hm (kidOk_zero hq c4)]; simp), (by first | rfl | exact True.intro), ⟨⟨Nat.succ_pos _, hi⟩, get_set_eq, hid⟩, by dsimp only; omega⟩))
            rw [beq_eq_false_iff_ne] at c4
            obtain ⟨k1, k2⟩ := kidOk_intro (by omega) hq c4
            have hs := (SIG.zero hi).step hi hj k1
            rw [k2] at hs
            refine needS_intro (by simp; omega) (ldI1 hq (Nat.mul_one _) (.inr (.inr ⟨(i, id, g.push (.tip 1), 1, [(sortsG (l.take i))[(l[i].ks[0]).toNat]], g.next), (by first | rfl | exact True.intro), (by first | rfl | exact True.intro), (by first | rfl | exact True.intro), (by first | rfl | exact True.intro), (by first | rfl | exact True.intro), (by first | rfl | exact True.intro), (by first | rfl | exact True.intro), ⟨hi, ⟨⟨hi0, hi1⟩, by rw [get_push_lt hid]; exact hg, Nat.lt_succ_of_lt hid⟩, hs, ⟨Nat.one_pos, get_push_eq, Nat.lt_succ_self _, by dsimp only; omega⟩⟩, ?_⟩)))
            dsimp only
            rw [kRest_at hi, kRest_at hi]
            omega
          · rw [decide_eq_false_iff_not] at c1
            have hl := (SIG.zero hi).lst hi (by omega)
            refine needS_intro (by simp; omega) (ldNd hi (by rw [tn]) ⟨l, l[i].ks, [], ⟨rfl, rfl⟩, ⟨rfl, rfl⟩, ⟨rfl, rfl⟩, ⟨(hb1 _ (List.getElem_mem hi)).2, hl.2.1.symm, by simp, hbl, hl.2.2.1, hl.2.2.2, fun n hn => (hb1 n hn).1⟩, ?_⟩)
            exact tip_intro hg (needS_intro (by simp only [Nat.mul_one, Bool.and_eq_true, nbeq_t, Nat.ble_eq, true_and]; omega) (.inr ⟨(i + 1, id, g.set id (.tip (i + 1))), (by first | rfl | exact True.intro), (by rw [IntWalk.i64_in _ (by omega)]; rfl), (by rw [sortsG_step hi, hl.1]; simp), (by first | rfl | exact True.intro), ⟨⟨Nat.succ_pos _, hi⟩, get_set_eq, hid⟩, by dsimp only; omega⟩))
        · rintro ⟨i, id, g, j, k, idK⟩ _ ⟨hi, ⟨⟨hi0, hi1⟩, hg, hid⟩, hsi, ⟨hk0, hkg, hkid, hkne⟩⟩ hM
          dsimp only at hi hi0 hi1 hg hid hsi hk0 hkg hkid hkne hM ⊢
          have hol : (sortsG (l.take i)).length = i := by rw [sortsG_len, List.length_take]; omega
          have hkl := hel hi
          have hkj : k.length = j := by obtain ⟨n, _, h2, _⟩ := hsi; exact h2.2
          simp only [kRest_at hi] at hM
          refine needS_intro (by simp; omega) (ldNk hi (by rw [tn]) (brS_intro (fun c1 => ?_) (fun c1 => ?_)))
          · rw [decide_eq_true_eq] at c1
            have hj : j < l[i].ks.length := by omega
            have hm : l[i].ks[j] ∈ l[i].ks := List.getElem_mem hj
            refine needS_intro (by simp; omega) (ldNk hi (by rw [tn]) (needS_intro (by simp; omega) (ldI1 hj (by rw [Nat.mul_one, tn]) (brS_intro (fun c2 => ?_) (fun c2 => brS_intro (fun c3 => ?_) (fun c3 => ?_))))))
            · rw [decide_eq_true_eq] at c2
              exact tip_intro hg (needS_intro (by simp only [Nat.mul_one, Bool.and_eq_true, nbeq_t, Nat.ble_eq, true_and]; omega) (.inr ⟨(i + 1, id, g.set id (.tip (i + 1))), (by first | rfl | exact True.intro), (by rw [IntWalk.i64_in _ (by omega)]; rfl), (by rw [sortsG_step hi, sstepG_bad hm (kidOk_neg c2)]; simp), (by first | rfl | exact True.intro), ⟨⟨Nat.succ_pos _, hi⟩, get_set_eq, hid⟩, by dsimp only; omega⟩))
            · rw [decide_eq_true_eq] at c3
              exact tip_intro hg (needS_intro (by simp only [Nat.mul_one, Bool.and_eq_true, nbeq_t, Nat.ble_eq, true_and]; omega) (.inr ⟨(i + 1, id, g.set id (.tip (i + 1))), (by first | rfl | exact True.intro), (by rw [IntWalk.i64_in _ (by omega)]; rfl), (by rw [sortsG_step hi, sstepG_bad hm (kidOk_big (by omega))]; simp), (by first | rfl | exact True.intro), ⟨⟨Nat.succ_pos _, hi⟩, get_set_eq, hid⟩, by dsimp only; omega⟩))
            rw [decide_eq_false_iff_not] at c2 c3
            have hq : (l[i].ks[j]).toNat < (sortsG (l.take i)).length := by omega
            refine needS_intro (by simp; omega) (ldI1 hq (Nat.mul_one _) (brS_intro (fun c4 => ?_) (fun c4 => ?_)))
            · rw [beq_iff_eq] at c4
              exact tip_intro hg (needS_intro (by simp only [Nat.mul_one, Bool.and_eq_true, nbeq_t, Nat.ble_eq, true_and]; omega) (.inr ⟨(i + 1, id, g.set id (.tip (i + 1))), (by first | rfl | exact True.intro), (by rw [IntWalk.i64_in _ (by omega)]; rfl), (by rw [sortsG_step hi, sstepG_bad hm (kidOk_zero hq c4)]; simp), (by first | rfl | exact True.intro), ⟨⟨Nat.succ_pos _, hi⟩, get_set_eq, hid⟩, by dsimp only; omega⟩))
            rw [beq_eq_false_iff_ne] at c4
            obtain ⟨k1, k2⟩ := kidOk_intro (by omega) hq c4
            have hs := hsi.step hi hj k1
            rw [k2] at hs
            refine needS_intro (by simp; omega) (ldI1 hq (Nat.mul_one _) (tip_intro hkg (needS_intro (by simp only [Nat.mul_one, Bool.and_eq_true, nbeq_t, Nat.ble_eq, true_and]; omega) (.inr (.inr ⟨(i, id, g.set idK (.tip (k.length + 1)), j + 1, k ++ [(sortsG (l.take i))[(l[i].ks[j]).toNat]], idK), (by first | rfl | exact True.intro), (by first | rfl | exact True.intro), (by first | rfl | exact True.intro), ?_, (by first | rfl | exact True.intro), ?_, (by first | rfl | exact True.intro), ⟨hi, ⟨⟨hi0, hi1⟩, by rw [get_set_ne hkne.symm]; exact hg, hid⟩, hs, ⟨by simp, by rw [get_set_eq]; simp, hkid, hkne⟩⟩, ?_⟩)))))
            · simp
            · rw [IntWalk.i64_in _ (by omega)]; rfl
            · dsimp only
              rw [kRest_at hi, kRest_at hi]
              omega
          · rw [decide_eq_false_iff_not] at c1
            have hl := hsi.lst hi (by omega)
            refine needS_intro (by simp; omega) (ldNd hi (by rw [tn]) ⟨l, l[i].ks, k, ⟨rfl, rfl⟩, ⟨rfl, rfl⟩, ⟨rfl, rfl⟩, ⟨(hb1 _ (List.getElem_mem hi)).2, hl.2.1.symm, by omega, hbl, hl.2.2.1, hl.2.2.2, fun n hn => (hb1 n hn).1⟩, ?_⟩)
            exact tip_intro hg (needS_intro (by simp only [Nat.mul_one, Bool.and_eq_true, nbeq_t, Nat.ble_eq, true_and]; omega) (.inr ⟨(i + 1, id, g.set id (.tip (i + 1))), (by first | rfl | exact True.intro), (by rw [IntWalk.i64_in _ (by omega)]; rfl), (by rw [sortsG_step hi, hl.1]; simp), (by first | rfl | exact True.intro), ⟨⟨Nat.succ_pos _, hi⟩, get_set_eq, hid⟩, by dsimp only; omega⟩))
      · rw [decide_eq_false_iff_not] at c
        have : l = [] := List.eq_nil_of_length_eq_zero (by omega)
        subst this
        exact hk
    · rintro ⟨i0, id0, g0⟩ _ ⟨⟨hp0, hp1⟩, hpg, hpid⟩
      dsimp only at hp0 hp1 hpg hpid ⊢
      have hkr0 := hkr i0
      refine brS_intro (fun c => ?_) (fun c => ?_)
      · rw [decide_eq_true_eq] at c
        have hlt0 : i0 < l.length := by omega
        refine ⟨(l.length - i0) * 1000002 + kRest l i0 0, .inr (.inl ⟨(i0, id0, g0), (by first | rfl | exact True.intro), (by first | rfl | exact True.intro), (by first | rfl | exact True.intro), (by first | rfl | exact True.intro), (by first | rfl | exact True.intro), (by first | rfl | exact True.intro), (by first | rfl | exact True.intro), ⟨hlt0, ⟨⟨hp0, hp1⟩, hpg, hpid⟩⟩, Nat.le_refl _⟩), ?_, ?_, ?_⟩
        · rintro g _ hlt hM
          exfalso
          omega
        · rintro ⟨i, id, g⟩ _ ⟨hi, ⟨⟨hi0, hi1⟩, hg, hid⟩⟩ hM
          dsimp only at hi hi0 hi1 hg hid hM ⊢
          have hol : (sortsG (l.take i)).length = i := by rw [sortsG_len, List.length_take]; omega
          have hkl := hel hi
          simp only [kRest_at hi] at hM
          refine needS_intro (by simp; omega) (ldNk hi (by rw [tn]) (brS_intro (fun c1 => ?_) (fun c1 => ?_)))
          · rw [decide_eq_true_eq] at c1
            have hj : 0 < l[i].ks.length := by omega
            have hm : l[i].ks[0] ∈ l[i].ks := List.getElem_mem hj
            refine needS_intro (by simp; omega) (ldNk hi (by rw [tn]) (needS_intro (by simp; omega) (ldI1 hj rfl (brS_intro (fun c2 => ?_) (fun c2 => brS_intro (fun c3 => ?_) (fun c3 => ?_))))))
            · rw [decide_eq_true_eq] at c2
              exact tip_intro hg (needS_intro (by simp only [Nat.mul_one, Bool.and_eq_true, nbeq_t, Nat.ble_eq, true_and]; omega) (.inr ⟨(i + 1, id, g.set id (.tip (i + 1))), (by first | rfl | exact True.intro), (by rw [IntWalk.i64_in _ (by omega)]; rfl), (by rw [sortsG_step hi, sstepG_bad hm (kidOk_neg c2)]; simp), (by first | rfl | exact True.intro), ⟨⟨Nat.succ_pos _, hi⟩, get_set_eq, hid⟩, by dsimp only; omega⟩))
            · rw [decide_eq_true_eq] at c3
              exact tip_intro hg (needS_intro (by simp only [Nat.mul_one, Bool.and_eq_true, nbeq_t, Nat.ble_eq, true_and]; omega) (.inr ⟨(i + 1, id, g.set id (.tip (i + 1))), (by first | rfl | exact True.intro), (by rw [IntWalk.i64_in _ (by omega)]; rfl), (by rw [sortsG_step hi, sstepG_bad hm (kidOk_big (by omega))]; simp), (by first | rfl | exact True.intro), ⟨⟨Nat.succ_pos _, hi⟩, get_set_eq, hid⟩, by dsimp only; omega⟩))
            rw [decide_eq_false_iff_not] at c2 c3
            have hq : (l[i].ks[0]).toNat < (sortsG (l.take i)).length := by omega
            refine needS_intro (by simp; omega) (ldI1 hq (Nat.mul_one _) (brS_intro (fun c4 => ?_) (fun c4 => ?_)))
            · rw [beq_iff_eq] at c4
              exact tip_intro hg (needS_intro (by simp only [Nat.mul_one, Bool.and_eq_true, nbeq_t, Nat.ble_eq, true_and]; omega) (.inr ⟨(i + 1, id, g.set id (.tip (i + 1))), (by first | rfl | exact True.intro), (by rw [IntWalk.i64_in _ (by omega)]; rfl), (by rw [sortsG_step hi, sstepG_bad hm (kidOk_zero hq c4)]; simp), (by first | rfl | exact True.intro), ⟨⟨Nat.succ_pos _, hi⟩, get_set_eq, hid⟩, by dsimp only; omega⟩))
            rw [beq_eq_false_iff_ne] at c4
            obtain ⟨k1, k2⟩ := kidOk_intro (by omega) hq c4
            have hs := (SIG.zero hi).step hi hj k1
            rw [k2] at hs
            refine needS_intro (by simp; omega) (ldI1 hq (Nat.mul_one _) (.inr (.inr ⟨(i, id, g.push (.tip 1), 1, [(sortsG (l.take i))[(l[i].ks[0]).toNat]], g.next), (by first | rfl | exact True.intro), (by first | rfl | exact True.intro), (by first | rfl | exact True.intro), (by first | rfl | exact True.intro), (by first | rfl | exact True.intro), (by first | rfl | exact True.intro), (by first | rfl | exact True.intro), ⟨hi, ⟨⟨hi0, hi1⟩, by rw [get_push_lt hid]; exact hg, Nat.lt_succ_of_lt hid⟩, hs, ⟨Nat.one_pos, get_push_eq, Nat.lt_succ_self _, by dsimp only; omega⟩⟩, ?_⟩)))
            dsimp only
            rw [kRest_at hi, kRest_at hi]
            omega
          · rw [decide_eq_false_iff_not] at c1
            have hl := (SIG.zero hi).lst hi (by omega)
            refine needS_intro (by simp; omega) (ldNd hi (by rw [tn]) ⟨l, l[i].ks, [], ⟨rfl, rfl⟩, ⟨rfl, rfl⟩, ⟨rfl, rfl⟩, ⟨(hb1 _ (List.getElem_mem hi)).2, hl.2.1.symm, by simp, hbl, hl.2.2.1, hl.2.2.2, fun n hn => (hb1 n hn).1⟩, ?_⟩)
            exact tip_intro hg (needS_intro (by simp only [Nat.mul_one, Bool.and_eq_true, nbeq_t, Nat.ble_eq, true_and]; omega) (.inr ⟨(i + 1, id, g.set id (.tip (i + 1))), (by first | rfl | exact True.intro), (by rw [IntWalk.i64_in _ (by omega)]; rfl), (by rw [sortsG_step hi, hl.1]; simp), (by first | rfl | exact True.intro), ⟨⟨Nat.succ_pos _, hi⟩, get_set_eq, hid⟩, by dsimp only; omega⟩))
        · rintro ⟨i, id, g, j, k, idK⟩ _ ⟨hi, ⟨⟨hi0, hi1⟩, hg, hid⟩, hsi, ⟨hk0, hkg, hkid, hkne⟩⟩ hM
          dsimp only at hi hi0 hi1 hg hid hsi hk0 hkg hkid hkne hM ⊢
          have hol : (sortsG (l.take i)).length = i := by rw [sortsG_len, List.length_take]; omega
          have hkl := hel hi
          have hkj : k.length = j := by obtain ⟨n, _, h2, _⟩ := hsi; exact h2.2
          simp only [kRest_at hi] at hM
          refine needS_intro (by simp; omega) (ldNk hi (by rw [tn]) (brS_intro (fun c1 => ?_) (fun c1 => ?_)))
          · rw [decide_eq_true_eq] at c1
            have hj : j < l[i].ks.length := by omega
            have hm : l[i].ks[j] ∈ l[i].ks := List.getElem_mem hj
            refine needS_intro (by simp; omega) (ldNk hi (by rw [tn]) (needS_intro (by simp; omega) (ldI1 hj (by rw [Nat.mul_one, tn]) (brS_intro (fun c2 => ?_) (fun c2 => brS_intro (fun c3 => ?_) (fun c3 => ?_))))))
            · rw [decide_eq_true_eq] at c2
              exact tip_intro hg (needS_intro (by simp only [Nat.mul_one, Bool.and_eq_true, nbeq_t, Nat.ble_eq, true_and]; omega) (.inr ⟨(i + 1, id, g.set id (.tip (i + 1))), (by first | rfl | exact True.intro), (by rw [IntWalk.i64_in _ (by omega)]; rfl), (by rw [sortsG_step hi, sstepG_bad hm (kidOk_neg c2)]; simp), (by first | rfl | exact True.intro), ⟨⟨Nat.succ_pos _, hi⟩, get_set_eq, hid⟩, by dsimp only; omega⟩))
            · rw [decide_eq_true_eq] at c3
              exact tip_intro hg (needS_intro (by simp only [Nat.mul_one, Bool.and_eq_true, nbeq_t, Nat.ble_eq, true_and]; omega) (.inr ⟨(i + 1, id, g.set id (.tip (i + 1))), (by first | rfl | exact True.intro), (by rw [IntWalk.i64_in _ (by omega)]; rfl), (by rw [sortsG_step hi, sstepG_bad hm (kidOk_big (by omega))]; simp), (by first | rfl | exact True.intro), ⟨⟨Nat.succ_pos _, hi⟩, get_set_eq, hid⟩, by dsimp only; omega⟩))
            rw [decide_eq_false_iff_not] at c2 c3
            have hq : (l[i].ks[j]).toNat < (sortsG (l.take i)).length := by omega
            refine needS_intro (by simp; omega) (ldI1 hq (Nat.mul_one _) (brS_intro (fun c4 => ?_) (fun c4 => ?_)))
            · rw [beq_iff_eq] at c4
              exact tip_intro hg (needS_intro (by simp only [Nat.mul_one, Bool.and_eq_true, nbeq_t, Nat.ble_eq, true_and]; omega) (.inr ⟨(i + 1, id, g.set id (.tip (i + 1))), (by first | rfl | exact True.intro), (by rw [IntWalk.i64_in _ (by omega)]; rfl), (by rw [sortsG_step hi, sstepG_bad hm (kidOk_zero hq c4)]; simp), (by first | rfl | exact True.intro), ⟨⟨Nat.succ_pos _, hi⟩, get_set_eq, hid⟩, by dsimp only; omega⟩))
            rw [beq_eq_false_iff_ne] at c4
            obtain ⟨k1, k2⟩ := kidOk_intro (by omega) hq c4
            have hs := hsi.step hi hj k1
            rw [k2] at hs
            refine needS_intro (by simp; omega) (ldI1 hq (Nat.mul_one _) (tip_intro hkg (needS_intro (by simp only [Nat.mul_one, Bool.and_eq_true, nbeq_t, Nat.ble_eq, true_and]; omega) (.inr (.inr ⟨(i, id, g.set idK (.tip (k.length + 1)), j + 1, k ++ [(sortsG (l.take i))[(l[i].ks[j]).toNat]], idK), (by first | rfl | exact True.intro), (by first | rfl | exact True.intro), (by first | rfl | exact True.intro), ?_, (by first | rfl | exact True.intro), ?_, (by first | rfl | exact True.intro), ⟨hi, ⟨⟨hi0, hi1⟩, by rw [get_set_ne hkne.symm]; exact hg, hid⟩, hs, ⟨by simp, by rw [get_set_eq]; simp, hkid, hkne⟩⟩, ?_⟩)))))
            · simp
            · rw [IntWalk.i64_in _ (by omega)]; rfl
            · dsimp only
              rw [kRest_at hi, kRest_at hi]
              omega
          · rw [decide_eq_false_iff_not] at c1
            have hl := hsi.lst hi (by omega)
            refine needS_intro (by simp; omega) (ldNd hi (by rw [tn]) ⟨l, l[i].ks, k, ⟨rfl, rfl⟩, ⟨rfl, rfl⟩, ⟨rfl, rfl⟩, ⟨(hb1 _ (List.getElem_mem hi)).2, hl.2.1.symm, by omega, hbl, hl.2.2.1, hl.2.2.2, fun n hn => (hb1 n hn).1⟩, ?_⟩)
            exact tip_intro hg (needS_intro (by simp only [Nat.mul_one, Bool.and_eq_true, nbeq_t, Nat.ble_eq, true_and]; omega) (.inr ⟨(i + 1, id, g.set id (.tip (i + 1))), (by first | rfl | exact True.intro), (by rw [IntWalk.i64_in _ (by omega)]; rfl), (by rw [sortsG_step hi, hl.1]; simp), (by first | rfl | exact True.intro), ⟨⟨Nat.succ_pos _, hi⟩, get_set_eq, hid⟩, by dsimp only; omega⟩))
      · rw [decide_eq_false_iff_not] at c
        obtain rfl : i0 = l.length := by omega
        rw [List.take_length]
        exact needS_intro (by simp only [pureL, pureB, pureL_ints, Bool.and_true]) (q_eq hk (by rw [sortsG_len]))
  · exact hk.elim
def cSorts := addC 26 kSorts cNSortG
theorem okSorts : Sound env cSorts := sound_add sSorts (okNSortG)

def kNdSort (xs : List IV) (h : Heap) (K : IV → Heap → Prop) : Prop := match xs with
  | [.vslice none e1 n1 3 c1, .int .i64 i] => ∃ l : List Nd, (n1 = l.length ∧ c1 = l.flatMap cN) ∧ ((∀ x ∈ l, x.ks.length ≤ 1000000 ∧ x.op ≠ 30) ∧ l.length ≤ 1000000 ∧ 0 ≤ i ∧ i < l.length) ∧ K (.int .i64 ((sortsG l).getD i.toNat 0)) h
  | _ => False
set_option maxRecDepth 100000 in
theorem vNdSort (l : List Nd) (i : Int) (e1 : Nat) (h : Heap) (Q : IV → Heap → Prop) : dF (stdS cSorts) env 13 noU noI noI [.vslice none e1 (l).length 3 ((l).flatMap cN), .int .i64 i] h Q = (
  needS (pureL [IV.vslice none (0 : Nat) (List.length l) (3 : Nat) (List.flatMap cN l), IV.int IntKind.i64 i])
 (brS (decide (i < (0 : Int))) (Q (IV.int IntKind.i64 (0 : Int)) h)
 (brS (decide (i ≥ (↑(List.length l) : Int))) (Q (IV.int IntKind.i64 (0 : Int)) h)
 (needS (true && (decide ((0 : Int) ≤ IntKind.wrap IntKind.i64 (i + (1 : Int))) && decide (IntKind.wrap IntKind.i64 (i + (1 : Int)) ≤ (↑(List.length l) : Int))))
 (∃ (l_1 : List Nd),
 (Int.toNat (IntKind.wrap IntKind.i64 (i + (1 : Int))) - (0 : Nat) = List.length l_1 ∧
 List.take ((Int.toNat (IntKind.wrap IntKind.i64 (i + (1 : Int))) - (0 : Nat)) * (3 : Nat)) (List.drop (0 : Nat) (List.flatMap cN l)) = List.flatMap cN l_1) ∧
 ((∀ (x : Nd), x ∈ l_1 → List.length (Nd.ks x) ≤ (1000000 : Nat) ∧ Nd.op x ≠ (30 : Int)) ∧ List.length l_1 ≤ (1000000 : Nat)) ∧
 needS (decide ((0 : Int) ≤ i) && decide (i < (↑(List.length (sortsG l_1)) : Int))) (ldIS IntKind.i64 (List.map (IV.int IntKind.i64) (sortsG l_1)) (Int.toNat i * (1 : Nat)) fun (n0 : Int) => Q (IV.int IntKind.i64 n0) h)))))) := by kernel_rfl
set_option maxHeartbeats 1000000 in
theorem sNdSort : ∀ xs h Q, kNdSort xs h Q → CallW env 13 xs h Q := by
  intro xs h Q hk
  unfold kNdSort at hk
  split at hk
  · rename_i e1 n1 c1 i
    obtain ⟨l, ⟨rfl, rfl⟩, hb, hk⟩ := hk
    refine dF_run (okSorts) (vNdSort l i e1 h Q) ?_
    obtain ⟨hb1, hbl, hi0, hi1⟩ := hb
    have hw : IntKind.i64.wrap (i + 1) = i + 1 := IntWalk.i64_in _ (by omega)
    rw [hw]
    have hlt : i.toNat < l.length := by omega
    have e3 : (i + 1).toNat - 0 = i.toNat + 1 := by omega
    refine needS_intro (by simp only [pureL, pureB, pureL_cN, Bool.and_true]) (brS_intro (fun c => absurd (of_decide_eq_true c) (by omega)) (fun _ => brS_intro (fun c => absurd (of_decide_eq_true c) (by omega)) (fun _ => needS_intro (by simp; omega) ⟨l.take (i.toNat + 1), ⟨by rw [e3, List.length_take]; omega, by rw [e3, List.drop_zero, cN_take]⟩, ⟨fun x hx => hb1 x (List.mem_of_mem_take hx), by rw [List.length_take]; omega⟩, ?_⟩)))
    have hq : i.toNat < (sortsG (l.take (i.toNat + 1))).length := by rw [sortsG_len, List.length_take]; omega
    refine needS_intro (by simp; omega) (ldI1 hq (Nat.mul_one _) (q_eq hk ?_))
    congr 1
    rw [pre_getD (sortsG_pre (List.take_prefix (i.toNat + 1) l)) hq, List.getD_eq_getElem?_getD, List.getElem?_eq_getElem hq]
    rfl
  · exact hk.elim
def cNdSort := addC 13 kNdSort cSorts
theorem okNdSort : Sound env cNdSort := sound_add sNdSort (okSorts)

end Go.Proofs.Ythoehkkoaegeoaa
