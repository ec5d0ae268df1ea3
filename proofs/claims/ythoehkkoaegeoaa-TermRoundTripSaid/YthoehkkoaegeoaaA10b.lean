/-
  Terms: what the generator of nodes computes.
  Conditions: none.
-/
import Derived.Test.YthoehkkoaegeoaaEnv10
import Derived.Test.YthoehkkoaegeoaaM13
import Derived.Test.YthoehkkoaegeoaaV10
import Derived.Test.YthoehkkoaegeoaaP10
import Derived.KernelRfl
set_option linter.unusedVariables false
set_option linter.unusedSimpArgs false
namespace Go.Proofs.Ythoehkkoaegeoaa
open Go.Pv Go.M15 Go.M10

theorem ldNk {l : List Nd} {i o : Nat} {K : Option Nat → Nat → Nat → List IV → Prop} (h : i < l.length) (ho : o = i * 3 + 2) (hk : K none 0 l[i].ks.length (l[i].ks.map (IV.int .i64))) : ldVS 1 (l.flatMap cN) o K := by
  subst ho
  have e2 := cN_at (j := 2) h (by omega)
  unfold ldVS
  simp only [e2]
  exact hk
theorem cN_take : ∀ {l : List Nd} {n : Nat}, (l.flatMap cN).take (n * 3) = (l.take n).flatMap cN
  | [], n => by simp
  | x :: l, 0 => by simp
  | x :: l, n + 1 => by
    rw [List.flatMap_cons, List.take_succ_cons, List.flatMap_cons, List.take_append, show (n + 1) * 3 - (cN x).length = n * 3 by show (n + 1) * 3 - 3 = _; omega, cN_take, List.take_of_length_le (by show 3 ≤ _; omega)]
theorem ldI1 {k : IntKind} {l : List Int} {i o : Nat} {K : Int → Prop} (h : i < l.length) (ho : o = i) (hk : K l[i]) : ldIS k (l.map (IV.int k)) o K := by
  subst ho
  exact ldIS_map h hk
def kPick (xs : List IV) (h : Heap) (K : IV → Heap → Prop) : Prop := match xs with
  | [.int .i64 n, .int .i64 m] => (0 < m ∧ m < 4611686018427387904) ∧ K (.int .i64 (n % m)) h
  | _ => False
set_option maxRecDepth 100000 in
theorem vPick (n m : Int) (h : Heap) (Q : IV → Heap → Prop) : dF (stdS noC) env 9 noU noI noI [.int .i64 n, .int .i64 m] h Q = (
  needS (!m == (0 : Int)) (brS (decide (Int.tmod n m < (0 : Int))) (Q (IV.int IntKind.i64 (IntKind.wrap IntKind.i64 (Int.tmod n m + m))) h) (Q (IV.int IntKind.i64 (Int.tmod n m)) h))) := by kernel_rfl
theorem sPick : ∀ xs h Q, kPick xs h Q → CallW env 9 xs h Q := by
  intro xs h Q hk
  unfold kPick at hk
  split at hk
  · rename_i n m
    refine dF_run (sound_no env) (vPick n m h Q) ?_
    obtain ⟨hm, hk⟩ := hk
    have h1 := Int.emod_emod_of_dvd n (Int.dvd_refl m)
    have ht := Go.M13.tmod_cases n m hm.1
    refine needS_intro (by simp; omega) (brS_intro (fun hc => q_eq hk ?_) (fun hc => q_eq hk ?_))
    · simp only [decide_eq_true_eq] at hc; rw [IntWalk.i64_in _ (by omega)]; congr 1; omega
    · simp only [decide_eq_false_iff_not] at hc; congr 1; omega
  · exact hk.elim
def cPick := addC 9 kPick noC
theorem okPick : Sound env cPick := sound_add sPick (sound_no env)

def kWord (xs : List IV) (h : Heap) (K : IV → Heap → Prop) : Prop := match xs with
  | [.int .i64 n, .int .i64 raw] => i64b raw ∧ ∀ w : Int, i64b w → K (.int .i64 w) h
  | _ => False
set_option maxRecDepth 100000 in
theorem vWord (n raw : Int) (h : Heap) (Q : IV → Heap → Prop) : dF (stdS cPick) env 14 noU noI noI [.int .i64 n, .int .i64 raw] h Q = (
  ((0 : Int) < (24 : Int) ∧ (24 : Int) < (4611686018427387904 : Int)) ∧
 brS (decide (n % (24 : Int) < (10 : Int)))
 (needS (decide ((0 : Int) ≤ n % (24 : Int)) && decide (n % (24 : Int) < (10 : Int)))
 (ldIS IntKind.i64
 [IV.int IntKind.i64 (0 : Int), IV.int IntKind.i64 (1 : Int), IV.int IntKind.i64 (-1 : Int), IV.int IntKind.i64 (2 : Int), IV.int IntKind.i64 (-9223372036854775808 : Int), IV.int IntKind.i64 (9223372036854775807 : Int),
 IV.int IntKind.i64 (4294967296 : Int), IV.int IntKind.i64 (-2147483648 : Int), IV.int IntKind.i64 (63 : Int), IV.int IntKind.i64 (64 : Int)]
 (Int.toNat (n % (24 : Int)) * (1 : Nat)) fun (n0 : Int) => Q (IV.int IntKind.i64 n0) h))
 (brS (decide (n % (24 : Int) < (22 : Int)))
 (((0 : Int) < (17 : Int) ∧ (17 : Int) < (4611686018427387904 : Int)) ∧ Q (IV.int IntKind.i64 (IntKind.wrap IntKind.i64 (IntKind.wrap IntKind.i64 (Int.tdiv n (24 : Int)) % (17 : Int) - (6 : Int)))) h) (Q (IV.int IntKind.i64 raw) h))) := by kernel_rfl
theorem sWord : ∀ xs h Q, kWord xs h Q → CallW env 14 xs h Q := by
  intro xs h Q hk
  unfold kWord at hk
  split at hk
  · rename_i n raw
    refine dF_run (okPick) (vWord n raw h Q) ?_
    obtain ⟨hr, hk⟩ := hk
    refine And.intro (by omega) (brS_intro (fun hc => ?_) (fun hc => brS_intro (fun hd => And.intro (by omega) (hk _ ?_)) (fun hd => hk _ hr)))
    · rw [decide_eq_true_eq] at hc
      refine needS_intro (by simp; omega) ?_
      rw [Nat.mul_one]
      show ldIS .i64 (Go.M13.edges.map (IV.int .i64)) _ _
      have hl : (n % 24).toNat < Go.M13.edges.length := by have : Go.M13.edges.length = 10 := rfl; omega
      refine ldIS_map hl (hk _ ?_)
      have ha : ∀ x ∈ Go.M13.edges, i64b x := by decide
      exact ha _ (List.getElem_mem hl)
    · have := IntWalk.i64_in (IntKind.i64.wrap (n.tdiv 24) % 17 - 6) (by omega)
      rw [this]
      unfold i64b
      omega
  · exact hk.elim
def cWord := addC 14 kWord cPick
theorem okWord : Sound env cWord := sound_add sWord (okPick)

def kArity (xs : List IV) (h : Heap) (K : IV → Heap → Prop) : Prop := match xs with
  | [.int .i64 op] => K (.tuple [.int .i64 (ar op), .bool (arOk op)]) h
  | _ => False
set_option maxRecDepth 100000 in
theorem vArity (op : Int) (h : Heap) (Q : IV → Heap → Prop) : dF (stdS cWord) env 15 noU noI noI [.int .i64 op] h Q = (
  brS (op == (1 : Int)) (Q (IV.tuple [IV.int IntKind.i64 (0 : Int), IV.bool true]) h)
 (brS (op == (2 : Int)) (Q (IV.tuple [IV.int IntKind.i64 (0 : Int), IV.bool true]) h)
 (brS (op == (3 : Int)) (Q (IV.tuple [IV.int IntKind.i64 (0 : Int), IV.bool true]) h)
 (brS (op == (26 : Int)) (Q (IV.tuple [IV.int IntKind.i64 (0 : Int), IV.bool true]) h)
 (brS (op == (20 : Int)) (Q (IV.tuple [IV.int IntKind.i64 (1 : Int), IV.bool true]) h)
 (brS (op == (21 : Int)) (Q (IV.tuple [IV.int IntKind.i64 (1 : Int), IV.bool true]) h)
 (brS (op == (24 : Int)) (Q (IV.tuple [IV.int IntKind.i64 (1 : Int), IV.bool true]) h)
 (brS (op == (25 : Int)) (Q (IV.tuple [IV.int IntKind.i64 (1 : Int), IV.bool true]) h)
 (brS (decide (op ≥ (4 : Int)))
 (brS (decide (op ≤ (19 : Int))) (Q (IV.tuple [IV.int IntKind.i64 (2 : Int), IV.bool true]) h)
 (brS (op == (23 : Int)) (Q (IV.tuple [IV.int IntKind.i64 (2 : Int), IV.bool true]) h)
 (brS (op == (27 : Int)) (Q (IV.tuple [IV.int IntKind.i64 (2 : Int), IV.bool true]) h)
 (brS (op == (29 : Int)) (Q (IV.tuple [IV.int IntKind.i64 (2 : Int), IV.bool true]) h)
 (brS (op == (22 : Int)) (Q (IV.tuple [IV.int IntKind.i64 (3 : Int), IV.bool true]) h)
 (brS (op == (28 : Int)) (Q (IV.tuple [IV.int IntKind.i64 (3 : Int), IV.bool true]) h)
 (brS (op == (30 : Int)) (Q (IV.tuple [IV.int IntKind.i64 (-1 : Int), IV.bool true]) h)
 (brS (op == (31 : Int)) (Q (IV.tuple [IV.int IntKind.i64 (-1 : Int), IV.bool true]) h) (Q (IV.tuple [IV.int IntKind.i64 (0 : Int), IV.bool false]) h)))))))))
 (brS (op == (23 : Int)) (Q (IV.tuple [IV.int IntKind.i64 (2 : Int), IV.bool true]) h)
 (brS (op == (27 : Int)) (Q (IV.tuple [IV.int IntKind.i64 (2 : Int), IV.bool true]) h)
 (brS (op == (29 : Int)) (Q (IV.tuple [IV.int IntKind.i64 (2 : Int), IV.bool true]) h)
 (brS (op == (22 : Int)) (Q (IV.tuple [IV.int IntKind.i64 (3 : Int), IV.bool true]) h)
 (brS (op == (28 : Int)) (Q (IV.tuple [IV.int IntKind.i64 (3 : Int), IV.bool true]) h)
 (brS (op == (30 : Int)) (Q (IV.tuple [IV.int IntKind.i64 (-1 : Int), IV.bool true]) h)
 (brS (op == (31 : Int)) (Q (IV.tuple [IV.int IntKind.i64 (-1 : Int), IV.bool true]) h) (Q (IV.tuple [IV.int IntKind.i64 (0 : Int), IV.bool false]) h))))))))))))))))) := by kernel_rfl
set_option maxHeartbeats 2000000 in
theorem sArity : ∀ xs h Q, kArity xs h Q → CallW env 15 xs h Q := by
  intro xs h Q hk
  unfold kArity at hk
  split at hk
  · rename_i op
    refine dF_run (okWord) (vArity op h Q) ?_
    repeat' (first | refine needS_intro ?_ ?_ | refine brS_intro (fun _ => ?_) (fun _ => ?_) | refine And.intro ?_ ?_)
    all_goals first | assumption | omega | (refine q_eq hk ?_; simp only [IV.agg.injEq, IV.tuple.injEq, IV.int.injEq, IV.bool.injEq, List.cons.injEq, true_and, and_true]; grind [ar, arOk])
  · exact hk.elim
def cArity := addC 15 kArity cWord
theorem okArity : Sound env cArity := sound_add sArity (okWord)

def kSort (xs : List IV) (h : Heap) (K : IV → Heap → Prop) : Prop := match xs with
  | [.int .i64 op] => K (.int .i64 (sort op)) h
  | _ => False
set_option maxRecDepth 100000 in
theorem vSort (op : Int) (h : Heap) (Q : IV → Heap → Prop) : dF (stdS cArity) env 27 noU noI noI [.int .i64 op] h Q = (
  brS (op == (27 : Int)) (Q (IV.int IntKind.i64 (2 : Int)) h) (brS (op == (28 : Int)) (Q (IV.int IntKind.i64 (2 : Int)) h) (brS (op == (29 : Int)) (Q (IV.int IntKind.i64 (2 : Int)) h) (Q (IV.int IntKind.i64 (1 : Int)) h)))) := by kernel_rfl
theorem sSort : ∀ xs h Q, kSort xs h Q → CallW env 27 xs h Q := by
  intro xs h Q hk
  unfold kSort at hk
  split at hk
  · rename_i op
    refine dF_run (okArity) (vSort op h Q) ?_
    repeat' (first | refine needS_intro ?_ ?_ | refine brS_intro (fun _ => ?_) (fun _ => ?_) | refine And.intro ?_ ?_)
    all_goals first | assumption | omega | (refine q_eq hk ?_; simp only [IV.agg.injEq, IV.tuple.injEq, IV.int.injEq, IV.bool.injEq, List.cons.injEq, true_and, and_true]; grind [sort])
  · exact hk.elim
def cSort := addC 27 kSort cArity
theorem okSort : Sound env cSort := sound_add sSort (okArity)

def kOSort (xs : List IV) (h : Heap) (K : IV → Heap → Prop) : Prop := match xs with
  | [.int .i64 op, .int .i64 k] => K (.int .i64 (osort op k)) h
  | _ => False
set_option maxRecDepth 100000 in
theorem vOSort (op k : Int) (h : Heap) (Q : IV → Heap → Prop) : dF (stdS cSort) env 17 noU noI noI [.int .i64 op, .int .i64 k] h Q = (
  brS (k == (0 : Int))
 (brS (sort op == (2 : Int)) (Q (IV.int IntKind.i64 (2 : Int)) h) (brS (op == (23 : Int)) (Q (IV.int IntKind.i64 (2 : Int)) h) (brS (op == (24 : Int)) (Q (IV.int IntKind.i64 (2 : Int)) h) (Q (IV.int IntKind.i64 (1 : Int)) h))))
 (Q (IV.int IntKind.i64 (1 : Int)) h)) := by kernel_rfl
theorem sOSort : ∀ xs h Q, kOSort xs h Q → CallW env 17 xs h Q := by
  intro xs h Q hk
  unfold kOSort at hk
  split at hk
  · rename_i op k
    refine dF_run (okSort) (vOSort op k h Q) ?_
    repeat' (first | refine needS_intro ?_ ?_ | refine brS_intro (fun _ => ?_) (fun _ => ?_) | refine And.intro ?_ ?_)
    all_goals first | assumption | omega | (refine q_eq hk ?_; simp only [IV.agg.injEq, IV.tuple.injEq, IV.int.injEq, IV.bool.injEq, List.cons.injEq, true_and, and_true]; grind [osort])
  · exact hk.elim
def cOSort := addC 17 kOSort cSort
theorem okOSort : Sound env cOSort := sound_add sOSort (okSort)

def kNext (xs : List IV) (h : Heap) (K : IV → Heap → Prop) : Prop := match xs with
  | [.ptr id 0] => RD h id ∧ ∀ (n : Int) (h2 : Heap), i64b n → RD h2 id → HF id h h2 → K (.int .i64 n) h2
  | _ => False
set_option maxRecDepth 100000 in
theorem vNext (id : Nat) (h : Heap) (Q : IV → Heap → Prop) : dF (stdS cOSort) env 18 noU noI noI [.ptr id 0] h Q = (
  hgetS h id fun (r0 : List IV) =>
 ldVS (1 : Nat) r0 (0 : Nat) fun (i1 : Option Nat) (e2 l3 : Nat) (c4 : List IV) =>
 brS ((↑l3 : Int) == (0 : Int)) (Q (IV.int IntKind.i64 (0 : Int)) h)
 (hgetS h id fun (r5 : List IV) =>
 ldVS (1 : Nat) r5 (0 : Nat) fun (i6 : Option Nat) (e7 l8 : Nat) (c9 : List IV) =>
 needS (true && decide ((0 : Int) < (↑l8 : Int)))
 (ldIS IntKind.i64 c9 (0 : Nat) fun (n10 : Int) =>
 hgetS h id fun (r11 : List IV) =>
 ldVS (1 : Nat) r11 (0 : Nat) fun (i12 : Option Nat) (e13 l14 : Nat) (c15 : List IV) =>
 needS (true && (decide ((1 : Int) ≤ (↑l14 : Int)) && decide ((↑l14 : Int) ≤ (↑l14 : Int))))
 (hgetS h id fun (r16 : List IV) =>
 needS (Nat.ble (1 : Nat) (List.length r16))
 (Q (IV.int IntKind.i64 n10)
 (Heap.set h id
 (IObj.cells
 (IV.vslice i12 (e13 - (l14 - Int.toNat (↑l14 : Int)) * (1 : Nat)) (Int.toNat (↑l14 : Int) - (1 : Nat)) (1 : Nat) (List.take ((Int.toNat (↑l14 : Int) - (1 : Nat)) * (1 : Nat)) (List.drop (1 : Nat) c15)) ::
 List.drop (1 : Nat) r16)))))))) := by kernel_rfl
theorem sNext : ∀ xs h Q, kNext xs h Q → CallW env 18 xs h Q := by
  intro xs h Q hk
  unfold kNext at hk
  split at hk
  · rename_i id
    refine dF_run (okOSort) (vNext id h Q) ?_
    obtain ⟨⟨hlt, io, e, lp, l, hb, hg⟩, hk⟩ := hk
    refine hget_intro hg (ldV0 ?_)
    refine brS_intro (fun c => hk 0 h (by unfold i64b; omega) ⟨hlt, io, e, lp, l, hb, hg⟩ HF.refl) (fun c => hget_intro hg (ldV0 ?_))
    have hl : 0 < l.length := by
      simp at c
      exact Nat.pos_of_ne_zero (by simpa using c)
    refine needS_intro (by simp; omega) (ldIS_map (i := 0) hl (hget_intro hg (ldV0 (needS_intro (by simp; omega) (hget_intro hg (needS_intro (by simp) ?_))))))
    refine hk _ _ (hb _ (List.getElem_mem hl)) ⟨hlt, io, e - (l.length - ((l.length : Int)).toNat) * 1, lp, l.drop 1, fun x hx => hb x (List.mem_of_mem_drop hx), ?_⟩ HF.set
    refine (get_set_eq (h := h)).trans ?_
    simp
    exact List.take_of_length_le (by simp)
  · exact hk.elim
def cNext := addC 18 kNext cOSort
theorem okNext : Sound env cNext := sound_add sNext (okOSort)

def kMaxImm (xs : List IV) (h : Heap) (K : IV → Heap → Prop) : Prop := match xs with
  | [.int .i64 op] => K (.int .i64 (mxI op)) h
  | _ => False
set_option maxRecDepth 100000 in
theorem vMaxImm (op : Int) (h : Heap) (Q : IV → Heap → Prop) : dF (stdS cNext) env 51 noU noI noI [.int .i64 op] h Q = (
  brS (op == (2 : Int)) (Q (IV.int IntKind.i64 (5 : Int)) h)
 (brS (op == (3 : Int)) (Q (IV.int IntKind.i64 (255 : Int)) h)
 (brS (op == (23 : Int)) (Q (IV.int IntKind.i64 (3 : Int)) h)
 (brS (op == (28 : Int)) (Q (IV.int IntKind.i64 (3 : Int)) h)
 (brS (op == (27 : Int)) (Q (IV.int IntKind.i64 (1000016 : Int)) h)
 (brS (op == (30 : Int)) (Q (IV.int IntKind.i64 (7 : Int)) h) (brS (op == (31 : Int)) (Q (IV.int IntKind.i64 (15 : Int)) h) (brS (op == (25 : Int)) (Q (IV.int IntKind.i64 (15 : Int)) h) (Q (IV.int IntKind.i64 (-1 : Int)) h))))))))) := by kernel_rfl
theorem sMaxImm : ∀ xs h Q, kMaxImm xs h Q → CallW env 51 xs h Q := by
  intro xs h Q hk
  unfold kMaxImm at hk
  split at hk
  · rename_i op
    refine dF_run (okNext) (vMaxImm op h Q) ?_
    repeat' (first | refine needS_intro ?_ ?_ | refine brS_intro (fun _ => ?_) (fun _ => ?_) | refine And.intro ?_ ?_)
    all_goals first | assumption | omega | (refine q_eq hk ?_; simp only [IV.agg.injEq, IV.tuple.injEq, IV.int.injEq, IV.bool.injEq, List.cons.injEq, true_and, and_true]; grind [mxI])
  · exact hk.elim
def cMaxImm := addC 51 kMaxImm cNext
theorem okMaxImm : Sound env cMaxImm := sound_add sMaxImm (okNext)

def kRVImm (xs : List IV) (h : Heap) (K : IV → Heap → Prop) : Prop := match xs with
  | [.int .i64 op, .int .i64 n] => K (.bool (vImm op n)) h
  | _ => False
set_option maxRecDepth 100000 in
theorem vRVImm (op n : Int) (h : Heap) (Q : IV → Heap → Prop) : dF (stdS cMaxImm) env 46 noU noI noI [.int .i64 op, .int .i64 n] h Q = (
  brS (op == (1 : Int)) (Q (IV.bool true) h)
 (brS (decide (mxI op < (0 : Int))) (Q (IV.bool (n == (0 : Int))) h)
 (brS (decide (n ≥ (0 : Int))) (brS (decide (n ≤ mxI op)) (brS (op != (27 : Int)) (Q (IV.bool true) h) (Q (IV.bool (decide (n > (0 : Int)))) h)) (Q (IV.bool false) h)) (Q (IV.bool false) h)))) := by kernel_rfl
theorem sRVImm : ∀ xs h Q, kRVImm xs h Q → CallW env 46 xs h Q := by
  intro xs h Q hk
  unfold kRVImm at hk
  split at hk
  · rename_i op n
    refine dF_run (okMaxImm) (vRVImm op n h Q) ?_
    repeat' (first | refine needS_intro ?_ ?_ | refine brS_intro (fun _ => ?_) (fun _ => ?_) | refine And.intro ?_ ?_)
    all_goals first | assumption | omega | (refine q_eq hk ?_; simp only [IV.agg.injEq, IV.tuple.injEq, IV.int.injEq, IV.bool.injEq, List.cons.injEq, true_and, and_true]; grind [vImm])
  · exact hk.elim
def cRVImm := addC 46 kRVImm cMaxImm
theorem okRVImm : Sound env cRVImm := sound_add sRVImm (okMaxImm)

def kSortIf (xs : List IV) (h : Heap) (K : IV → Heap → Prop) : Prop := match xs with
  | [.bool b, .int .i64 n] => K (.int .i64 (if b = true then n else 0)) h
  | _ => False
set_option maxRecDepth 100000 in
theorem vSortIf (b : Bool) (n : Int) (h : Heap) (Q : IV → Heap → Prop) : dF (stdS cRVImm) env 47 noU noI noI [.bool b, .int .i64 n] h Q = (
  brS b (Q (IV.int IntKind.i64 n) h) (Q (IV.int IntKind.i64 (0 : Int)) h)) := by kernel_rfl
theorem sSortIf : ∀ xs h Q, kSortIf xs h Q → CallW env 47 xs h Q := by
  intro xs h Q hk
  unfold kSortIf at hk
  split at hk
  · rename_i b n
    refine dF_run (okRVImm) (vSortIf b n h Q) ?_
    refine brS_intro (fun c => ?_) (fun c => ?_)
    · rw [if_pos c] at hk
      exact hk
    · rw [if_neg (by rw [c]; exact Bool.false_ne_true)] at hk
      exact hk
  · exact hk.elim
def cSortIf := addC 47 kSortIf cRVImm
theorem okSortIf : Sound env cSortIf := sound_add sSortIf (okRVImm)

def avInv (k : List Int) : Inv' := atX Nat (fun i => [(0, .v (.vslice none 0 (k).length 1 ((k).map (IV.int .i64)))), (3, .v (.int .i64 i))]) (fun _ => []) (fun _ => Heap.empty)
  (fun i => i ≤ k.length ∧ (k.drop i).all (fun x => decide (x = 1)) = k.all (fun x => decide (x = 1))) (fun i => k.length - i)
def kAllV (xs : List IV) (h : Heap) (K : IV → Heap → Prop) : Prop := match xs with
  | [.vslice none e1 n1 1 c1] => ∃ k : List Int, (n1 = k.length ∧ c1 = k.map (IV.int .i64)) ∧ k.length ≤ 1000000000 ∧ K (.bool (k.all fun x => decide (x = 1))) h
  | _ => False
set_option maxRecDepth 100000 in
theorem vAllV (k : List Int) (e1 : Nat) (h : Heap) (Q : IV → Heap → Prop) : dF (stdS cSortIf) env 48 noU (ic1 3 (avInv k)) noI [.vslice none e1 (k).length 1 ((k).map (IV.int .i64))] h Q = (
  needS (pureL [IV.vslice none (0 : Nat) (List.length k) (1 : Nat) (List.map (IV.int IntKind.i64) k)])
 ((∃ (x : Nat),
 some (TV.v (IV.vslice none (0 : Nat) (List.length k) (1 : Nat) (List.map (IV.int IntKind.i64) k))) = some (TV.v (IV.vslice none (0 : Nat) (List.length k) (1 : Nat) (List.map (IV.int IntKind.i64) k))) ∧
 some (TV.v (IV.int IntKind.i64 (0 : Int))) = some (TV.v (IV.int IntKind.i64 (↑x : Int))) ∧
 Heap.mk PT.nil (0 : Nat) = Heap.mk PT.nil (0 : Nat) ∧ (x ≤ List.length k ∧ (List.all (List.drop x k) fun (x : Int) => decide (x = (1 : Int))) = List.all k fun (x : Int) => decide (x = (1 : Int))) ∧ True) ∧
 ∀ (x : Nat) (b : FF),
 (x ≤ List.length k ∧ (List.all (List.drop x k) fun (x : Int) => decide (x = (1 : Int))) = List.all k fun (x : Int) => decide (x = (1 : Int))) →
 brS (decide ((↑x : Int) < (↑(List.length k) : Int)))
 (needS (decide ((0 : Int) ≤ (↑x : Int)) && decide ((↑x : Int) < (↑(List.length k) : Int)))
 (ldIS IntKind.i64 (List.map (IV.int IntKind.i64) k) (Int.toNat (↑x : Int) * (1 : Nat)) fun (n0 : Int) =>
 brS (n0 != (1 : Int)) (Q (IV.bool false) h)
 (∃ (x_1 : Nat),
 some (TV.v (IV.vslice none (0 : Nat) (List.length k) (1 : Nat) (List.map (IV.int IntKind.i64) k))) = some (TV.v (IV.vslice none (0 : Nat) (List.length k) (1 : Nat) (List.map (IV.int IntKind.i64) k))) ∧
 some (TV.v (IV.int IntKind.i64 (IntKind.wrap IntKind.i64 ((↑x : Int) + (1 : Int))))) = some (TV.v (IV.int IntKind.i64 (↑x_1 : Int))) ∧
 Heap.mk PT.nil (0 : Nat) = Heap.mk PT.nil (0 : Nat) ∧
 (x_1 ≤ List.length k ∧ (List.all (List.drop x_1 k) fun (x : Int) => decide (x = (1 : Int))) = List.all k fun (x : Int) => decide (x = (1 : Int))) ∧ List.length k - x_1 < List.length k - x)))
 (Q (IV.bool true) h))) := by kernel_rfl
set_option maxHeartbeats 1000000 in
theorem sAllV : ∀ xs h Q, kAllV xs h Q → CallW env 48 xs h Q := by
  intro xs h Q hk
  unfold kAllV at hk
  split at hk
  · rename_i e1 n1 c1
    obtain ⟨k, ⟨rfl, rfl⟩, hb, hk⟩ := hk
    refine dF_run (okSortIf) (vAllV k e1 h Q) ?_
    have tn : ∀ x : Nat, (x : Int).toNat = x := Int.toNat_natCast
    refine needS_intro (by simp only [pureL, pureB, pureL_ints, Bool.and_true]) ⟨⟨0, (by first | rfl | exact True.intro), (by first | rfl | exact True.intro), (by first | rfl | exact True.intro), ⟨Nat.zero_le _, rfl⟩, trivial⟩, ?_⟩
    rintro i _ ⟨hi, ha⟩
    try dsimp only at hi ha ⊢
    refine brS_intro (fun c => ?_) (fun c => ?_)
    · rw [decide_eq_true_eq] at c
      have hlt : i < k.length := by omega
      simp only [tn]
      rw [Nat.mul_one]
      rw [List.drop_eq_getElem_cons hlt, List.all_cons] at ha
      refine needS_intro (by simp; omega) (ldIS_map hlt (brS_intro (fun c1 => ?_) (fun c1 => ⟨i + 1, (by first | rfl | exact True.intro), ?_, (by first | rfl | exact True.intro), ⟨hlt, ?_⟩, by (try dsimp only); omega⟩)))
      · rw [decide_eq_false (bne_iff_ne.1 c1), Bool.false_and] at ha
        rw [← ha] at hk
        exact hk
      · rw [IntWalk.i64_in _ (by omega)]; rfl
      · rw [bne_eq_false_iff_eq] at c1
        rw [decide_eq_true c1, Bool.true_and] at ha
        exact ha
    · rw [decide_eq_false_iff_not] at c
      rw [List.drop_eq_nil_of_le (by omega)] at ha
      rw [← ha] at hk
      exact hk
  · exact hk.elim
def cAllV := addC 48 kAllV cSortIf
theorem okAllV : Sound env cAllV := sound_add sAllV (okSortIf)

def kNSort (xs : List IV) (h : Heap) (K : IV → Heap → Prop) : Prop := match xs with
  | [.vslice none e0 n0 3 c0, .agg [.int .i64 op, .int .i64 im, .vslice none e1 n1 1 c1], .vslice none e2 n2 1 c2] => ∃ (l : List Nd) (ks k : List Int), (n0 = l.length ∧ c0 = l.flatMap cN) ∧ (n1 = ks.length ∧ c1 = ks.map (IV.int .i64)) ∧ (n2 = k.length ∧ c2 = k.map (IV.int .i64)) ∧ ((op ≠ 25 ∧ op ≠ 30 ∧ op ≠ 31) ∧ ks.length = k.length ∧ k.length ≤ 1000000000) ∧ K (.int .i64 (nsort op im k)) h
  | _ => False
set_option maxRecDepth 100000 in
theorem vNSort (l : List Nd) (op im : Int) (ks k : List Int) (e0 e1 e2 : Nat) (h : Heap) (Q : IV → Heap → Prop) : dF (stdS cAllV) env 38 noU noI noI [.vslice none e0 (l).length 3 ((l).flatMap cN), .agg [.int .i64 op, .int .i64 im, .vslice none e1 ks.length 1 (ks.map (IV.int .i64))], .vslice none e2 (k).length 1 ((k).map (IV.int .i64))] h Q = (
  needS
 (pureL
 [IV.vslice none (0 : Nat) (List.length l) (3 : Nat) (List.flatMap cN l), IV.agg [IV.int IntKind.i64 op, IV.int IntKind.i64 im, IV.vslice none (0 : Nat) (List.length ks) (1 : Nat) (List.map (IV.int IntKind.i64) ks)],
 IV.vslice none (0 : Nat) (List.length k) (1 : Nat) (List.map (IV.int IntKind.i64) k)])
 (brS (!arOk op) (Q (IV.int IntKind.i64 (0 : Int)) h)
 (brS (decide (ar op ≥ (0 : Int)))
 (brS ((↑(List.length ks) : Int) != ar op) (Q (IV.int IntKind.i64 (0 : Int)) h)
 (brS (!vImm op im) (Q (IV.int IntKind.i64 (0 : Int)) h)
 (brS (op == (3 : Int)) (brS (Int.tmod im (16 : Int) == (0 : Int)) (Q (IV.int IntKind.i64 (2 : Int)) h) (Q (IV.int IntKind.i64 (1 : Int)) h))
 (brS (op == (26 : Int)) (Q (IV.int IntKind.i64 (2 : Int)) h)
 (brS (op == (22 : Int))
 (needS (true && decide ((0 : Int) < (↑(List.length k) : Int)))
 (ldIS IntKind.i64 (List.map (IV.int IntKind.i64) k) (0 : Nat) fun (n0 : Int) =>
 brS (n0 != (1 : Int)) (Q (IV.int IntKind.i64 (0 : Int)) h)
 (needS (true && decide ((1 : Int) < (↑(List.length k) : Int)))
 (ldIS IntKind.i64 (List.map (IV.int IntKind.i64) k) (1 : Nat) fun (n1 : Int) =>
 needS (true && decide ((2 : Int) < (↑(List.length k) : Int)))
 (ldIS IntKind.i64 (List.map (IV.int IntKind.i64) k) (2 : Nat) fun (n2 : Int) =>
 brS (n1 != n2) (Q (IV.int IntKind.i64 (0 : Int)) h)
 (needS (true && decide ((1 : Int) < (↑(List.length k) : Int)))
 (ldIS IntKind.i64 (List.map (IV.int IntKind.i64) k) (1 : Nat) fun (n3 : Int) =>
 brS (n3 == (3 : Int)) (Q (IV.int IntKind.i64 (0 : Int)) h)
 (needS (true && decide ((1 : Int) < (↑(List.length k) : Int))) (ldIS IntKind.i64 (List.map (IV.int IntKind.i64) k) (1 : Nat) fun (n4 : Int) => Q (IV.int IntKind.i64 n4) h)))))))))
 (brS (op == (23 : Int))
 (needS (true && decide ((0 : Int) < (↑(List.length k) : Int)))
 (ldIS IntKind.i64 (List.map (IV.int IntKind.i64) k) (0 : Nat) fun (n5 : Int) =>
 brS (n5 == (2 : Int))
 (needS (true && decide ((1 : Int) < (↑(List.length k) : Int)))
 (ldIS IntKind.i64 (List.map (IV.int IntKind.i64) k) (1 : Nat) fun (n6 : Int) => Q (IV.int IntKind.i64 (if (n6 == (1 : Int)) = true then (1 : Int) else (0 : Int))) h))
 (Q (IV.int IntKind.i64 (0 : Int)) h)))
 (brS (op == (24 : Int))
 (needS (true && decide ((0 : Int) < (↑(List.length k) : Int)))
 (ldIS IntKind.i64 (List.map (IV.int IntKind.i64) k) (0 : Nat) fun (n7 : Int) => Q (IV.int IntKind.i64 (if (n7 == (2 : Int)) = true then (1 : Int) else (0 : Int))) h))
 (brS (op == (25 : Int))
 (needS (true && decide ((0 : Int) < (↑(List.length k) : Int)))
 (ldIS IntKind.i64 (List.map (IV.int IntKind.i64) k) (0 : Nat) fun (n8 : Int) =>
 brS (n8 != (3 : Int)) (Q (IV.int IntKind.i64 (0 : Int)) h)
 (needS (true && decide ((0 : Int) < (↑(List.length ks) : Int)))
 (ldIS IntKind.i64 (List.map (IV.int IntKind.i64) ks) (0 : Nat) fun (n9 : Int) =>
 needS (decide ((0 : Int) ≤ n9) && decide (n9 < (↑(List.length l) : Int)))
 (ldVS (1 : Nat) (List.flatMap cN l) (Int.toNat n9 * (3 : Nat) + (2 : Nat)) fun (i10 : Option Nat) (e11 l12 : Nat) (c13 : List IV) =>
 brS (decide (im ≥ IntKind.wrap IntKind.i64 (Int.tdiv (↑l12 : Int) (2 : Int)))) (Q (IV.int IntKind.i64 (0 : Int)) h)
 (Q (IV.int IntKind.i64 (IntKind.wrap IntKind.i64 ((if (im == (0 : Int)) = true then (1 : Int) else (0 : Int)) + (1 : Int)))) h))))))
 (brS (op == (27 : Int))
 (needS (true && decide ((0 : Int) < (↑(List.length k) : Int)))
 (ldIS IntKind.i64 (List.map (IV.int IntKind.i64) k) (0 : Nat) fun (n14 : Int) =>
 brS (n14 == (2 : Int))
 (needS (true && decide ((1 : Int) < (↑(List.length k) : Int)))
 (ldIS IntKind.i64 (List.map (IV.int IntKind.i64) k) (1 : Nat) fun (n15 : Int) => Q (IV.int IntKind.i64 (if (n15 == (1 : Int)) = true then (2 : Int) else (0 : Int))) h))
 (Q (IV.int IntKind.i64 (0 : Int)) h)))
 (brS (op == (29 : Int))
 (needS (true && decide ((0 : Int) < (↑(List.length k) : Int)))
 (ldIS IntKind.i64 (List.map (IV.int IntKind.i64) k) (0 : Nat) fun (n16 : Int) =>
 brS (n16 == (2 : Int))
 (needS (true && decide ((1 : Int) < (↑(List.length k) : Int)))
 (ldIS IntKind.i64 (List.map (IV.int IntKind.i64) k) (1 : Nat) fun (n17 : Int) => Q (IV.int IntKind.i64 (if (n17 == (1 : Int)) = true then (2 : Int) else (0 : Int))) h))
 (Q (IV.int IntKind.i64 (0 : Int)) h)))
 (brS (op == (28 : Int))
 (needS (true && decide ((0 : Int) < (↑(List.length k) : Int)))
 (ldIS IntKind.i64 (List.map (IV.int IntKind.i64) k) (0 : Nat) fun (n18 : Int) =>
 brS (n18 == (2 : Int))
 (needS (true && decide ((1 : Int) < (↑(List.length k) : Int)))
 (ldIS IntKind.i64 (List.map (IV.int IntKind.i64) k) (1 : Nat) fun (n19 : Int) =>
 brS (n19 == (1 : Int))
 (needS (true && decide ((2 : Int) < (↑(List.length k) : Int)))
 (ldIS IntKind.i64 (List.map (IV.int IntKind.i64) k) (2 : Nat) fun (n20 : Int) => Q (IV.int IntKind.i64 (if (n20 == (1 : Int)) = true then (2 : Int) else (0 : Int))) h))
 (Q (IV.int IntKind.i64 (0 : Int)) h)))
 (Q (IV.int IntKind.i64 (0 : Int)) h)))
 (brS (op == (30 : Int))
 (brS (decide ((↑(List.length k) : Int) ≥ (1 : Int)))
 (brS (decide ((↑(List.length k) : Int) ≤ (7 : Int)))
 (needS (true && decide ((0 : Int) < (↑(List.length k) : Int)))
 (ldIS IntKind.i64 (List.map (IV.int IntKind.i64) k) (0 : Nat) fun (n21 : Int) =>
 brS (n21 == (2 : Int))
 (needS (true && (decide ((1 : Int) ≤ (↑(List.length k) : Int)) && decide ((↑(List.length k) : Int) ≤ (↑(List.length k) : Int))))
 (∃ (k_1 : List Int),
 (Int.toNat (↑(List.length k) : Int) - (1 : Nat) = List.length k_1 ∧
 List.take ((Int.toNat (↑(List.length k) : Int) - (1 : Nat)) * (1 : Nat)) (List.drop (1 : Nat) (List.map (IV.int IntKind.i64) k)) = List.map (IV.int IntKind.i64) k_1) ∧
 List.length k_1 ≤ (1000000000 : Nat) ∧ Q (IV.int IntKind.i64 (if (List.all k_1 fun (x : Int) => decide (x = (1 : Int))) = true then (2 : Int) else (0 : Int))) h))
 (Q (IV.int IntKind.i64 (0 : Int)) h)))
 (Q (IV.int IntKind.i64 (0 : Int)) h))
 (Q (IV.int IntKind.i64 (0 : Int)) h))
 (brS (op == (31 : Int))
 (brS (Int.tmod (↑(List.length k) : Int) (2 : Int) == (1 : Int))
 (brS (decide (IntKind.wrap IntKind.i64 (Int.tdiv (↑(List.length k) : Int) (2 : Int)) ≥ (1 : Int)))
 (brS (decide (IntKind.wrap IntKind.i64 (Int.tdiv (↑(List.length k) : Int) (2 : Int)) ≤ (16 : Int)))
 (needS (true && decide ((0 : Int) < (↑(List.length k) : Int)))
 (ldIS IntKind.i64 (List.map (IV.int IntKind.i64) k) (0 : Nat) fun (n22 : Int) =>
 brS (n22 == (2 : Int))
 (needS
 (true &&
 (decide ((1 : Int) ≤ IntKind.wrap IntKind.i64 (IntKind.wrap IntKind.i64 (Int.tdiv (↑(List.length k) : Int) (2 : Int)) + (1 : Int))) &&
 decide (IntKind.wrap IntKind.i64 (IntKind.wrap IntKind.i64 (Int.tdiv (↑(List.length k) : Int) (2 : Int)) + (1 : Int)) ≤ (↑(List.length k) : Int))))
 (∃ (k_1 : List Int),
 (Int.toNat (IntKind.wrap IntKind.i64 (IntKind.wrap IntKind.i64 (Int.tdiv (↑(List.length k) : Int) (2 : Int)) + (1 : Int))) - (1 : Nat) = List.length k_1 ∧
 List.take ((Int.toNat (IntKind.wrap IntKind.i64 (IntKind.wrap IntKind.i64 (Int.tdiv (↑(List.length k) : Int) (2 : Int)) + (1 : Int))) - (1 : Nat)) * (1 : Nat))
 (List.drop (1 : Nat) (List.map (IV.int IntKind.i64) k)) =
 List.map (IV.int IntKind.i64) k_1) ∧
 List.length k_1 ≤ (1000000000 : Nat) ∧
 brS (List.all k_1 fun (x : Int) => decide (x = (1 : Int)))
 (needS
 (decide ((0 : Int) ≤ IntKind.wrap IntKind.i64 (IntKind.wrap IntKind.i64 (Int.tdiv (↑(List.length k) : Int) (2 : Int)) + (1 : Int))) &&
 decide (IntKind.wrap IntKind.i64 (IntKind.wrap IntKind.i64 (Int.tdiv (↑(List.length k) : Int) (2 : Int)) + (1 : Int)) < (↑(List.length k) : Int)))
 (ldIS IntKind.i64 (List.map (IV.int IntKind.i64) k)
 (Int.toNat (IntKind.wrap IntKind.i64 (IntKind.wrap IntKind.i64 (Int.tdiv (↑(List.length k) : Int) (2 : Int)) + (1 : Int))) * (1 : Nat)) fun (n23 : Int) =>
 brS (n23 == (2 : Int))
 (needS
 (decide ((0 : Int) ≤ IntKind.wrap IntKind.i64 (IntKind.wrap IntKind.i64 (Int.tdiv (↑(List.length k) : Int) (2 : Int)) + (2 : Int))) &&
 (decide (IntKind.wrap IntKind.i64 (IntKind.wrap IntKind.i64 (Int.tdiv (↑(List.length k) : Int) (2 : Int)) + (2 : Int)) ≤ (↑(List.length k) : Int)) &&
 decide ((↑(List.length k) : Int) ≤ (↑(List.length k) : Int))))
 (∃ (k_2 : List Int),
 (Int.toNat (↑(List.length k) : Int) - Int.toNat (IntKind.wrap IntKind.i64 (IntKind.wrap IntKind.i64 (Int.tdiv (↑(List.length k) : Int) (2 : Int)) + (2 : Int))) =
 List.length k_2 ∧
 List.take
 ((Int.toNat (↑(List.length k) : Int) - Int.toNat (IntKind.wrap IntKind.i64 (IntKind.wrap IntKind.i64 (Int.tdiv (↑(List.length k) : Int) (2 : Int)) + (2 : Int)))) *
 (1 : Nat))
 (List.drop (Int.toNat (IntKind.wrap IntKind.i64 (IntKind.wrap IntKind.i64 (Int.tdiv (↑(List.length k) : Int) (2 : Int)) + (2 : Int))) * (1 : Nat))
 (List.map (IV.int IntKind.i64) k)) =
 List.map (IV.int IntKind.i64) k_2) ∧
 List.length k_2 ≤ (1000000000 : Nat) ∧ Q (IV.int IntKind.i64 (if (List.all k_2 fun (x : Int) => decide (x = (1 : Int))) = true then (3 : Int) else (0 : Int))) h))
 (Q (IV.int IntKind.i64 (0 : Int)) h)))
 (Q (IV.int IntKind.i64 (0 : Int)) h)))
 (Q (IV.int IntKind.i64 (0 : Int)) h)))
 (Q (IV.int IntKind.i64 (0 : Int)) h))
 (Q (IV.int IntKind.i64 (0 : Int)) h))
 (Q (IV.int IntKind.i64 (0 : Int)) h))
 (∃ (k_1 : List Int),
 (List.length k = List.length k_1 ∧ List.map (IV.int IntKind.i64) k = List.map (IV.int IntKind.i64) k_1) ∧
 List.length k_1 ≤ (1000000000 : Nat) ∧ Q (IV.int IntKind.i64 (if (List.all k_1 fun (x : Int) => decide (x = (1 : Int))) = true then (1 : Int) else (0 : Int))) h))))))))))))))
 (brS (!vImm op im) (Q (IV.int IntKind.i64 (0 : Int)) h)
 (brS (op == (3 : Int)) (brS (Int.tmod im (16 : Int) == (0 : Int)) (Q (IV.int IntKind.i64 (2 : Int)) h) (Q (IV.int IntKind.i64 (1 : Int)) h))
 (brS (op == (26 : Int)) (Q (IV.int IntKind.i64 (2 : Int)) h)
 (brS (op == (22 : Int))
 (needS (true && decide ((0 : Int) < (↑(List.length k) : Int)))
 (ldIS IntKind.i64 (List.map (IV.int IntKind.i64) k) (0 : Nat) fun (n24 : Int) =>
 brS (n24 != (1 : Int)) (Q (IV.int IntKind.i64 (0 : Int)) h)
 (needS (true && decide ((1 : Int) < (↑(List.length k) : Int)))
 (ldIS IntKind.i64 (List.map (IV.int IntKind.i64) k) (1 : Nat) fun (n25 : Int) =>
 needS (true && decide ((2 : Int) < (↑(List.length k) : Int)))
 (ldIS IntKind.i64 (List.map (IV.int IntKind.i64) k) (2 : Nat) fun (n26 : Int) =>
 brS (n25 != n26) (Q (IV.int IntKind.i64 (0 : Int)) h)
 (needS (true && decide ((1 : Int) < (↑(List.length k) : Int)))
 (ldIS IntKind.i64 (List.map (IV.int IntKind.i64) k) (1 : Nat) fun (n27 : Int) =>
 brS (n27 == (3 : Int)) (Q (IV.int IntKind.i64 (0 : Int)) h)
 (needS (true && decide ((1 : Int) < (↑(List.length k) : Int))) (ldIS IntKind.i64 (List.map (IV.int IntKind.i64) k) (1 : Nat) fun (n28 : Int) => Q (IV.int IntKind.i64 n28) h)))))))))
 (brS (op == (23 : Int))
 (needS (true && decide ((0 : Int) < (↑(List.length k) : Int)))
 (ldIS IntKind.i64 (List.map (IV.int IntKind.i64) k) (0 : Nat) fun (n29 : Int) =>
 brS (n29 == (2 : Int))
 (needS (true && decide ((1 : Int) < (↑(List.length k) : Int)))
 (ldIS IntKind.i64 (List.map (IV.int IntKind.i64) k) (1 : Nat) fun (n30 : Int) => Q (IV.int IntKind.i64 (if (n30 == (1 : Int)) = true then (1 : Int) else (0 : Int))) h))
 (Q (IV.int IntKind.i64 (0 : Int)) h)))
 (brS (op == (24 : Int))
 (needS (true && decide ((0 : Int) < (↑(List.length k) : Int)))
 (ldIS IntKind.i64 (List.map (IV.int IntKind.i64) k) (0 : Nat) fun (n31 : Int) => Q (IV.int IntKind.i64 (if (n31 == (2 : Int)) = true then (1 : Int) else (0 : Int))) h))
 (brS (op == (25 : Int))
 (needS (true && decide ((0 : Int) < (↑(List.length k) : Int)))
 (ldIS IntKind.i64 (List.map (IV.int IntKind.i64) k) (0 : Nat) fun (n32 : Int) =>
 brS (n32 != (3 : Int)) (Q (IV.int IntKind.i64 (0 : Int)) h)
 (needS (true && decide ((0 : Int) < (↑(List.length ks) : Int)))
 (ldIS IntKind.i64 (List.map (IV.int IntKind.i64) ks) (0 : Nat) fun (n33 : Int) =>
 needS (decide ((0 : Int) ≤ n33) && decide (n33 < (↑(List.length l) : Int)))
 (ldVS (1 : Nat) (List.flatMap cN l) (Int.toNat n33 * (3 : Nat) + (2 : Nat)) fun (i34 : Option Nat) (e35 l36 : Nat) (c37 : List IV) =>
 brS (decide (im ≥ IntKind.wrap IntKind.i64 (Int.tdiv (↑l36 : Int) (2 : Int)))) (Q (IV.int IntKind.i64 (0 : Int)) h)
 (Q (IV.int IntKind.i64 (IntKind.wrap IntKind.i64 ((if (im == (0 : Int)) = true then (1 : Int) else (0 : Int)) + (1 : Int)))) h))))))
 (brS (op == (27 : Int))
 (needS (true && decide ((0 : Int) < (↑(List.length k) : Int)))
 (ldIS IntKind.i64 (List.map (IV.int IntKind.i64) k) (0 : Nat) fun (n38 : Int) =>
 brS (n38 == (2 : Int))
 (needS (true && decide ((1 : Int) < (↑(List.length k) : Int)))
 (ldIS IntKind.i64 (List.map (IV.int IntKind.i64) k) (1 : Nat) fun (n39 : Int) => Q (IV.int IntKind.i64 (if (n39 == (1 : Int)) = true then (2 : Int) else (0 : Int))) h))
 (Q (IV.int IntKind.i64 (0 : Int)) h)))
 (brS (op == (29 : Int))
 (needS (true && decide ((0 : Int) < (↑(List.length k) : Int)))
 (ldIS IntKind.i64 (List.map (IV.int IntKind.i64) k) (0 : Nat) fun (n40 : Int) =>
 brS (n40 == (2 : Int))
 (needS (true && decide ((1 : Int) < (↑(List.length k) : Int)))
 (ldIS IntKind.i64 (List.map (IV.int IntKind.i64) k) (1 : Nat) fun (n41 : Int) => Q (IV.int IntKind.i64 (if (n41 == (1 : Int)) = true then (2 : Int) else (0 : Int))) h))
 (Q (IV.int IntKind.i64 (0 : Int)) h)))
 (brS (op == (28 : Int))
 (needS (true && decide ((0 : Int) < (↑(List.length k) : Int)))
 (ldIS IntKind.i64 (List.map (IV.int IntKind.i64) k) (0 : Nat) fun (n42 : Int) =>
 brS (n42 == (2 : Int))
 (needS (true && decide ((1 : Int) < (↑(List.length k) : Int)))
 (ldIS IntKind.i64 (List.map (IV.int IntKind.i64) k) (1 : Nat) fun (n43 : Int) =>
 brS (n43 == (1 : Int))
 (needS (true && decide ((2 : Int) < (↑(List.length k) : Int)))
 (ldIS IntKind.i64 (List.map (IV.int IntKind.i64) k) (2 : Nat) fun (n44 : Int) => Q (IV.int IntKind.i64 (if (n44 == (1 : Int)) = true then (2 : Int) else (0 : Int))) h))
 (Q (IV.int IntKind.i64 (0 : Int)) h)))
 (Q (IV.int IntKind.i64 (0 : Int)) h)))
 (brS (op == (30 : Int))
 (brS (decide ((↑(List.length k) : Int) ≥ (1 : Int)))
 (brS (decide ((↑(List.length k) : Int) ≤ (7 : Int)))
 (needS (true && decide ((0 : Int) < (↑(List.length k) : Int)))
 (ldIS IntKind.i64 (List.map (IV.int IntKind.i64) k) (0 : Nat) fun (n45 : Int) =>
 brS (n45 == (2 : Int))
 (needS (true && (decide ((1 : Int) ≤ (↑(List.length k) : Int)) && decide ((↑(List.length k) : Int) ≤ (↑(List.length k) : Int))))
 (∃ (k_1 : List Int),
 (Int.toNat (↑(List.length k) : Int) - (1 : Nat) = List.length k_1 ∧
 List.take ((Int.toNat (↑(List.length k) : Int) - (1 : Nat)) * (1 : Nat)) (List.drop (1 : Nat) (List.map (IV.int IntKind.i64) k)) = List.map (IV.int IntKind.i64) k_1) ∧
 List.length k_1 ≤ (1000000000 : Nat) ∧ Q (IV.int IntKind.i64 (if (List.all k_1 fun (x : Int) => decide (x = (1 : Int))) = true then (2 : Int) else (0 : Int))) h))
 (Q (IV.int IntKind.i64 (0 : Int)) h)))
 (Q (IV.int IntKind.i64 (0 : Int)) h))
 (Q (IV.int IntKind.i64 (0 : Int)) h))
 (brS (op == (31 : Int))
 (brS (Int.tmod (↑(List.length k) : Int) (2 : Int) == (1 : Int))
 (brS (decide (IntKind.wrap IntKind.i64 (Int.tdiv (↑(List.length k) : Int) (2 : Int)) ≥ (1 : Int)))
 (brS (decide (IntKind.wrap IntKind.i64 (Int.tdiv (↑(List.length k) : Int) (2 : Int)) ≤ (16 : Int)))
 (needS (true && decide ((0 : Int) < (↑(List.length k) : Int)))
 (ldIS IntKind.i64 (List.map (IV.int IntKind.i64) k) (0 : Nat) fun (n46 : Int) =>
 brS (n46 == (2 : Int))
 (needS
 (true &&
 (decide ((1 : Int) ≤ IntKind.wrap IntKind.i64 (IntKind.wrap IntKind.i64 (Int.tdiv (↑(List.length k) : Int) (2 : Int)) + (1 : Int))) &&
 decide (IntKind.wrap IntKind.i64 (IntKind.wrap IntKind.i64 (Int.tdiv (↑(List.length k) : Int) (2 : Int)) + (1 : Int)) ≤ (↑(List.length k) : Int))))
 (∃ (k_1 : List Int),
 (Int.toNat (IntKind.wrap IntKind.i64 (IntKind.wrap IntKind.i64 (Int.tdiv (↑(List.length k) : Int) (2 : Int)) + (1 : Int))) - (1 : Nat) = List.length k_1 ∧
 List.take ((Int.toNat (IntKind.wrap IntKind.i64 (IntKind.wrap IntKind.i64 (Int.tdiv (↑(List.length k) : Int) (2 : Int)) + (1 : Int))) - (1 : Nat)) * (1 : Nat))
 (List.drop (1 : Nat) (List.map (IV.int IntKind.i64) k)) =
 List.map (IV.int IntKind.i64) k_1) ∧
 List.length k_1 ≤ (1000000000 : Nat) ∧
 brS (List.all k_1 fun (x : Int) => decide (x = (1 : Int)))
 (needS
 (decide ((0 : Int) ≤ IntKind.wrap IntKind.i64 (IntKind.wrap IntKind.i64 (Int.tdiv (↑(List.length k) : Int) (2 : Int)) + (1 : Int))) &&
 decide (IntKind.wrap IntKind.i64 (IntKind.wrap IntKind.i64 (Int.tdiv (↑(List.length k) : Int) (2 : Int)) + (1 : Int)) < (↑(List.length k) : Int)))
 (ldIS IntKind.i64 (List.map (IV.int IntKind.i64) k)
 (Int.toNat (IntKind.wrap IntKind.i64 (IntKind.wrap IntKind.i64 (Int.tdiv (↑(List.length k) : Int) (2 : Int)) + (1 : Int))) * (1 : Nat)) fun (n47 : Int) =>
 brS (n47 == (2 : Int))
 (needS
 (decide ((0 : Int) ≤ IntKind.wrap IntKind.i64 (IntKind.wrap IntKind.i64 (Int.tdiv (↑(List.length k) : Int) (2 : Int)) + (2 : Int))) &&
 (decide (IntKind.wrap IntKind.i64 (IntKind.wrap IntKind.i64 (Int.tdiv (↑(List.length k) : Int) (2 : Int)) + (2 : Int)) ≤ (↑(List.length k) : Int)) &&
 decide ((↑(List.length k) : Int) ≤ (↑(List.length k) : Int))))
 (∃ (k_2 : List Int),
 (Int.toNat (↑(List.length k) : Int) - Int.toNat (IntKind.wrap IntKind.i64 (IntKind.wrap IntKind.i64 (Int.tdiv (↑(List.length k) : Int) (2 : Int)) + (2 : Int))) =
 List.length k_2 ∧
 List.take
 ((Int.toNat (↑(List.length k) : Int) - Int.toNat (IntKind.wrap IntKind.i64 (IntKind.wrap IntKind.i64 (Int.tdiv (↑(List.length k) : Int) (2 : Int)) + (2 : Int)))) *
 (1 : Nat))
 (List.drop (Int.toNat (IntKind.wrap IntKind.i64 (IntKind.wrap IntKind.i64 (Int.tdiv (↑(List.length k) : Int) (2 : Int)) + (2 : Int))) * (1 : Nat))
 (List.map (IV.int IntKind.i64) k)) =
 List.map (IV.int IntKind.i64) k_2) ∧
 List.length k_2 ≤ (1000000000 : Nat) ∧ Q (IV.int IntKind.i64 (if (List.all k_2 fun (x : Int) => decide (x = (1 : Int))) = true then (3 : Int) else (0 : Int))) h))
 (Q (IV.int IntKind.i64 (0 : Int)) h)))
 (Q (IV.int IntKind.i64 (0 : Int)) h)))
 (Q (IV.int IntKind.i64 (0 : Int)) h)))
 (Q (IV.int IntKind.i64 (0 : Int)) h))
 (Q (IV.int IntKind.i64 (0 : Int)) h))
 (Q (IV.int IntKind.i64 (0 : Int)) h))
 (∃ (k_1 : List Int),
 (List.length k = List.length k_1 ∧ List.map (IV.int IntKind.i64) k = List.map (IV.int IntKind.i64) k_1) ∧
 List.length k_1 ≤ (1000000000 : Nat) ∧ Q (IV.int IntKind.i64 (if (List.all k_1 fun (x : Int) => decide (x = (1 : Int))) = true then (1 : Int) else (0 : Int))) h)))))))))))))))) := by kernel_rfl
set_option maxHeartbeats 2000000 in
theorem sNSort : ∀ xs h Q, kNSort xs h Q → CallW env 38 xs h Q := by
  intro xs h Q hk
  unfold kNSort at hk
  split at hk
  · rename_i e0 n0 c0 op im e1 n1 c1 e2 n2 c2
    obtain ⟨l, ks, k, ⟨rfl, rfl⟩, ⟨rfl, rfl⟩, ⟨rfl, rfl⟩, hb, hk⟩ := hk
    refine dF_run (okAllV) (vNSort l op im ks k e0 e1 e2 h Q) ?_
    obtain ⟨hop, hkk, hkl⟩ := hb
    refine needS_intro (by simp only [pureL, pureB, pureL_ints, pureL_cN, Bool.and_true]) (brS_intro (fun c => ?_) (fun c0 => ?_))
    · unfold nsort at hk
      rw [if_pos (.inl (by simpa using c))] at hk
      exact hk
    rw [Bool.not_eq_false'] at c0
    have hz : ((k.length : Int) ≠ ar op ∨ vImm op im = false) → Q (.int .i64 0) h := fun e => by
      unfold nsort at hk
      rw [if_pos (.inr e)] at hk
      exact hk
    have har : op ≠ 30 → op ≠ 31 → 0 ≤ ar op := by unfold ar; repeat' split <;> omega
    refine brS_intro (fun _ => ?_) (fun c => by rw [decide_eq_false_iff_not] at c; exact absurd (har hop.2.1 hop.2.2) (by omega))
    refine brS_intro (fun c => hz (.inl (by rw [← hkk]; exact bne_iff_ne.1 c))) (fun c1 => brS_intro (fun c => hz (.inr (by simpa using c))) (fun c2 => ?_))
    rw [bne_eq_false_iff_eq, hkk] at c1
    rw [Bool.not_eq_false'] at c2
    rw [nsort_ops hop c0 c1 c2] at hk
    have rest : ∀ {o : Int}, (op == o) = false → ¬ op = o := fun c => by simpa using c
    refine brS_intro (fun c => ?_) (fun c3 => ?_)
    · have e := beq_iff_eq.1 c
      subst e
      rw [if_pos rfl] at hk
      have hi : 0 ≤ im := by
        unfold vImm at c2
        rw [decide_eq_true_eq] at c2
        have : mxI 3 = 255 := by decide
        omega
      rw [Int.tmod_eq_emod_of_nonneg hi]
      refine brS_intro (fun d => ?_) (fun d => ?_)
      · rw [if_pos (beq_iff_eq.1 d)] at hk
        exact hk
      · rw [if_neg (by simpa using d)] at hk
        exact hk
    rw [if_neg (rest c3)] at hk
    refine brS_intro (fun c => ?_) (fun c26 => ?_)
    · have e := beq_iff_eq.1 c
      rw [if_pos e] at hk
      exact hk
    rw [if_neg (rest c26)] at hk
    refine brS_intro (fun c => ?_) (fun c22 => ?_)
    · have e := beq_iff_eq.1 c
      subst e
      rw [if_pos rfl] at hk
      have h3 : k.length = 3 := by have : ar 22 = 3 := by decide
                                   omega
      match k, h3 with
      | [a, b, c], _ =>
        repeat' (first | refine needS_intro (by simp) ?_ | refine ldIS_map (by simp) ?_ | refine brS_intro (fun _ => ?_) (fun _ => ?_))
        all_goals
          refine q_eq hk ?_
          simp only [IV.int.injEq, true_and]
          simp_all
    rw [if_neg (rest c22)] at hk
    refine brS_intro (fun c => ?_) (fun c23 => ?_)
    · have e := beq_iff_eq.1 c
      subst e
      rw [if_pos rfl] at hk
      have h3 : k.length = 2 := by have : ar 23 = 2 := by decide
                                   omega
      match k, h3 with
      | [a, b], _ =>
        repeat' (first | refine needS_intro (by simp) ?_ | refine ldIS_map (by simp) ?_ | refine brS_intro (fun _ => ?_) (fun _ => ?_))
        all_goals
          refine q_eq hk ?_
          simp only [IV.int.injEq, true_and]
          simp_all
    rw [if_neg (rest c23)] at hk
    refine brS_intro (fun c => ?_) (fun c24 => ?_)
    · have e := beq_iff_eq.1 c
      subst e
      rw [if_pos rfl] at hk
      have h3 : k.length = 1 := by have : ar 24 = 1 := by decide
                                   omega
      match k, h3 with
      | [a], _ =>
        repeat' (first | refine needS_intro (by simp) ?_ | refine ldIS_map (by simp) ?_ | refine brS_intro (fun _ => ?_) (fun _ => ?_))
        all_goals
          refine q_eq hk ?_
          simp only [IV.int.injEq, true_and]
          simp_all
    rw [if_neg (rest c24)] at hk
    refine brS_intro (fun c => absurd (beq_iff_eq.1 c) hop.1) (fun _ => brS_intro (fun c => ?_) (fun c27 => brS_intro (fun c => ?_) (fun c29 => ?_)))
    · have e := beq_iff_eq.1 c
      subst e
      rw [if_pos (.inl rfl)] at hk
      have h3 : k.length = 2 := by have : ar 27 = 2 := by decide
                                   omega
      match k, h3 with
      | [a, b], _ =>
        repeat' (first | refine needS_intro (by simp) ?_ | refine ldIS_map (by simp) ?_ | refine brS_intro (fun _ => ?_) (fun _ => ?_))
        all_goals
          refine q_eq hk ?_
          simp only [IV.int.injEq, true_and]
          simp_all
    · have e := beq_iff_eq.1 c
      subst e
      rw [if_pos (.inr rfl)] at hk
      have h3 : k.length = 2 := by have : ar 29 = 2 := by decide
                                   omega
      match k, h3 with
      | [a, b], _ =>
        repeat' (first | refine needS_intro (by simp) ?_ | refine ldIS_map (by simp) ?_ | refine brS_intro (fun _ => ?_) (fun _ => ?_))
        all_goals
          refine q_eq hk ?_
          simp only [IV.int.injEq, true_and]
          simp_all
    rw [if_neg (fun e => e.elim (rest c27) (rest c29))] at hk
    refine brS_intro (fun c => ?_) (fun c28 => ?_)
    · have e := beq_iff_eq.1 c
      subst e
      rw [if_pos rfl] at hk
      have h3 : k.length = 3 := by have : ar 28 = 3 := by decide
                                   omega
      match k, h3 with
      | [a, b, c], _ =>
        repeat' (first | refine needS_intro (by simp) ?_ | refine ldIS_map (by simp) ?_ | refine brS_intro (fun _ => ?_) (fun _ => ?_))
        all_goals
          refine q_eq hk ?_
          simp only [IV.int.injEq, true_and]
          simp_all
    rw [if_neg (rest c28)] at hk
    exact brS_intro (fun c => absurd (beq_iff_eq.1 c) hop.2.1) (fun _ => brS_intro (fun c => absurd (beq_iff_eq.1 c) hop.2.2) (fun _ => ⟨k, ⟨rfl, rfl⟩, hkl, hk⟩))
  · exact hk.elim
def cNSort := addC 38 kNSort cAllV
theorem okNSort : Sound env cNSort := sound_add sNSort (okAllV)

/-- at the outer loop: no sort so far, or some -/
def soInv (l : List Nd) : Inv' := .or
  (atX Heap (fun _ => [(0, .v (.vslice none 0 (l).length 3 ((l).flatMap cN))), (4, .v (.int .i64 0)), (3, .v .nilslice)]) (fun _ => []) (fun x => x) (fun _ => True) (fun _ => l.length))
  (atX (Nat × Nat × Heap) (fun x => [(0, .v (.vslice none 0 (l).length 3 ((l).flatMap cN))), (4, .v (.int .i64 x.1)), (3, .v (.vslice (some x.2.1) x.1 x.1 1 ((sortsA (l.take x.1)).map (IV.int .i64))))]) (fun _ => []) (fun x => x.2.2) (fun x => SO l x.1 x.2.1 x.2.2) (fun x => l.length - x.1))
def siInv (l : List Nd) : Inv' := .or
  (atX Heap (fun _ => [(0, .v (.vslice none 0 (l).length 3 ((l).flatMap cN))), (4, .v (.int .i64 0)), (3, .v .nilslice), (5, .v .nilslice), (6, .v (.bool true)), (7, .v (.int .i64 0))]) (fun _ => []) (fun x => x) (fun _ => 0 < l.length) (fun _ => l.length * 1000002 + kRest l 0 0))
  (.or
  (atX (Nat × Nat × Heap) (fun x => [(0, .v (.vslice none 0 (l).length 3 ((l).flatMap cN))), (4, .v (.int .i64 x.1)), (3, .v (.vslice (some x.2.1) x.1 x.1 1 ((sortsA (l.take x.1)).map (IV.int .i64)))), (5, .v .nilslice), (6, .v (.bool true)), (7, .v (.int .i64 0))]) (fun _ => []) (fun x => x.2.2) (fun x => x.1 < l.length ∧ SO l x.1 x.2.1 x.2.2) (fun x => (l.length - x.1) * 1000002 + kRest l x.1 0))
  (atX (Nat × Nat × Heap × Nat × List Int × Nat) (fun x => [(0, .v (.vslice none 0 (l).length 3 ((l).flatMap cN))), (4, .v (.int .i64 x.1)), (3, .v (.vslice (some x.2.1) x.1 x.1 1 ((sortsA (l.take x.1)).map (IV.int .i64)))), (5, .v (.vslice (some x.2.2.2.2.2) x.2.2.2.2.1.length x.2.2.2.2.1.length 1 (x.2.2.2.2.1.map (IV.int .i64)))), (6, .v (.bool true)), (7, .v (.int .i64 x.2.2.2.1))]) (fun _ => []) (fun x => x.2.2.1)
    (fun x => x.1 < l.length ∧ SO l x.1 x.2.1 x.2.2.1 ∧ SI l x.1 x.2.2.2.1 x.2.2.2.2.1 ∧ SK x.2.2.2.2.1 x.2.1 x.2.2.2.2.2 x.2.2.1) (fun x => (l.length - x.1) * 1000002 + kRest l x.1 x.2.2.2.1)))
def kSorts (xs : List IV) (h : Heap) (K : IV → Heap → Prop) : Prop := match xs with
  | [.vslice none e1 n1 3 c1] => ∃ l : List Nd, (n1 = l.length ∧ c1 = l.flatMap cN) ∧ ((∀ x ∈ l, x.ks.length ≤ 1000000 ∧ x.op ≠ 25 ∧ x.op ≠ 30 ∧ x.op ≠ 31) ∧ l.length ≤ 1000000) ∧ K (.vslice none 0 (sortsA l).length 1 ((sortsA l).map (IV.int .i64))) h
  | _ => False
set_option maxRecDepth 100000 in
theorem vSorts (l : List Nd) (e1 : Nat) (h : Heap) (Q : IV → Heap → Prop) : dF (stdS cNSort) env 26 noU (icA 4 (soInv l) (ic1 1000009 (siInv l))) noI [.vslice none e1 (l).length 3 ((l).flatMap cN)] h Q = (
  needS (pureL [IV.vslice none (0 : Nat) (List.length l) (3 : Nat) (List.flatMap cN l)])
 (((∃ (x : Heap),
 some (TV.v (IV.vslice none (0 : Nat) (List.length l) (3 : Nat) (List.flatMap cN l))) = some (TV.v (IV.vslice none (0 : Nat) (List.length l) (3 : Nat) (List.flatMap cN l))) ∧
 some (TV.v (IV.int IntKind.i64 (0 : Int))) = some (TV.v (IV.int IntKind.i64 (0 : Int))) ∧ some (TV.v IV.nilslice) = some (TV.v IV.nilslice) ∧ Heap.mk PT.nil (0 : Nat) = x ∧ True ∧ True) ∨
 ∃ (x : Nat × Nat × Heap),
 some (TV.v (IV.vslice none (0 : Nat) (List.length l) (3 : Nat) (List.flatMap cN l))) = some (TV.v (IV.vslice none (0 : Nat) (List.length l) (3 : Nat) (List.flatMap cN l))) ∧
 some (TV.v (IV.int IntKind.i64 (0 : Int))) = some (TV.v (IV.int IntKind.i64 (↑(Prod.fst x) : Int))) ∧
 some (TV.v IV.nilslice) = some (TV.v (IV.vslice (some (Prod.fst (Prod.snd x))) (Prod.fst x) (Prod.fst x) (1 : Nat) (List.map (IV.int IntKind.i64) (sortsA (List.take (Prod.fst x) l))))) ∧
 Heap.mk PT.nil (0 : Nat) = Prod.snd (Prod.snd x) ∧
 (((0 : Nat) < Prod.fst x ∧ Prod.fst x ≤ List.length l) ∧ Heap.get (Prod.snd (Prod.snd x)) (Prod.fst (Prod.snd x)) = IObj.tip (Prod.fst x) ∧ Prod.fst (Prod.snd x) < Heap.next (Prod.snd (Prod.snd x))) ∧ True) ∧
 (∀ (x : Heap) (b : FF),
 True →
 brS (decide ((0 : Int) < (↑(List.length l) : Int)))
 (∃ (M : Nat),
 ((∃ (x_1 : Heap),
 some (TV.v (IV.vslice none (0 : Nat) (List.length l) (3 : Nat) (List.flatMap cN l))) = some (TV.v (IV.vslice none (0 : Nat) (List.length l) (3 : Nat) (List.flatMap cN l))) ∧
 some (TV.v (IV.int IntKind.i64 (0 : Int))) = some (TV.v (IV.int IntKind.i64 (0 : Int))) ∧
 some (TV.v IV.nilslice) = some (TV.v IV.nilslice) ∧
 some (TV.v IV.nilslice) = some (TV.v IV.nilslice) ∧
 some (TV.v (IV.bool true)) = some (TV.v (IV.bool true)) ∧
 some (TV.v (IV.int IntKind.i64 (0 : Int))) = some (TV.v (IV.int IntKind.i64 (0 : Int))) ∧ x = x_1 ∧ Nat.le (1 : Nat) (List.length l) ∧ List.length l * (1000002 : Nat) + kRest l (0 : Nat) (0 : Nat) ≤ M) ∨
 (∃ (x_1 : Nat × Nat × Heap),
 some (TV.v (IV.vslice none (0 : Nat) (List.length l) (3 : Nat) (List.flatMap cN l))) = some (TV.v (IV.vslice none (0 : Nat) (List.length l) (3 : Nat) (List.flatMap cN l))) ∧
 some (TV.v (IV.int IntKind.i64 (0 : Int))) = some (TV.v (IV.int IntKind.i64 (↑(Prod.fst x_1) : Int))) ∧
 some (TV.v IV.nilslice) = some (TV.v (IV.vslice (some (Prod.fst (Prod.snd x_1))) (Prod.fst x_1) (Prod.fst x_1) (1 : Nat) (List.map (IV.int IntKind.i64) (sortsA (List.take (Prod.fst x_1) l))))) ∧
 some (TV.v IV.nilslice) = some (TV.v IV.nilslice) ∧
 some (TV.v (IV.bool true)) = some (TV.v (IV.bool true)) ∧
 some (TV.v (IV.int IntKind.i64 (0 : Int))) = some (TV.v (IV.int IntKind.i64 (0 : Int))) ∧
 x = Prod.snd (Prod.snd x_1) ∧
 (Prod.fst x_1 < List.length l ∧ SO l (Prod.fst x_1) (Prod.fst (Prod.snd x_1)) (Prod.snd (Prod.snd x_1))) ∧ (List.length l - Prod.fst x_1) * (1000002 : Nat) + kRest l (Prod.fst x_1) (0 : Nat) ≤ M) ∨
 ∃ (x_1 : Nat × Nat × Heap × Nat × List Int × Nat),
 some (TV.v (IV.vslice none (0 : Nat) (List.length l) (3 : Nat) (List.flatMap cN l))) = some (TV.v (IV.vslice none (0 : Nat) (List.length l) (3 : Nat) (List.flatMap cN l))) ∧
 some (TV.v (IV.int IntKind.i64 (0 : Int))) = some (TV.v (IV.int IntKind.i64 (↑(Prod.fst x_1) : Int))) ∧
 some (TV.v IV.nilslice) = some (TV.v (IV.vslice (some (Prod.fst (Prod.snd x_1))) (Prod.fst x_1) (Prod.fst x_1) (1 : Nat) (List.map (IV.int IntKind.i64) (sortsA (List.take (Prod.fst x_1) l))))) ∧
 some (TV.v IV.nilslice) =
 some
 (TV.v
 (IV.vslice (some (Prod.snd (Prod.snd (Prod.snd (Prod.snd (Prod.snd x_1)))))) (List.length (Prod.fst (Prod.snd (Prod.snd (Prod.snd (Prod.snd x_1))))))
 (List.length (Prod.fst (Prod.snd (Prod.snd (Prod.snd (Prod.snd x_1)))))) (1 : Nat) (List.map (IV.int IntKind.i64) (Prod.fst (Prod.snd (Prod.snd (Prod.snd (Prod.snd x_1)))))))) ∧
 some (TV.v (IV.bool true)) = some (TV.v (IV.bool true)) ∧
 some (TV.v (IV.int IntKind.i64 (0 : Int))) = some (TV.v (IV.int IntKind.i64 (↑(Prod.fst (Prod.snd (Prod.snd (Prod.snd x_1)))) : Int))) ∧
 x = Prod.fst (Prod.snd (Prod.snd x_1)) ∧
 (Prod.fst x_1 < List.length l ∧
 SO l (Prod.fst x_1) (Prod.fst (Prod.snd x_1)) (Prod.fst (Prod.snd (Prod.snd x_1))) ∧
 SI l (Prod.fst x_1) (Prod.fst (Prod.snd (Prod.snd (Prod.snd x_1)))) (Prod.fst (Prod.snd (Prod.snd (Prod.snd (Prod.snd x_1))))) ∧
 SK (Prod.fst (Prod.snd (Prod.snd (Prod.snd (Prod.snd x_1))))) (Prod.fst (Prod.snd x_1)) (Prod.snd (Prod.snd (Prod.snd (Prod.snd (Prod.snd x_1))))) (Prod.fst (Prod.snd (Prod.snd x_1)))) ∧
 (List.length l - Prod.fst x_1) * (1000002 : Nat) + kRest l (Prod.fst x_1) (Prod.fst (Prod.snd (Prod.snd (Prod.snd x_1)))) ≤ M) ∧
 (∀ (x : Heap) (b : FF),
 (0 : Nat) < List.length l →
 List.length l * (1000002 : Nat) + kRest l (0 : Nat) (0 : Nat) ≤ M →
 needS (true && decide ((0 : Int) < (↑(List.length l) : Int)))
 (ldVS (1 : Nat) (List.flatMap cN l) (2 : Nat) fun (i0 : Option Nat) (e1 l2 : Nat) (c3 : List IV) =>
 brS (decide ((0 : Int) < (↑l2 : Int)))
 (needS (true && decide ((0 : Int) < (↑(List.length l) : Int)))
 (ldVS (1 : Nat) (List.flatMap cN l) (2 : Nat) fun (i4 : Option Nat) (e5 l6 : Nat) (c7 : List IV) =>
 needS (true && decide ((0 : Int) < (↑l6 : Int)))
 (ldIS IntKind.i64 c7 (0 : Nat) fun (n8 : Int) =>
 brS (decide (n8 < (0 : Int)))
 ((∃ (x_1 : Heap),
 some (TV.v (IV.vslice none (0 : Nat) (List.length l) (3 : Nat) (List.flatMap cN l))) = some (TV.v (IV.vslice none (0 : Nat) (List.length l) (3 : Nat) (List.flatMap cN l))) ∧
 some (TV.v (IV.int IntKind.i64 (1 : Int))) = some (TV.v (IV.int IntKind.i64 (0 : Int))) ∧
 some (TV.v (IV.vslice (some (Heap.next x)) (1 : Nat) (1 : Nat) (1 : Nat) [IV.int IntKind.i64 (0 : Int)])) = some (TV.v IV.nilslice) ∧
 Heap.push x (IObj.tip (1 : Nat)) = x_1 ∧ True ∧ List.length l < List.length l) ∨
 ∃ (x_1 : Nat × Nat × Heap),
 some (TV.v (IV.vslice none (0 : Nat) (List.length l) (3 : Nat) (List.flatMap cN l))) = some (TV.v (IV.vslice none (0 : Nat) (List.length l) (3 : Nat) (List.flatMap cN l))) ∧
 some (TV.v (IV.int IntKind.i64 (1 : Int))) = some (TV.v (IV.int IntKind.i64 (↑(Prod.fst x_1) : Int))) ∧
 some (TV.v (IV.vslice (some (Heap.next x)) (1 : Nat) (1 : Nat) (1 : Nat) [IV.int IntKind.i64 (0 : Int)])) =
 some (TV.v (IV.vslice (some (Prod.fst (Prod.snd x_1))) (Prod.fst x_1) (Prod.fst x_1) (1 : Nat) (List.map (IV.int IntKind.i64) (sortsA (List.take (Prod.fst x_1) l))))) ∧
 Heap.push x (IObj.tip (1 : Nat)) = Prod.snd (Prod.snd x_1) ∧
 (((0 : Nat) < Prod.fst x_1 ∧ Prod.fst x_1 ≤ List.length l) ∧
 Heap.get (Prod.snd (Prod.snd x_1)) (Prod.fst (Prod.snd x_1)) = IObj.tip (Prod.fst x_1) ∧ Prod.fst (Prod.snd x_1) < Heap.next (Prod.snd (Prod.snd x_1))) ∧
 List.length l - Prod.fst x_1 < List.length l)
 (brS (decide (n8 ≥ (0 : Int)))
 ((∃ (x_1 : Heap),
 some (TV.v (IV.vslice none (0 : Nat) (List.length l) (3 : Nat) (List.flatMap cN l))) = some (TV.v (IV.vslice none (0 : Nat) (List.length l) (3 : Nat) (List.flatMap cN l))) ∧
 some (TV.v (IV.int IntKind.i64 (1 : Int))) = some (TV.v (IV.int IntKind.i64 (0 : Int))) ∧
 some (TV.v (IV.vslice (some (Heap.next x)) (1 : Nat) (1 : Nat) (1 : Nat) [IV.int IntKind.i64 (0 : Int)])) = some (TV.v IV.nilslice) ∧
 Heap.push x (IObj.tip (1 : Nat)) = x_1 ∧ True ∧ List.length l < List.length l) ∨
 ∃ (x_1 : Nat × Nat × Heap),
 some (TV.v (IV.vslice none (0 : Nat) (List.length l) (3 : Nat) (List.flatMap cN l))) = some (TV.v (IV.vslice none (0 : Nat) (List.length l) (3 : Nat) (List.flatMap cN l))) ∧
 some (TV.v (IV.int IntKind.i64 (1 : Int))) = some (TV.v (IV.int IntKind.i64 (↑(Prod.fst x_1) : Int))) ∧
 some (TV.v (IV.vslice (some (Heap.next x)) (1 : Nat) (1 : Nat) (1 : Nat) [IV.int IntKind.i64 (0 : Int)])) =
 some (TV.v (IV.vslice (some (Prod.fst (Prod.snd x_1))) (Prod.fst x_1) (Prod.fst x_1) (1 : Nat) (List.map (IV.int IntKind.i64) (sortsA (List.take (Prod.fst x_1) l))))) ∧
 Heap.push x (IObj.tip (1 : Nat)) = Prod.snd (Prod.snd x_1) ∧
 (((0 : Nat) < Prod.fst x_1 ∧ Prod.fst x_1 ≤ List.length l) ∧
 Heap.get (Prod.snd (Prod.snd x_1)) (Prod.fst (Prod.snd x_1)) = IObj.tip (Prod.fst x_1) ∧ Prod.fst (Prod.snd x_1) < Heap.next (Prod.snd (Prod.snd x_1))) ∧
 List.length l - Prod.fst x_1 < List.length l)
 False))))
 (needS (true && decide ((0 : Int) < (↑(List.length l) : Int)))
 (ldIS IntKind.i64 (List.flatMap cN l) (0 : Nat) fun (n9 : Int) =>
 ldIS IntKind.i64 (List.flatMap cN l) (1 : Nat) fun (n10 : Int) =>
 ldVS (1 : Nat) (List.flatMap cN l) (2 : Nat) fun (i11 : Option Nat) (e12 l13 : Nat) (c14 : List IV) =>
 ∃ (l_1 : List Nd),
 ∃ (ks : List Int),
 ∃ (k : List Int),
 (List.length l = List.length l_1 ∧ List.flatMap cN l = List.flatMap cN l_1) ∧
 (l13 = List.length ks ∧ c14 = List.map (IV.int IntKind.i64) ks) ∧
 ((0 : Nat) = List.length k ∧ [] = List.map (IV.int IntKind.i64) k) ∧
 ((n9 ≠ (25 : Int) ∧ n9 ≠ (30 : Int) ∧ n9 ≠ (31 : Int)) ∧ List.length ks = List.length k ∧ List.length k ≤ (1000000000 : Nat)) ∧
 ((∃ (x_1 : Heap),
 some (TV.v (IV.vslice none (0 : Nat) (List.length l) (3 : Nat) (List.flatMap cN l))) = some (TV.v (IV.vslice none (0 : Nat) (List.length l) (3 : Nat) (List.flatMap cN l))) ∧
 some (TV.v (IV.int IntKind.i64 (1 : Int))) = some (TV.v (IV.int IntKind.i64 (0 : Int))) ∧
 some (TV.v (IV.vslice (some (Heap.next x)) (1 : Nat) (1 : Nat) (1 : Nat) [IV.int IntKind.i64 (nsort n9 n10 k)])) = some (TV.v IV.nilslice) ∧
 Heap.push x (IObj.tip (1 : Nat)) = x_1 ∧ True ∧ List.length l < List.length l) ∨
 ∃ (x_1 : Nat × Nat × Heap),
 some (TV.v (IV.vslice none (0 : Nat) (List.length l) (3 : Nat) (List.flatMap cN l))) = some (TV.v (IV.vslice none (0 : Nat) (List.length l) (3 : Nat) (List.flatMap cN l))) ∧
 some (TV.v (IV.int IntKind.i64 (1 : Int))) = some (TV.v (IV.int IntKind.i64 (↑(Prod.fst x_1) : Int))) ∧
 some (TV.v (IV.vslice (some (Heap.next x)) (1 : Nat) (1 : Nat) (1 : Nat) [IV.int IntKind.i64 (nsort n9 n10 k)])) =
 some (TV.v (IV.vslice (some (Prod.fst (Prod.snd x_1))) (Prod.fst x_1) (Prod.fst x_1) (1 : Nat) (List.map (IV.int IntKind.i64) (sortsA (List.take (Prod.fst x_1) l))))) ∧
 Heap.push x (IObj.tip (1 : Nat)) = Prod.snd (Prod.snd x_1) ∧
 (((0 : Nat) < Prod.fst x_1 ∧ Prod.fst x_1 ≤ List.length l) ∧
 Heap.get (Prod.snd (Prod.snd x_1)) (Prod.fst (Prod.snd x_1)) = IObj.tip (Prod.fst x_1) ∧ Prod.fst (Prod.snd x_1) < Heap.next (Prod.snd (Prod.snd x_1))) ∧
 List.length l - Prod.fst x_1 < List.length l))))) ∧
 (∀ (x : Nat × Nat × Heap) (b : FF),
 Prod.fst x < List.length l ∧ SO l (Prod.fst x) (Prod.fst (Prod.snd x)) (Prod.snd (Prod.snd x)) →
 (List.length l - Prod.fst x) * (1000002 : Nat) + kRest l (Prod.fst x) (0 : Nat) ≤ M →
 needS (decide ((0 : Int) ≤ (↑(Prod.fst x) : Int)) && decide ((↑(Prod.fst x) : Int) < (↑(List.length l) : Int)))
 (ldVS (1 : Nat) (List.flatMap cN l) (Int.toNat (↑(Prod.fst x) : Int) * (3 : Nat) + (2 : Nat)) fun (i15 : Option Nat) (e16 l17 : Nat) (c18 : List IV) =>
 brS (decide ((0 : Int) < (↑l17 : Int)))
 (needS (decide ((0 : Int) ≤ (↑(Prod.fst x) : Int)) && decide ((↑(Prod.fst x) : Int) < (↑(List.length l) : Int)))
 (ldVS (1 : Nat) (List.flatMap cN l) (Int.toNat (↑(Prod.fst x) : Int) * (3 : Nat) + (2 : Nat)) fun (i19 : Option Nat) (e20 l21 : Nat) (c22 : List IV) =>
 needS (true && decide ((0 : Int) < (↑l21 : Int)))
 (ldIS IntKind.i64 c22 (0 : Nat) fun (n23 : Int) =>
 brS (decide (n23 < (0 : Int)))
 (tipS (Prod.snd (Prod.snd x)) (Prod.fst (Prod.snd x)) fun (m24 : Nat) =>
 needS (Nat.beq m24 (Prod.fst x) && Nat.ble ((Prod.fst x + (1 : Nat)) * (8 : Nat)) (140737488355328 : Nat))
 ((∃ (x_1 : Heap),
 some (TV.v (IV.vslice none (0 : Nat) (List.length l) (3 : Nat) (List.flatMap cN l))) = some (TV.v (IV.vslice none (0 : Nat) (List.length l) (3 : Nat) (List.flatMap cN l))) ∧
 some (TV.v (IV.int IntKind.i64 (IntKind.wrap IntKind.i64 ((↑(Prod.fst x) : Int) + (1 : Int))))) = some (TV.v (IV.int IntKind.i64 (0 : Int))) ∧
 some
 (TV.v
 (IV.vslice (some (Prod.fst (Prod.snd x))) (Prod.fst x + (1 : Nat)) (Prod.fst x + (1 : Nat)) (1 : Nat)
 (List.map (IV.int IntKind.i64) (sortsA (List.take (Prod.fst x) l)) ++ [IV.int IntKind.i64 (0 : Int)]))) =
 some (TV.v IV.nilslice) ∧
 Heap.set (Prod.snd (Prod.snd x)) (Prod.fst (Prod.snd x)) (IObj.tip (Prod.fst x + (1 : Nat))) = x_1 ∧ True ∧ List.length l < List.length l) ∨
 ∃ (x_1 : Nat × Nat × Heap),
 some (TV.v (IV.vslice none (0 : Nat) (List.length l) (3 : Nat) (List.flatMap cN l))) = some (TV.v (IV.vslice none (0 : Nat) (List.length l) (3 : Nat) (List.flatMap cN l))) ∧
 some (TV.v (IV.int IntKind.i64 (IntKind.wrap IntKind.i64 ((↑(Prod.fst x) : Int) + (1 : Int))))) = some (TV.v (IV.int IntKind.i64 (↑(Prod.fst x_1) : Int))) ∧
 some
 (TV.v
 (IV.vslice (some (Prod.fst (Prod.snd x))) (Prod.fst x + (1 : Nat)) (Prod.fst x + (1 : Nat)) (1 : Nat)
 (List.map (IV.int IntKind.i64) (sortsA (List.take (Prod.fst x) l)) ++ [IV.int IntKind.i64 (0 : Int)]))) =
 some (TV.v (IV.vslice (some (Prod.fst (Prod.snd x_1))) (Prod.fst x_1) (Prod.fst x_1) (1 : Nat) (List.map (IV.int IntKind.i64) (sortsA (List.take (Prod.fst x_1) l))))) ∧
 Heap.set (Prod.snd (Prod.snd x)) (Prod.fst (Prod.snd x)) (IObj.tip (Prod.fst x + (1 : Nat))) = Prod.snd (Prod.snd x_1) ∧
 (((0 : Nat) < Prod.fst x_1 ∧ Prod.fst x_1 ≤ List.length l) ∧
 Heap.get (Prod.snd (Prod.snd x_1)) (Prod.fst (Prod.snd x_1)) = IObj.tip (Prod.fst x_1) ∧ Prod.fst (Prod.snd x_1) < Heap.next (Prod.snd (Prod.snd x_1))) ∧
 List.length l - Prod.fst x_1 < List.length l))
 (brS (decide (n23 ≥ (↑(Prod.fst x) : Int)))
 (tipS (Prod.snd (Prod.snd x)) (Prod.fst (Prod.snd x)) fun (m25 : Nat) =>
 needS (Nat.beq m25 (Prod.fst x) && Nat.ble ((Prod.fst x + (1 : Nat)) * (8 : Nat)) (140737488355328 : Nat))
 ((∃ (x_1 : Heap),
 some (TV.v (IV.vslice none (0 : Nat) (List.length l) (3 : Nat) (List.flatMap cN l))) = some (TV.v (IV.vslice none (0 : Nat) (List.length l) (3 : Nat) (List.flatMap cN l))) ∧
 some (TV.v (IV.int IntKind.i64 (IntKind.wrap IntKind.i64 ((↑(Prod.fst x) : Int) + (1 : Int))))) = some (TV.v (IV.int IntKind.i64 (0 : Int))) ∧
 some
 (TV.v
 (IV.vslice (some (Prod.fst (Prod.snd x))) (Prod.fst x + (1 : Nat)) (Prod.fst x + (1 : Nat)) (1 : Nat)
 (List.map (IV.int IntKind.i64) (sortsA (List.take (Prod.fst x) l)) ++ [IV.int IntKind.i64 (0 : Int)]))) =
 some (TV.v IV.nilslice) ∧
 Heap.set (Prod.snd (Prod.snd x)) (Prod.fst (Prod.snd x)) (IObj.tip (Prod.fst x + (1 : Nat))) = x_1 ∧ True ∧ List.length l < List.length l) ∨
 ∃ (x_1 : Nat × Nat × Heap),
 some (TV.v (IV.vslice none (0 : Nat) (List.length l) (3 : Nat) (List.flatMap cN l))) = some (TV.v (IV.vslice none (0 : Nat) (List.length l) (3 : Nat) (List.flatMap cN l))) ∧
 some (TV.v (IV.int IntKind.i64 (IntKind.wrap IntKind.i64 ((↑(Prod.fst x) : Int) + (1 : Int))))) = some (TV.v (IV.int IntKind.i64 (↑(Prod.fst x_1) : Int))) ∧
 some
 (TV.v
 (IV.vslice (some (Prod.fst (Prod.snd x))) (Prod.fst x + (1 : Nat)) (Prod.fst x + (1 : Nat)) (1 : Nat)
 (List.map (IV.int IntKind.i64) (sortsA (List.take (Prod.fst x) l)) ++ [IV.int IntKind.i64 (0 : Int)]))) =
 some (TV.v (IV.vslice (some (Prod.fst (Prod.snd x_1))) (Prod.fst x_1) (Prod.fst x_1) (1 : Nat) (List.map (IV.int IntKind.i64) (sortsA (List.take (Prod.fst x_1) l))))) ∧
 Heap.set (Prod.snd (Prod.snd x)) (Prod.fst (Prod.snd x)) (IObj.tip (Prod.fst x + (1 : Nat))) = Prod.snd (Prod.snd x_1) ∧
 (((0 : Nat) < Prod.fst x_1 ∧ Prod.fst x_1 ≤ List.length l) ∧
 Heap.get (Prod.snd (Prod.snd x_1)) (Prod.fst (Prod.snd x_1)) = IObj.tip (Prod.fst x_1) ∧ Prod.fst (Prod.snd x_1) < Heap.next (Prod.snd (Prod.snd x_1))) ∧
 List.length l - Prod.fst x_1 < List.length l))
 (needS (decide ((0 : Int) ≤ n23) && decide (n23 < (↑(Prod.fst x) : Int)))
 (ldIS IntKind.i64 (List.map (IV.int IntKind.i64) (sortsA (List.take (Prod.fst x) l))) (Int.toNat n23 * (1 : Nat)) fun (n26 : Int) =>
 brS (n26 == (0 : Int))
 (tipS (Prod.snd (Prod.snd x)) (Prod.fst (Prod.snd x)) fun (m27 : Nat) =>
 needS (Nat.beq m27 (Prod.fst x) && Nat.ble ((Prod.fst x + (1 : Nat)) * (8 : Nat)) (140737488355328 : Nat))
 ((∃ (x_1 : Heap),
 some (TV.v (IV.vslice none (0 : Nat) (List.length l) (3 : Nat) (List.flatMap cN l))) = some (TV.v (IV.vslice none (0 : Nat) (List.length l) (3 : Nat) (List.flatMap cN l))) ∧
 some (TV.v (IV.int IntKind.i64 (IntKind.wrap IntKind.i64 ((↑(Prod.fst x) : Int) + (1 : Int))))) = some (TV.v (IV.int IntKind.i64 (0 : Int))) ∧
 some
 (TV.v
 (IV.vslice (some (Prod.fst (Prod.snd x))) (Prod.fst x + (1 : Nat)) (Prod.fst x + (1 : Nat)) (1 : Nat)
 (List.map (IV.int IntKind.i64) (sortsA (List.take (Prod.fst x) l)) ++ [IV.int IntKind.i64 (0 : Int)]))) =
 some (TV.v IV.nilslice) ∧
 Heap.set (Prod.snd (Prod.snd x)) (Prod.fst (Prod.snd x)) (IObj.tip (Prod.fst x + (1 : Nat))) = x_1 ∧ True ∧ List.length l < List.length l) ∨
 ∃ (x_1 : Nat × Nat × Heap),
 some (TV.v (IV.vslice none (0 : Nat) (List.length l) (3 : Nat) (List.flatMap cN l))) = some (TV.v (IV.vslice none (0 : Nat) (List.length l) (3 : Nat) (List.flatMap cN l))) ∧
 some (TV.v (IV.int IntKind.i64 (IntKind.wrap IntKind.i64 ((↑(Prod.fst x) : Int) + (1 : Int))))) = some (TV.v (IV.int IntKind.i64 (↑(Prod.fst x_1) : Int))) ∧
 some
 (TV.v
 (IV.vslice (some (Prod.fst (Prod.snd x))) (Prod.fst x + (1 : Nat)) (Prod.fst x + (1 : Nat)) (1 : Nat)
 (List.map (IV.int IntKind.i64) (sortsA (List.take (Prod.fst x) l)) ++ [IV.int IntKind.i64 (0 : Int)]))) =
 some (TV.v (IV.vslice (some (Prod.fst (Prod.snd x_1))) (Prod.fst x_1) (Prod.fst x_1) (1 : Nat) (List.map (IV.int IntKind.i64) (sortsA (List.take (Prod.fst x_1) l))))) ∧
 Heap.set (Prod.snd (Prod.snd x)) (Prod.fst (Prod.snd x)) (IObj.tip (Prod.fst x + (1 : Nat))) = Prod.snd (Prod.snd x_1) ∧
 (((0 : Nat) < Prod.fst x_1 ∧ Prod.fst x_1 ≤ List.length l) ∧
 Heap.get (Prod.snd (Prod.snd x_1)) (Prod.fst (Prod.snd x_1)) = IObj.tip (Prod.fst x_1) ∧ Prod.fst (Prod.snd x_1) < Heap.next (Prod.snd (Prod.snd x_1))) ∧
 List.length l - Prod.fst x_1 < List.length l))
 (needS (decide ((0 : Int) ≤ n23) && decide (n23 < (↑(Prod.fst x) : Int)))
 (ldIS IntKind.i64 (List.map (IV.int IntKind.i64) (sortsA (List.take (Prod.fst x) l))) (Int.toNat n23 * (1 : Nat)) fun (n28 : Int) =>
 (∃ (x_1 : Heap),
 some (TV.v (IV.vslice none (0 : Nat) (List.length l) (3 : Nat) (List.flatMap cN l))) = some (TV.v (IV.vslice none (0 : Nat) (List.length l) (3 : Nat) (List.flatMap cN l))) ∧
 some (TV.v (IV.int IntKind.i64 (↑(Prod.fst x) : Int))) = some (TV.v (IV.int IntKind.i64 (0 : Int))) ∧
 some (TV.v (IV.vslice (some (Prod.fst (Prod.snd x))) (Prod.fst x) (Prod.fst x) (1 : Nat) (List.map (IV.int IntKind.i64) (sortsA (List.take (Prod.fst x) l))))) =
 some (TV.v IV.nilslice) ∧
 some (TV.v (IV.vslice (some (Heap.next (Prod.snd (Prod.snd x)))) (1 : Nat) (1 : Nat) (1 : Nat) [IV.int IntKind.i64 n28])) = some (TV.v IV.nilslice) ∧
 some (TV.v (IV.bool true)) = some (TV.v (IV.bool true)) ∧
 some (TV.v (IV.int IntKind.i64 (1 : Int))) = some (TV.v (IV.int IntKind.i64 (0 : Int))) ∧
 Heap.push (Prod.snd (Prod.snd x)) (IObj.tip (1 : Nat)) = x_1 ∧
 Nat.le (1 : Nat) (List.length l) ∧
 List.length l * (1000002 : Nat) + kRest l (0 : Nat) (0 : Nat) < (List.length l - Prod.fst x) * (1000002 : Nat) + kRest l (Prod.fst x) (0 : Nat)) ∨
 (∃ (x_1 : Nat × Nat × Heap),
 some (TV.v (IV.vslice none (0 : Nat) (List.length l) (3 : Nat) (List.flatMap cN l))) = some (TV.v (IV.vslice none (0 : Nat) (List.length l) (3 : Nat) (List.flatMap cN l))) ∧
 some (TV.v (IV.int IntKind.i64 (↑(Prod.fst x) : Int))) = some (TV.v (IV.int IntKind.i64 (↑(Prod.fst x_1) : Int))) ∧
 some (TV.v (IV.vslice (some (Prod.fst (Prod.snd x))) (Prod.fst x) (Prod.fst x) (1 : Nat) (List.map (IV.int IntKind.i64) (sortsA (List.take (Prod.fst x) l))))) =
 some (TV.v (IV.vslice (some (Prod.fst (Prod.snd x_1))) (Prod.fst x_1) (Prod.fst x_1) (1 : Nat) (List.map (IV.int IntKind.i64) (sortsA (List.take (Prod.fst x_1) l))))) ∧
 some (TV.v (IV.vslice (some (Heap.next (Prod.snd (Prod.snd x)))) (1 : Nat) (1 : Nat) (1 : Nat) [IV.int IntKind.i64 n28])) = some (TV.v IV.nilslice) ∧
 some (TV.v (IV.bool true)) = some (TV.v (IV.bool true)) ∧
 some (TV.v (IV.int IntKind.i64 (1 : Int))) = some (TV.v (IV.int IntKind.i64 (0 : Int))) ∧
 Heap.push (Prod.snd (Prod.snd x)) (IObj.tip (1 : Nat)) = Prod.snd (Prod.snd x_1) ∧
 (Prod.fst x_1 < List.length l ∧ SO l (Prod.fst x_1) (Prod.fst (Prod.snd x_1)) (Prod.snd (Prod.snd x_1))) ∧
 (List.length l - Prod.fst x_1) * (1000002 : Nat) + kRest l (Prod.fst x_1) (0 : Nat) <
 (List.length l - Prod.fst x) * (1000002 : Nat) + kRest l (Prod.fst x) (0 : Nat)) ∨
 ∃ (x_1 : Nat × Nat × Heap × Nat × List Int × Nat),
 some (TV.v (IV.vslice none (0 : Nat) (List.length l) (3 : Nat) (List.flatMap cN l))) = some (TV.v (IV.vslice none (0 : Nat) (List.length l) (3 : Nat) (List.flatMap cN l))) ∧
 some (TV.v (IV.int IntKind.i64 (↑(Prod.fst x) : Int))) = some (TV.v (IV.int IntKind.i64 (↑(Prod.fst x_1) : Int))) ∧
 some (TV.v (IV.vslice (some (Prod.fst (Prod.snd x))) (Prod.fst x) (Prod.fst x) (1 : Nat) (List.map (IV.int IntKind.i64) (sortsA (List.take (Prod.fst x) l))))) =
 some (TV.v (IV.vslice (some (Prod.fst (Prod.snd x_1))) (Prod.fst x_1) (Prod.fst x_1) (1 : Nat) (List.map (IV.int IntKind.i64) (sortsA (List.take (Prod.fst x_1) l))))) ∧
 some (TV.v (IV.vslice (some (Heap.next (Prod.snd (Prod.snd x)))) (1 : Nat) (1 : Nat) (1 : Nat) [IV.int IntKind.i64 n28])) =
 some
 (TV.v
 (IV.vslice (some (Prod.snd (Prod.snd (Prod.snd (Prod.snd (Prod.snd x_1)))))) (List.length (Prod.fst (Prod.snd (Prod.snd (Prod.snd (Prod.snd x_1))))))
 (List.length (Prod.fst (Prod.snd (Prod.snd (Prod.snd (Prod.snd x_1)))))) (1 : Nat)
 (List.map (IV.int IntKind.i64) (Prod.fst (Prod.snd (Prod.snd (Prod.snd (Prod.snd x_1)))))))) ∧
 some (TV.v (IV.bool true)) = some (TV.v (IV.bool true)) ∧
 some (TV.v (IV.int IntKind.i64 (1 : Int))) = some (TV.v (IV.int IntKind.i64 (↑(Prod.fst (Prod.snd (Prod.snd (Prod.snd x_1)))) : Int))) ∧
 Heap.push (Prod.snd (Prod.snd x)) (IObj.tip (1 : Nat)) = Prod.fst (Prod.snd (Prod.snd x_1)) ∧
 (Prod.fst x_1 < List.length l ∧
 SO l (Prod.fst x_1) (Prod.fst (Prod.snd x_1)) (Prod.fst (Prod.snd (Prod.snd x_1))) ∧
 SI l (Prod.fst x_1) (Prod.fst (Prod.snd (Prod.snd (Prod.snd x_1)))) (Prod.fst (Prod.snd (Prod.snd (Prod.snd (Prod.snd x_1))))) ∧
 SK (Prod.fst (Prod.snd (Prod.snd (Prod.snd (Prod.snd x_1))))) (Prod.fst (Prod.snd x_1)) (Prod.snd (Prod.snd (Prod.snd (Prod.snd (Prod.snd x_1)))))
 (Prod.fst (Prod.snd (Prod.snd x_1)))) ∧
 (List.length l - Prod.fst x_1) * (1000002 : Nat) + kRest l (Prod.fst x_1) (Prod.fst (Prod.snd (Prod.snd (Prod.snd x_1)))) <
 (List.length l - Prod.fst x) * (1000002 : Nat) + kRest l (Prod.fst x) (0 : Nat)))))))))
 (needS (decide ((0 : Int) ≤ (↑(Prod.fst x) : Int)) && decide ((↑(Prod.fst x) : Int) < (↑(List.length l) : Int)))
 (ldIS IntKind.i64 (List.flatMap cN l) (Int.toNat (↑(Prod.fst x) : Int) * (3 : Nat)) fun (n29 : Int) =>
 ldIS IntKind.i64 (List.flatMap cN l) (Int.toNat (↑(Prod.fst x) : Int) * (3 : Nat) + (1 : Nat)) fun (n30 : Int) =>
 ldVS (1 : Nat) (List.flatMap cN l) (Int.toNat (↑(Prod.fst x) : Int) * (3 : Nat) + (1 : Nat) + (1 : Nat)) fun (i31 : Option Nat) (e32 l33 : Nat) (c34 : List IV) =>
 ∃ (l_1 : List Nd),
 ∃ (ks : List Int),
 ∃ (k : List Int),
 (List.length l = List.length l_1 ∧ List.flatMap cN l = List.flatMap cN l_1) ∧
 (l33 = List.length ks ∧ c34 = List.map (IV.int IntKind.i64) ks) ∧
 ((0 : Nat) = List.length k ∧ [] = List.map (IV.int IntKind.i64) k) ∧
 ((n29 ≠ (25 : Int) ∧ n29 ≠ (30 : Int) ∧ n29 ≠ (31 : Int)) ∧ List.length ks = List.length k ∧ List.length k ≤ (1000000000 : Nat)) ∧
 tipS (Prod.snd (Prod.snd x)) (Prod.fst (Prod.snd x)) fun (m35 : Nat) =>
 needS (Nat.beq m35 (Prod.fst x) && Nat.ble ((Prod.fst x + (1 : Nat)) * (8 : Nat)) (140737488355328 : Nat))
 ((∃ (x_1 : Heap),
 some (TV.v (IV.vslice none (0 : Nat) (List.length l) (3 : Nat) (List.flatMap cN l))) = some (TV.v (IV.vslice none (0 : Nat) (List.length l) (3 : Nat) (List.flatMap cN l))) ∧
 some (TV.v (IV.int IntKind.i64 (IntKind.wrap IntKind.i64 ((↑(Prod.fst x) : Int) + (1 : Int))))) = some (TV.v (IV.int IntKind.i64 (0 : Int))) ∧
 some
 (TV.v
 (IV.vslice (some (Prod.fst (Prod.snd x))) (Prod.fst x + (1 : Nat)) (Prod.fst x + (1 : Nat)) (1 : Nat)
 (List.map (IV.int IntKind.i64) (sortsA (List.take (Prod.fst x) l)) ++ [IV.int IntKind.i64 (nsort n29 n30 k)]))) =
 some (TV.v IV.nilslice) ∧
 Heap.set (Prod.snd (Prod.snd x)) (Prod.fst (Prod.snd x)) (IObj.tip (Prod.fst x + (1 : Nat))) = x_1 ∧ True ∧ List.length l < List.length l) ∨
 ∃ (x_1 : Nat × Nat × Heap),
 some (TV.v (IV.vslice none (0 : Nat) (List.length l) (3 : Nat) (List.flatMap cN l))) = some (TV.v (IV.vslice none (0 : Nat) (List.length l) (3 : Nat) (List.flatMap cN l))) ∧
 some (TV.v (IV.int IntKind.i64 (IntKind.wrap IntKind.i64 ((↑(Prod.fst x) : Int) + (1 : Int))))) = some (TV.v (IV.int IntKind.i64 (↑(Prod.fst x_1) : Int))) ∧
 some
 (TV.v
 (IV.vslice (some (Prod.fst (Prod.snd x))) (Prod.fst x + (1 : Nat)) (Prod.fst x + (1 : Nat)) (1 : Nat)
 (List.map (IV.int IntKind.i64) (sortsA (List.take (Prod.fst x) l)) ++ [IV.int IntKind.i64 (nsort n29 n30 k)]))) =
 some (TV.v (IV.vslice (some (Prod.fst (Prod.snd x_1))) (Prod.fst x_1) (Prod.fst x_1) (1 : Nat) (List.map (IV.int IntKind.i64) (sortsA (List.take (Prod.fst x_1) l))))) ∧
 Heap.set (Prod.snd (Prod.snd x)) (Prod.fst (Prod.snd x)) (IObj.tip (Prod.fst x + (1 : Nat))) = Prod.snd (Prod.snd x_1) ∧
 (((0 : Nat) < Prod.fst x_1 ∧ Prod.fst x_1 ≤ List.length l) ∧
 Heap.get (Prod.snd (Prod.snd x_1)) (Prod.fst (Prod.snd x_1)) = IObj.tip (Prod.fst x_1) ∧ Prod.fst (Prod.snd x_1) < Heap.next (Prod.snd (Prod.snd x_1))) ∧
 List.length l - Prod.fst x_1 < List.length l))))) ∧
 ∀ (x : Nat × Nat × Heap × Nat × List Int × Nat) (b : FF),
 Prod.fst x < List.length l ∧
 SO l (Prod.fst x) (Prod.fst (Prod.snd x)) (Prod.fst (Prod.snd (Prod.snd x))) ∧
 SI l (Prod.fst x) (Prod.fst (Prod.snd (Prod.snd (Prod.snd x)))) (Prod.fst (Prod.snd (Prod.snd (Prod.snd (Prod.snd x))))) ∧
 SK (Prod.fst (Prod.snd (Prod.snd (Prod.snd (Prod.snd x))))) (Prod.fst (Prod.snd x)) (Prod.snd (Prod.snd (Prod.snd (Prod.snd (Prod.snd x))))) (Prod.fst (Prod.snd (Prod.snd x))) →
 (List.length l - Prod.fst x) * (1000002 : Nat) + kRest l (Prod.fst x) (Prod.fst (Prod.snd (Prod.snd (Prod.snd x)))) ≤ M →
 needS (decide ((0 : Int) ≤ (↑(Prod.fst x) : Int)) && decide ((↑(Prod.fst x) : Int) < (↑(List.length l) : Int)))
 (ldVS (1 : Nat) (List.flatMap cN l) (Int.toNat (↑(Prod.fst x) : Int) * (3 : Nat) + (2 : Nat)) fun (i36 : Option Nat) (e37 l38 : Nat) (c39 : List IV) =>
 brS (decide ((↑(Prod.fst (Prod.snd (Prod.snd (Prod.snd x)))) : Int) < (↑l38 : Int)))
 (needS (decide ((0 : Int) ≤ (↑(Prod.fst x) : Int)) && decide ((↑(Prod.fst x) : Int) < (↑(List.length l) : Int)))
 (ldVS (1 : Nat) (List.flatMap cN l) (Int.toNat (↑(Prod.fst x) : Int) * (3 : Nat) + (2 : Nat)) fun (i40 : Option Nat) (e41 l42 : Nat) (c43 : List IV) =>
 needS (decide ((0 : Int) ≤ (↑(Prod.fst (Prod.snd (Prod.snd (Prod.snd x)))) : Int)) && decide ((↑(Prod.fst (Prod.snd (Prod.snd (Prod.snd x)))) : Int) < (↑l42 : Int)))
 (ldIS IntKind.i64 c43 (Int.toNat (↑(Prod.fst (Prod.snd (Prod.snd (Prod.snd x)))) : Int) * (1 : Nat)) fun (n44 : Int) =>
 brS (decide (n44 < (0 : Int)))
 (tipS (Prod.fst (Prod.snd (Prod.snd x))) (Prod.fst (Prod.snd x)) fun (m45 : Nat) =>
 needS (Nat.beq m45 (Prod.fst x) && Nat.ble ((Prod.fst x + (1 : Nat)) * (8 : Nat)) (140737488355328 : Nat))
 ((∃ (x_1 : Heap),
 some (TV.v (IV.vslice none (0 : Nat) (List.length l) (3 : Nat) (List.flatMap cN l))) = some (TV.v (IV.vslice none (0 : Nat) (List.length l) (3 : Nat) (List.flatMap cN l))) ∧
 some (TV.v (IV.int IntKind.i64 (IntKind.wrap IntKind.i64 ((↑(Prod.fst x) : Int) + (1 : Int))))) = some (TV.v (IV.int IntKind.i64 (0 : Int))) ∧
 some
 (TV.v
 (IV.vslice (some (Prod.fst (Prod.snd x))) (Prod.fst x + (1 : Nat)) (Prod.fst x + (1 : Nat)) (1 : Nat)
 (List.map (IV.int IntKind.i64) (sortsA (List.take (Prod.fst x) l)) ++ [IV.int IntKind.i64 (0 : Int)]))) =
 some (TV.v IV.nilslice) ∧
 Heap.set (Prod.fst (Prod.snd (Prod.snd x))) (Prod.fst (Prod.snd x)) (IObj.tip (Prod.fst x + (1 : Nat))) = x_1 ∧ True ∧ List.length l < List.length l) ∨
 ∃ (x_1 : Nat × Nat × Heap),
 some (TV.v (IV.vslice none (0 : Nat) (List.length l) (3 : Nat) (List.flatMap cN l))) = some (TV.v (IV.vslice none (0 : Nat) (List.length l) (3 : Nat) (List.flatMap cN l))) ∧
 some (TV.v (IV.int IntKind.i64 (IntKind.wrap IntKind.i64 ((↑(Prod.fst x) : Int) + (1 : Int))))) = some (TV.v (IV.int IntKind.i64 (↑(Prod.fst x_1) : Int))) ∧
 some
 (TV.v
 (IV.vslice (some (Prod.fst (Prod.snd x))) (Prod.fst x + (1 : Nat)) (Prod.fst x + (1 : Nat)) (1 : Nat)
 (List.map (IV.int IntKind.i64) (sortsA (List.take (Prod.fst x) l)) ++ [IV.int IntKind.i64 (0 : Int)]))) =
 some (TV.v (IV.vslice (some (Prod.fst (Prod.snd x_1))) (Prod.fst x_1) (Prod.fst x_1) (1 : Nat) (List.map (IV.int IntKind.i64) (sortsA (List.take (Prod.fst x_1) l))))) ∧
 Heap.set (Prod.fst (Prod.snd (Prod.snd x))) (Prod.fst (Prod.snd x)) (IObj.tip (Prod.fst x + (1 : Nat))) = Prod.snd (Prod.snd x_1) ∧
 (((0 : Nat) < Prod.fst x_1 ∧ Prod.fst x_1 ≤ List.length l) ∧
 Heap.get (Prod.snd (Prod.snd x_1)) (Prod.fst (Prod.snd x_1)) = IObj.tip (Prod.fst x_1) ∧ Prod.fst (Prod.snd x_1) < Heap.next (Prod.snd (Prod.snd x_1))) ∧
 List.length l - Prod.fst x_1 < List.length l))
 (brS (decide (n44 ≥ (↑(Prod.fst x) : Int)))
 (tipS (Prod.fst (Prod.snd (Prod.snd x))) (Prod.fst (Prod.snd x)) fun (m46 : Nat) =>
 needS (Nat.beq m46 (Prod.fst x) && Nat.ble ((Prod.fst x + (1 : Nat)) * (8 : Nat)) (140737488355328 : Nat))
 ((∃ (x_1 : Heap),
 some (TV.v (IV.vslice none (0 : Nat) (List.length l) (3 : Nat) (List.flatMap cN l))) = some (TV.v (IV.vslice none (0 : Nat) (List.length l) (3 : Nat) (List.flatMap cN l))) ∧
 some (TV.v (IV.int IntKind.i64 (IntKind.wrap IntKind.i64 ((↑(Prod.fst x) : Int) + (1 : Int))))) = some (TV.v (IV.int IntKind.i64 (0 : Int))) ∧
 some
 (TV.v
 (IV.vslice (some (Prod.fst (Prod.snd x))) (Prod.fst x + (1 : Nat)) (Prod.fst x + (1 : Nat)) (1 : Nat)
 (List.map (IV.int IntKind.i64) (sortsA (List.take (Prod.fst x) l)) ++ [IV.int IntKind.i64 (0 : Int)]))) =
 some (TV.v IV.nilslice) ∧
 Heap.set (Prod.fst (Prod.snd (Prod.snd x))) (Prod.fst (Prod.snd x)) (IObj.tip (Prod.fst x + (1 : Nat))) = x_1 ∧ True ∧ List.length l < List.length l) ∨
 ∃ (x_1 : Nat × Nat × Heap),
 some (TV.v (IV.vslice none (0 : Nat) (List.length l) (3 : Nat) (List.flatMap cN l))) = some (TV.v (IV.vslice none (0 : Nat) (List.length l) (3 : Nat) (List.flatMap cN l))) ∧
 some (TV.v (IV.int IntKind.i64 (IntKind.wrap IntKind.i64 ((↑(Prod.fst x) : Int) + (1 : Int))))) = some (TV.v (IV.int IntKind.i64 (↑(Prod.fst x_1) : Int))) ∧
 some
 (TV.v
 (IV.vslice (some (Prod.fst (Prod.snd x))) (Prod.fst x + (1 : Nat)) (Prod.fst x + (1 : Nat)) (1 : Nat)
 (List.map (IV.int IntKind.i64) (sortsA (List.take (Prod.fst x) l)) ++ [IV.int IntKind.i64 (0 : Int)]))) =
 some (TV.v (IV.vslice (some (Prod.fst (Prod.snd x_1))) (Prod.fst x_1) (Prod.fst x_1) (1 : Nat) (List.map (IV.int IntKind.i64) (sortsA (List.take (Prod.fst x_1) l))))) ∧
 Heap.set (Prod.fst (Prod.snd (Prod.snd x))) (Prod.fst (Prod.snd x)) (IObj.tip (Prod.fst x + (1 : Nat))) = Prod.snd (Prod.snd x_1) ∧
 (((0 : Nat) < Prod.fst x_1 ∧ Prod.fst x_1 ≤ List.length l) ∧
 Heap.get (Prod.snd (Prod.snd x_1)) (Prod.fst (Prod.snd x_1)) = IObj.tip (Prod.fst x_1) ∧ Prod.fst (Prod.snd x_1) < Heap.next (Prod.snd (Prod.snd x_1))) ∧
 List.length l - Prod.fst x_1 < List.length l))
 (needS (decide ((0 : Int) ≤ n44) && decide (n44 < (↑(Prod.fst x) : Int)))
 (ldIS IntKind.i64 (List.map (IV.int IntKind.i64) (sortsA (List.take (Prod.fst x) l))) (Int.toNat n44 * (1 : Nat)) fun (n47 : Int) =>
 brS (n47 == (0 : Int))
 (tipS (Prod.fst (Prod.snd (Prod.snd x))) (Prod.fst (Prod.snd x)) fun (m48 : Nat) =>
 needS (Nat.beq m48 (Prod.fst x) && Nat.ble ((Prod.fst x + (1 : Nat)) * (8 : Nat)) (140737488355328 : Nat))
 ((∃ (x_1 : Heap),
 some (TV.v (IV.vslice none (0 : Nat) (List.length l) (3 : Nat) (List.flatMap cN l))) = some (TV.v (IV.vslice none (0 : Nat) (List.length l) (3 : Nat) (List.flatMap cN l))) ∧
 some (TV.v (IV.int IntKind.i64 (IntKind.wrap IntKind.i64 ((↑(Prod.fst x) : Int) + (1 : Int))))) = some (TV.v (IV.int IntKind.i64 (0 : Int))) ∧
 some
 (TV.v
 (IV.vslice (some (Prod.fst (Prod.snd x))) (Prod.fst x + (1 : Nat)) (Prod.fst x + (1 : Nat)) (1 : Nat)
 (List.map (IV.int IntKind.i64) (sortsA (List.take (Prod.fst x) l)) ++ [IV.int IntKind.i64 (0 : Int)]))) =
 some (TV.v IV.nilslice) ∧
 Heap.set (Prod.fst (Prod.snd (Prod.snd x))) (Prod.fst (Prod.snd x)) (IObj.tip (Prod.fst x + (1 : Nat))) = x_1 ∧ True ∧ List.length l < List.length l) ∨
 ∃ (x_1 : Nat × Nat × Heap),
 some (TV.v (IV.vslice none (0 : Nat) (List.length l) (3 : Nat) (List.flatMap cN l))) = some (TV.v (IV.vslice none (0 : Nat) (List.length l) (3 : Nat) (List.flatMap cN l))) ∧
 some (TV.v (IV.int IntKind.i64 (IntKind.wrap IntKind.i64 ((↑(Prod.fst x) : Int) + (1 : Int))))) = some (TV.v (IV.int IntKind.i64 (↑(Prod.fst x_1) : Int))) ∧
 some
 (TV.v
 (IV.vslice (some (Prod.fst (Prod.snd x))) (Prod.fst x + (1 : Nat)) (Prod.fst x + (1 : Nat)) (1 : Nat)
 (List.map (IV.int IntKind.i64) (sortsA (List.take (Prod.fst x) l)) ++ [IV.int IntKind.i64 (0 : Int)]))) =
 some (TV.v (IV.vslice (some (Prod.fst (Prod.snd x_1))) (Prod.fst x_1) (Prod.fst x_1) (1 : Nat) (List.map (IV.int IntKind.i64) (sortsA (List.take (Prod.fst x_1) l))))) ∧
 Heap.set (Prod.fst (Prod.snd (Prod.snd x))) (Prod.fst (Prod.snd x)) (IObj.tip (Prod.fst x + (1 : Nat))) = Prod.snd (Prod.snd x_1) ∧
 (((0 : Nat) < Prod.fst x_1 ∧ Prod.fst x_1 ≤ List.length l) ∧
 Heap.get (Prod.snd (Prod.snd x_1)) (Prod.fst (Prod.snd x_1)) = IObj.tip (Prod.fst x_1) ∧ Prod.fst (Prod.snd x_1) < Heap.next (Prod.snd (Prod.snd x_1))) ∧
 List.length l - Prod.fst x_1 < List.length l))
 (needS (decide ((0 : Int) ≤ n44) && decide (n44 < (↑(Prod.fst x) : Int)))
 (ldIS IntKind.i64 (List.map (IV.int IntKind.i64) (sortsA (List.take (Prod.fst x) l))) (Int.toNat n44 * (1 : Nat)) fun (n49 : Int) =>
 tipS (Prod.fst (Prod.snd (Prod.snd x))) (Prod.snd (Prod.snd (Prod.snd (Prod.snd (Prod.snd x))))) fun (m50 : Nat) =>
 needS
 (Nat.beq m50 (List.length (Prod.fst (Prod.snd (Prod.snd (Prod.snd (Prod.snd x)))))) &&
 Nat.ble ((List.length (Prod.fst (Prod.snd (Prod.snd (Prod.snd (Prod.snd x))))) + (1 : Nat)) * (8 : Nat)) (140737488355328 : Nat))
 ((∃ (x_1 : Heap),
 some (TV.v (IV.vslice none (0 : Nat) (List.length l) (3 : Nat) (List.flatMap cN l))) = some (TV.v (IV.vslice none (0 : Nat) (List.length l) (3 : Nat) (List.flatMap cN l))) ∧
 some (TV.v (IV.int IntKind.i64 (↑(Prod.fst x) : Int))) = some (TV.v (IV.int IntKind.i64 (0 : Int))) ∧
 some (TV.v (IV.vslice (some (Prod.fst (Prod.snd x))) (Prod.fst x) (Prod.fst x) (1 : Nat) (List.map (IV.int IntKind.i64) (sortsA (List.take (Prod.fst x) l))))) =
 some (TV.v IV.nilslice) ∧
 some
 (TV.v
 (IV.vslice (some (Prod.snd (Prod.snd (Prod.snd (Prod.snd (Prod.snd x)))))) (List.length (Prod.fst (Prod.snd (Prod.snd (Prod.snd (Prod.snd x))))) + (1 : Nat))
 (List.length (Prod.fst (Prod.snd (Prod.snd (Prod.snd (Prod.snd x))))) + (1 : Nat)) (1 : Nat)
 (List.map (IV.int IntKind.i64) (Prod.fst (Prod.snd (Prod.snd (Prod.snd (Prod.snd x))))) ++ [IV.int IntKind.i64 n49]))) =
 some (TV.v IV.nilslice) ∧
 some (TV.v (IV.bool true)) = some (TV.v (IV.bool true)) ∧
 some (TV.v (IV.int IntKind.i64 (IntKind.wrap IntKind.i64 ((↑(Prod.fst (Prod.snd (Prod.snd (Prod.snd x)))) : Int) + (1 : Int))))) =
 some (TV.v (IV.int IntKind.i64 (0 : Int))) ∧
 Heap.set (Prod.fst (Prod.snd (Prod.snd x))) (Prod.snd (Prod.snd (Prod.snd (Prod.snd (Prod.snd x)))))
 (IObj.tip (List.length (Prod.fst (Prod.snd (Prod.snd (Prod.snd (Prod.snd x))))) + (1 : Nat))) =
 x_1 ∧
 Nat.le (1 : Nat) (List.length l) ∧
 List.length l * (1000002 : Nat) + kRest l (0 : Nat) (0 : Nat) <
 (List.length l - Prod.fst x) * (1000002 : Nat) + kRest l (Prod.fst x) (Prod.fst (Prod.snd (Prod.snd (Prod.snd x))))) ∨
 (∃ (x_1 : Nat × Nat × Heap),
 some (TV.v (IV.vslice none (0 : Nat) (List.length l) (3 : Nat) (List.flatMap cN l))) = some (TV.v (IV.vslice none (0 : Nat) (List.length l) (3 : Nat) (List.flatMap cN l))) ∧
 some (TV.v (IV.int IntKind.i64 (↑(Prod.fst x) : Int))) = some (TV.v (IV.int IntKind.i64 (↑(Prod.fst x_1) : Int))) ∧
 some (TV.v (IV.vslice (some (Prod.fst (Prod.snd x))) (Prod.fst x) (Prod.fst x) (1 : Nat) (List.map (IV.int IntKind.i64) (sortsA (List.take (Prod.fst x) l))))) =
 some (TV.v (IV.vslice (some (Prod.fst (Prod.snd x_1))) (Prod.fst x_1) (Prod.fst x_1) (1 : Nat) (List.map (IV.int IntKind.i64) (sortsA (List.take (Prod.fst x_1) l))))) ∧
 some
 (TV.v
 (IV.vslice (some (Prod.snd (Prod.snd (Prod.snd (Prod.snd (Prod.snd x)))))) (List.length (Prod.fst (Prod.snd (Prod.snd (Prod.snd (Prod.snd x))))) + (1 : Nat))
 (List.length (Prod.fst (Prod.snd (Prod.snd (Prod.snd (Prod.snd x))))) + (1 : Nat)) (1 : Nat)
 (List.map (IV.int IntKind.i64) (Prod.fst (Prod.snd (Prod.snd (Prod.snd (Prod.snd x))))) ++ [IV.int IntKind.i64 n49]))) =
 some (TV.v IV.nilslice) ∧
 some (TV.v (IV.bool true)) = some (TV.v (IV.bool true)) ∧
 some (TV.v (IV.int IntKind.i64 (IntKind.wrap IntKind.i64 ((↑(Prod.fst (Prod.snd (Prod.snd (Prod.snd x)))) : Int) + (1 : Int))))) =
 some (TV.v (IV.int IntKind.i64 (0 : Int))) ∧
 Heap.set (Prod.fst (Prod.snd (Prod.snd x))) (Prod.snd (Prod.snd (Prod.snd (Prod.snd (Prod.snd x)))))
 (IObj.tip (List.length (Prod.fst (Prod.snd (Prod.snd (Prod.snd (Prod.snd x))))) + (1 : Nat))) =
 Prod.snd (Prod.snd x_1) ∧
 (Prod.fst x_1 < List.length l ∧ SO l (Prod.fst x_1) (Prod.fst (Prod.snd x_1)) (Prod.snd (Prod.snd x_1))) ∧
 (List.length l - Prod.fst x_1) * (1000002 : Nat) + kRest l (Prod.fst x_1) (0 : Nat) <
 (List.length l - Prod.fst x) * (1000002 : Nat) + kRest l (Prod.fst x) (Prod.fst (Prod.snd (Prod.snd (Prod.snd x))))) ∨
 ∃ (x_1 : Nat × Nat × Heap × Nat × List Int × Nat),
 some (TV.v (IV.vslice none (0 : Nat) (List.length l) (3 : Nat) (List.flatMap cN l))) = some (TV.v (IV.vslice none (0 : Nat) (List.length l) (3 : Nat) (List.flatMap cN l))) ∧
 some (TV.v (IV.int IntKind.i64 (↑(Prod.fst x) : Int))) = some (TV.v (IV.int IntKind.i64 (↑(Prod.fst x_1) : Int))) ∧
 some (TV.v (IV.vslice (some (Prod.fst (Prod.snd x))) (Prod.fst x) (Prod.fst x) (1 : Nat) (List.map (IV.int IntKind.i64) (sortsA (List.take (Prod.fst x) l))))) =
 some (TV.v (IV.vslice (some (Prod.fst (Prod.snd x_1))) (Prod.fst x_1) (Prod.fst x_1) (1 : Nat) (List.map (IV.int IntKind.i64) (sortsA (List.take (Prod.fst x_1) l))))) ∧
 some
 (TV.v
 (IV.vslice (some (Prod.snd (Prod.snd (Prod.snd (Prod.snd (Prod.snd x)))))) (List.length (Prod.fst (Prod.snd (Prod.snd (Prod.snd (Prod.snd x))))) + (1 : Nat))
 (List.length (Prod.fst (Prod.snd (Prod.snd (Prod.snd (Prod.snd x))))) + (1 : Nat)) (1 : Nat)
 (List.map (IV.int IntKind.i64) (Prod.fst (Prod.snd (Prod.snd (Prod.snd (Prod.snd x))))) ++ [IV.int IntKind.i64 n49]))) =
 some
 (TV.v
 (IV.vslice (some (Prod.snd (Prod.snd (Prod.snd (Prod.snd (Prod.snd x_1)))))) (List.length (Prod.fst (Prod.snd (Prod.snd (Prod.snd (Prod.snd x_1))))))
 (List.length (Prod.fst (Prod.snd (Prod.snd (Prod.snd (Prod.snd x_1)))))) (1 : Nat)
 (List.map (IV.int IntKind.i64) (Prod.fst (Prod.snd (Prod.snd (Prod.snd (Prod.snd x_1)))))))) ∧
 some (TV.v (IV.bool true)) = some (TV.v (IV.bool true)) ∧
 some (TV.v (IV.int IntKind.i64 (IntKind.wrap IntKind.i64 ((↑(Prod.fst (Prod.snd (Prod.snd (Prod.snd x)))) : Int) + (1 : Int))))) =
 some (TV.v (IV.int IntKind.i64 (↑(Prod.fst (Prod.snd (Prod.snd (Prod.snd x_1)))) : Int))) ∧
 Heap.set (Prod.fst (Prod.snd (Prod.snd x))) (Prod.snd (Prod.snd (Prod.snd (Prod.snd (Prod.snd x)))))
 (IObj.tip (List.length (Prod.fst (Prod.snd (Prod.snd (Prod.snd (Prod.snd x))))) + (1 : Nat))) =
 Prod.fst (Prod.snd (Prod.snd x_1)) ∧
 (Prod.fst x_1 < List.length l ∧
 SO l (Prod.fst x_1) (Prod.fst (Prod.snd x_1)) (Prod.fst (Prod.snd (Prod.snd x_1))) ∧
 SI l (Prod.fst x_1) (Prod.fst (Prod.snd (Prod.snd (Prod.snd x_1)))) (Prod.fst (Prod.snd (Prod.snd (Prod.snd (Prod.snd x_1))))) ∧
 SK (Prod.fst (Prod.snd (Prod.snd (Prod.snd (Prod.snd x_1))))) (Prod.fst (Prod.snd x_1)) (Prod.snd (Prod.snd (Prod.snd (Prod.snd (Prod.snd x_1)))))
 (Prod.fst (Prod.snd (Prod.snd x_1)))) ∧
 (List.length l - Prod.fst x_1) * (1000002 : Nat) + kRest l (Prod.fst x_1) (Prod.fst (Prod.snd (Prod.snd (Prod.snd x_1)))) <
 (List.length l - Prod.fst x) * (1000002 : Nat) + kRest l (Prod.fst x) (Prod.fst (Prod.snd (Prod.snd (Prod.snd x)))))))))))))
 (needS (decide ((0 : Int) ≤ (↑(Prod.fst x) : Int)) && decide ((↑(Prod.fst x) : Int) < (↑(List.length l) : Int)))
 (ldIS IntKind.i64 (List.flatMap cN l) (Int.toNat (↑(Prod.fst x) : Int) * (3 : Nat)) fun (n51 : Int) =>
 ldIS IntKind.i64 (List.flatMap cN l) (Int.toNat (↑(Prod.fst x) : Int) * (3 : Nat) + (1 : Nat)) fun (n52 : Int) =>
 ldVS (1 : Nat) (List.flatMap cN l) (Int.toNat (↑(Prod.fst x) : Int) * (3 : Nat) + (1 : Nat) + (1 : Nat)) fun (i53 : Option Nat) (e54 l55 : Nat) (c56 : List IV) =>
 ∃ (l_1 : List Nd),
 ∃ (ks : List Int),
 ∃ (k : List Int),
 (List.length l = List.length l_1 ∧ List.flatMap cN l = List.flatMap cN l_1) ∧
 (l55 = List.length ks ∧ c56 = List.map (IV.int IntKind.i64) ks) ∧
 (List.length (Prod.fst (Prod.snd (Prod.snd (Prod.snd (Prod.snd x))))) = List.length k ∧
 List.map (IV.int IntKind.i64) (Prod.fst (Prod.snd (Prod.snd (Prod.snd (Prod.snd x))))) = List.map (IV.int IntKind.i64) k) ∧
 ((n51 ≠ (25 : Int) ∧ n51 ≠ (30 : Int) ∧ n51 ≠ (31 : Int)) ∧ List.length ks = List.length k ∧ List.length k ≤ (1000000000 : Nat)) ∧
 tipS (Prod.fst (Prod.snd (Prod.snd x))) (Prod.fst (Prod.snd x)) fun (m57 : Nat) =>
 needS (Nat.beq m57 (Prod.fst x) && Nat.ble ((Prod.fst x + (1 : Nat)) * (8 : Nat)) (140737488355328 : Nat))
 ((∃ (x_1 : Heap),
 some (TV.v (IV.vslice none (0 : Nat) (List.length l) (3 : Nat) (List.flatMap cN l))) = some (TV.v (IV.vslice none (0 : Nat) (List.length l) (3 : Nat) (List.flatMap cN l))) ∧
 some (TV.v (IV.int IntKind.i64 (IntKind.wrap IntKind.i64 ((↑(Prod.fst x) : Int) + (1 : Int))))) = some (TV.v (IV.int IntKind.i64 (0 : Int))) ∧
 some
 (TV.v
 (IV.vslice (some (Prod.fst (Prod.snd x))) (Prod.fst x + (1 : Nat)) (Prod.fst x + (1 : Nat)) (1 : Nat)
 (List.map (IV.int IntKind.i64) (sortsA (List.take (Prod.fst x) l)) ++ [IV.int IntKind.i64 (nsort n51 n52 k)]))) =
 some (TV.v IV.nilslice) ∧
 Heap.set (Prod.fst (Prod.snd (Prod.snd x))) (Prod.fst (Prod.snd x)) (IObj.tip (Prod.fst x + (1 : Nat))) = x_1 ∧ True ∧ List.length l < List.length l) ∨
 ∃ (x_1 : Nat × Nat × Heap),
 some (TV.v (IV.vslice none (0 : Nat) (List.length l) (3 : Nat) (List.flatMap cN l))) = some (TV.v (IV.vslice none (0 : Nat) (List.length l) (3 : Nat) (List.flatMap cN l))) ∧
 some (TV.v (IV.int IntKind.i64 (IntKind.wrap IntKind.i64 ((↑(Prod.fst x) : Int) + (1 : Int))))) = some (TV.v (IV.int IntKind.i64 (↑(Prod.fst x_1) : Int))) ∧
 some
 (TV.v
 (IV.vslice (some (Prod.fst (Prod.snd x))) (Prod.fst x + (1 : Nat)) (Prod.fst x + (1 : Nat)) (1 : Nat)
 (List.map (IV.int IntKind.i64) (sortsA (List.take (Prod.fst x) l)) ++ [IV.int IntKind.i64 (nsort n51 n52 k)]))) =
 some (TV.v (IV.vslice (some (Prod.fst (Prod.snd x_1))) (Prod.fst x_1) (Prod.fst x_1) (1 : Nat) (List.map (IV.int IntKind.i64) (sortsA (List.take (Prod.fst x_1) l))))) ∧
 Heap.set (Prod.fst (Prod.snd (Prod.snd x))) (Prod.fst (Prod.snd x)) (IObj.tip (Prod.fst x + (1 : Nat))) = Prod.snd (Prod.snd x_1) ∧
 (((0 : Nat) < Prod.fst x_1 ∧ Prod.fst x_1 ≤ List.length l) ∧
 Heap.get (Prod.snd (Prod.snd x_1)) (Prod.fst (Prod.snd x_1)) = IObj.tip (Prod.fst x_1) ∧ Prod.fst (Prod.snd x_1) < Heap.next (Prod.snd (Prod.snd x_1))) ∧
 List.length l - Prod.fst x_1 < List.length l)))))
 (Q (IV.vslice none (0 : Nat) (0 : Nat) (1 : Nat) []) h)) ∧
 ∀ (x : Nat × Nat × Heap) (b : FF),
 SO l (Prod.fst x) (Prod.fst (Prod.snd x)) (Prod.snd (Prod.snd x)) →
 brS (decide ((↑(Prod.fst x) : Int) < (↑(List.length l) : Int)))
 (∃ (M : Nat),
 ((∃ (x_1 : Heap),
 some (TV.v (IV.vslice none (0 : Nat) (List.length l) (3 : Nat) (List.flatMap cN l))) = some (TV.v (IV.vslice none (0 : Nat) (List.length l) (3 : Nat) (List.flatMap cN l))) ∧
 some (TV.v (IV.int IntKind.i64 (↑(Prod.fst x) : Int))) = some (TV.v (IV.int IntKind.i64 (0 : Int))) ∧
 some (TV.v (IV.vslice (some (Prod.fst (Prod.snd x))) (Prod.fst x) (Prod.fst x) (1 : Nat) (List.map (IV.int IntKind.i64) (sortsA (List.take (Prod.fst x) l))))) = some (TV.v IV.nilslice) ∧
 some (TV.v IV.nilslice) = some (TV.v IV.nilslice) ∧
 some (TV.v (IV.bool true)) = some (TV.v (IV.bool true)) ∧
 some (TV.v (IV.int IntKind.i64 (0 : Int))) = some (TV.v (IV.int IntKind.i64 (0 : Int))) ∧
 Prod.snd (Prod.snd x) = x_1 ∧ Nat.le (1 : Nat) (List.length l) ∧ List.length l * (1000002 : Nat) + kRest l (0 : Nat) (0 : Nat) ≤ M) ∨
 (∃ (x_1 : Nat × Nat × Heap),
 some (TV.v (IV.vslice none (0 : Nat) (List.length l) (3 : Nat) (List.flatMap cN l))) = some (TV.v (IV.vslice none (0 : Nat) (List.length l) (3 : Nat) (List.flatMap cN l))) ∧
 some (TV.v (IV.int IntKind.i64 (↑(Prod.fst x) : Int))) = some (TV.v (IV.int IntKind.i64 (↑(Prod.fst x_1) : Int))) ∧
 some (TV.v (IV.vslice (some (Prod.fst (Prod.snd x))) (Prod.fst x) (Prod.fst x) (1 : Nat) (List.map (IV.int IntKind.i64) (sortsA (List.take (Prod.fst x) l))))) =
 some (TV.v (IV.vslice (some (Prod.fst (Prod.snd x_1))) (Prod.fst x_1) (Prod.fst x_1) (1 : Nat) (List.map (IV.int IntKind.i64) (sortsA (List.take (Prod.fst x_1) l))))) ∧
 some (TV.v IV.nilslice) = some (TV.v IV.nilslice) ∧
 some (TV.v (IV.bool true)) = some (TV.v (IV.bool true)) ∧
 some (TV.v (IV.int IntKind.i64 (0 : Int))) = some (TV.v (IV.int IntKind.i64 (0 : Int))) ∧
 Prod.snd (Prod.snd x) = Prod.snd (Prod.snd x_1) ∧
 (Prod.fst x_1 < List.length l ∧ SO l (Prod.fst x_1) (Prod.fst (Prod.snd x_1)) (Prod.snd (Prod.snd x_1))) ∧ (List.length l - Prod.fst x_1) * (1000002 : Nat) + kRest l (Prod.fst x_1) (0 : Nat) ≤ M) ∨
 ∃ (x_1 : Nat × Nat × Heap × Nat × List Int × Nat),
 some (TV.v (IV.vslice none (0 : Nat) (List.length l) (3 : Nat) (List.flatMap cN l))) = some (TV.v (IV.vslice none (0 : Nat) (List.length l) (3 : Nat) (List.flatMap cN l))) ∧
 some (TV.v (IV.int IntKind.i64 (↑(Prod.fst x) : Int))) = some (TV.v (IV.int IntKind.i64 (↑(Prod.fst x_1) : Int))) ∧
 some (TV.v (IV.vslice (some (Prod.fst (Prod.snd x))) (Prod.fst x) (Prod.fst x) (1 : Nat) (List.map (IV.int IntKind.i64) (sortsA (List.take (Prod.fst x) l))))) =
 some (TV.v (IV.vslice (some (Prod.fst (Prod.snd x_1))) (Prod.fst x_1) (Prod.fst x_1) (1 : Nat) (List.map (IV.int IntKind.i64) (sortsA (List.take (Prod.fst x_1) l))))) ∧
 some (TV.v IV.nilslice) =
 some
 (TV.v
 (IV.vslice (some (Prod.snd (Prod.snd (Prod.snd (Prod.snd (Prod.snd x_1)))))) (List.length (Prod.fst (Prod.snd (Prod.snd (Prod.snd (Prod.snd x_1))))))
 (List.length (Prod.fst (Prod.snd (Prod.snd (Prod.snd (Prod.snd x_1)))))) (1 : Nat) (List.map (IV.int IntKind.i64) (Prod.fst (Prod.snd (Prod.snd (Prod.snd (Prod.snd x_1)))))))) ∧
 some (TV.v (IV.bool true)) = some (TV.v (IV.bool true)) ∧
 some (TV.v (IV.int IntKind.i64 (0 : Int))) = some (TV.v (IV.int IntKind.i64 (↑(Prod.fst (Prod.snd (Prod.snd (Prod.snd x_1)))) : Int))) ∧
 Prod.snd (Prod.snd x) = Prod.fst (Prod.snd (Prod.snd x_1)) ∧
 (Prod.fst x_1 < List.length l ∧
 SO l (Prod.fst x_1) (Prod.fst (Prod.snd x_1)) (Prod.fst (Prod.snd (Prod.snd x_1))) ∧
 SI l (Prod.fst x_1) (Prod.fst (Prod.snd (Prod.snd (Prod.snd x_1)))) (Prod.fst (Prod.snd (Prod.snd (Prod.snd (Prod.snd x_1))))) ∧
 SK (Prod.fst (Prod.snd (Prod.snd (Prod.snd (Prod.snd x_1))))) (Prod.fst (Prod.snd x_1)) (Prod.snd (Prod.snd (Prod.snd (Prod.snd (Prod.snd x_1))))) (Prod.fst (Prod.snd (Prod.snd x_1)))) ∧
 (List.length l - Prod.fst x_1) * (1000002 : Nat) + kRest l (Prod.fst x_1) (Prod.fst (Prod.snd (Prod.snd (Prod.snd x_1)))) ≤ M) ∧
 (∀ (x_1 : Heap) (b : FF),
 (0 : Nat) < List.length l →
 List.length l * (1000002 : Nat) + kRest l (0 : Nat) (0 : Nat) ≤ M →
 needS (true && decide ((0 : Int) < (↑(List.length l) : Int)))
 (ldVS (1 : Nat) (List.flatMap cN l) (2 : Nat) fun (i58 : Option Nat) (e59 l60 : Nat) (c61 : List IV) =>
 brS (decide ((0 : Int) < (↑l60 : Int)))
 (needS (true && decide ((0 : Int) < (↑(List.length l) : Int)))
 (ldVS (1 : Nat) (List.flatMap cN l) (2 : Nat) fun (i62 : Option Nat) (e63 l64 : Nat) (c65 : List IV) =>
 needS (true && decide ((0 : Int) < (↑l64 : Int)))
 (ldIS IntKind.i64 c65 (0 : Nat) fun (n66 : Int) =>
 brS (decide (n66 < (0 : Int)))
 ((∃ (x_2 : Heap),
 some (TV.v (IV.vslice none (0 : Nat) (List.length l) (3 : Nat) (List.flatMap cN l))) = some (TV.v (IV.vslice none (0 : Nat) (List.length l) (3 : Nat) (List.flatMap cN l))) ∧
 some (TV.v (IV.int IntKind.i64 (1 : Int))) = some (TV.v (IV.int IntKind.i64 (0 : Int))) ∧
 some (TV.v (IV.vslice (some (Heap.next x_1)) (1 : Nat) (1 : Nat) (1 : Nat) [IV.int IntKind.i64 (0 : Int)])) = some (TV.v IV.nilslice) ∧
 Heap.push x_1 (IObj.tip (1 : Nat)) = x_2 ∧ True ∧ List.length l < List.length l - Prod.fst x) ∨
 ∃ (x_2 : Nat × Nat × Heap),
 some (TV.v (IV.vslice none (0 : Nat) (List.length l) (3 : Nat) (List.flatMap cN l))) = some (TV.v (IV.vslice none (0 : Nat) (List.length l) (3 : Nat) (List.flatMap cN l))) ∧
 some (TV.v (IV.int IntKind.i64 (1 : Int))) = some (TV.v (IV.int IntKind.i64 (↑(Prod.fst x_2) : Int))) ∧
 some (TV.v (IV.vslice (some (Heap.next x_1)) (1 : Nat) (1 : Nat) (1 : Nat) [IV.int IntKind.i64 (0 : Int)])) =
 some (TV.v (IV.vslice (some (Prod.fst (Prod.snd x_2))) (Prod.fst x_2) (Prod.fst x_2) (1 : Nat) (List.map (IV.int IntKind.i64) (sortsA (List.take (Prod.fst x_2) l))))) ∧
 Heap.push x_1 (IObj.tip (1 : Nat)) = Prod.snd (Prod.snd x_2) ∧
 (((0 : Nat) < Prod.fst x_2 ∧ Prod.fst x_2 ≤ List.length l) ∧
 Heap.get (Prod.snd (Prod.snd x_2)) (Prod.fst (Prod.snd x_2)) = IObj.tip (Prod.fst x_2) ∧ Prod.fst (Prod.snd x_2) < Heap.next (Prod.snd (Prod.snd x_2))) ∧
 List.length l - Prod.fst x_2 < List.length l - Prod.fst x)
 (brS (decide (n66 ≥ (0 : Int)))
 ((∃ (x_2 : Heap),
 some (TV.v (IV.vslice none (0 : Nat) (List.length l) (3 : Nat) (List.flatMap cN l))) = some (TV.v (IV.vslice none (0 : Nat) (List.length l) (3 : Nat) (List.flatMap cN l))) ∧
 some (TV.v (IV.int IntKind.i64 (1 : Int))) = some (TV.v (IV.int IntKind.i64 (0 : Int))) ∧
 some (TV.v (IV.vslice (some (Heap.next x_1)) (1 : Nat) (1 : Nat) (1 : Nat) [IV.int IntKind.i64 (0 : Int)])) = some (TV.v IV.nilslice) ∧
 Heap.push x_1 (IObj.tip (1 : Nat)) = x_2 ∧ True ∧ List.length l < List.length l - Prod.fst x) ∨
 ∃ (x_2 : Nat × Nat × Heap),
 some (TV.v (IV.vslice none (0 : Nat) (List.length l) (3 : Nat) (List.flatMap cN l))) = some (TV.v (IV.vslice none (0 : Nat) (List.length l) (3 : Nat) (List.flatMap cN l))) ∧
 some (TV.v (IV.int IntKind.i64 (1 : Int))) = some (TV.v (IV.int IntKind.i64 (↑(Prod.fst x_2) : Int))) ∧
 some (TV.v (IV.vslice (some (Heap.next x_1)) (1 : Nat) (1 : Nat) (1 : Nat) [IV.int IntKind.i64 (0 : Int)])) =
 some (TV.v (IV.vslice (some (Prod.fst (Prod.snd x_2))) (Prod.fst x_2) (Prod.fst x_2) (1 : Nat) (List.map (IV.int IntKind.i64) (sortsA (List.take (Prod.fst x_2) l))))) ∧
 Heap.push x_1 (IObj.tip (1 : Nat)) = Prod.snd (Prod.snd x_2) ∧
 (((0 : Nat) < Prod.fst x_2 ∧ Prod.fst x_2 ≤ List.length l) ∧
 Heap.get (Prod.snd (Prod.snd x_2)) (Prod.fst (Prod.snd x_2)) = IObj.tip (Prod.fst x_2) ∧ Prod.fst (Prod.snd x_2) < Heap.next (Prod.snd (Prod.snd x_2))) ∧
 List.length l - Prod.fst x_2 < List.length l - Prod.fst x)
 False))))
 (needS (true && decide ((0 : Int) < (↑(List.length l) : Int)))
 (ldIS IntKind.i64 (List.flatMap cN l) (0 : Nat) fun (n67 : Int) =>
 ldIS IntKind.i64 (List.flatMap cN l) (1 : Nat) fun (n68 : Int) =>
 ldVS (1 : Nat) (List.flatMap cN l) (2 : Nat) fun (i69 : Option Nat) (e70 l71 : Nat) (c72 : List IV) =>
 ∃ (l_1 : List Nd),
 ∃ (ks : List Int),
 ∃ (k : List Int),
 (List.length l = List.length l_1 ∧ List.flatMap cN l = List.flatMap cN l_1) ∧
 (l71 = List.length ks ∧ c72 = List.map (IV.int IntKind.i64) ks) ∧
 ((0 : Nat) = List.length k ∧ [] = List.map (IV.int IntKind.i64) k) ∧
 ((n67 ≠ (25 : Int) ∧ n67 ≠ (30 : Int) ∧ n67 ≠ (31 : Int)) ∧ List.length ks = List.length k ∧ List.length k ≤ (1000000000 : Nat)) ∧
 ((∃ (x_2 : Heap),
 some (TV.v (IV.vslice none (0 : Nat) (List.length l) (3 : Nat) (List.flatMap cN l))) = some (TV.v (IV.vslice none (0 : Nat) (List.length l) (3 : Nat) (List.flatMap cN l))) ∧
 some (TV.v (IV.int IntKind.i64 (1 : Int))) = some (TV.v (IV.int IntKind.i64 (0 : Int))) ∧
 some (TV.v (IV.vslice (some (Heap.next x_1)) (1 : Nat) (1 : Nat) (1 : Nat) [IV.int IntKind.i64 (nsort n67 n68 k)])) = some (TV.v IV.nilslice) ∧
 Heap.push x_1 (IObj.tip (1 : Nat)) = x_2 ∧ True ∧ List.length l < List.length l - Prod.fst x) ∨
 ∃ (x_2 : Nat × Nat × Heap),
 some (TV.v (IV.vslice none (0 : Nat) (List.length l) (3 : Nat) (List.flatMap cN l))) = some (TV.v (IV.vslice none (0 : Nat) (List.length l) (3 : Nat) (List.flatMap cN l))) ∧
 some (TV.v (IV.int IntKind.i64 (1 : Int))) = some (TV.v (IV.int IntKind.i64 (↑(Prod.fst x_2) : Int))) ∧
 some (TV.v (IV.vslice (some (Heap.next x_1)) (1 : Nat) (1 : Nat) (1 : Nat) [IV.int IntKind.i64 (nsort n67 n68 k)])) =
 some (TV.v (IV.vslice (some (Prod.fst (Prod.snd x_2))) (Prod.fst x_2) (Prod.fst x_2) (1 : Nat) (List.map (IV.int IntKind.i64) (sortsA (List.take (Prod.fst x_2) l))))) ∧
 Heap.push x_1 (IObj.tip (1 : Nat)) = Prod.snd (Prod.snd x_2) ∧
 (((0 : Nat) < Prod.fst x_2 ∧ Prod.fst x_2 ≤ List.length l) ∧
 Heap.get (Prod.snd (Prod.snd x_2)) (Prod.fst (Prod.snd x_2)) = IObj.tip (Prod.fst x_2) ∧ Prod.fst (Prod.snd x_2) < Heap.next (Prod.snd (Prod.snd x_2))) ∧
 List.length l - Prod.fst x_2 < List.length l - Prod.fst x))))) ∧
 (∀ (x_1 : Nat × Nat × Heap) (b : FF),
 Prod.fst x_1 < List.length l ∧ SO l (Prod.fst x_1) (Prod.fst (Prod.snd x_1)) (Prod.snd (Prod.snd x_1)) →
 (List.length l - Prod.fst x_1) * (1000002 : Nat) + kRest l (Prod.fst x_1) (0 : Nat) ≤ M →
 needS (decide ((0 : Int) ≤ (↑(Prod.fst x_1) : Int)) && decide ((↑(Prod.fst x_1) : Int) < (↑(List.length l) : Int)))
 (ldVS (1 : Nat) (List.flatMap cN l) (Int.toNat (↑(Prod.fst x_1) : Int) * (3 : Nat) + (2 : Nat)) fun (i73 : Option Nat) (e74 l75 : Nat) (c76 : List IV) =>
 brS (decide ((0 : Int) < (↑l75 : Int)))
 (needS (decide ((0 : Int) ≤ (↑(Prod.fst x_1) : Int)) && decide ((↑(Prod.fst x_1) : Int) < (↑(List.length l) : Int)))
 (ldVS (1 : Nat) (List.flatMap cN l) (Int.toNat (↑(Prod.fst x_1) : Int) * (3 : Nat) + (2 : Nat)) fun (i77 : Option Nat) (e78 l79 : Nat) (c80 : List IV) =>
 needS (true && decide ((0 : Int) < (↑l79 : Int)))
 (ldIS IntKind.i64 c80 (0 : Nat) fun (n81 : Int) =>
 brS (decide (n81 < (0 : Int)))
 (tipS (Prod.snd (Prod.snd x_1)) (Prod.fst (Prod.snd x_1)) fun (m82 : Nat) =>
 needS (Nat.beq m82 (Prod.fst x_1) && Nat.ble ((Prod.fst x_1 + (1 : Nat)) * (8 : Nat)) (140737488355328 : Nat))
 ((∃ (x_2 : Heap),
 some (TV.v (IV.vslice none (0 : Nat) (List.length l) (3 : Nat) (List.flatMap cN l))) = some (TV.v (IV.vslice none (0 : Nat) (List.length l) (3 : Nat) (List.flatMap cN l))) ∧
 some (TV.v (IV.int IntKind.i64 (IntKind.wrap IntKind.i64 ((↑(Prod.fst x_1) : Int) + (1 : Int))))) = some (TV.v (IV.int IntKind.i64 (0 : Int))) ∧
 some
 (TV.v
 (IV.vslice (some (Prod.fst (Prod.snd x_1))) (Prod.fst x_1 + (1 : Nat)) (Prod.fst x_1 + (1 : Nat)) (1 : Nat)
 (List.map (IV.int IntKind.i64) (sortsA (List.take (Prod.fst x_1) l)) ++ [IV.int IntKind.i64 (0 : Int)]))) =
 some (TV.v IV.nilslice) ∧
 Heap.set (Prod.snd (Prod.snd x_1)) (Prod.fst (Prod.snd x_1)) (IObj.tip (Prod.fst x_1 + (1 : Nat))) = x_2 ∧ True ∧ List.length l < List.length l - Prod.fst x) ∨
 ∃ (x_2 : Nat × Nat × Heap),
 some (TV.v (IV.vslice none (0 : Nat) (List.length l) (3 : Nat) (List.flatMap cN l))) = some (TV.v (IV.vslice none (0 : Nat) (List.length l) (3 : Nat) (List.flatMap cN l))) ∧
 some (TV.v (IV.int IntKind.i64 (IntKind.wrap IntKind.i64 ((↑(Prod.fst x_1) : Int) + (1 : Int))))) = some (TV.v (IV.int IntKind.i64 (↑(Prod.fst x_2) : Int))) ∧
 some
 (TV.v
 (IV.vslice (some (Prod.fst (Prod.snd x_1))) (Prod.fst x_1 + (1 : Nat)) (Prod.fst x_1 + (1 : Nat)) (1 : Nat)
 (List.map (IV.int IntKind.i64) (sortsA (List.take (Prod.fst x_1) l)) ++ [IV.int IntKind.i64 (0 : Int)]))) =
 some (TV.v (IV.vslice (some (Prod.fst (Prod.snd x_2))) (Prod.fst x_2) (Prod.fst x_2) (1 : Nat) (List.map (IV.int IntKind.i64) (sortsA (List.take (Prod.fst x_2) l))))) ∧
 Heap.set (Prod.snd (Prod.snd x_1)) (Prod.fst (Prod.snd x_1)) (IObj.tip (Prod.fst x_1 + (1 : Nat))) = Prod.snd (Prod.snd x_2) ∧
 (((0 : Nat) < Prod.fst x_2 ∧ Prod.fst x_2 ≤ List.length l) ∧
 Heap.get (Prod.snd (Prod.snd x_2)) (Prod.fst (Prod.snd x_2)) = IObj.tip (Prod.fst x_2) ∧ Prod.fst (Prod.snd x_2) < Heap.next (Prod.snd (Prod.snd x_2))) ∧
 List.length l - Prod.fst x_2 < List.length l - Prod.fst x))
 (brS (decide (n81 ≥ (↑(Prod.fst x_1) : Int)))
 (tipS (Prod.snd (Prod.snd x_1)) (Prod.fst (Prod.snd x_1)) fun (m83 : Nat) =>
 needS (Nat.beq m83 (Prod.fst x_1) && Nat.ble ((Prod.fst x_1 + (1 : Nat)) * (8 : Nat)) (140737488355328 : Nat))
 ((∃ (x_2 : Heap),
 some (TV.v (IV.vslice none (0 : Nat) (List.length l) (3 : Nat) (List.flatMap cN l))) = some (TV.v (IV.vslice none (0 : Nat) (List.length l) (3 : Nat) (List.flatMap cN l))) ∧
 some (TV.v (IV.int IntKind.i64 (IntKind.wrap IntKind.i64 ((↑(Prod.fst x_1) : Int) + (1 : Int))))) = some (TV.v (IV.int IntKind.i64 (0 : Int))) ∧
 some
 (TV.v
 (IV.vslice (some (Prod.fst (Prod.snd x_1))) (Prod.fst x_1 + (1 : Nat)) (Prod.fst x_1 + (1 : Nat)) (1 : Nat)
 (List.map (IV.int IntKind.i64) (sortsA (List.take (Prod.fst x_1) l)) ++ [IV.int IntKind.i64 (0 : Int)]))) =
 some (TV.v IV.nilslice) ∧
 Heap.set (Prod.snd (Prod.snd x_1)) (Prod.fst (Prod.snd x_1)) (IObj.tip (Prod.fst x_1 + (1 : Nat))) = x_2 ∧ True ∧ List.length l < List.length l - Prod.fst x) ∨
 ∃ (x_2 : Nat × Nat × Heap),
 some (TV.v (IV.vslice none (0 : Nat) (List.length l) (3 : Nat) (List.flatMap cN l))) = some (TV.v (IV.vslice none (0 : Nat) (List.length l) (3 : Nat) (List.flatMap cN l))) ∧
 some (TV.v (IV.int IntKind.i64 (IntKind.wrap IntKind.i64 ((↑(Prod.fst x_1) : Int) + (1 : Int))))) = some (TV.v (IV.int IntKind.i64 (↑(Prod.fst x_2) : Int))) ∧
 some
 (TV.v
 (IV.vslice (some (Prod.fst (Prod.snd x_1))) (Prod.fst x_1 + (1 : Nat)) (Prod.fst x_1 + (1 : Nat)) (1 : Nat)
 (List.map (IV.int IntKind.i64) (sortsA (List.take (Prod.fst x_1) l)) ++ [IV.int IntKind.i64 (0 : Int)]))) =
 some (TV.v (IV.vslice (some (Prod.fst (Prod.snd x_2))) (Prod.fst x_2) (Prod.fst x_2) (1 : Nat) (List.map (IV.int IntKind.i64) (sortsA (List.take (Prod.fst x_2) l))))) ∧
 Heap.set (Prod.snd (Prod.snd x_1)) (Prod.fst (Prod.snd x_1)) (IObj.tip (Prod.fst x_1 + (1 : Nat))) = Prod.snd (Prod.snd x_2) ∧
 (((0 : Nat) < Prod.fst x_2 ∧ Prod.fst x_2 ≤ List.length l) ∧
 Heap.get (Prod.snd (Prod.snd x_2)) (Prod.fst (Prod.snd x_2)) = IObj.tip (Prod.fst x_2) ∧ Prod.fst (Prod.snd x_2) < Heap.next (Prod.snd (Prod.snd x_2))) ∧
 List.length l - Prod.fst x_2 < List.length l - Prod.fst x))
 (needS (decide ((0 : Int) ≤ n81) && decide (n81 < (↑(Prod.fst x_1) : Int)))
 (ldIS IntKind.i64 (List.map (IV.int IntKind.i64) (sortsA (List.take (Prod.fst x_1) l))) (Int.toNat n81 * (1 : Nat)) fun (n84 : Int) =>
 brS (n84 == (0 : Int))
 (tipS (Prod.snd (Prod.snd x_1)) (Prod.fst (Prod.snd x_1)) fun (m85 : Nat) =>
 needS (Nat.beq m85 (Prod.fst x_1) && Nat.ble ((Prod.fst x_1 + (1 : Nat)) * (8 : Nat)) (140737488355328 : Nat))
 ((∃ (x_2 : Heap),
 some (TV.v (IV.vslice none (0 : Nat) (List.length l) (3 : Nat) (List.flatMap cN l))) = some (TV.v (IV.vslice none (0 : Nat) (List.length l) (3 : Nat) (List.flatMap cN l))) ∧
 some (TV.v (IV.int IntKind.i64 (IntKind.wrap IntKind.i64 ((↑(Prod.fst x_1) : Int) + (1 : Int))))) = some (TV.v (IV.int IntKind.i64 (0 : Int))) ∧
 some
 (TV.v
 (IV.vslice (some (Prod.fst (Prod.snd x_1))) (Prod.fst x_1 + (1 : Nat)) (Prod.fst x_1 + (1 : Nat)) (1 : Nat)
 (List.map (IV.int IntKind.i64) (sortsA (List.take (Prod.fst x_1) l)) ++ [IV.int IntKind.i64 (0 : Int)]))) =
 some (TV.v IV.nilslice) ∧
 Heap.set (Prod.snd (Prod.snd x_1)) (Prod.fst (Prod.snd x_1)) (IObj.tip (Prod.fst x_1 + (1 : Nat))) = x_2 ∧ True ∧ List.length l < List.length l - Prod.fst x) ∨
 ∃ (x_2 : Nat × Nat × Heap),
 some (TV.v (IV.vslice none (0 : Nat) (List.length l) (3 : Nat) (List.flatMap cN l))) = some (TV.v (IV.vslice none (0 : Nat) (List.length l) (3 : Nat) (List.flatMap cN l))) ∧
 some (TV.v (IV.int IntKind.i64 (IntKind.wrap IntKind.i64 ((↑(Prod.fst x_1) : Int) + (1 : Int))))) = some (TV.v (IV.int IntKind.i64 (↑(Prod.fst x_2) : Int))) ∧
 some
 (TV.v
 (IV.vslice (some (Prod.fst (Prod.snd x_1))) (Prod.fst x_1 + (1 : Nat)) (Prod.fst x_1 + (1 : Nat)) (1 : Nat)
 (List.map (IV.int IntKind.i64) (sortsA (List.take (Prod.fst x_1) l)) ++ [IV.int IntKind.i64 (0 : Int)]))) =
 some (TV.v (IV.vslice (some (Prod.fst (Prod.snd x_2))) (Prod.fst x_2) (Prod.fst x_2) (1 : Nat) (List.map (IV.int IntKind.i64) (sortsA (List.take (Prod.fst x_2) l))))) ∧
 Heap.set (Prod.snd (Prod.snd x_1)) (Prod.fst (Prod.snd x_1)) (IObj.tip (Prod.fst x_1 + (1 : Nat))) = Prod.snd (Prod.snd x_2) ∧
 (((0 : Nat) < Prod.fst x_2 ∧ Prod.fst x_2 ≤ List.length l) ∧
 Heap.get (Prod.snd (Prod.snd x_2)) (Prod.fst (Prod.snd x_2)) = IObj.tip (Prod.fst x_2) ∧ Prod.fst (Prod.snd x_2) < Heap.next (Prod.snd (Prod.snd x_2))) ∧
 List.length l - Prod.fst x_2 < List.length l - Prod.fst x))
 (needS (decide ((0 : Int) ≤ n81) && decide (n81 < (↑(Prod.fst x_1) : Int)))
 (ldIS IntKind.i64 (List.map (IV.int IntKind.i64) (sortsA (List.take (Prod.fst x_1) l))) (Int.toNat n81 * (1 : Nat)) fun (n86 : Int) =>
 (∃ (x : Heap),
 some (TV.v (IV.vslice none (0 : Nat) (List.length l) (3 : Nat) (List.flatMap cN l))) = some (TV.v (IV.vslice none (0 : Nat) (List.length l) (3 : Nat) (List.flatMap cN l))) ∧
 some (TV.v (IV.int IntKind.i64 (↑(Prod.fst x_1) : Int))) = some (TV.v (IV.int IntKind.i64 (0 : Int))) ∧
 some (TV.v (IV.vslice (some (Prod.fst (Prod.snd x_1))) (Prod.fst x_1) (Prod.fst x_1) (1 : Nat) (List.map (IV.int IntKind.i64) (sortsA (List.take (Prod.fst x_1) l))))) =
 some (TV.v IV.nilslice) ∧
 some (TV.v (IV.vslice (some (Heap.next (Prod.snd (Prod.snd x_1)))) (1 : Nat) (1 : Nat) (1 : Nat) [IV.int IntKind.i64 n86])) = some (TV.v IV.nilslice) ∧
 some (TV.v (IV.bool true)) = some (TV.v (IV.bool true)) ∧
 some (TV.v (IV.int IntKind.i64 (1 : Int))) = some (TV.v (IV.int IntKind.i64 (0 : Int))) ∧
 Heap.push (Prod.snd (Prod.snd x_1)) (IObj.tip (1 : Nat)) = x ∧
 Nat.le (1 : Nat) (List.length l) ∧
 List.length l * (1000002 : Nat) + kRest l (0 : Nat) (0 : Nat) < (List.length l - Prod.fst x_1) * (1000002 : Nat) + kRest l (Prod.fst x_1) (0 : Nat)) ∨
 (∃ (x : Nat × Nat × Heap),
 some (TV.v (IV.vslice none (0 : Nat) (List.length l) (3 : Nat) (List.flatMap cN l))) = some (TV.v (IV.vslice none (0 : Nat) (List.length l) (3 : Nat) (List.flatMap cN l))) ∧
 some (TV.v (IV.int IntKind.i64 (↑(Prod.fst x_1) : Int))) = some (TV.v (IV.int IntKind.i64 (↑(Prod.fst x) : Int))) ∧
 some (TV.v (IV.vslice (some (Prod.fst (Prod.snd x_1))) (Prod.fst x_1) (Prod.fst x_1) (1 : Nat) (List.map (IV.int IntKind.i64) (sortsA (List.take (Prod.fst x_1) l))))) =
 some (TV.v (IV.vslice (some (Prod.fst (Prod.snd x))) (Prod.fst x) (Prod.fst x) (1 : Nat) (List.map (IV.int IntKind.i64) (sortsA (List.take (Prod.fst x) l))))) ∧
 some (TV.v (IV.vslice (some (Heap.next (Prod.snd (Prod.snd x_1)))) (1 : Nat) (1 : Nat) (1 : Nat) [IV.int IntKind.i64 n86])) = some (TV.v IV.nilslice) ∧
 some (TV.v (IV.bool true)) = some (TV.v (IV.bool true)) ∧
 some (TV.v (IV.int IntKind.i64 (1 : Int))) = some (TV.v (IV.int IntKind.i64 (0 : Int))) ∧
 Heap.push (Prod.snd (Prod.snd x_1)) (IObj.tip (1 : Nat)) = Prod.snd (Prod.snd x) ∧
 (Prod.fst x < List.length l ∧ SO l (Prod.fst x) (Prod.fst (Prod.snd x)) (Prod.snd (Prod.snd x))) ∧
 (List.length l - Prod.fst x) * (1000002 : Nat) + kRest l (Prod.fst x) (0 : Nat) <
 (List.length l - Prod.fst x_1) * (1000002 : Nat) + kRest l (Prod.fst x_1) (0 : Nat)) ∨
 ∃ (x : Nat × Nat × Heap × Nat × List Int × Nat),
 some (TV.v (IV.vslice none (0 : Nat) (List.length l) (3 : Nat) (List.flatMap cN l))) = some (TV.v (IV.vslice none (0 : Nat) (List.length l) (3 : Nat) (List.flatMap cN l))) ∧
 some (TV.v (IV.int IntKind.i64 (↑(Prod.fst x_1) : Int))) = some (TV.v (IV.int IntKind.i64 (↑(Prod.fst x) : Int))) ∧
 some (TV.v (IV.vslice (some (Prod.fst (Prod.snd x_1))) (Prod.fst x_1) (Prod.fst x_1) (1 : Nat) (List.map (IV.int IntKind.i64) (sortsA (List.take (Prod.fst x_1) l))))) =
 some (TV.v (IV.vslice (some (Prod.fst (Prod.snd x))) (Prod.fst x) (Prod.fst x) (1 : Nat) (List.map (IV.int IntKind.i64) (sortsA (List.take (Prod.fst x) l))))) ∧
 some (TV.v (IV.vslice (some (Heap.next (Prod.snd (Prod.snd x_1)))) (1 : Nat) (1 : Nat) (1 : Nat) [IV.int IntKind.i64 n86])) =
 some
 (TV.v
 (IV.vslice (some (Prod.snd (Prod.snd (Prod.snd (Prod.snd (Prod.snd x)))))) (List.length (Prod.fst (Prod.snd (Prod.snd (Prod.snd (Prod.snd x))))))
 (List.length (Prod.fst (Prod.snd (Prod.snd (Prod.snd (Prod.snd x)))))) (1 : Nat)
 (List.map (IV.int IntKind.i64) (Prod.fst (Prod.snd (Prod.snd (Prod.snd (Prod.snd x)))))))) ∧
 some (TV.v (IV.bool true)) = some (TV.v (IV.bool true)) ∧
 some (TV.v (IV.int IntKind.i64 (1 : Int))) = some (TV.v (IV.int IntKind.i64 (↑(Prod.fst (Prod.snd (Prod.snd (Prod.snd x)))) : Int))) ∧
 Heap.push (Prod.snd (Prod.snd x_1)) (IObj.tip (1 : Nat)) = Prod.fst (Prod.snd (Prod.snd x)) ∧
 (Prod.fst x < List.length l ∧
 SO l (Prod.fst x) (Prod.fst (Prod.snd x)) (Prod.fst (Prod.snd (Prod.snd x))) ∧
 SI l (Prod.fst x) (Prod.fst (Prod.snd (Prod.snd (Prod.snd x)))) (Prod.fst (Prod.snd (Prod.snd (Prod.snd (Prod.snd x))))) ∧
 SK (Prod.fst (Prod.snd (Prod.snd (Prod.snd (Prod.snd x))))) (Prod.fst (Prod.snd x)) (Prod.snd (Prod.snd (Prod.snd (Prod.snd (Prod.snd x)))))
 (Prod.fst (Prod.snd (Prod.snd x)))) ∧
 (List.length l - Prod.fst x) * (1000002 : Nat) + kRest l (Prod.fst x) (Prod.fst (Prod.snd (Prod.snd (Prod.snd x)))) <
 (List.length l - Prod.fst x_1) * (1000002 : Nat) + kRest l (Prod.fst x_1) (0 : Nat)))))))))
 (needS (decide ((0 : Int) ≤ (↑(Prod.fst x_1) : Int)) && decide ((↑(Prod.fst x_1) : Int) < (↑(List.length l) : Int)))
 (ldIS IntKind.i64 (List.flatMap cN l) (Int.toNat (↑(Prod.fst x_1) : Int) * (3 : Nat)) fun (n87 : Int) =>
 ldIS IntKind.i64 (List.flatMap cN l) (Int.toNat (↑(Prod.fst x_1) : Int) * (3 : Nat) + (1 : Nat)) fun (n88 : Int) =>
 ldVS (1 : Nat) (List.flatMap cN l) (Int.toNat (↑(Prod.fst x_1) : Int) * (3 : Nat) + (1 : Nat) + (1 : Nat)) fun (i89 : Option Nat) (e90 l91 : Nat) (c92 : List IV) =>
 ∃ (l_1 : List Nd),
 ∃ (ks : List Int),
 ∃ (k : List Int),
 (List.length l = List.length l_1 ∧ List.flatMap cN l = List.flatMap cN l_1) ∧
 (l91 = List.length ks ∧ c92 = List.map (IV.int IntKind.i64) ks) ∧
 ((0 : Nat) = List.length k ∧ [] = List.map (IV.int IntKind.i64) k) ∧
 ((n87 ≠ (25 : Int) ∧ n87 ≠ (30 : Int) ∧ n87 ≠ (31 : Int)) ∧ List.length ks = List.length k ∧ List.length k ≤ (1000000000 : Nat)) ∧
 tipS (Prod.snd (Prod.snd x_1)) (Prod.fst (Prod.snd x_1)) fun (m93 : Nat) =>
 needS (Nat.beq m93 (Prod.fst x_1) && Nat.ble ((Prod.fst x_1 + (1 : Nat)) * (8 : Nat)) (140737488355328 : Nat))
 ((∃ (x_2 : Heap),
 some (TV.v (IV.vslice none (0 : Nat) (List.length l) (3 : Nat) (List.flatMap cN l))) = some (TV.v (IV.vslice none (0 : Nat) (List.length l) (3 : Nat) (List.flatMap cN l))) ∧
 some (TV.v (IV.int IntKind.i64 (IntKind.wrap IntKind.i64 ((↑(Prod.fst x_1) : Int) + (1 : Int))))) = some (TV.v (IV.int IntKind.i64 (0 : Int))) ∧
 some
 (TV.v
 (IV.vslice (some (Prod.fst (Prod.snd x_1))) (Prod.fst x_1 + (1 : Nat)) (Prod.fst x_1 + (1 : Nat)) (1 : Nat)
 (List.map (IV.int IntKind.i64) (sortsA (List.take (Prod.fst x_1) l)) ++ [IV.int IntKind.i64 (nsort n87 n88 k)]))) =
 some (TV.v IV.nilslice) ∧
 Heap.set (Prod.snd (Prod.snd x_1)) (Prod.fst (Prod.snd x_1)) (IObj.tip (Prod.fst x_1 + (1 : Nat))) = x_2 ∧ True ∧ List.length l < List.length l - Prod.fst x) ∨
 ∃ (x_2 : Nat × Nat × Heap),
 some (TV.v (IV.vslice none (0 : Nat) (List.length l) (3 : Nat) (List.flatMap cN l))) = some (TV.v (IV.vslice none (0 : Nat) (List.length l) (3 : Nat) (List.flatMap cN l))) ∧
 some (TV.v (IV.int IntKind.i64 (IntKind.wrap IntKind.i64 ((↑(Prod.fst x_1) : Int) + (1 : Int))))) = some (TV.v (IV.int IntKind.i64 (↑(Prod.fst x_2) : Int))) ∧
 some
 (TV.v
 (IV.vslice (some (Prod.fst (Prod.snd x_1))) (Prod.fst x_1 + (1 : Nat)) (Prod.fst x_1 + (1 : Nat)) (1 : Nat)
 (List.map (IV.int IntKind.i64) (sortsA (List.take (Prod.fst x_1) l)) ++ [IV.int IntKind.i64 (nsort n87 n88 k)]))) =
 some (TV.v (IV.vslice (some (Prod.fst (Prod.snd x_2))) (Prod.fst x_2) (Prod.fst x_2) (1 : Nat) (List.map (IV.int IntKind.i64) (sortsA (List.take (Prod.fst x_2) l))))) ∧
 Heap.set (Prod.snd (Prod.snd x_1)) (Prod.fst (Prod.snd x_1)) (IObj.tip (Prod.fst x_1 + (1 : Nat))) = Prod.snd (Prod.snd x_2) ∧
 (((0 : Nat) < Prod.fst x_2 ∧ Prod.fst x_2 ≤ List.length l) ∧
 Heap.get (Prod.snd (Prod.snd x_2)) (Prod.fst (Prod.snd x_2)) = IObj.tip (Prod.fst x_2) ∧ Prod.fst (Prod.snd x_2) < Heap.next (Prod.snd (Prod.snd x_2))) ∧
 List.length l - Prod.fst x_2 < List.length l - Prod.fst x))))) ∧
 ∀ (x_1 : Nat × Nat × Heap × Nat × List Int × Nat) (b : FF),
 Prod.fst x_1 < List.length l ∧
 SO l (Prod.fst x_1) (Prod.fst (Prod.snd x_1)) (Prod.fst (Prod.snd (Prod.snd x_1))) ∧
 SI l (Prod.fst x_1) (Prod.fst (Prod.snd (Prod.snd (Prod.snd x_1)))) (Prod.fst (Prod.snd (Prod.snd (Prod.snd (Prod.snd x_1))))) ∧
 SK (Prod.fst (Prod.snd (Prod.snd (Prod.snd (Prod.snd x_1))))) (Prod.fst (Prod.snd x_1)) (Prod.snd (Prod.snd (Prod.snd (Prod.snd (Prod.snd x_1))))) (Prod.fst (Prod.snd (Prod.snd x_1))) →
 (List.length l - Prod.fst x_1) * (1000002 : Nat) + kRest l (Prod.fst x_1) (Prod.fst (Prod.snd (Prod.snd (Prod.snd x_1)))) ≤ M →
 needS (decide ((0 : Int) ≤ (↑(Prod.fst x_1) : Int)) && decide ((↑(Prod.fst x_1) : Int) < (↑(List.length l) : Int)))
 (ldVS (1 : Nat) (List.flatMap cN l) (Int.toNat (↑(Prod.fst x_1) : Int) * (3 : Nat) + (2 : Nat)) fun (i94 : Option Nat) (e95 l96 : Nat) (c97 : List IV) =>
 brS (decide ((↑(Prod.fst (Prod.snd (Prod.snd (Prod.snd x_1)))) : Int) < (↑l96 : Int)))
 (needS (decide ((0 : Int) ≤ (↑(Prod.fst x_1) : Int)) && decide ((↑(Prod.fst x_1) : Int) < (↑(List.length l) : Int)))
 (ldVS (1 : Nat) (List.flatMap cN l) (Int.toNat (↑(Prod.fst x_1) : Int) * (3 : Nat) + (2 : Nat)) fun (i98 : Option Nat) (e99 l100 : Nat) (c101 : List IV) =>
 needS (decide ((0 : Int) ≤ (↑(Prod.fst (Prod.snd (Prod.snd (Prod.snd x_1)))) : Int)) && decide ((↑(Prod.fst (Prod.snd (Prod.snd (Prod.snd x_1)))) : Int) < (↑l100 : Int)))
 (ldIS IntKind.i64 c101 (Int.toNat (↑(Prod.fst (Prod.snd (Prod.snd (Prod.snd x_1)))) : Int) * (1 : Nat)) fun (n102 : Int) =>
 brS (decide (n102 < (0 : Int)))
 (tipS (Prod.fst (Prod.snd (Prod.snd x_1))) (Prod.fst (Prod.snd x_1)) fun (m103 : Nat) =>
 needS (Nat.beq m103 (Prod.fst x_1) && Nat.ble ((Prod.fst x_1 + (1 : Nat)) * (8 : Nat)) (140737488355328 : Nat))
 ((∃ (x_2 : Heap),
 some (TV.v (IV.vslice none (0 : Nat) (List.length l) (3 : Nat) (List.flatMap cN l))) = some (TV.v (IV.vslice none (0 : Nat) (List.length l) (3 : Nat) (List.flatMap cN l))) ∧
 some (TV.v (IV.int IntKind.i64 (IntKind.wrap IntKind.i64 ((↑(Prod.fst x_1) : Int) + (1 : Int))))) = some (TV.v (IV.int IntKind.i64 (0 : Int))) ∧
 some
 (TV.v
 (IV.vslice (some (Prod.fst (Prod.snd x_1))) (Prod.fst x_1 + (1 : Nat)) (Prod.fst x_1 + (1 : Nat)) (1 : Nat)
 (List.map (IV.int IntKind.i64) (sortsA (List.take (Prod.fst x_1) l)) ++ [IV.int IntKind.i64 (0 : Int)]))) =
 some (TV.v IV.nilslice) ∧
 Heap.set (Prod.fst (Prod.snd (Prod.snd x_1))) (Prod.fst (Prod.snd x_1)) (IObj.tip (Prod.fst x_1 + (1 : Nat))) = x_2 ∧ True ∧ List.length l < List.length l - Prod.fst x) ∨
 ∃ (x_2 : Nat × Nat × Heap),
 some (TV.v (IV.vslice none (0 : Nat) (List.length l) (3 : Nat) (List.flatMap cN l))) = some (TV.v (IV.vslice none (0 : Nat) (List.length l) (3 : Nat) (List.flatMap cN l))) ∧
 some (TV.v (IV.int IntKind.i64 (IntKind.wrap IntKind.i64 ((↑(Prod.fst x_1) : Int) + (1 : Int))))) = some (TV.v (IV.int IntKind.i64 (↑(Prod.fst x_2) : Int))) ∧
 some
 (TV.v
 (IV.vslice (some (Prod.fst (Prod.snd x_1))) (Prod.fst x_1 + (1 : Nat)) (Prod.fst x_1 + (1 : Nat)) (1 : Nat)
 (List.map (IV.int IntKind.i64) (sortsA (List.take (Prod.fst x_1) l)) ++ [IV.int IntKind.i64 (0 : Int)]))) =
 some (TV.v (IV.vslice (some (Prod.fst (Prod.snd x_2))) (Prod.fst x_2) (Prod.fst x_2) (1 : Nat) (List.map (IV.int IntKind.i64) (sortsA (List.take (Prod.fst x_2) l))))) ∧
 Heap.set (Prod.fst (Prod.snd (Prod.snd x_1))) (Prod.fst (Prod.snd x_1)) (IObj.tip (Prod.fst x_1 + (1 : Nat))) = Prod.snd (Prod.snd x_2) ∧
 (((0 : Nat) < Prod.fst x_2 ∧ Prod.fst x_2 ≤ List.length l) ∧
 Heap.get (Prod.snd (Prod.snd x_2)) (Prod.fst (Prod.snd x_2)) = IObj.tip (Prod.fst x_2) ∧ Prod.fst (Prod.snd x_2) < Heap.next (Prod.snd (Prod.snd x_2))) ∧
 List.length l - Prod.fst x_2 < List.length l - Prod.fst x))
 (brS (decide (n102 ≥ (↑(Prod.fst x_1) : Int)))
 (tipS (Prod.fst (Prod.snd (Prod.snd x_1))) (Prod.fst (Prod.snd x_1)) fun (m104 : Nat) =>
 needS (Nat.beq m104 (Prod.fst x_1) && Nat.ble ((Prod.fst x_1 + (1 : Nat)) * (8 : Nat)) (140737488355328 : Nat))
 ((∃ (x_2 : Heap),
 some (TV.v (IV.vslice none (0 : Nat) (List.length l) (3 : Nat) (List.flatMap cN l))) = some (TV.v (IV.vslice none (0 : Nat) (List.length l) (3 : Nat) (List.flatMap cN l))) ∧
 some (TV.v (IV.int IntKind.i64 (IntKind.wrap IntKind.i64 ((↑(Prod.fst x_1) : Int) + (1 : Int))))) = some (TV.v (IV.int IntKind.i64 (0 : Int))) ∧
 some
 (TV.v
 (IV.vslice (some (Prod.fst (Prod.snd x_1))) (Prod.fst x_1 + (1 : Nat)) (Prod.fst x_1 + (1 : Nat)) (1 : Nat)
 (List.map (IV.int IntKind.i64) (sortsA (List.take (Prod.fst x_1) l)) ++ [IV.int IntKind.i64 (0 : Int)]))) =
 some (TV.v IV.nilslice) ∧
 Heap.set (Prod.fst (Prod.snd (Prod.snd x_1))) (Prod.fst (Prod.snd x_1)) (IObj.tip (Prod.fst x_1 + (1 : Nat))) = x_2 ∧ True ∧ List.length l < List.length l - Prod.fst x) ∨
 ∃ (x_2 : Nat × Nat × Heap),
 some (TV.v (IV.vslice none (0 : Nat) (List.length l) (3 : Nat) (List.flatMap cN l))) = some (TV.v (IV.vslice none (0 : Nat) (List.length l) (3 : Nat) (List.flatMap cN l))) ∧
 some (TV.v (IV.int IntKind.i64 (IntKind.wrap IntKind.i64 ((↑(Prod.fst x_1) : Int) + (1 : Int))))) = some (TV.v (IV.int IntKind.i64 (↑(Prod.fst x_2) : Int))) ∧
 some
 (TV.v
 (IV.vslice (some (Prod.fst (Prod.snd x_1))) (Prod.fst x_1 + (1 : Nat)) (Prod.fst x_1 + (1 : Nat)) (1 : Nat)
 (List.map (IV.int IntKind.i64) (sortsA (List.take (Prod.fst x_1) l)) ++ [IV.int IntKind.i64 (0 : Int)]))) =
 some (TV.v (IV.vslice (some (Prod.fst (Prod.snd x_2))) (Prod.fst x_2) (Prod.fst x_2) (1 : Nat) (List.map (IV.int IntKind.i64) (sortsA (List.take (Prod.fst x_2) l))))) ∧
 Heap.set (Prod.fst (Prod.snd (Prod.snd x_1))) (Prod.fst (Prod.snd x_1)) (IObj.tip (Prod.fst x_1 + (1 : Nat))) = Prod.snd (Prod.snd x_2) ∧
 (((0 : Nat) < Prod.fst x_2 ∧ Prod.fst x_2 ≤ List.length l) ∧
 Heap.get (Prod.snd (Prod.snd x_2)) (Prod.fst (Prod.snd x_2)) = IObj.tip (Prod.fst x_2) ∧ Prod.fst (Prod.snd x_2) < Heap.next (Prod.snd (Prod.snd x_2))) ∧
 List.length l - Prod.fst x_2 < List.length l - Prod.fst x))
 (needS (decide ((0 : Int) ≤ n102) && decide (n102 < (↑(Prod.fst x_1) : Int)))
 (ldIS IntKind.i64 (List.map (IV.int IntKind.i64) (sortsA (List.take (Prod.fst x_1) l))) (Int.toNat n102 * (1 : Nat)) fun (n105 : Int) =>
 brS (n105 == (0 : Int))
 (tipS (Prod.fst (Prod.snd (Prod.snd x_1))) (Prod.fst (Prod.snd x_1)) fun (m106 : Nat) =>
 needS (Nat.beq m106 (Prod.fst x_1) && Nat.ble ((Prod.fst x_1 + (1 : Nat)) * (8 : Nat)) (140737488355328 : Nat))
 ((∃ (x_2 : Heap),
 some (TV.v (IV.vslice none (0 : Nat) (List.length l) (3 : Nat) (List.flatMap cN l))) = some (TV.v (IV.vslice none (0 : Nat) (List.length l) (3 : Nat) (List.flatMap cN l))) ∧
 some (TV.v (IV.int IntKind.i64 (IntKind.wrap IntKind.i64 ((↑(Prod.fst x_1) : Int) + (1 : Int))))) = some (TV.v (IV.int IntKind.i64 (0 : Int))) ∧
 some
 (TV.v
 (IV.vslice (some (Prod.fst (Prod.snd x_1))) (Prod.fst x_1 + (1 : Nat)) (Prod.fst x_1 + (1 : Nat)) (1 : Nat)
 (List.map (IV.int IntKind.i64) (sortsA (List.take (Prod.fst x_1) l)) ++ [IV.int IntKind.i64 (0 : Int)]))) =
 some (TV.v IV.nilslice) ∧
 Heap.set (Prod.fst (Prod.snd (Prod.snd x_1))) (Prod.fst (Prod.snd x_1)) (IObj.tip (Prod.fst x_1 + (1 : Nat))) = x_2 ∧ True ∧ List.length l < List.length l - Prod.fst x) ∨
 ∃ (x_2 : Nat × Nat × Heap),
 some (TV.v (IV.vslice none (0 : Nat) (List.length l) (3 : Nat) (List.flatMap cN l))) = some (TV.v (IV.vslice none (0 : Nat) (List.length l) (3 : Nat) (List.flatMap cN l))) ∧
 some (TV.v (IV.int IntKind.i64 (IntKind.wrap IntKind.i64 ((↑(Prod.fst x_1) : Int) + (1 : Int))))) = some (TV.v (IV.int IntKind.i64 (↑(Prod.fst x_2) : Int))) ∧
 some
 (TV.v
 (IV.vslice (some (Prod.fst (Prod.snd x_1))) (Prod.fst x_1 + (1 : Nat)) (Prod.fst x_1 + (1 : Nat)) (1 : Nat)
 (List.map (IV.int IntKind.i64) (sortsA (List.take (Prod.fst x_1) l)) ++ [IV.int IntKind.i64 (0 : Int)]))) =
 some (TV.v (IV.vslice (some (Prod.fst (Prod.snd x_2))) (Prod.fst x_2) (Prod.fst x_2) (1 : Nat) (List.map (IV.int IntKind.i64) (sortsA (List.take (Prod.fst x_2) l))))) ∧
 Heap.set (Prod.fst (Prod.snd (Prod.snd x_1))) (Prod.fst (Prod.snd x_1)) (IObj.tip (Prod.fst x_1 + (1 : Nat))) = Prod.snd (Prod.snd x_2) ∧
 (((0 : Nat) < Prod.fst x_2 ∧ Prod.fst x_2 ≤ List.length l) ∧
 Heap.get (Prod.snd (Prod.snd x_2)) (Prod.fst (Prod.snd x_2)) = IObj.tip (Prod.fst x_2) ∧ Prod.fst (Prod.snd x_2) < Heap.next (Prod.snd (Prod.snd x_2))) ∧
 List.length l - Prod.fst x_2 < List.length l - Prod.fst x))
 (needS (decide ((0 : Int) ≤ n102) && decide (n102 < (↑(Prod.fst x_1) : Int)))
 (ldIS IntKind.i64 (List.map (IV.int IntKind.i64) (sortsA (List.take (Prod.fst x_1) l))) (Int.toNat n102 * (1 : Nat)) fun (n107 : Int) =>
 tipS (Prod.fst (Prod.snd (Prod.snd x_1))) (Prod.snd (Prod.snd (Prod.snd (Prod.snd (Prod.snd x_1))))) fun (m108 : Nat) =>
 needS
 (Nat.beq m108 (List.length (Prod.fst (Prod.snd (Prod.snd (Prod.snd (Prod.snd x_1)))))) &&
 Nat.ble ((List.length (Prod.fst (Prod.snd (Prod.snd (Prod.snd (Prod.snd x_1))))) + (1 : Nat)) * (8 : Nat)) (140737488355328 : Nat))
 ((∃ (x : Heap),
 some (TV.v (IV.vslice none (0 : Nat) (List.length l) (3 : Nat) (List.flatMap cN l))) = some (TV.v (IV.vslice none (0 : Nat) (List.length l) (3 : Nat) (List.flatMap cN l))) ∧
 some (TV.v (IV.int IntKind.i64 (↑(Prod.fst x_1) : Int))) = some (TV.v (IV.int IntKind.i64 (0 : Int))) ∧
 some (TV.v (IV.vslice (some (Prod.fst (Prod.snd x_1))) (Prod.fst x_1) (Prod.fst x_1) (1 : Nat) (List.map (IV.int IntKind.i64) (sortsA (List.take (Prod.fst x_1) l))))) =
 some (TV.v IV.nilslice) ∧
 some
 (TV.v
 (IV.vslice (some (Prod.snd (Prod.snd (Prod.snd (Prod.snd (Prod.snd x_1)))))) (List.length (Prod.fst (Prod.snd (Prod.snd (Prod.snd (Prod.snd x_1))))) + (1 : Nat))
 (List.length (Prod.fst (Prod.snd (Prod.snd (Prod.snd (Prod.snd x_1))))) + (1 : Nat)) (1 : Nat)
 (List.map (IV.int IntKind.i64) (Prod.fst (Prod.snd (Prod.snd (Prod.snd (Prod.snd x_1))))) ++ [IV.int IntKind.i64 n107]))) =
 some (TV.v IV.nilslice) ∧
 some (TV.v (IV.bool true)) = some (TV.v (IV.bool true)) ∧
 some (TV.v (IV.int IntKind.i64 (IntKind.wrap IntKind.i64 ((↑(Prod.fst (Prod.snd (Prod.snd (Prod.snd x_1)))) : Int) + (1 : Int))))) =
 some (TV.v (IV.int IntKind.i64 (0 : Int))) ∧
 Heap.set (Prod.fst (Prod.snd (Prod.snd x_1))) (Prod.snd (Prod.snd (Prod.snd (Prod.snd (Prod.snd x_1)))))
 (IObj.tip (List.length (Prod.fst (Prod.snd (Prod.snd (Prod.snd (Prod.snd x_1))))) + (1 : Nat))) =
 x ∧
 Nat.le (1 : Nat) (List.length l) ∧
 List.length l * (1000002 : Nat) + kRest l (0 : Nat) (0 : Nat) <
 (List.length l - Prod.fst x_1) * (1000002 : Nat) + kRest l (Prod.fst x_1) (Prod.fst (Prod.snd (Prod.snd (Prod.snd x_1))))) ∨
 (∃ (x : Nat × Nat × Heap),
 some (TV.v (IV.vslice none (0 : Nat) (List.length l) (3 : Nat) (List.flatMap cN l))) = some (TV.v (IV.vslice none (0 : Nat) (List.length l) (3 : Nat) (List.flatMap cN l))) ∧
 some (TV.v (IV.int IntKind.i64 (↑(Prod.fst x_1) : Int))) = some (TV.v (IV.int IntKind.i64 (↑(Prod.fst x) : Int))) ∧
 some (TV.v (IV.vslice (some (Prod.fst (Prod.snd x_1))) (Prod.fst x_1) (Prod.fst x_1) (1 : Nat) (List.map (IV.int IntKind.i64) (sortsA (List.take (Prod.fst x_1) l))))) =
 some (TV.v (IV.vslice (some (Prod.fst (Prod.snd x))) (Prod.fst x) (Prod.fst x) (1 : Nat) (List.map (IV.int IntKind.i64) (sortsA (List.take (Prod.fst x) l))))) ∧
 some
 (TV.v
 (IV.vslice (some (Prod.snd (Prod.snd (Prod.snd (Prod.snd (Prod.snd x_1)))))) (List.length (Prod.fst (Prod.snd (Prod.snd (Prod.snd (Prod.snd x_1))))) + (1 : Nat))
 (List.length (Prod.fst (Prod.snd (Prod.snd (Prod.snd (Prod.snd x_1))))) + (1 : Nat)) (1 : Nat)
 (List.map (IV.int IntKind.i64) (Prod.fst (Prod.snd (Prod.snd (Prod.snd (Prod.snd x_1))))) ++ [IV.int IntKind.i64 n107]))) =
 some (TV.v IV.nilslice) ∧
 some (TV.v (IV.bool true)) = some (TV.v (IV.bool true)) ∧
 some (TV.v (IV.int IntKind.i64 (IntKind.wrap IntKind.i64 ((↑(Prod.fst (Prod.snd (Prod.snd (Prod.snd x_1)))) : Int) + (1 : Int))))) =
 some (TV.v (IV.int IntKind.i64 (0 : Int))) ∧
 Heap.set (Prod.fst (Prod.snd (Prod.snd x_1))) (Prod.snd (Prod.snd (Prod.snd (Prod.snd (Prod.snd x_1)))))
 (IObj.tip (List.length (Prod.fst (Prod.snd (Prod.snd (Prod.snd (Prod.snd x_1))))) + (1 : Nat))) =
 Prod.snd (Prod.snd x) ∧
 (Prod.fst x < List.length l ∧ SO l (Prod.fst x) (Prod.fst (Prod.snd x)) (Prod.snd (Prod.snd x))) ∧
 (List.length l - Prod.fst x) * (1000002 : Nat) + kRest l (Prod.fst x) (0 : Nat) <
 (List.length l - Prod.fst x_1) * (1000002 : Nat) + kRest l (Prod.fst x_1) (Prod.fst (Prod.snd (Prod.snd (Prod.snd x_1))))) ∨
 ∃ (x : Nat × Nat × Heap × Nat × List Int × Nat),
 some (TV.v (IV.vslice none (0 : Nat) (List.length l) (3 : Nat) (List.flatMap cN l))) = some (TV.v (IV.vslice none (0 : Nat) (List.length l) (3 : Nat) (List.flatMap cN l))) ∧
 some (TV.v (IV.int IntKind.i64 (↑(Prod.fst x_1) : Int))) = some (TV.v (IV.int IntKind.i64 (↑(Prod.fst x) : Int))) ∧
 some (TV.v (IV.vslice (some (Prod.fst (Prod.snd x_1))) (Prod.fst x_1) (Prod.fst x_1) (1 : Nat) (List.map (IV.int IntKind.i64) (sortsA (List.take (Prod.fst x_1) l))))) =
 some (TV.v (IV.vslice (some (Prod.fst (Prod.snd x))) (Prod.fst x) (Prod.fst x) (1 : Nat) (List.map (IV.int IntKind.i64) (sortsA (List.take (Prod.fst x) l))))) ∧
 some
 (TV.v
 (IV.vslice (some (Prod.snd (Prod.snd (Prod.snd (Prod.snd (Prod.snd x_1)))))) (List.length (Prod.fst (Prod.snd (Prod.snd (Prod.snd (Prod.snd x_1))))) + (1 : Nat))
 (List.length (Prod.fst (Prod.snd (Prod.snd (Prod.snd (Prod.snd x_1))))) + (1 : Nat)) (1 : Nat)
 (List.map (IV.int IntKind.i64) (Prod.fst (Prod.snd (Prod.snd (Prod.snd (Prod.snd x_1))))) ++ [IV.int IntKind.i64 n107]))) =
 some
 (TV.v
 (IV.vslice (some (Prod.snd (Prod.snd (Prod.snd (Prod.snd (Prod.snd x)))))) (List.length (Prod.fst (Prod.snd (Prod.snd (Prod.snd (Prod.snd x))))))
 (List.length (Prod.fst (Prod.snd (Prod.snd (Prod.snd (Prod.snd x)))))) (1 : Nat)
 (List.map (IV.int IntKind.i64) (Prod.fst (Prod.snd (Prod.snd (Prod.snd (Prod.snd x)))))))) ∧
 some (TV.v (IV.bool true)) = some (TV.v (IV.bool true)) ∧
 some (TV.v (IV.int IntKind.i64 (IntKind.wrap IntKind.i64 ((↑(Prod.fst (Prod.snd (Prod.snd (Prod.snd x_1)))) : Int) + (1 : Int))))) =
 some (TV.v (IV.int IntKind.i64 (↑(Prod.fst (Prod.snd (Prod.snd (Prod.snd x)))) : Int))) ∧
 Heap.set (Prod.fst (Prod.snd (Prod.snd x_1))) (Prod.snd (Prod.snd (Prod.snd (Prod.snd (Prod.snd x_1)))))
 (IObj.tip (List.length (Prod.fst (Prod.snd (Prod.snd (Prod.snd (Prod.snd x_1))))) + (1 : Nat))) =
 Prod.fst (Prod.snd (Prod.snd x)) ∧
 (Prod.fst x < List.length l ∧
 SO l (Prod.fst x) (Prod.fst (Prod.snd x)) (Prod.fst (Prod.snd (Prod.snd x))) ∧
 SI l (Prod.fst x) (Prod.fst (Prod.snd (Prod.snd (Prod.snd x)))) (Prod.fst (Prod.snd (Prod.snd (Prod.snd (Prod.snd x))))) ∧
 SK (Prod.fst (Prod.snd (Prod.snd (Prod.snd (Prod.snd x))))) (Prod.fst (Prod.snd x)) (Prod.snd (Prod.snd (Prod.snd (Prod.snd (Prod.snd x)))))
 (Prod.fst (Prod.snd (Prod.snd x)))) ∧
 (List.length l - Prod.fst x) * (1000002 : Nat) + kRest l (Prod.fst x) (Prod.fst (Prod.snd (Prod.snd (Prod.snd x)))) <
 (List.length l - Prod.fst x_1) * (1000002 : Nat) + kRest l (Prod.fst x_1) (Prod.fst (Prod.snd (Prod.snd (Prod.snd x_1)))))))))))))
 (needS (decide ((0 : Int) ≤ (↑(Prod.fst x_1) : Int)) && decide ((↑(Prod.fst x_1) : Int) < (↑(List.length l) : Int)))
 (ldIS IntKind.i64 (List.flatMap cN l) (Int.toNat (↑(Prod.fst x_1) : Int) * (3 : Nat)) fun (n109 : Int) =>
 ldIS IntKind.i64 (List.flatMap cN l) (Int.toNat (↑(Prod.fst x_1) : Int) * (3 : Nat) + (1 : Nat)) fun (n110 : Int) =>
 ldVS (1 : Nat) (List.flatMap cN l) (Int.toNat (↑(Prod.fst x_1) : Int) * (3 : Nat) + (1 : Nat) + (1 : Nat)) fun (i111 : Option Nat) (e112 l113 : Nat) (c114 : List IV) =>
 ∃ (l_1 : List Nd),
 ∃ (ks : List Int),
 ∃ (k : List Int),
 (List.length l = List.length l_1 ∧ List.flatMap cN l = List.flatMap cN l_1) ∧
 (l113 = List.length ks ∧ c114 = List.map (IV.int IntKind.i64) ks) ∧
 (List.length (Prod.fst (Prod.snd (Prod.snd (Prod.snd (Prod.snd x_1))))) = List.length k ∧
 List.map (IV.int IntKind.i64) (Prod.fst (Prod.snd (Prod.snd (Prod.snd (Prod.snd x_1))))) = List.map (IV.int IntKind.i64) k) ∧
 ((n109 ≠ (25 : Int) ∧ n109 ≠ (30 : Int) ∧ n109 ≠ (31 : Int)) ∧ List.length ks = List.length k ∧ List.length k ≤ (1000000000 : Nat)) ∧
 tipS (Prod.fst (Prod.snd (Prod.snd x_1))) (Prod.fst (Prod.snd x_1)) fun (m115 : Nat) =>
 needS (Nat.beq m115 (Prod.fst x_1) && Nat.ble ((Prod.fst x_1 + (1 : Nat)) * (8 : Nat)) (140737488355328 : Nat))
 ((∃ (x_2 : Heap),
 some (TV.v (IV.vslice none (0 : Nat) (List.length l) (3 : Nat) (List.flatMap cN l))) = some (TV.v (IV.vslice none (0 : Nat) (List.length l) (3 : Nat) (List.flatMap cN l))) ∧
 some (TV.v (IV.int IntKind.i64 (IntKind.wrap IntKind.i64 ((↑(Prod.fst x_1) : Int) + (1 : Int))))) = some (TV.v (IV.int IntKind.i64 (0 : Int))) ∧
 some
 (TV.v
 (IV.vslice (some (Prod.fst (Prod.snd x_1))) (Prod.fst x_1 + (1 : Nat)) (Prod.fst x_1 + (1 : Nat)) (1 : Nat)
 (List.map (IV.int IntKind.i64) (sortsA (List.take (Prod.fst x_1) l)) ++ [IV.int IntKind.i64 (nsort n109 n110 k)]))) =
 some (TV.v IV.nilslice) ∧
 Heap.set (Prod.fst (Prod.snd (Prod.snd x_1))) (Prod.fst (Prod.snd x_1)) (IObj.tip (Prod.fst x_1 + (1 : Nat))) = x_2 ∧ True ∧ List.length l < List.length l - Prod.fst x) ∨
 ∃ (x_2 : Nat × Nat × Heap),
 some (TV.v (IV.vslice none (0 : Nat) (List.length l) (3 : Nat) (List.flatMap cN l))) = some (TV.v (IV.vslice none (0 : Nat) (List.length l) (3 : Nat) (List.flatMap cN l))) ∧
 some (TV.v (IV.int IntKind.i64 (IntKind.wrap IntKind.i64 ((↑(Prod.fst x_1) : Int) + (1 : Int))))) = some (TV.v (IV.int IntKind.i64 (↑(Prod.fst x_2) : Int))) ∧
 some
 (TV.v
 (IV.vslice (some (Prod.fst (Prod.snd x_1))) (Prod.fst x_1 + (1 : Nat)) (Prod.fst x_1 + (1 : Nat)) (1 : Nat)
 (List.map (IV.int IntKind.i64) (sortsA (List.take (Prod.fst x_1) l)) ++ [IV.int IntKind.i64 (nsort n109 n110 k)]))) =
 some (TV.v (IV.vslice (some (Prod.fst (Prod.snd x_2))) (Prod.fst x_2) (Prod.fst x_2) (1 : Nat) (List.map (IV.int IntKind.i64) (sortsA (List.take (Prod.fst x_2) l))))) ∧
 Heap.set (Prod.fst (Prod.snd (Prod.snd x_1))) (Prod.fst (Prod.snd x_1)) (IObj.tip (Prod.fst x_1 + (1 : Nat))) = Prod.snd (Prod.snd x_2) ∧
 (((0 : Nat) < Prod.fst x_2 ∧ Prod.fst x_2 ≤ List.length l) ∧
 Heap.get (Prod.snd (Prod.snd x_2)) (Prod.fst (Prod.snd x_2)) = IObj.tip (Prod.fst x_2) ∧ Prod.fst (Prod.snd x_2) < Heap.next (Prod.snd (Prod.snd x_2))) ∧
 List.length l - Prod.fst x_2 < List.length l - Prod.fst x)))))
 (needS (pureL [IV.vslice none (0 : Nat) (Prod.fst x) (1 : Nat) (List.map (IV.int IntKind.i64) (sortsA (List.take (Prod.fst x) l)))])
 (Q (IV.vslice none (0 : Nat) (Prod.fst x) (1 : Nat) (List.map (IV.int IntKind.i64) (sortsA (List.take (Prod.fst x) l)))) h)))) := by kernel_rfl
set_option maxHeartbeats 2000000 in
theorem sSorts : ∀ xs h Q, kSorts xs h Q → CallW env 26 xs h Q := by
  intro xs h Q hk
  unfold kSorts at hk
  split at hk
  · rename_i e1 n1 c1
    obtain ⟨l, ⟨rfl, rfl⟩, hb, hk⟩ := hk
    refine dF_run (okNSort) (vSorts l e1 h Q) ?_
    have tn : ∀ x : Nat, (x : Int).toNat = x := Int.toNat_natCast
    obtain ⟨hb1, hbl⟩ := hb
    have hel : ∀ {i : Nat} (h : i < l.length), l[i].ks.length ≤ 1000000 := fun h => (hb1 _ (List.getElem_mem h)).1
    have hkr : ∀ i, kRest l i 0 ≤ 1000000 := fun i => by
      rcases Nat.lt_or_ge i l.length with q | q
      · rw [kRest_at q]
        have := hel q
        omega
      · unfold kRest
        rw [List.getElem?_eq_none q]
        exact Nat.zero_le _
    refine needS_intro (by simp only [pureL, pureB, pureL_cN, Bool.and_true]) ⟨.inl ⟨Heap.empty, (by first | rfl | exact True.intro), (by first | rfl | exact True.intro), (by first | rfl | exact True.intro), (by first | rfl | exact True.intro), trivial, trivial⟩, ?_, ?_⟩
    · rintro g _ _
      refine brS_intro (fun c => ?_) (fun c => ?_)
      · rw [decide_eq_true_eq] at c
        have hlt0 : 0 < l.length := by omega
        refine ⟨l.length * 1000002 + kRest l 0 0, .inl ⟨g, (by first | rfl | exact True.intro), (by first | rfl | exact True.intro), (by first | rfl | exact True.intro), (by first | rfl | exact True.intro), (by first | rfl | exact True.intro), (by first | rfl | exact True.intro), (by first | rfl | exact True.intro), hlt0, Nat.le_refl _⟩, ?_, ?_, ?_⟩
        · rintro g _ hlt hM
          refine needS_intro (by simp; omega) (ldNk hlt rfl (brS_intro (fun c1 => ?_) (fun c1 => ?_)))
          · rw [decide_eq_true_eq] at c1
            have hj : 0 < l[0].ks.length := by omega
            have hm : l[0].ks[0] ∈ l[0].ks := List.getElem_mem hj
            refine needS_intro (by simp; omega) (ldNk hlt rfl (needS_intro (by simp; omega) (ldI1 hj rfl (brS_intro (fun c2 => ?_) (fun c2 => brS_intro (fun c3 => ?_) (fun c3 => ?_))))))
            · rw [decide_eq_true_eq] at c2
              exact (.inr ⟨(1, g.next, g.push (.tip 1)), (by first | rfl | exact True.intro), (by first | rfl | exact True.intro), (by rw [sortsA_step hlt, sstep_bad hm (kidOk_neg c2)]; rfl), (by first | rfl | exact True.intro), ⟨⟨Nat.one_pos, hlt⟩, get_push_eq, Nat.lt_succ_self _⟩, by dsimp only; omega⟩)
            · rw [decide_eq_true_eq] at c3
              exact (.inr ⟨(1, g.next, g.push (.tip 1)), (by first | rfl | exact True.intro), (by first | rfl | exact True.intro), (by rw [sortsA_step hlt, sstep_bad hm (kidOk_big (by show (0 : Int) ≤ _; omega))]; rfl), (by first | rfl | exact True.intro), ⟨⟨Nat.one_pos, hlt⟩, get_push_eq, Nat.lt_succ_self _⟩, by dsimp only; omega⟩)
            · rw [decide_eq_false_iff_not] at c2 c3
              omega
          · rw [decide_eq_false_iff_not] at c1
            have hl := (SI.zero hlt).last hlt (by omega)
            refine needS_intro (by simp; omega) (ldNd (i := 0) (o := 0) hlt rfl ⟨l, l[0].ks, [], ⟨rfl, rfl⟩, ⟨rfl, rfl⟩, ⟨rfl, rfl⟩, ⟨(hb1 _ (List.getElem_mem hlt)).2, hl.2.symm, by simp⟩, ?_⟩)
            exact (.inr ⟨(1, g.next, g.push (.tip 1)), (by first | rfl | exact True.intro), (by first | rfl | exact True.intro), (by rw [sortsA_step hlt, show sstep (sortsA (l.take 0)) l[0] = nsort l[0].op l[0].im [] from hl.1]; rfl), (by first | rfl | exact True.intro), ⟨⟨Nat.one_pos, hlt⟩, get_push_eq, Nat.lt_succ_self _⟩, by dsimp only; omega⟩)
        · rintro ⟨i, id, g⟩ _ ⟨hi, ⟨⟨hi0, hi1⟩, hg, hid⟩⟩ hM
          dsimp only at hi hi0 hi1 hg hid hM ⊢
          have hol : (sortsA (l.take i)).length = i := by rw [sortsA_len, List.length_take]; omega
          have hkl := hel hi
          simp only [kRest_at hi] at hM
          refine needS_intro (by simp; omega) (ldNk hi (by rw [tn]) (brS_intro (fun c1 => ?_) (fun c1 => ?_)))
          · rw [decide_eq_true_eq] at c1
            have hj : 0 < l[i].ks.length := by omega
            have hm : l[i].ks[0] ∈ l[i].ks := List.getElem_mem hj
            refine needS_intro (by simp; omega) (ldNk hi (by rw [tn]) (needS_intro (by simp; omega) (ldI1 hj rfl (brS_intro (fun c2 => ?_) (fun c2 => brS_intro (fun c3 => ?_) (fun c3 => ?_))))))
            · rw [decide_eq_true_eq] at c2
              exact tip_intro hg (needS_intro (by simp only [Nat.mul_one, Bool.and_eq_true, nbeq_t, Nat.ble_eq, true_and]; omega) (.inr ⟨(i + 1, id, g.set id (.tip (i + 1))), (by first | rfl | exact True.intro), (by rw [IntWalk.i64_in _ (by omega)]; rfl), (by rw [sortsA_step hi, sstep_bad hm (kidOk_neg c2)]; simp), (by first | rfl | exact True.intro), ⟨⟨Nat.succ_pos _, hi⟩, get_set_eq, hid⟩, by dsimp only; omega⟩))
            · rw [decide_eq_true_eq] at c3
              exact tip_intro hg (needS_intro (by simp only [Nat.mul_one, Bool.and_eq_true, nbeq_t, Nat.ble_eq, true_and]; omega) (.inr ⟨(i + 1, id, g.set id (.tip (i + 1))), (by first | rfl | exact True.intro), (by rw [IntWalk.i64_in _ (by omega)]; rfl), (by rw [sortsA_step hi, sstep_bad hm (kidOk_big (by omega))]; simp), (by first | rfl | exact True.intro), ⟨⟨Nat.succ_pos _, hi⟩, get_set_eq, hid⟩, by dsimp only; omega⟩))
            rw [decide_eq_false_iff_not] at c2 c3
            have hq : (l[i].ks[0]).toNat < (sortsA (l.take i)).length := by omega
            refine needS_intro (by simp; omega) (ldI1 hq (Nat.mul_one _) (brS_intro (fun c4 => ?_) (fun c4 => ?_)))
            · rw [beq_iff_eq] at c4
              exact tip_intro hg (needS_intro (by simp only [Nat.mul_one, Bool.and_eq_true, nbeq_t, Nat.ble_eq, true_and]; omega) (.inr ⟨(i + 1, id, g.set id (.tip (i + 1))), (by first | rfl | exact True.intro), (by rw [IntWalk.i64_in _ (by omega)]; rfl), (by rw [sortsA_step hi, sstep_bad hm (kidOk_zero hq c4)]; simp), (by first | rfl | exact True.intro), ⟨⟨Nat.succ_pos _, hi⟩, get_set_eq, hid⟩, by dsimp only; omega⟩))
            rw [beq_eq_false_iff_ne] at c4
            obtain ⟨k1, k2⟩ := kidOk_intro (by omega) hq c4
            have hs := (SI.zero hi).step hi hj k1
            rw [k2] at hs
            refine needS_intro (by simp; omega) (ldI1 hq (Nat.mul_one _) (.inr (.inr ⟨(i, id, g.push (.tip 1), 1, [(sortsA (l.take i))[(l[i].ks[0]).toNat]], g.next), (by first | rfl | exact True.intro), (by first | rfl | exact True.intro), (by first | rfl | exact True.intro), (by first | rfl | exact True.intro), (by first | rfl | exact True.intro), (by first | rfl | exact True.intro), (by first | rfl | exact True.intro), ⟨hi, ⟨⟨hi0, hi1⟩, by rw [get_push_lt hid]; exact hg, Nat.lt_succ_of_lt hid⟩, hs, ⟨Nat.one_pos, get_push_eq, Nat.lt_succ_self _, by dsimp only; omega⟩⟩, ?_⟩)))
            dsimp only
            rw [kRest_at hi, kRest_at hi]
            omega
          · rw [decide_eq_false_iff_not] at c1
            have hl := (SI.zero hi).last hi (by omega)
            refine needS_intro (by simp; omega) (ldNd hi (by rw [tn]) ⟨l, l[i].ks, [], ⟨rfl, rfl⟩, ⟨rfl, rfl⟩, ⟨rfl, rfl⟩, ⟨(hb1 _ (List.getElem_mem hi)).2, hl.2.symm, by simp⟩, ?_⟩)
            exact tip_intro hg (needS_intro (by simp only [Nat.mul_one, Bool.and_eq_true, nbeq_t, Nat.ble_eq, true_and]; omega) (.inr ⟨(i + 1, id, g.set id (.tip (i + 1))), (by first | rfl | exact True.intro), (by rw [IntWalk.i64_in _ (by omega)]; rfl), (by rw [sortsA_step hi, hl.1]; simp), (by first | rfl | exact True.intro), ⟨⟨Nat.succ_pos _, hi⟩, get_set_eq, hid⟩, by dsimp only; omega⟩))
        · rintro ⟨i, id, g, j, k, idK⟩ _ ⟨hi, ⟨⟨hi0, hi1⟩, hg, hid⟩, hsi, ⟨hk0, hkg, hkid, hkne⟩⟩ hM
          dsimp only at hi hi0 hi1 hg hid hsi hk0 hkg hkid hkne hM ⊢
          have hol : (sortsA (l.take i)).length = i := by rw [sortsA_len, List.length_take]; omega
          have hkl := hel hi
          have hkj : k.length = j := by obtain ⟨n, _, h2, _⟩ := hsi; exact h2.2
          simp only [kRest_at hi] at hM
          refine needS_intro (by simp; omega) (ldNk hi (by rw [tn]) (brS_intro (fun c1 => ?_) (fun c1 => ?_)))
          · rw [decide_eq_true_eq] at c1
            have hj : j < l[i].ks.length := by omega
            have hm : l[i].ks[j] ∈ l[i].ks := List.getElem_mem hj
            refine needS_intro (by simp; omega) (ldNk hi (by rw [tn]) (needS_intro (by simp; omega) (ldI1 hj (by rw [Nat.mul_one, tn]) (brS_intro (fun c2 => ?_) (fun c2 => brS_intro (fun c3 => ?_) (fun c3 => ?_))))))
            · rw [decide_eq_true_eq] at c2
              exact tip_intro hg (needS_intro (by simp only [Nat.mul_one, Bool.and_eq_true, nbeq_t, Nat.ble_eq, true_and]; omega) (.inr ⟨(i + 1, id, g.set id (.tip (i + 1))), (by first | rfl | exact True.intro), (by rw [IntWalk.i64_in _ (by omega)]; rfl), (by rw [sortsA_step hi, sstep_bad hm (kidOk_neg c2)]; simp), (by first | rfl | exact True.intro), ⟨⟨Nat.succ_pos _, hi⟩, get_set_eq, hid⟩, by dsimp only; omega⟩))
            · rw [decide_eq_true_eq] at c3
              exact tip_intro hg (needS_intro (by simp only [Nat.mul_one, Bool.and_eq_true, nbeq_t, Nat.ble_eq, true_and]; omega) (.inr ⟨(i + 1, id, g.set id (.tip (i + 1))), (by first | rfl | exact True.intro), (by rw [IntWalk.i64_in _ (by omega)]; rfl), (by rw [sortsA_step hi, sstep_bad hm (kidOk_big (by omega))]; simp), (by first | rfl | exact True.intro), ⟨⟨Nat.succ_pos _, hi⟩, get_set_eq, hid⟩, by dsimp only; omega⟩))
            rw [decide_eq_false_iff_not] at c2 c3
            have hq : (l[i].ks[j]).toNat < (sortsA (l.take i)).length := by omega
            refine needS_intro (by simp; omega) (ldI1 hq (Nat.mul_one _) (brS_intro (fun c4 => ?_) (fun c4 => ?_)))
            · rw [beq_iff_eq] at c4
              exact tip_intro hg (needS_intro (by simp only [Nat.mul_one, Bool.and_eq_true, nbeq_t, Nat.ble_eq, true_and]; omega) (.inr ⟨(i + 1, id, g.set id (.tip (i + 1))), (by first | rfl | exact True.intro), (by rw [IntWalk.i64_in _ (by omega)]; rfl), (by rw [sortsA_step hi, sstep_bad hm (kidOk_zero hq c4)]; simp), (by first | rfl | exact True.intro), ⟨⟨Nat.succ_pos _, hi⟩, get_set_eq, hid⟩, by dsimp only; omega⟩))
            rw [beq_eq_false_iff_ne] at c4
            obtain ⟨k1, k2⟩ := kidOk_intro (by omega) hq c4
            have hs := hsi.step hi hj k1
            rw [k2] at hs
            refine needS_intro (by simp; omega) (ldI1 hq (Nat.mul_one _) (tip_intro hkg (needS_intro (by simp only [Nat.mul_one, Bool.and_eq_true, nbeq_t, Nat.ble_eq, true_and]; omega) (.inr (.inr ⟨(i, id, g.set idK (.tip (k.length + 1)), j + 1, k ++ [(sortsA (l.take i))[(l[i].ks[j]).toNat]], idK), (by first | rfl | exact True.intro), (by first | rfl | exact True.intro), (by first | rfl | exact True.intro), ?_, (by first | rfl | exact True.intro), ?_, (by first | rfl | exact True.intro), ⟨hi, ⟨⟨hi0, hi1⟩, by rw [get_set_ne hkne.symm]; exact hg, hid⟩, hs, ⟨by simp, by rw [get_set_eq]; simp, hkid, hkne⟩⟩, ?_⟩)))))
            · simp
            · rw [IntWalk.i64_in _ (by omega)]; rfl
            · dsimp only
              rw [kRest_at hi, kRest_at hi]
              omega
          · rw [decide_eq_false_iff_not] at c1
            have hl := hsi.last hi (by omega)
            refine needS_intro (by simp; omega) (ldNd hi (by rw [tn]) ⟨l, l[i].ks, k, ⟨rfl, rfl⟩, ⟨rfl, rfl⟩, ⟨rfl, rfl⟩, ⟨(hb1 _ (List.getElem_mem hi)).2, hl.2.symm, by omega⟩, ?_⟩)
            exact tip_intro hg (needS_intro (by simp only [Nat.mul_one, Bool.and_eq_true, nbeq_t, Nat.ble_eq, true_and]; omega) (.inr ⟨(i + 1, id, g.set id (.tip (i + 1))), (by first | rfl | exact True.intro), (by rw [IntWalk.i64_in _ (by omega)]; rfl), (by rw [sortsA_step hi, hl.1]; simp), (by first | rfl | exact True.intro), ⟨⟨Nat.succ_pos _, hi⟩, get_set_eq, hid⟩, by dsimp only; omega⟩))
      · rw [decide_eq_false_iff_not] at c
        have : l = [] := List.eq_nil_of_length_eq_zero (by omega)
        subst this
        exact hk
    · rintro ⟨i0, id0, g0⟩ _ ⟨⟨hp0, hp1⟩, hpg, hpid⟩
      dsimp only at hp0 hp1 hpg hpid ⊢
      have hkr0 := hkr i0
      refine brS_intro (fun c => ?_) (fun c => ?_)
      · rw [decide_eq_true_eq] at c
        have hlt0 : i0 < l.length := by omega
        refine ⟨(l.length - i0) * 1000002 + kRest l i0 0, .inr (.inl ⟨(i0, id0, g0), (by first | rfl | exact True.intro), (by first | rfl | exact True.intro), (by first | rfl | exact True.intro), (by first | rfl | exact True.intro), (by first | rfl | exact True.intro), (by first | rfl | exact True.intro), (by first | rfl | exact True.intro), ⟨hlt0, ⟨⟨hp0, hp1⟩, hpg, hpid⟩⟩, Nat.le_refl _⟩), ?_, ?_, ?_⟩
        · rintro g _ hlt hM
          exfalso
          omega
        · rintro ⟨i, id, g⟩ _ ⟨hi, ⟨⟨hi0, hi1⟩, hg, hid⟩⟩ hM
          dsimp only at hi hi0 hi1 hg hid hM ⊢
          have hol : (sortsA (l.take i)).length = i := by rw [sortsA_len, List.length_take]; omega
          have hkl := hel hi
          simp only [kRest_at hi] at hM
          refine needS_intro (by simp; omega) (ldNk hi (by rw [tn]) (brS_intro (fun c1 => ?_) (fun c1 => ?_)))
          · rw [decide_eq_true_eq] at c1
            have hj : 0 < l[i].ks.length := by omega
            have hm : l[i].ks[0] ∈ l[i].ks := List.getElem_mem hj
            refine needS_intro (by simp; omega) (ldNk hi (by rw [tn]) (needS_intro (by simp; omega) (ldI1 hj rfl (brS_intro (fun c2 => ?_) (fun c2 => brS_intro (fun c3 => ?_) (fun c3 => ?_))))))
            · rw [decide_eq_true_eq] at c2
              exact tip_intro hg (needS_intro (by simp only [Nat.mul_one, Bool.and_eq_true, nbeq_t, Nat.ble_eq, true_and]; omega) (.inr ⟨(i + 1, id, g.set id (.tip (i + 1))), (by first | rfl | exact True.intro), (by rw [IntWalk.i64_in _ (by omega)]; rfl), (by rw [sortsA_step hi, sstep_bad hm (kidOk_neg c2)]; simp), (by first | rfl | exact True.intro), ⟨⟨Nat.succ_pos _, hi⟩, get_set_eq, hid⟩, by dsimp only; omega⟩))
            · rw [decide_eq_true_eq] at c3
              exact tip_intro hg (needS_intro (by simp only [Nat.mul_one, Bool.and_eq_true, nbeq_t, Nat.ble_eq, true_and]; omega) (.inr ⟨(i + 1, id, g.set id (.tip (i + 1))), (by first | rfl | exact True.intro), (by rw [IntWalk.i64_in _ (by omega)]; rfl), (by rw [sortsA_step hi, sstep_bad hm (kidOk_big (by omega))]; simp), (by first | rfl | exact True.intro), ⟨⟨Nat.succ_pos _, hi⟩, get_set_eq, hid⟩, by dsimp only; omega⟩))
            rw [decide_eq_false_iff_not] at c2 c3
            have hq : (l[i].ks[0]).toNat < (sortsA (l.take i)).length := by omega
            refine needS_intro (by simp; omega) (ldI1 hq (Nat.mul_one _) (brS_intro (fun c4 => ?_) (fun c4 => ?_)))
            · rw [beq_iff_eq] at c4
              exact tip_intro hg (needS_intro (by simp only [Nat.mul_one, Bool.and_eq_true, nbeq_t, Nat.ble_eq, true_and]; omega) (.inr ⟨(i + 1, id, g.set id (.tip (i + 1))), (by first | rfl | exact True.intro), (by rw [IntWalk.i64_in _ (by omega)]; rfl), (by rw [sortsA_step hi, sstep_bad hm (kidOk_zero hq c4)]; simp), (by first | rfl | exact True.intro), ⟨⟨Nat.succ_pos _, hi⟩, get_set_eq, hid⟩, by dsimp only; omega⟩))
            rw [beq_eq_false_iff_ne] at c4
            obtain ⟨k1, k2⟩ := kidOk_intro (by omega) hq c4
            have hs := (SI.zero hi).step hi hj k1
            rw [k2] at hs
            refine needS_intro (by simp; omega) (ldI1 hq (Nat.mul_one _) (.inr (.inr ⟨(i, id, g.push (.tip 1), 1, [(sortsA (l.take i))[(l[i].ks[0]).toNat]], g.next), (by first | rfl | exact True.intro), (by first | rfl | exact True.intro), (by first | rfl | exact True.intro), (by first | rfl | exact True.intro), (by first | rfl | exact True.intro), (by first | rfl | exact True.intro), (by first | rfl | exact True.intro), ⟨hi, ⟨⟨hi0, hi1⟩, by rw [get_push_lt hid]; exact hg, Nat.lt_succ_of_lt hid⟩, hs, ⟨Nat.one_pos, get_push_eq, Nat.lt_succ_self _, by dsimp only; omega⟩⟩, ?_⟩)))
            dsimp only
            rw [kRest_at hi, kRest_at hi]
            omega
          · rw [decide_eq_false_iff_not] at c1
            have hl := (SI.zero hi).last hi (by omega)
            refine needS_intro (by simp; omega) (ldNd hi (by rw [tn]) ⟨l, l[i].ks, [], ⟨rfl, rfl⟩, ⟨rfl, rfl⟩, ⟨rfl, rfl⟩, ⟨(hb1 _ (List.getElem_mem hi)).2, hl.2.symm, by simp⟩, ?_⟩)
            exact tip_intro hg (needS_intro (by simp only [Nat.mul_one, Bool.and_eq_true, nbeq_t, Nat.ble_eq, true_and]; omega) (.inr ⟨(i + 1, id, g.set id (.tip (i + 1))), (by first | rfl | exact True.intro), (by rw [IntWalk.i64_in _ (by omega)]; rfl), (by rw [sortsA_step hi, hl.1]; simp), (by first | rfl | exact True.intro), ⟨⟨Nat.succ_pos _, hi⟩, get_set_eq, hid⟩, by dsimp only; omega⟩))
        · rintro ⟨i, id, g, j, k, idK⟩ _ ⟨hi, ⟨⟨hi0, hi1⟩, hg, hid⟩, hsi, ⟨hk0, hkg, hkid, hkne⟩⟩ hM
          dsimp only at hi hi0 hi1 hg hid hsi hk0 hkg hkid hkne hM ⊢
          have hol : (sortsA (l.take i)).length = i := by rw [sortsA_len, List.length_take]; omega
          have hkl := hel hi
          have hkj : k.length = j := by obtain ⟨n, _, h2, _⟩ := hsi; exact h2.2
          simp only [kRest_at hi] at hM
          refine needS_intro (by simp; omega) (ldNk hi (by rw [tn]) (brS_intro (fun c1 => ?_) (fun c1 => ?_)))
          · rw [decide_eq_true_eq] at c1
            have hj : j < l[i].ks.length := by omega
            have hm : l[i].ks[j] ∈ l[i].ks := List.getElem_mem hj
            refine needS_intro (by simp; omega) (ldNk hi (by rw [tn]) (needS_intro (by simp; omega) (ldI1 hj (by rw [Nat.mul_one, tn]) (brS_intro (fun c2 => ?_) (fun c2 => brS_intro (fun c3 => ?_) (fun c3 => ?_))))))
            · rw [decide_eq_true_eq] at c2
              exact tip_intro hg (needS_intro (by simp only [Nat.mul_one, Bool.and_eq_true, nbeq_t, Nat.ble_eq, true_and]; omega) (.inr ⟨(i + 1, id, g.set id (.tip (i + 1))), (by first | rfl | exact True.intro), (by rw [IntWalk.i64_in _ (by omega)]; rfl), (by rw [sortsA_step hi, sstep_bad hm (kidOk_neg c2)]; simp), (by first | rfl | exact True.intro), ⟨⟨Nat.succ_pos _, hi⟩, get_set_eq, hid⟩, by dsimp only; omega⟩))
            · rw [decide_eq_true_eq] at c3
              exact tip_intro hg (needS_intro (by simp only [Nat.mul_one, Bool.and_eq_true, nbeq_t, Nat.ble_eq, true_and]; omega) (.inr ⟨(i + 1, id, g.set id (.tip (i + 1))), (by first | rfl | exact True.intro), (by rw [IntWalk.i64_in _ (by omega)]; rfl), (by rw [sortsA_step hi, sstep_bad hm (kidOk_big (by omega))]; simp), (by first | rfl | exact True.intro), ⟨⟨Nat.succ_pos _, hi⟩, get_set_eq, hid⟩, by dsimp only; omega⟩))
            rw [decide_eq_false_iff_not] at c2 c3
            have hq : (l[i].ks[j]).toNat < (sortsA (l.take i)).length := by omega
            refine needS_intro (by simp; omega) (ldI1 hq (Nat.mul_one _) (brS_intro (fun c4 => ?_) (fun c4 => ?_)))
            · rw [beq_iff_eq] at c4
              exact tip_intro hg (needS_intro (by simp only [Nat.mul_one, Bool.and_eq_true, nbeq_t, Nat.ble_eq, true_and]; omega) (.inr ⟨(i + 1, id, g.set id (.tip (i + 1))), (by first | rfl | exact True.intro), (by rw [IntWalk.i64_in _ (by omega)]; rfl), (by rw [sortsA_step hi, sstep_bad hm (kidOk_zero hq c4)]; simp), (by first | rfl | exact True.intro), ⟨⟨Nat.succ_pos _, hi⟩, get_set_eq, hid⟩, by dsimp only; omega⟩))
            rw [beq_eq_false_iff_ne] at c4
            obtain ⟨k1, k2⟩ := kidOk_intro (by omega) hq c4
            have hs := hsi.step hi hj k1
            rw [k2] at hs
            refine needS_intro (by simp; omega) (ldI1 hq (Nat.mul_one _) (tip_intro hkg (needS_intro (by simp only [Nat.mul_one, Bool.and_eq_true, nbeq_t, Nat.ble_eq, true_and]; omega) (.inr (.inr ⟨(i, id, g.set idK (.tip (k.length + 1)), j + 1, k ++ [(sortsA (l.take i))[(l[i].ks[j]).toNat]], idK), (by first | rfl | exact True.intro), (by first | rfl | exact True.intro), (by first | rfl | exact True.intro), ?_, (by first | rfl | exact True.intro), ?_, (by first | rfl | exact True.intro), ⟨hi, ⟨⟨hi0, hi1⟩, by rw [get_set_ne hkne.symm]; exact hg, hid⟩, hs, ⟨by simp, by rw [get_set_eq]; simp, hkid, hkne⟩⟩, ?_⟩)))))
            · simp
            · rw [IntWalk.i64_in _ (by omega)]; rfl
            · dsimp only
              rw [kRest_at hi, kRest_at hi]
              omega
          · rw [decide_eq_false_iff_not] at c1
            have hl := hsi.last hi (by omega)
            refine needS_intro (by simp; omega) (ldNd hi (by rw [tn]) ⟨l, l[i].ks, k, ⟨rfl, rfl⟩, ⟨rfl, rfl⟩, ⟨rfl, rfl⟩, ⟨(hb1 _ (List.getElem_mem hi)).2, hl.2.symm, by omega⟩, ?_⟩)
            exact tip_intro hg (needS_intro (by simp only [Nat.mul_one, Bool.and_eq_true, nbeq_t, Nat.ble_eq, true_and]; omega) (.inr ⟨(i + 1, id, g.set id (.tip (i + 1))), (by first | rfl | exact True.intro), (by rw [IntWalk.i64_in _ (by omega)]; rfl), (by rw [sortsA_step hi, hl.1]; simp), (by first | rfl | exact True.intro), ⟨⟨Nat.succ_pos _, hi⟩, get_set_eq, hid⟩, by dsimp only; omega⟩))
      · rw [decide_eq_false_iff_not] at c
        obtain rfl : i0 = l.length := by omega
        rw [List.take_length]
        exact needS_intro (by simp only [pureL, pureB, pureL_ints, Bool.and_true]) (q_eq hk (by rw [sortsA_len]))
  · exact hk.elim
def cSorts := addC 26 kSorts cNSort
theorem okSorts : Sound env cSorts := sound_add sSorts (okNSort)

def kNdSort (xs : List IV) (h : Heap) (K : IV → Heap → Prop) : Prop := match xs with
  | [.vslice none e1 n1 3 c1, .int .i64 i] => ∃ l : List Nd, (n1 = l.length ∧ c1 = l.flatMap cN) ∧ ((∀ x ∈ l, x.ks.length ≤ 1000000 ∧ x.op ≠ 25 ∧ x.op ≠ 30 ∧ x.op ≠ 31) ∧ l.length ≤ 1000000 ∧ 0 ≤ i ∧ i < l.length) ∧ K (.int .i64 ((sortsA l).getD i.toNat 0)) h
  | _ => False
set_option maxRecDepth 100000 in
theorem vNdSort (l : List Nd) (i : Int) (e1 : Nat) (h : Heap) (Q : IV → Heap → Prop) : dF (stdS cSorts) env 13 noU noI noI [.vslice none e1 (l).length 3 ((l).flatMap cN), .int .i64 i] h Q = (
  needS (pureL [IV.vslice none (0 : Nat) (List.length l) (3 : Nat) (List.flatMap cN l), IV.int IntKind.i64 i])
 (brS (decide (i < (0 : Int))) (Q (IV.int IntKind.i64 (0 : Int)) h)
 (brS (decide (i ≥ (↑(List.length l) : Int))) (Q (IV.int IntKind.i64 (0 : Int)) h)
 (needS (true && (decide ((0 : Int) ≤ IntKind.wrap IntKind.i64 (i + (1 : Int))) && decide (IntKind.wrap IntKind.i64 (i + (1 : Int)) ≤ (↑(List.length l) : Int))))
 (∃ (l_1 : List Nd),
 (Int.toNat (IntKind.wrap IntKind.i64 (i + (1 : Int))) - (0 : Nat) = List.length l_1 ∧
 List.take ((Int.toNat (IntKind.wrap IntKind.i64 (i + (1 : Int))) - (0 : Nat)) * (3 : Nat)) (List.drop (0 : Nat) (List.flatMap cN l)) = List.flatMap cN l_1) ∧
 ((∀ (x : Nd), x ∈ l_1 → List.length (Nd.ks x) ≤ (1000000 : Nat) ∧ Nd.op x ≠ (25 : Int) ∧ Nd.op x ≠ (30 : Int) ∧ Nd.op x ≠ (31 : Int)) ∧ List.length l_1 ≤ (1000000 : Nat)) ∧
 needS (decide ((0 : Int) ≤ i) && decide (i < (↑(List.length (sortsA l_1)) : Int))) (ldIS IntKind.i64 (List.map (IV.int IntKind.i64) (sortsA l_1)) (Int.toNat i * (1 : Nat)) fun (n0 : Int) => Q (IV.int IntKind.i64 n0) h)))))) := by kernel_rfl
set_option maxHeartbeats 1000000 in
theorem sNdSort : ∀ xs h Q, kNdSort xs h Q → CallW env 13 xs h Q := by
  intro xs h Q hk
  unfold kNdSort at hk
  split at hk
  · rename_i e1 n1 c1 i
    obtain ⟨l, ⟨rfl, rfl⟩, hb, hk⟩ := hk
    refine dF_run (okSorts) (vNdSort l i e1 h Q) ?_
    obtain ⟨hb1, hbl, hi0, hi1⟩ := hb
    have hw : IntKind.i64.wrap (i + 1) = i + 1 := IntWalk.i64_in _ (by omega)
    rw [hw]
    have hlt : i.toNat < l.length := by omega
    have e3 : (i + 1).toNat - 0 = i.toNat + 1 := by omega
    refine needS_intro (by simp only [pureL, pureB, pureL_cN, Bool.and_true]) (brS_intro (fun c => absurd (of_decide_eq_true c) (by omega)) (fun _ => brS_intro (fun c => absurd (of_decide_eq_true c) (by omega)) (fun _ => needS_intro (by simp; omega) ⟨l.take (i.toNat + 1), ⟨by rw [e3, List.length_take]; omega, by rw [e3, List.drop_zero, cN_take]⟩, ⟨fun x hx => hb1 x (List.mem_of_mem_take hx), by rw [List.length_take]; omega⟩, ?_⟩)))
    have hq : i.toNat < (sortsA (l.take (i.toNat + 1))).length := by rw [sortsA_len, List.length_take]; omega
    refine needS_intro (by simp; omega) (ldI1 hq (Nat.mul_one _) (q_eq hk ?_))
    congr 1
    rw [pre_getD (sortsA_pre (List.take_prefix (i.toNat + 1) l)) hq, List.getD_eq_getElem?_getD, List.getElem?_eq_getElem hq]
    rfl
  · exact hk.elim
def cNdSort := addC 13 kNdSort cSorts
theorem okNdSort : Sound env cNdSort := sound_add sNdSort (okSorts)

def ofInv (l : List Nd) (s n : Int) : Inv' := .or
  (atX Nat (fun x => [(0, .v (.vslice none 0 (l).length 3 ((l).flatMap cN))), (1, .v (.int .i64 s)), (2, .v (.int .i64 n)), (7, .v (.vslice none 0 (sortsA l).length 1 ((sortsA l).map (IV.int .i64)))), (8, .v .nilslice), (9, .v (.int .i64 x))]) (fun _ => []) (fun _ => Heap.empty) (fun x => x ≤ l.length ∧ s ∈ (sortsA l).drop x) (fun x => l.length - x))
  (atX (Nat × List Int × Nat × Heap) (fun x => [(0, .v (.vslice none 0 (l).length 3 ((l).flatMap cN))), (1, .v (.int .i64 s)), (2, .v (.int .i64 n)), (7, .v (.vslice none 0 (sortsA l).length 1 ((sortsA l).map (IV.int .i64)))), (8, .v (.vslice (some x.2.2.1) x.2.1.length x.2.1.length 1 (x.2.1.map (IV.int .i64)))), (9, .v (.int .i64 x.1))]) (fun _ => []) (fun x => x.2.2.2)
    (fun x => (x.1 ≤ l.length ∧ 0 < x.2.1.length ∧ x.2.1.length ≤ x.1) ∧ (x.2.2.2.get x.2.2.1 = .tip x.2.1.length ∧ x.2.2.1 < x.2.2.2.next) ∧ ∀ q ∈ x.2.1, 0 ≤ q ∧ q < l.length ∧ (sortsA l).getD q.toNat 0 = s) (fun x => l.length - x.1))
def kOf (xs : List IV) (h : Heap) (K : IV → Heap → Prop) : Prop := match xs with
  | [.vslice none e1 n1 3 c1, .int .i64 s, .int .i64 n] => ∃ l : List Nd, (n1 = l.length ∧ c1 = l.flatMap cN) ∧ ((∀ x ∈ l, x.ks.length ≤ 1000000 ∧ x.op ≠ 25 ∧ x.op ≠ 30 ∧ x.op ≠ 31) ∧ l.length ≤ 1000000 ∧ s ∈ sortsA l) ∧ ∀ q : Int, (0 ≤ q ∧ q < l.length ∧ (sortsA l).getD q.toNat 0 = s) → K (.int .i64 q) h
  | _ => False
set_option maxRecDepth 100000 in
theorem vOf (l : List Nd) (s n : Int) (e1 : Nat) (h : Heap) (Q : IV → Heap → Prop) : dF (stdS cNdSort) env 16 noU (ic1 5 (ofInv l s n)) noI [.vslice none e1 (l).length 3 ((l).flatMap cN), .int .i64 s, .int .i64 n] h Q = (
  needS (pureL [IV.vslice none (0 : Nat) (List.length l) (3 : Nat) (List.flatMap cN l), IV.int IntKind.i64 s, IV.int IntKind.i64 n])
 (∃ (l_1 : List Nd),
 (List.length l = List.length l_1 ∧ List.flatMap cN l = List.flatMap cN l_1) ∧
 ((∀ (x : Nd), x ∈ l_1 → List.length (Nd.ks x) ≤ (1000000 : Nat) ∧ Nd.op x ≠ (25 : Int) ∧ Nd.op x ≠ (30 : Int) ∧ Nd.op x ≠ (31 : Int)) ∧ List.length l_1 ≤ (1000000 : Nat)) ∧
 ((∃ (x : Nat),
 some (TV.v (IV.vslice none (0 : Nat) (List.length l) (3 : Nat) (List.flatMap cN l))) = some (TV.v (IV.vslice none (0 : Nat) (List.length l) (3 : Nat) (List.flatMap cN l))) ∧
 some (TV.v (IV.int IntKind.i64 s)) = some (TV.v (IV.int IntKind.i64 s)) ∧
 some (TV.v (IV.int IntKind.i64 n)) = some (TV.v (IV.int IntKind.i64 n)) ∧
 some (TV.v (IV.vslice none (0 : Nat) (List.length (sortsA l_1)) (1 : Nat) (List.map (IV.int IntKind.i64) (sortsA l_1)))) =
 some (TV.v (IV.vslice none (0 : Nat) (List.length (sortsA l)) (1 : Nat) (List.map (IV.int IntKind.i64) (sortsA l)))) ∧
 some (TV.v IV.nilslice) = some (TV.v IV.nilslice) ∧
 some (TV.v (IV.int IntKind.i64 (0 : Int))) = some (TV.v (IV.int IntKind.i64 (↑x : Int))) ∧ Heap.mk PT.nil (0 : Nat) = Heap.mk PT.nil (0 : Nat) ∧ (x ≤ List.length l ∧ s ∈ List.drop x (sortsA l)) ∧ True) ∨
 ∃ (x : Nat × List Int × Nat × Heap),
 some (TV.v (IV.vslice none (0 : Nat) (List.length l) (3 : Nat) (List.flatMap cN l))) = some (TV.v (IV.vslice none (0 : Nat) (List.length l) (3 : Nat) (List.flatMap cN l))) ∧
 some (TV.v (IV.int IntKind.i64 s)) = some (TV.v (IV.int IntKind.i64 s)) ∧
 some (TV.v (IV.int IntKind.i64 n)) = some (TV.v (IV.int IntKind.i64 n)) ∧
 some (TV.v (IV.vslice none (0 : Nat) (List.length (sortsA l_1)) (1 : Nat) (List.map (IV.int IntKind.i64) (sortsA l_1)))) =
 some (TV.v (IV.vslice none (0 : Nat) (List.length (sortsA l)) (1 : Nat) (List.map (IV.int IntKind.i64) (sortsA l)))) ∧
 some (TV.v IV.nilslice) =
 some (TV.v (IV.vslice (some (Prod.fst (Prod.snd (Prod.snd x)))) (List.length (Prod.fst (Prod.snd x))) (List.length (Prod.fst (Prod.snd x))) (1 : Nat) (List.map (IV.int IntKind.i64) (Prod.fst (Prod.snd x))))) ∧
 some (TV.v (IV.int IntKind.i64 (0 : Int))) = some (TV.v (IV.int IntKind.i64 (↑(Prod.fst x) : Int))) ∧
 Heap.mk PT.nil (0 : Nat) = Prod.snd (Prod.snd (Prod.snd x)) ∧
 ((Prod.fst x ≤ List.length l ∧ (0 : Nat) < List.length (Prod.fst (Prod.snd x)) ∧ List.length (Prod.fst (Prod.snd x)) ≤ Prod.fst x) ∧
 (Heap.get (Prod.snd (Prod.snd (Prod.snd x))) (Prod.fst (Prod.snd (Prod.snd x))) = IObj.tip (List.length (Prod.fst (Prod.snd x))) ∧
 Prod.fst (Prod.snd (Prod.snd x)) < Heap.next (Prod.snd (Prod.snd (Prod.snd x)))) ∧
 ∀ (q : Int), q ∈ Prod.fst (Prod.snd x) → (0 : Int) ≤ q ∧ q < (↑(List.length l) : Int) ∧ List.getD (sortsA l) (Int.toNat q) (0 : Int) = s) ∧
 True) ∧
 (∀ (x : Nat) (b : FF),
 x ≤ List.length l ∧ s ∈ List.drop x (sortsA l) →
 brS (decide ((↑x : Int) < (↑(List.length l) : Int)))
 (needS (decide ((0 : Int) ≤ (↑x : Int)) && decide ((↑x : Int) < (↑(List.length (sortsA l)) : Int)))
 (ldIS IntKind.i64 (List.map (IV.int IntKind.i64) (sortsA l)) (Int.toNat (↑x : Int) * (1 : Nat)) fun (n0 : Int) =>
 brS (n0 == s)
 ((∃ (x_1 : Nat),
 some (TV.v (IV.vslice none (0 : Nat) (List.length l) (3 : Nat) (List.flatMap cN l))) = some (TV.v (IV.vslice none (0 : Nat) (List.length l) (3 : Nat) (List.flatMap cN l))) ∧
 some (TV.v (IV.int IntKind.i64 s)) = some (TV.v (IV.int IntKind.i64 s)) ∧
 some (TV.v (IV.int IntKind.i64 n)) = some (TV.v (IV.int IntKind.i64 n)) ∧
 some (TV.v (IV.vslice none (0 : Nat) (List.length (sortsA l)) (1 : Nat) (List.map (IV.int IntKind.i64) (sortsA l)))) =
 some (TV.v (IV.vslice none (0 : Nat) (List.length (sortsA l)) (1 : Nat) (List.map (IV.int IntKind.i64) (sortsA l)))) ∧
 some (TV.v (IV.vslice (some (0 : Nat)) (1 : Nat) (1 : Nat) (1 : Nat) [IV.int IntKind.i64 (↑x : Int)])) = some (TV.v IV.nilslice) ∧
 some (TV.v (IV.int IntKind.i64 (IntKind.wrap IntKind.i64 ((↑x : Int) + (1 : Int))))) = some (TV.v (IV.int IntKind.i64 (↑x_1 : Int))) ∧
 Heap.mk (PT.node PT.nil (some (IObj.tip (1 : Nat))) PT.nil) ((0 : Nat) + (1 : Nat)) = Heap.mk PT.nil (0 : Nat) ∧
 (x_1 ≤ List.length l ∧ s ∈ List.drop x_1 (sortsA l)) ∧ List.length l - x_1 < List.length l - x) ∨
 ∃ (x_1 : Nat × List Int × Nat × Heap),
 some (TV.v (IV.vslice none (0 : Nat) (List.length l) (3 : Nat) (List.flatMap cN l))) = some (TV.v (IV.vslice none (0 : Nat) (List.length l) (3 : Nat) (List.flatMap cN l))) ∧
 some (TV.v (IV.int IntKind.i64 s)) = some (TV.v (IV.int IntKind.i64 s)) ∧
 some (TV.v (IV.int IntKind.i64 n)) = some (TV.v (IV.int IntKind.i64 n)) ∧
 some (TV.v (IV.vslice none (0 : Nat) (List.length (sortsA l)) (1 : Nat) (List.map (IV.int IntKind.i64) (sortsA l)))) =
 some (TV.v (IV.vslice none (0 : Nat) (List.length (sortsA l)) (1 : Nat) (List.map (IV.int IntKind.i64) (sortsA l)))) ∧
 some (TV.v (IV.vslice (some (0 : Nat)) (1 : Nat) (1 : Nat) (1 : Nat) [IV.int IntKind.i64 (↑x : Int)])) =
 some
 (TV.v
 (IV.vslice (some (Prod.fst (Prod.snd (Prod.snd x_1)))) (List.length (Prod.fst (Prod.snd x_1))) (List.length (Prod.fst (Prod.snd x_1))) (1 : Nat)
 (List.map (IV.int IntKind.i64) (Prod.fst (Prod.snd x_1))))) ∧
 some (TV.v (IV.int IntKind.i64 (IntKind.wrap IntKind.i64 ((↑x : Int) + (1 : Int))))) = some (TV.v (IV.int IntKind.i64 (↑(Prod.fst x_1) : Int))) ∧
 Heap.mk (PT.node PT.nil (some (IObj.tip (1 : Nat))) PT.nil) ((0 : Nat) + (1 : Nat)) = Prod.snd (Prod.snd (Prod.snd x_1)) ∧
 ((Prod.fst x_1 ≤ List.length l ∧ (0 : Nat) < List.length (Prod.fst (Prod.snd x_1)) ∧ List.length (Prod.fst (Prod.snd x_1)) ≤ Prod.fst x_1) ∧
 (Heap.get (Prod.snd (Prod.snd (Prod.snd x_1))) (Prod.fst (Prod.snd (Prod.snd x_1))) = IObj.tip (List.length (Prod.fst (Prod.snd x_1))) ∧
 Prod.fst (Prod.snd (Prod.snd x_1)) < Heap.next (Prod.snd (Prod.snd (Prod.snd x_1)))) ∧
 ∀ (q : Int), q ∈ Prod.fst (Prod.snd x_1) → (0 : Int) ≤ q ∧ q < (↑(List.length l) : Int) ∧ List.getD (sortsA l) (Int.toNat q) (0 : Int) = s) ∧
 List.length l - Prod.fst x_1 < List.length l - x)
 ((∃ (x_1 : Nat),
 some (TV.v (IV.vslice none (0 : Nat) (List.length l) (3 : Nat) (List.flatMap cN l))) = some (TV.v (IV.vslice none (0 : Nat) (List.length l) (3 : Nat) (List.flatMap cN l))) ∧
 some (TV.v (IV.int IntKind.i64 s)) = some (TV.v (IV.int IntKind.i64 s)) ∧
 some (TV.v (IV.int IntKind.i64 n)) = some (TV.v (IV.int IntKind.i64 n)) ∧
 some (TV.v (IV.vslice none (0 : Nat) (List.length (sortsA l)) (1 : Nat) (List.map (IV.int IntKind.i64) (sortsA l)))) =
 some (TV.v (IV.vslice none (0 : Nat) (List.length (sortsA l)) (1 : Nat) (List.map (IV.int IntKind.i64) (sortsA l)))) ∧
 some (TV.v IV.nilslice) = some (TV.v IV.nilslice) ∧
 some (TV.v (IV.int IntKind.i64 (IntKind.wrap IntKind.i64 ((↑x : Int) + (1 : Int))))) = some (TV.v (IV.int IntKind.i64 (↑x_1 : Int))) ∧
 Heap.mk PT.nil (0 : Nat) = Heap.mk PT.nil (0 : Nat) ∧ (x_1 ≤ List.length l ∧ s ∈ List.drop x_1 (sortsA l)) ∧ List.length l - x_1 < List.length l - x) ∨
 ∃ (x_1 : Nat × List Int × Nat × Heap),
 some (TV.v (IV.vslice none (0 : Nat) (List.length l) (3 : Nat) (List.flatMap cN l))) = some (TV.v (IV.vslice none (0 : Nat) (List.length l) (3 : Nat) (List.flatMap cN l))) ∧
 some (TV.v (IV.int IntKind.i64 s)) = some (TV.v (IV.int IntKind.i64 s)) ∧
 some (TV.v (IV.int IntKind.i64 n)) = some (TV.v (IV.int IntKind.i64 n)) ∧
 some (TV.v (IV.vslice none (0 : Nat) (List.length (sortsA l)) (1 : Nat) (List.map (IV.int IntKind.i64) (sortsA l)))) =
 some (TV.v (IV.vslice none (0 : Nat) (List.length (sortsA l)) (1 : Nat) (List.map (IV.int IntKind.i64) (sortsA l)))) ∧
 some (TV.v IV.nilslice) =
 some
 (TV.v
 (IV.vslice (some (Prod.fst (Prod.snd (Prod.snd x_1)))) (List.length (Prod.fst (Prod.snd x_1))) (List.length (Prod.fst (Prod.snd x_1))) (1 : Nat)
 (List.map (IV.int IntKind.i64) (Prod.fst (Prod.snd x_1))))) ∧
 some (TV.v (IV.int IntKind.i64 (IntKind.wrap IntKind.i64 ((↑x : Int) + (1 : Int))))) = some (TV.v (IV.int IntKind.i64 (↑(Prod.fst x_1) : Int))) ∧
 Heap.mk PT.nil (0 : Nat) = Prod.snd (Prod.snd (Prod.snd x_1)) ∧
 ((Prod.fst x_1 ≤ List.length l ∧ (0 : Nat) < List.length (Prod.fst (Prod.snd x_1)) ∧ List.length (Prod.fst (Prod.snd x_1)) ≤ Prod.fst x_1) ∧
 (Heap.get (Prod.snd (Prod.snd (Prod.snd x_1))) (Prod.fst (Prod.snd (Prod.snd x_1))) = IObj.tip (List.length (Prod.fst (Prod.snd x_1))) ∧
 Prod.fst (Prod.snd (Prod.snd x_1)) < Heap.next (Prod.snd (Prod.snd (Prod.snd x_1)))) ∧
 ∀ (q : Int), q ∈ Prod.fst (Prod.snd x_1) → (0 : Int) ≤ q ∧ q < (↑(List.length l) : Int) ∧ List.getD (sortsA l) (Int.toNat q) (0 : Int) = s) ∧
 List.length l - Prod.fst x_1 < List.length l - x)))
 (((0 : Int) < (0 : Int) ∧ (0 : Int) < (4611686018427387904 : Int)) ∧ False)) ∧
 ∀ (x : Nat × List Int × Nat × Heap) (b : FF),
 ((Prod.fst x ≤ List.length l ∧ (0 : Nat) < List.length (Prod.fst (Prod.snd x)) ∧ List.length (Prod.fst (Prod.snd x)) ≤ Prod.fst x) ∧
 (Heap.get (Prod.snd (Prod.snd (Prod.snd x))) (Prod.fst (Prod.snd (Prod.snd x))) = IObj.tip (List.length (Prod.fst (Prod.snd x))) ∧ Prod.fst (Prod.snd (Prod.snd x)) < Heap.next (Prod.snd (Prod.snd (Prod.snd x)))) ∧
 ∀ (q : Int), q ∈ Prod.fst (Prod.snd x) → (0 : Int) ≤ q ∧ q < (↑(List.length l) : Int) ∧ List.getD (sortsA l) (Int.toNat q) (0 : Int) = s) →
 brS (decide ((↑(Prod.fst x) : Int) < (↑(List.length l) : Int)))
 (needS (decide ((0 : Int) ≤ (↑(Prod.fst x) : Int)) && decide ((↑(Prod.fst x) : Int) < (↑(List.length (sortsA l)) : Int)))
 (ldIS IntKind.i64 (List.map (IV.int IntKind.i64) (sortsA l)) (Int.toNat (↑(Prod.fst x) : Int) * (1 : Nat)) fun (n1 : Int) =>
 brS (n1 == s)
 (tipS (Prod.snd (Prod.snd (Prod.snd x))) (Prod.fst (Prod.snd (Prod.snd x))) fun (m2 : Nat) =>
 needS (Nat.beq m2 (List.length (Prod.fst (Prod.snd x))) && Nat.ble ((List.length (Prod.fst (Prod.snd x)) + (1 : Nat)) * (8 : Nat)) (140737488355328 : Nat))
 ((∃ (x_1 : Nat),
 some (TV.v (IV.vslice none (0 : Nat) (List.length l) (3 : Nat) (List.flatMap cN l))) = some (TV.v (IV.vslice none (0 : Nat) (List.length l) (3 : Nat) (List.flatMap cN l))) ∧
 some (TV.v (IV.int IntKind.i64 s)) = some (TV.v (IV.int IntKind.i64 s)) ∧
 some (TV.v (IV.int IntKind.i64 n)) = some (TV.v (IV.int IntKind.i64 n)) ∧
 some (TV.v (IV.vslice none (0 : Nat) (List.length (sortsA l)) (1 : Nat) (List.map (IV.int IntKind.i64) (sortsA l)))) =
 some (TV.v (IV.vslice none (0 : Nat) (List.length (sortsA l)) (1 : Nat) (List.map (IV.int IntKind.i64) (sortsA l)))) ∧
 some
 (TV.v
 (IV.vslice (some (Prod.fst (Prod.snd (Prod.snd x)))) (List.length (Prod.fst (Prod.snd x)) + (1 : Nat)) (List.length (Prod.fst (Prod.snd x)) + (1 : Nat)) (1 : Nat)
 (List.map (IV.int IntKind.i64) (Prod.fst (Prod.snd x)) ++ [IV.int IntKind.i64 (↑(Prod.fst x) : Int)]))) =
 some (TV.v IV.nilslice) ∧
 some (TV.v (IV.int IntKind.i64 (IntKind.wrap IntKind.i64 ((↑(Prod.fst x) : Int) + (1 : Int))))) = some (TV.v (IV.int IntKind.i64 (↑x_1 : Int))) ∧
 Heap.set (Prod.snd (Prod.snd (Prod.snd x))) (Prod.fst (Prod.snd (Prod.snd x))) (IObj.tip (List.length (Prod.fst (Prod.snd x)) + (1 : Nat))) = Heap.mk PT.nil (0 : Nat) ∧
 (x_1 ≤ List.length l ∧ s ∈ List.drop x_1 (sortsA l)) ∧ List.length l - x_1 < List.length l - Prod.fst x) ∨
 ∃ (x_1 : Nat × List Int × Nat × Heap),
 some (TV.v (IV.vslice none (0 : Nat) (List.length l) (3 : Nat) (List.flatMap cN l))) = some (TV.v (IV.vslice none (0 : Nat) (List.length l) (3 : Nat) (List.flatMap cN l))) ∧
 some (TV.v (IV.int IntKind.i64 s)) = some (TV.v (IV.int IntKind.i64 s)) ∧
 some (TV.v (IV.int IntKind.i64 n)) = some (TV.v (IV.int IntKind.i64 n)) ∧
 some (TV.v (IV.vslice none (0 : Nat) (List.length (sortsA l)) (1 : Nat) (List.map (IV.int IntKind.i64) (sortsA l)))) =
 some (TV.v (IV.vslice none (0 : Nat) (List.length (sortsA l)) (1 : Nat) (List.map (IV.int IntKind.i64) (sortsA l)))) ∧
 some
 (TV.v
 (IV.vslice (some (Prod.fst (Prod.snd (Prod.snd x)))) (List.length (Prod.fst (Prod.snd x)) + (1 : Nat)) (List.length (Prod.fst (Prod.snd x)) + (1 : Nat)) (1 : Nat)
 (List.map (IV.int IntKind.i64) (Prod.fst (Prod.snd x)) ++ [IV.int IntKind.i64 (↑(Prod.fst x) : Int)]))) =
 some
 (TV.v
 (IV.vslice (some (Prod.fst (Prod.snd (Prod.snd x_1)))) (List.length (Prod.fst (Prod.snd x_1))) (List.length (Prod.fst (Prod.snd x_1))) (1 : Nat)
 (List.map (IV.int IntKind.i64) (Prod.fst (Prod.snd x_1))))) ∧
 some (TV.v (IV.int IntKind.i64 (IntKind.wrap IntKind.i64 ((↑(Prod.fst x) : Int) + (1 : Int))))) = some (TV.v (IV.int IntKind.i64 (↑(Prod.fst x_1) : Int))) ∧
 Heap.set (Prod.snd (Prod.snd (Prod.snd x))) (Prod.fst (Prod.snd (Prod.snd x))) (IObj.tip (List.length (Prod.fst (Prod.snd x)) + (1 : Nat))) = Prod.snd (Prod.snd (Prod.snd x_1)) ∧
 ((Prod.fst x_1 ≤ List.length l ∧ (0 : Nat) < List.length (Prod.fst (Prod.snd x_1)) ∧ List.length (Prod.fst (Prod.snd x_1)) ≤ Prod.fst x_1) ∧
 (Heap.get (Prod.snd (Prod.snd (Prod.snd x_1))) (Prod.fst (Prod.snd (Prod.snd x_1))) = IObj.tip (List.length (Prod.fst (Prod.snd x_1))) ∧
 Prod.fst (Prod.snd (Prod.snd x_1)) < Heap.next (Prod.snd (Prod.snd (Prod.snd x_1)))) ∧
 ∀ (q : Int), q ∈ Prod.fst (Prod.snd x_1) → (0 : Int) ≤ q ∧ q < (↑(List.length l) : Int) ∧ List.getD (sortsA l) (Int.toNat q) (0 : Int) = s) ∧
 List.length l - Prod.fst x_1 < List.length l - Prod.fst x))
 ((∃ (x_1 : Nat),
 some (TV.v (IV.vslice none (0 : Nat) (List.length l) (3 : Nat) (List.flatMap cN l))) = some (TV.v (IV.vslice none (0 : Nat) (List.length l) (3 : Nat) (List.flatMap cN l))) ∧
 some (TV.v (IV.int IntKind.i64 s)) = some (TV.v (IV.int IntKind.i64 s)) ∧
 some (TV.v (IV.int IntKind.i64 n)) = some (TV.v (IV.int IntKind.i64 n)) ∧
 some (TV.v (IV.vslice none (0 : Nat) (List.length (sortsA l)) (1 : Nat) (List.map (IV.int IntKind.i64) (sortsA l)))) =
 some (TV.v (IV.vslice none (0 : Nat) (List.length (sortsA l)) (1 : Nat) (List.map (IV.int IntKind.i64) (sortsA l)))) ∧
 some
 (TV.v
 (IV.vslice (some (Prod.fst (Prod.snd (Prod.snd x)))) (List.length (Prod.fst (Prod.snd x))) (List.length (Prod.fst (Prod.snd x))) (1 : Nat)
 (List.map (IV.int IntKind.i64) (Prod.fst (Prod.snd x))))) =
 some (TV.v IV.nilslice) ∧
 some (TV.v (IV.int IntKind.i64 (IntKind.wrap IntKind.i64 ((↑(Prod.fst x) : Int) + (1 : Int))))) = some (TV.v (IV.int IntKind.i64 (↑x_1 : Int))) ∧
 Prod.snd (Prod.snd (Prod.snd x)) = Heap.mk PT.nil (0 : Nat) ∧ (x_1 ≤ List.length l ∧ s ∈ List.drop x_1 (sortsA l)) ∧ List.length l - x_1 < List.length l - Prod.fst x) ∨
 ∃ (x_1 : Nat × List Int × Nat × Heap),
 some (TV.v (IV.vslice none (0 : Nat) (List.length l) (3 : Nat) (List.flatMap cN l))) = some (TV.v (IV.vslice none (0 : Nat) (List.length l) (3 : Nat) (List.flatMap cN l))) ∧
 some (TV.v (IV.int IntKind.i64 s)) = some (TV.v (IV.int IntKind.i64 s)) ∧
 some (TV.v (IV.int IntKind.i64 n)) = some (TV.v (IV.int IntKind.i64 n)) ∧
 some (TV.v (IV.vslice none (0 : Nat) (List.length (sortsA l)) (1 : Nat) (List.map (IV.int IntKind.i64) (sortsA l)))) =
 some (TV.v (IV.vslice none (0 : Nat) (List.length (sortsA l)) (1 : Nat) (List.map (IV.int IntKind.i64) (sortsA l)))) ∧
 some
 (TV.v
 (IV.vslice (some (Prod.fst (Prod.snd (Prod.snd x)))) (List.length (Prod.fst (Prod.snd x))) (List.length (Prod.fst (Prod.snd x))) (1 : Nat)
 (List.map (IV.int IntKind.i64) (Prod.fst (Prod.snd x))))) =
 some
 (TV.v
 (IV.vslice (some (Prod.fst (Prod.snd (Prod.snd x_1)))) (List.length (Prod.fst (Prod.snd x_1))) (List.length (Prod.fst (Prod.snd x_1))) (1 : Nat)
 (List.map (IV.int IntKind.i64) (Prod.fst (Prod.snd x_1))))) ∧
 some (TV.v (IV.int IntKind.i64 (IntKind.wrap IntKind.i64 ((↑(Prod.fst x) : Int) + (1 : Int))))) = some (TV.v (IV.int IntKind.i64 (↑(Prod.fst x_1) : Int))) ∧
 Prod.snd (Prod.snd (Prod.snd x)) = Prod.snd (Prod.snd (Prod.snd x_1)) ∧
 ((Prod.fst x_1 ≤ List.length l ∧ (0 : Nat) < List.length (Prod.fst (Prod.snd x_1)) ∧ List.length (Prod.fst (Prod.snd x_1)) ≤ Prod.fst x_1) ∧
 (Heap.get (Prod.snd (Prod.snd (Prod.snd x_1))) (Prod.fst (Prod.snd (Prod.snd x_1))) = IObj.tip (List.length (Prod.fst (Prod.snd x_1))) ∧
 Prod.fst (Prod.snd (Prod.snd x_1)) < Heap.next (Prod.snd (Prod.snd (Prod.snd x_1)))) ∧
 ∀ (q : Int), q ∈ Prod.fst (Prod.snd x_1) → (0 : Int) ≤ q ∧ q < (↑(List.length l) : Int) ∧ List.getD (sortsA l) (Int.toNat q) (0 : Int) = s) ∧
 List.length l - Prod.fst x_1 < List.length l - Prod.fst x)))
 (((0 : Int) < (↑(List.length (Prod.fst (Prod.snd x))) : Int) ∧ (↑(List.length (Prod.fst (Prod.snd x))) : Int) < (4611686018427387904 : Int)) ∧
 needS
 (decide ((0 : Int) ≤ IntKind.wrap IntKind.i64 (IntKind.wrap IntKind.i64 ((↑(List.length (Prod.fst (Prod.snd x))) : Int) - (1 : Int)) - n % (↑(List.length (Prod.fst (Prod.snd x))) : Int))) &&
 decide
 (IntKind.wrap IntKind.i64 (IntKind.wrap IntKind.i64 ((↑(List.length (Prod.fst (Prod.snd x))) : Int) - (1 : Int)) - n % (↑(List.length (Prod.fst (Prod.snd x))) : Int)) <
 (↑(List.length (Prod.fst (Prod.snd x))) : Int)))
 (ldIS IntKind.i64 (List.map (IV.int IntKind.i64) (Prod.fst (Prod.snd x)))
 (Int.toNat (IntKind.wrap IntKind.i64 (IntKind.wrap IntKind.i64 ((↑(List.length (Prod.fst (Prod.snd x))) : Int) - (1 : Int)) - n % (↑(List.length (Prod.fst (Prod.snd x))) : Int))) * (1 : Nat)) fun (n3 : Int) =>
 Q (IV.int IntKind.i64 n3) h)))) := by kernel_rfl
set_option maxHeartbeats 2000000 in
theorem sOf : ∀ xs h Q, kOf xs h Q → CallW env 16 xs h Q := by
  intro xs h Q hk
  unfold kOf at hk
  split at hk
  · rename_i e1 n1 c1 s n
    obtain ⟨l, ⟨rfl, rfl⟩, hb, hk⟩ := hk
    refine dF_run (okNdSort) (vOf l s n e1 h Q) ?_
    have tn : ∀ x : Nat, (x : Int).toNat = x := Int.toNat_natCast
    obtain ⟨hb1, hbl, hs⟩ := hb
    have hsl : (sortsA l).length = l.length := sortsA_len l
    have hat : ∀ {i : Nat} (h : i < (sortsA l).length), (sortsA l).getD i 0 = (sortsA l)[i] := fun h => by rw [List.getD_eq_getElem?_getD, List.getElem?_eq_getElem h]; rfl
    refine needS_intro (by simp only [pureL, pureB, pureL_cN, Bool.and_true]) ⟨l, ⟨rfl, rfl⟩, ⟨hb1, hbl⟩, .inl ⟨0, (by first | rfl | exact True.intro), (by first | rfl | exact True.intro), (by first | rfl | exact True.intro), (by first | rfl | exact True.intro), (by first | rfl | exact True.intro), (by first | rfl | exact True.intro), (by first | rfl | exact True.intro), ⟨Nat.zero_le _, hs⟩, trivial⟩, ?_, ?_⟩
    · rintro i _ ⟨hi, hd⟩
      try dsimp only at hi hd ⊢
      refine brS_intro (fun c => ?_) (fun c => ?_)
      · rw [decide_eq_true_eq] at c
        have hlt : i < (sortsA l).length := by omega
        refine needS_intro (by simp; omega) (ldI1 hlt (by rw [Nat.mul_one, tn]) (brS_intro (fun c1 => .inr ⟨(i + 1, [(i : Int)], 0, _), (by first | rfl | exact True.intro), (by first | rfl | exact True.intro), (by first | rfl | exact True.intro), (by first | rfl | exact True.intro), (by first | rfl | exact True.intro), (by rw [IntWalk.i64_in _ (by omega)]; rfl), (by first | rfl | exact True.intro), ⟨⟨by dsimp only; omega, Nat.one_pos, by dsimp only [List.length_cons, List.length_nil]; omega⟩, ⟨rfl, Nat.one_pos⟩, fun q hq => ?_⟩, by dsimp only; omega⟩) (fun c1 => .inl ⟨i + 1, (by first | rfl | exact True.intro), (by first | rfl | exact True.intro), (by first | rfl | exact True.intro), (by first | rfl | exact True.intro), (by first | rfl | exact True.intro), (by rw [IntWalk.i64_in _ (by omega)]; rfl), (by first | rfl | exact True.intro), ⟨by omega, ?_⟩, by omega⟩)))
        · rw [List.mem_singleton.1 hq, tn, hat hlt, beq_iff_eq.1 c1]
          omega
        · rw [List.drop_eq_getElem_cons hlt] at hd
          rcases List.mem_cons.1 hd with q | q
          · rw [beq_eq_false_iff_ne] at c1
            exact absurd q.symm c1
          · exact q
      · rw [decide_eq_false_iff_not] at c
        rw [List.drop_eq_nil_of_le (by omega)] at hd
        cases hd
    · rintro ⟨i, a, ia, g⟩ _ ⟨⟨hi, ha, hai⟩, ⟨hg, hga⟩, hq⟩
      dsimp only at hi ha hai hg hga hq ⊢
      refine brS_intro (fun c => ?_) (fun c => ?_)
      · rw [decide_eq_true_eq] at c
        have hlt : i < (sortsA l).length := by omega
        refine needS_intro (by simp; omega) (ldI1 hlt (by rw [Nat.mul_one, tn]) (brS_intro (fun c1 => tip_intro hg (needS_intro (by simp only [Nat.mul_one, Bool.and_eq_true, nbeq_t, Nat.ble_eq, true_and]; omega) (.inr ⟨(i + 1, a ++ [(i : Int)], ia, g.set ia (.tip (a.length + 1))), (by first | rfl | exact True.intro), (by first | rfl | exact True.intro), (by first | rfl | exact True.intro), (by first | rfl | exact True.intro), (by simp), (by rw [IntWalk.i64_in _ (by omega)]; rfl), (by first | rfl | exact True.intro), ⟨⟨by dsimp only; omega, by simp, by simp; omega⟩, ⟨by rw [get_set_eq]; simp, hga⟩, fun q hq2 => ?_⟩, by dsimp only; omega⟩))) (fun c1 => .inr ⟨(i + 1, a, ia, g), (by first | rfl | exact True.intro), (by first | rfl | exact True.intro), (by first | rfl | exact True.intro), (by first | rfl | exact True.intro), (by first | rfl | exact True.intro), (by rw [IntWalk.i64_in _ (by omega)]; rfl), (by first | rfl | exact True.intro), ⟨⟨by dsimp only; omega, ha, by dsimp only; omega⟩, ⟨hg, hga⟩, hq⟩, by dsimp only; omega⟩)))
        rcases List.mem_append.1 hq2 with hq2 | hq2
        · exact hq q hq2
        · rw [List.mem_singleton.1 hq2, tn, hat hlt, beq_iff_eq.1 c1]
          omega
      · have hm1 := Int.emod_nonneg n (show (a.length : Int) ≠ 0 by omega)
        have hm2 := Int.emod_lt_of_pos n (show (0 : Int) < a.length by omega)
        have w1 : IntKind.i64.wrap ((a.length : Int) - 1) = (a.length : Int) - 1 := IntWalk.i64_in _ (by omega)
        rw [w1]
        have w2 : IntKind.i64.wrap ((a.length : Int) - 1 - n % (a.length : Int)) = (a.length : Int) - 1 - n % (a.length : Int) := IntWalk.i64_in _ (by omega)
        rw [w2]
        have hlt : ((a.length : Int) - 1 - n % (a.length : Int)).toNat < a.length := by omega
        exact ⟨⟨by omega, by omega⟩, needS_intro (by simp; omega) (ldI1 hlt (Nat.mul_one _) (hk _ (hq _ (List.getElem_mem hlt))))⟩
  · exact hk.elim
def cOf := addC 16 kOf cNdSort
theorem okOf : Sound env cOf := sound_add sOf (okNdSort)

def snInv (op im : Int) (ks : List Int) (op2 im2 : Int) (ks2 : List Int) : Inv' := atX Nat (fun i => [(2, .l 2 0), (3, .l 3 0), (5, .v (.int .i64 i))]) (fun _ => [(2, [.int .i64 op, .int .i64 im, .vslice none 0 ks.length 1 (ks.map (IV.int .i64))]), (3, [.int .i64 op2, .int .i64 im2, .vslice none 0 ks2.length 1 (ks2.map (IV.int .i64))])]) (fun _ => Heap.empty)
  (fun i => (ks.length = ks2.length ∧ i ≤ ks.length) ∧ ∀ j, j < i → ks[j]? = ks2[j]?) (fun i => ks.length - i)
def kSameNd (xs : List IV) (h : Heap) (K : IV → Heap → Prop) : Prop := match xs with
  | [.agg [.int .i64 op, .int .i64 im, .vslice none e1 n1 1 c1], .agg [.int .i64 op2, .int .i64 im2, .vslice none e2 n2 1 c2]] => ∃ ks ks2 : List Int, (n1 = ks.length ∧ c1 = ks.map (IV.int .i64)) ∧ (n2 = ks2.length ∧ c2 = ks2.map (IV.int .i64)) ∧ ks.length ≤ 1000000000 ∧ K (.bool (decide ((⟨op, im, ks⟩ : Nd) = ⟨op2, im2, ks2⟩))) h
  | _ => False
set_option maxRecDepth 100000 in
theorem vSameNd (op im op2 im2 : Int) (ks ks2 : List Int) (e1 e2 : Nat) (h : Heap) (Q : IV → Heap → Prop) : dF (stdS cOf) env 12 noU (ic1 5 (snInv op im ks op2 im2 ks2)) noI [.agg [.int .i64 op, .int .i64 im, .vslice none e1 ks.length 1 (ks.map (IV.int .i64))], .agg [.int .i64 op2, .int .i64 im2, .vslice none e2 ks2.length 1 (ks2.map (IV.int .i64))]] h Q = (
  needS
 (pureL
 [IV.agg [IV.int IntKind.i64 op, IV.int IntKind.i64 im, IV.vslice none (0 : Nat) (List.length ks) (1 : Nat) (List.map (IV.int IntKind.i64) ks)],
 IV.agg [IV.int IntKind.i64 op2, IV.int IntKind.i64 im2, IV.vslice none (0 : Nat) (List.length ks2) (1 : Nat) (List.map (IV.int IntKind.i64) ks2)]])
 (brS (op != op2) (Q (IV.bool false) h)
 (brS (im != im2) (Q (IV.bool false) h)
 (brS ((↑(List.length ks) : Int) != (↑(List.length ks2) : Int)) (Q (IV.bool false) h)
 ((∃ (x : Nat),
 some (TV.l (2 : Nat) (0 : Nat)) = some (TV.l (2 : Nat) (0 : Nat)) ∧
 some (TV.l (3 : Nat) (0 : Nat)) = some (TV.l (3 : Nat) (0 : Nat)) ∧
 some (TV.v (IV.int IntKind.i64 (0 : Int))) = some (TV.v (IV.int IntKind.i64 (↑x : Int))) ∧
 some [IV.int IntKind.i64 op, IV.int IntKind.i64 im, IV.vslice none (0 : Nat) (List.length ks) (1 : Nat) (List.map (IV.int IntKind.i64) ks)] =
 some [IV.int IntKind.i64 op, IV.int IntKind.i64 im, IV.vslice none (0 : Nat) (List.length ks) (1 : Nat) (List.map (IV.int IntKind.i64) ks)] ∧
 some [IV.int IntKind.i64 op2, IV.int IntKind.i64 im2, IV.vslice none (0 : Nat) (List.length ks2) (1 : Nat) (List.map (IV.int IntKind.i64) ks2)] =
 some [IV.int IntKind.i64 op2, IV.int IntKind.i64 im2, IV.vslice none (0 : Nat) (List.length ks2) (1 : Nat) (List.map (IV.int IntKind.i64) ks2)] ∧
 Heap.mk PT.nil (0 : Nat) = Heap.mk PT.nil (0 : Nat) ∧ ((List.length ks = List.length ks2 ∧ x ≤ List.length ks) ∧ ∀ (j : Nat), j < x → ks[j]? = ks2[j]?) ∧ True) ∧
 ∀ (x : Nat) (b : FF),
 ((List.length ks = List.length ks2 ∧ x ≤ List.length ks) ∧ ∀ (j : Nat), j < x → ks[j]? = ks2[j]?) →
 brS (decide ((↑x : Int) < (↑(List.length ks) : Int)))
 (needS (decide ((0 : Int) ≤ (↑x : Int)) && decide ((↑x : Int) < (↑(List.length ks) : Int)))
 (ldIS IntKind.i64 (List.map (IV.int IntKind.i64) ks) (Int.toNat (↑x : Int) * (1 : Nat)) fun (n0 : Int) =>
 needS (decide ((0 : Int) ≤ (↑x : Int)) && decide ((↑x : Int) < (↑(List.length ks2) : Int)))
 (ldIS IntKind.i64 (List.map (IV.int IntKind.i64) ks2) (Int.toNat (↑x : Int) * (1 : Nat)) fun (n1 : Int) =>
 brS (n0 != n1) (Q (IV.bool false) h)
 (∃ (x_1 : Nat),
 some (TV.l (2 : Nat) (0 : Nat)) = some (TV.l (2 : Nat) (0 : Nat)) ∧
 some (TV.l (3 : Nat) (0 : Nat)) = some (TV.l (3 : Nat) (0 : Nat)) ∧
 some (TV.v (IV.int IntKind.i64 (IntKind.wrap IntKind.i64 ((↑x : Int) + (1 : Int))))) = some (TV.v (IV.int IntKind.i64 (↑x_1 : Int))) ∧
 some [IV.int IntKind.i64 op, IV.int IntKind.i64 im, IV.vslice none (0 : Nat) (List.length ks) (1 : Nat) (List.map (IV.int IntKind.i64) ks)] =
 some [IV.int IntKind.i64 op, IV.int IntKind.i64 im, IV.vslice none (0 : Nat) (List.length ks) (1 : Nat) (List.map (IV.int IntKind.i64) ks)] ∧
 some [IV.int IntKind.i64 op2, IV.int IntKind.i64 im2, IV.vslice none (0 : Nat) (List.length ks2) (1 : Nat) (List.map (IV.int IntKind.i64) ks2)] =
 some [IV.int IntKind.i64 op2, IV.int IntKind.i64 im2, IV.vslice none (0 : Nat) (List.length ks2) (1 : Nat) (List.map (IV.int IntKind.i64) ks2)] ∧
 Heap.mk PT.nil (0 : Nat) = Heap.mk PT.nil (0 : Nat) ∧
 ((List.length ks = List.length ks2 ∧ x_1 ≤ List.length ks) ∧ ∀ (j : Nat), j < x_1 → ks[j]? = ks2[j]?) ∧ List.length ks - x_1 < List.length ks - x))))
 (Q (IV.bool true) h)))))) := by kernel_rfl
set_option maxHeartbeats 1000000 in
theorem sSameNd : ∀ xs h Q, kSameNd xs h Q → CallW env 12 xs h Q := by
  intro xs h Q hk
  unfold kSameNd at hk
  split at hk
  · rename_i op im e1 n1 c1 op2 im2 e2 n2 c2
    obtain ⟨ks, ks2, ⟨rfl, rfl⟩, ⟨rfl, rfl⟩, hb, hk⟩ := hk
    refine dF_run (okOf) (vSameNd op im op2 im2 ks ks2 e1 e2 h Q) ?_
    have tn : ∀ x : Nat, (x : Int).toNat = x := Int.toNat_natCast
    have fin : ∀ b : Bool, (b = true ↔ (op = op2 ∧ im = im2 ∧ ks = ks2)) → Q (.bool b) h := fun b e => by
      have : b = decide ((⟨op, im, ks⟩ : Nd) = ⟨op2, im2, ks2⟩) := by
        rw [Bool.eq_iff_iff, e, decide_eq_true_eq, Nd.mk.injEq]
      rw [this]
      exact hk
    have no : ¬ (op = op2 ∧ im = im2 ∧ ks = ks2) → Q (.bool false) h := fun e => fin false ⟨fun q => (by cases q), fun q => absurd q e⟩
    refine needS_intro (by simp only [pureL, pureB, pureL_ints, Bool.and_true]) (brS_intro (fun c => no (fun e => bne_iff_ne.1 c e.1)) (fun c1 => brS_intro (fun c => no (fun e => bne_iff_ne.1 c e.2.1)) (fun c2 => brS_intro (fun c => no (fun e => bne_iff_ne.1 c (by rw [e.2.2]))) (fun c3 => ?_))))
    rw [bne_eq_false_iff_eq] at c1 c2 c3
    subst c1 c2
    have hl : ks.length = ks2.length := by omega
    refine ⟨⟨0, rfl, rfl, rfl, rfl, rfl, rfl, ⟨⟨hl, Nat.zero_le _⟩, fun j hj => by omega⟩, trivial⟩, ?_⟩
    rintro i _ ⟨⟨hl2, hi⟩, ha⟩
    try dsimp only at hi ha ⊢
    refine brS_intro (fun c => ?_) (fun c => ?_)
    · rw [decide_eq_true_eq] at c
      have hlt : i < ks.length := by omega
      have hlt2 : i < ks2.length := by omega
      simp only [tn]
      rw [Nat.mul_one]
      refine needS_intro (by simp; omega) (ldIS_map hlt (needS_intro (by simp; omega) (ldIS_map hlt2 (brS_intro (fun c1 => no (fun e => ?_)) (fun c1 => ⟨i + 1, (by first | rfl | exact True.intro), (by first | rfl | exact True.intro), ?_, (by first | rfl | exact True.intro), (by first | rfl | exact True.intro), (by first | rfl | exact True.intro), ⟨⟨hl, hlt⟩, fun j hj => ?_⟩, by (try dsimp only); omega⟩)))))
      · have e := e.2.2
        subst e
        simp at c1
      · rw [IntWalk.i64_in _ (by omega)]; rfl
      · rcases Nat.lt_or_ge j i with q | q
        · exact ha j q
        · obtain rfl : j = i := by omega
          rw [bne_eq_false_iff_eq] at c1
          rw [List.getElem?_eq_getElem hlt, List.getElem?_eq_getElem hlt2, c1]
    · rw [decide_eq_false_iff_not] at c
      refine fin true ⟨fun _ => ⟨rfl, rfl, List.ext_getElem? fun j => ?_⟩, fun _ => rfl⟩
      rcases Nat.lt_or_ge j i with q | q
      · exact ha j q
      · rw [List.getElem?_eq_none (by omega), List.getElem?_eq_none (by omega)]
  · exact hk.elim
def cSameNd := addC 12 kSameNd cOf
theorem okSameNd : Sound env cSameNd := sound_add sSameNd (okOf)

def ctInv (l : List Nd) (op im : Int) (ks : List Int) : Inv' := atX Nat (fun x => [(0, .v (.vslice none 0 (l).length 3 ((l).flatMap cN))), (3, .l 3 0), (5, .v (.int .i64 x))]) (fun _ => [(3, [.int .i64 op, .int .i64 im, .vslice none 0 ks.length 1 (ks.map (IV.int .i64))])]) (fun _ => Heap.empty) (fun x => x ≤ l.length ∧ ∀ j, j < x → ∀ q, l[j]? = some q → (⟨op, im, ks⟩ : Nd) ≠ q) (fun x => l.length - x)
def kCont (xs : List IV) (h : Heap) (K : IV → Heap → Prop) : Prop := match xs with
  | [.vslice none e0 n0 3 c0, .agg [.int .i64 op, .int .i64 im, .vslice none e1 n1 1 c1]] => ∃ (l : List Nd) (ks : List Int), (n0 = l.length ∧ c0 = l.flatMap cN) ∧ (n1 = ks.length ∧ c1 = ks.map (IV.int .i64)) ∧ (l.length ≤ 1000000 ∧ ∀ x ∈ l, x.ks.length ≤ 1000000) ∧ K (.bool (decide ((⟨op, im, ks⟩ : Nd) ∈ l))) h
  | _ => False
set_option maxRecDepth 100000 in
theorem vCont (l : List Nd) (op im : Int) (ks : List Int) (e0 e1 : Nat) (h : Heap) (Q : IV → Heap → Prop) : dF (stdS cSameNd) env 19 noU (ic1 3 (ctInv l op im ks)) noI [.vslice none e0 (l).length 3 ((l).flatMap cN), .agg [.int .i64 op, .int .i64 im, .vslice none e1 ks.length 1 (ks.map (IV.int .i64))]] h Q = (
  needS (pureL [IV.vslice none (0 : Nat) (List.length l) (3 : Nat) (List.flatMap cN l), IV.agg [IV.int IntKind.i64 op, IV.int IntKind.i64 im, IV.vslice none (0 : Nat) (List.length ks) (1 : Nat) (List.map (IV.int IntKind.i64) ks)]])
 ((∃ (x : Nat),
 some (TV.v (IV.vslice none (0 : Nat) (List.length l) (3 : Nat) (List.flatMap cN l))) = some (TV.v (IV.vslice none (0 : Nat) (List.length l) (3 : Nat) (List.flatMap cN l))) ∧
 some (TV.l (3 : Nat) (0 : Nat)) = some (TV.l (3 : Nat) (0 : Nat)) ∧
 some (TV.v (IV.int IntKind.i64 (0 : Int))) = some (TV.v (IV.int IntKind.i64 (↑x : Int))) ∧
 some [IV.int IntKind.i64 op, IV.int IntKind.i64 im, IV.vslice none (0 : Nat) (List.length ks) (1 : Nat) (List.map (IV.int IntKind.i64) ks)] =
 some [IV.int IntKind.i64 op, IV.int IntKind.i64 im, IV.vslice none (0 : Nat) (List.length ks) (1 : Nat) (List.map (IV.int IntKind.i64) ks)] ∧
 Heap.mk PT.nil (0 : Nat) = Heap.mk PT.nil (0 : Nat) ∧ (x ≤ List.length l ∧ ∀ (j : Nat), j < x → ∀ (q : Nd), l[j]? = some q → Nd.mk op im ks ≠ q) ∧ True) ∧
 ∀ (x : Nat) (b : FF),
 (x ≤ List.length l ∧ ∀ (j : Nat), j < x → ∀ (q : Nd), l[j]? = some q → Nd.mk op im ks ≠ q) →
 brS (decide ((↑x : Int) < (↑(List.length l) : Int)))
 (needS (decide ((0 : Int) ≤ (↑x : Int)) && decide ((↑x : Int) < (↑(List.length l) : Int)))
 (ldIS IntKind.i64 (List.flatMap cN l) (Int.toNat (↑x : Int) * (3 : Nat)) fun (n0 : Int) =>
 ldIS IntKind.i64 (List.flatMap cN l) (Int.toNat (↑x : Int) * (3 : Nat) + (1 : Nat)) fun (n1 : Int) =>
 ldVS (1 : Nat) (List.flatMap cN l) (Int.toNat (↑x : Int) * (3 : Nat) + (1 : Nat) + (1 : Nat)) fun (i2 : Option Nat) (e3 l4 : Nat) (c5 : List IV) =>
 ∃ (ks_1 : List Int),
 ∃ (ks2 : List Int),
 (l4 = List.length ks_1 ∧ c5 = List.map (IV.int IntKind.i64) ks_1) ∧
 (List.length ks = List.length ks2 ∧ List.map (IV.int IntKind.i64) ks = List.map (IV.int IntKind.i64) ks2) ∧
 List.length ks_1 ≤ (1000000000 : Nat) ∧
 brS (decide (Nd.mk n0 n1 ks_1 = Nd.mk op im ks2)) (Q (IV.bool true) h)
 (∃ (x_1 : Nat),
 some (TV.v (IV.vslice none (0 : Nat) (List.length l) (3 : Nat) (List.flatMap cN l))) = some (TV.v (IV.vslice none (0 : Nat) (List.length l) (3 : Nat) (List.flatMap cN l))) ∧
 some (TV.l (3 : Nat) (0 : Nat)) = some (TV.l (3 : Nat) (0 : Nat)) ∧
 some (TV.v (IV.int IntKind.i64 (IntKind.wrap IntKind.i64 ((↑x : Int) + (1 : Int))))) = some (TV.v (IV.int IntKind.i64 (↑x_1 : Int))) ∧
 some [IV.int IntKind.i64 op, IV.int IntKind.i64 im, IV.vslice none (0 : Nat) (List.length ks) (1 : Nat) (List.map (IV.int IntKind.i64) ks)] =
 some [IV.int IntKind.i64 op, IV.int IntKind.i64 im, IV.vslice none (0 : Nat) (List.length ks) (1 : Nat) (List.map (IV.int IntKind.i64) ks)] ∧
 Heap.mk PT.nil (0 : Nat) = Heap.mk PT.nil (0 : Nat) ∧ (x_1 ≤ List.length l ∧ ∀ (j : Nat), j < x_1 → ∀ (q : Nd), l[j]? = some q → Nd.mk op im ks ≠ q) ∧ List.length l - x_1 < List.length l - x)))
 (Q (IV.bool false) h))) := by kernel_rfl
set_option maxHeartbeats 1000000 in
theorem sCont : ∀ xs h Q, kCont xs h Q → CallW env 19 xs h Q := by
  intro xs h Q hk
  unfold kCont at hk
  split at hk
  · rename_i e0 n0 c0 op im e1 n1 c1
    obtain ⟨l, ks, ⟨rfl, rfl⟩, ⟨rfl, rfl⟩, hb, hk⟩ := hk
    refine dF_run (okSameNd) (vCont l op im ks e0 e1 h Q) ?_
    have tn : ∀ x : Nat, (x : Int).toNat = x := Int.toNat_natCast
    refine needS_intro (by simp only [pureL, pureB, pureL_ints, pureL_cN, Bool.and_true]) ⟨⟨0, (by first | rfl | exact True.intro), (by first | rfl | exact True.intro), (by first | rfl | exact True.intro), (by first | rfl | exact True.intro), (by first | rfl | exact True.intro), ⟨Nat.zero_le _, fun j hj => by omega⟩, trivial⟩, ?_⟩
    rintro i _ ⟨hi, hne⟩
    try dsimp only at hi hne ⊢
    have et : ∀ x : Nd, (⟨x.op, x.im, x.ks⟩ : Nd) = x := fun x => by cases x; rfl
    refine brS_intro (fun c => ?_) (fun c => ?_)
    · rw [decide_eq_true_eq] at c
      have hlt : i < l.length := by omega
      refine needS_intro (by simp; omega) (ldNd hlt (by rw [tn]) ⟨l[i].ks, ks, ⟨rfl, rfl⟩, ⟨rfl, rfl⟩, by have := hb.2 _ (List.getElem_mem hlt); omega, brS_intro (fun c1 => ?_) (fun c1 => ⟨i + 1, (by first | rfl | exact True.intro), (by first | rfl | exact True.intro), ?_, (by first | rfl | exact True.intro), (by first | rfl | exact True.intro), ⟨hlt, fun j hj q hq => ?_⟩, by (try dsimp only); omega⟩)⟩)
      · rw [decide_eq_true_eq, et] at c1
        rw [decide_eq_true (c1 ▸ List.getElem_mem hlt)] at hk
        exact hk
      · rw [IntWalk.i64_in _ (by omega)]; rfl
      · rcases Nat.lt_or_ge j i with p | p
        · exact hne j p q hq
        · obtain rfl : j = i := by omega
          rw [decide_eq_false_iff_not, et] at c1
          rw [List.getElem?_eq_getElem hlt, Option.some.injEq] at hq
          rw [← hq]
          exact fun e => c1 e.symm
    · rw [decide_eq_false_iff_not] at c
      rw [decide_eq_false (fun hm => ?_)] at hk
      · exact hk
      · obtain ⟨j, hj, e⟩ := List.mem_iff_getElem.1 hm
        exact hne j (by omega) _ (List.getElem?_eq_getElem hj) e.symm
  · exact hk.elim
def cCont := addC 19 kCont cSameNd
theorem okCont : Sound env cCont := sound_add sCont (okSameNd)

def noInv (b : Bool) (l : List Int) : Inv' := (atX ND (fun x => [(0, .v (.vslice none 0 (l).length 1 ((l).map (IV.int .i64)))), (1, .v (.bool b)), (6, .v (.int .i64 x.i)), (5, .v (.vslice x.io x.e x.x.length 3 (x.x.flatMap cN)))]) (fun x => []) (fun x => x.g) (fun x => x.i ≤ 14 ∧ OV x) (fun x => (14 - x.i) * 10))
def naInv (b : Bool) (l : List Int) : Inv' := (atX ND (fun x => [(0, .v (.vslice none 0 (l).length 1 ((l).map (IV.int .i64)))), (1, .v (.bool b)), (6, .v (.int .i64 x.i)), (5, .v (.vslice x.io x.e x.x.length 3 (x.x.flatMap cN))), (7, .v (.ptr x.rd 0)), (8, .l 8 0)]) (fun x => [(8, [.int .i64 x.op, .int .i64 x.im, .nilslice])]) (fun x => x.g) (fun x => (x.i < 14 ∧ x.i < l.length) ∧ OR x ∧ OI x.op x.im) (fun x => (14 - x.i) * 10))
def niInv (b : Bool) (l : List Int) : Inv' := (atX ND (fun x => [(0, .v (.vslice none 0 (l).length 1 ((l).map (IV.int .i64)))), (1, .v (.bool b)), (6, .v (.int .i64 x.i)), (5, .v (.vslice x.io x.e x.x.length 3 (x.x.flatMap cN))), (7, .v (.ptr x.rd 0)), (8, .l 8 0), (9, .v (.int .i64 (ar x.op))), (11, .v (.int .i64 x.ks.length))]) (fun x => [(8, [.int .i64 x.op, .int .i64 x.im, x.kv])]) (fun x => x.g) (fun x => (x.i < 14 ∧ x.i < l.length) ∧ OR x ∧ OI x.op x.im ∧ KV x) (fun x => (14 - x.i) * 10 + (3 - x.ks.length)))
def ncInv (b : Bool) (l : List Int) : Inv' := (atX ND (fun x => [(0, .v (.vslice none 0 (l).length 1 ((l).map (IV.int .i64)))), (1, .v (.bool b)), (6, .v (.int .i64 x.i)), (5, .v (.vslice x.io x.e x.x.length 3 (x.x.flatMap cN))), (8, .l 8 0)]) (fun x => [(8, [.int .i64 x.op, .int .i64 x.im, x.kv])]) (fun x => x.g) (fun x => (x.i < 14 ∧ x.i < l.length) ∧ OV x ∧ KV x ∧ OI x.op 0 ∧ (x.ks.length : Int) = ar x.op ∧ ((x.op ≠ 27 ∧ i64b x.im ∧ (x.op = 1 ∨ x.im = 0)) ∨ (x.op = 27 ∧ 1 ≤ x.im ∧ x.im ≤ 2))) (fun x => (14 - x.i) * 10))
def nbInv (b : Bool) (l : List Int) : Inv' := .or (atX ND (fun x => [(0, .v (.vslice none 0 (l).length 1 ((l).map (IV.int .i64)))), (1, .v (.bool b)), (6, .v (.int .i64 x.i)), (5, .v (.vslice x.io x.e x.x.length 3 (x.x.flatMap cN))), (8, .l 8 0)]) (fun x => [(8, [.int .i64 x.op, .int .i64 x.im, .nilslice])]) (fun x => x.g) (fun x => (x.i < 14 ∧ x.i < l.length) ∧ OV x ∧ FN x.x x.op x.im [] ∧ x.ks = []) (fun x => (14 - x.i) * 10)) (atX ND (fun x => [(0, .v (.vslice none 0 (l).length 1 ((l).map (IV.int .i64)))), (1, .v (.bool b)), (6, .v (.int .i64 x.i)), (5, .v (.vslice x.io x.e x.x.length 3 (x.x.flatMap cN))), (8, .l 8 0)]) (fun x => [(8, [.int .i64 x.op, .int .i64 x.im, .vslice (some x.rd) x.ks.length x.ks.length 1 (x.ks.map (IV.int .i64))])]) (fun x => x.g) (fun x => (x.i < 14 ∧ x.i < l.length) ∧ OV x ∧ FN x.x x.op x.im x.ks) (fun x => (14 - x.i) * 10))
def kNodes (xs : List IV) (h : Heap) (K : IV → Heap → Prop) : Prop := match xs with
  | [.vslice none e1 n1 1 c1, .bool b] => ∃ l : List Int, (n1 = l.length ∧ c1 = l.map (IV.int .i64)) ∧ ((∀ x ∈ l, i64b x) ∧ l.length ≤ 9223372036854775807) ∧ ∀ x : List Nd, NW 14 x → K (.vslice none 0 (x).length 3 ((x).flatMap cN)) h
  | _ => False
set_option maxRecDepth 100000 in
theorem vNodes (l : List Int) (b : Bool) (e1 : Nat) (h : Heap) (Q : IV → Heap → Prop) : dF (stdS cCont) env 6 noU (icA 4 (noInv b l) (ic1 1000014 (niInv b l))) (icA 1000010 (naInv b l) (icA 1000012 (naInv b l) (icA 1000019 (ncInv b l) (ic1 1000021 (nbInv b l))))) [.vslice none e1 (l).length 1 ((l).map (IV.int .i64)), .bool b] h Q = (
  needS (pureL [IV.vslice none (0 : Nat) (List.length l) (1 : Nat) (List.map (IV.int IntKind.i64) l), IV.bool b])
 ((∃ (x : ND),
 some (TV.v (IV.vslice none (0 : Nat) (List.length l) (1 : Nat) (List.map (IV.int IntKind.i64) l))) = some (TV.v (IV.vslice none (0 : Nat) (List.length l) (1 : Nat) (List.map (IV.int IntKind.i64) l))) ∧
 some (TV.v (IV.bool b)) = some (TV.v (IV.bool b)) ∧
 some (TV.v (IV.int IntKind.i64 (0 : Int))) = some (TV.v (IV.int IntKind.i64 (↑(ND.i x) : Int))) ∧
 some
 (TV.v
 (IV.vslice none (1 : Nat) (3 : Nat) (3 : Nat)
 [IV.int IntKind.i64 (2 : Int), IV.int IntKind.i64 (0 : Int), IV.vslice none (0 : Nat) (0 : Nat) (1 : Nat) [], IV.int IntKind.i64 (2 : Int), IV.int IntKind.i64 (1 : Int), IV.vslice none (0 : Nat) (0 : Nat) (1 : Nat) [],
 IV.int IntKind.i64 (26 : Int), IV.int IntKind.i64 (0 : Int), IV.vslice none (0 : Nat) (0 : Nat) (1 : Nat) []])) =
 some (TV.v (IV.vslice (ND.io x) (ND.e x) (List.length (ND.x x)) (3 : Nat) (List.flatMap cN (ND.x x)))) ∧
 Heap.mk PT.nil (0 : Nat) = ND.g x ∧ (ND.i x ≤ (14 : Nat) ∧ OV x) ∧ True) ∧
 ∀ (x : ND) (b_1 : FF),
 ND.i x ≤ (14 : Nat) ∧ OV x →
 brS (decide ((↑(ND.i x) : Int) < (↑(List.length l) : Int)))
 (brS (decide ((↑(ND.i x) : Int) < (14 : Int)))
 (needS (decide ((0 : Int) ≤ (↑(ND.i x) : Int)) && decide ((↑(ND.i x) : Int) < (↑(List.length l) : Int)))
 (ldIS IntKind.i64 (List.map (IV.int IntKind.i64) l) (Int.toNat (↑(ND.i x) : Int) * (1 : Nat)) fun (n0 : Int) =>
 needS (decide ((0 : Int) ≤ (↑(ND.i x) : Int)) && decide ((↑(ND.i x) : Int) < (↑(List.length l) : Int)))
 (ldIS IntKind.i64 (List.map (IV.int IntKind.i64) l) (Int.toNat (↑(ND.i x) : Int) * (1 : Nat)) fun (n1 : Int) =>
 needS (decide ((0 : Int) ≤ (↑(ND.i x) : Int)) && decide ((↑(ND.i x) : Int) < (↑(List.length l) : Int)))
 (ldIS IntKind.i64 (List.map (IV.int IntKind.i64) l) (Int.toNat (↑(ND.i x) : Int) * (1 : Nat)) fun (n2 : Int) =>
 needS (decide ((0 : Int) ≤ (↑(ND.i x) : Int)) && decide ((↑(ND.i x) : Int) < (↑(List.length l) : Int)))
 (ldIS IntKind.i64 (List.map (IV.int IntKind.i64) l) (Int.toNat (↑(ND.i x) : Int) * (1 : Nat)) fun (n3 : Int) =>
 ((0 : Int) < (19 : Int) ∧ (19 : Int) < (4611686018427387904 : Int)) ∧
 ∃ (M : Nat),
 brS (!b)
 (needS (decide ((0 : Int) ≤ (↑(ND.i x) : Int)) && decide ((↑(ND.i x) : Int) < (↑(List.length l) : Int)))
 (ldIS IntKind.i64 (List.map (IV.int IntKind.i64) l) (Int.toNat (↑(ND.i x) : Int) * (1 : Nat)) fun (n4 : Int) =>
 ((0 : Int) < (9 : Int) ∧ (9 : Int) < (4611686018427387904 : Int)) ∧
 brS (decide (n4 % (9 : Int) > (5 : Int)))
 (needS (decide ((0 : Int) ≤ (↑(ND.i x) : Int)) && decide ((↑(ND.i x) : Int) < (↑(List.length l) : Int)))
 (ldIS IntKind.i64 (List.map (IV.int IntKind.i64) l) (Int.toNat (↑(ND.i x) : Int) * (1 : Nat)) fun (n5 : Int) =>
 ((0 : Int) < (5 : Int) ∧ (5 : Int) < (4611686018427387904 : Int)) ∧
 needS (decide ((0 : Int) ≤ IntKind.wrap IntKind.i64 (Int.tdiv n5 (9 : Int)) % (5 : Int)) && decide (IntKind.wrap IntKind.i64 (Int.tdiv n5 (9 : Int)) % (5 : Int) < (5 : Int)))
 (ldIS IntKind.i64 [IV.int IntKind.i64 (23 : Int), IV.int IntKind.i64 (27 : Int), IV.int IntKind.i64 (28 : Int), IV.int IntKind.i64 (29 : Int), IV.int IntKind.i64 (24 : Int)]
 (Int.toNat (IntKind.wrap IntKind.i64 (Int.tdiv n5 (9 : Int)) % (5 : Int)) * (1 : Nat)) fun (n6 : Int) =>
 ∃ (x_1 : ND),
 some (TV.v (IV.vslice none (0 : Nat) (List.length l) (1 : Nat) (List.map (IV.int IntKind.i64) l))) =
 some (TV.v (IV.vslice none (0 : Nat) (List.length l) (1 : Nat) (List.map (IV.int IntKind.i64) l))) ∧
 some (TV.v (IV.bool b)) = some (TV.v (IV.bool b)) ∧
 some (TV.v (IV.int IntKind.i64 (↑(ND.i x) : Int))) = some (TV.v (IV.int IntKind.i64 (↑(ND.i x_1) : Int))) ∧
 some (TV.v (IV.vslice (ND.io x) (ND.e x) (List.length (ND.x x)) (3 : Nat) (List.flatMap cN (ND.x x)))) =
 some (TV.v (IV.vslice (ND.io x_1) (ND.e x_1) (List.length (ND.x x_1)) (3 : Nat) (List.flatMap cN (ND.x x_1)))) ∧
 some (TV.v (IV.ptr (Heap.next (ND.g x)) (0 : Nat))) = some (TV.v (IV.ptr (ND.rd x_1) (0 : Nat))) ∧
 some (TV.l (8 : Nat) (0 : Nat)) = some (TV.l (8 : Nat) (0 : Nat)) ∧
 some [IV.int IntKind.i64 n6, IV.int IntKind.i64 (0 : Int), IV.nilslice] = some [IV.int IntKind.i64 (ND.op x_1), IV.int IntKind.i64 (ND.im x_1), IV.nilslice] ∧
 Heap.push (ND.g x)
 (IObj.cells
 [IV.vslice none (1 : Nat) (3 : Nat) (1 : Nat)
 [IV.int IntKind.i64 (IntKind.wrap IntKind.i64 (Int.tdiv n0 (7 : Int))), IV.int IntKind.i64 (IntKind.wrap IntKind.i64 (Int.tdiv n1 (101 : Int))),
 IV.int IntKind.i64 (IntKind.wrap IntKind.i64 (Int.tdiv n2 (1009 : Int)))],
 IV.int IntKind.i64 (0 : Int)]) =
 ND.g x_1 ∧
 ((ND.i x_1 < (14 : Nat) ∧ ND.i x_1 < List.length l) ∧ OR x_1 ∧ OI (ND.op x_1) (ND.im x_1)) ∧ ((14 : Nat) - ND.i x_1) * (10 : Nat) ≤ M)))
 (∃ (x_1 : ND),
 some (TV.v (IV.vslice none (0 : Nat) (List.length l) (1 : Nat) (List.map (IV.int IntKind.i64) l))) =
 some (TV.v (IV.vslice none (0 : Nat) (List.length l) (1 : Nat) (List.map (IV.int IntKind.i64) l))) ∧
 some (TV.v (IV.bool b)) = some (TV.v (IV.bool b)) ∧
 some (TV.v (IV.int IntKind.i64 (↑(ND.i x) : Int))) = some (TV.v (IV.int IntKind.i64 (↑(ND.i x_1) : Int))) ∧
 some (TV.v (IV.vslice (ND.io x) (ND.e x) (List.length (ND.x x)) (3 : Nat) (List.flatMap cN (ND.x x)))) =
 some (TV.v (IV.vslice (ND.io x_1) (ND.e x_1) (List.length (ND.x x_1)) (3 : Nat) (List.flatMap cN (ND.x x_1)))) ∧
 some (TV.v (IV.ptr (Heap.next (ND.g x)) (0 : Nat))) = some (TV.v (IV.ptr (ND.rd x_1) (0 : Nat))) ∧
 some (TV.l (8 : Nat) (0 : Nat)) = some (TV.l (8 : Nat) (0 : Nat)) ∧
 some [IV.int IntKind.i64 (IntKind.wrap IntKind.i64 ((4 : Int) + n3 % (19 : Int))), IV.int IntKind.i64 (0 : Int), IV.nilslice] =
 some [IV.int IntKind.i64 (ND.op x_1), IV.int IntKind.i64 (ND.im x_1), IV.nilslice] ∧
 Heap.push (ND.g x)
 (IObj.cells
 [IV.vslice none (1 : Nat) (3 : Nat) (1 : Nat)
 [IV.int IntKind.i64 (IntKind.wrap IntKind.i64 (Int.tdiv n0 (7 : Int))), IV.int IntKind.i64 (IntKind.wrap IntKind.i64 (Int.tdiv n1 (101 : Int))),
 IV.int IntKind.i64 (IntKind.wrap IntKind.i64 (Int.tdiv n2 (1009 : Int)))],
 IV.int IntKind.i64 (0 : Int)]) =
 ND.g x_1 ∧
 ((ND.i x_1 < (14 : Nat) ∧ ND.i x_1 < List.length l) ∧ OR x_1 ∧ OI (ND.op x_1) (ND.im x_1)) ∧ ((14 : Nat) - ND.i x_1) * (10 : Nat) ≤ M)))
 (∃ (x_1 : ND),
 some (TV.v (IV.vslice none (0 : Nat) (List.length l) (1 : Nat) (List.map (IV.int IntKind.i64) l))) = some (TV.v (IV.vslice none (0 : Nat) (List.length l) (1 : Nat) (List.map (IV.int IntKind.i64) l))) ∧
 some (TV.v (IV.bool b)) = some (TV.v (IV.bool b)) ∧
 some (TV.v (IV.int IntKind.i64 (↑(ND.i x) : Int))) = some (TV.v (IV.int IntKind.i64 (↑(ND.i x_1) : Int))) ∧
 some (TV.v (IV.vslice (ND.io x) (ND.e x) (List.length (ND.x x)) (3 : Nat) (List.flatMap cN (ND.x x)))) =
 some (TV.v (IV.vslice (ND.io x_1) (ND.e x_1) (List.length (ND.x x_1)) (3 : Nat) (List.flatMap cN (ND.x x_1)))) ∧
 some (TV.v (IV.ptr (Heap.next (ND.g x)) (0 : Nat))) = some (TV.v (IV.ptr (ND.rd x_1) (0 : Nat))) ∧
 some (TV.l (8 : Nat) (0 : Nat)) = some (TV.l (8 : Nat) (0 : Nat)) ∧
 some [IV.int IntKind.i64 (IntKind.wrap IntKind.i64 ((4 : Int) + n3 % (19 : Int))), IV.int IntKind.i64 (0 : Int), IV.nilslice] =
 some [IV.int IntKind.i64 (ND.op x_1), IV.int IntKind.i64 (ND.im x_1), IV.nilslice] ∧
 Heap.push (ND.g x)
 (IObj.cells
 [IV.vslice none (1 : Nat) (3 : Nat) (1 : Nat)
 [IV.int IntKind.i64 (IntKind.wrap IntKind.i64 (Int.tdiv n0 (7 : Int))), IV.int IntKind.i64 (IntKind.wrap IntKind.i64 (Int.tdiv n1 (101 : Int))),
 IV.int IntKind.i64 (IntKind.wrap IntKind.i64 (Int.tdiv n2 (1009 : Int)))],
 IV.int IntKind.i64 (0 : Int)]) =
 ND.g x_1 ∧
 ((ND.i x_1 < (14 : Nat) ∧ ND.i x_1 < List.length l) ∧ OR x_1 ∧ OI (ND.op x_1) (ND.im x_1)) ∧ ((14 : Nat) - ND.i x_1) * (10 : Nat) ≤ M) ∧
 ∀ (x_1 : ND) (b_2 : FF),
 (ND.i x_1 < (14 : Nat) ∧ ND.i x_1 < List.length l) ∧ OR x_1 ∧ OI (ND.op x_1) (ND.im x_1) →
 ((14 : Nat) - ND.i x_1) * (10 : Nat) ≤ M →
 ∃ (M : Nat),
 needS (decide ((0 : Int) ≤ (↑(ND.i x_1) : Int)) && decide ((↑(ND.i x_1) : Int) < (↑(List.length l) : Int)))
 (ldIS IntKind.i64 (List.map (IV.int IntKind.i64) l) (Int.toNat (↑(ND.i x_1) : Int) * (1 : Nat)) fun (n7 : Int) =>
 ((0 : Int) < (11 : Int) ∧ (11 : Int) < (4611686018427387904 : Int)) ∧
 brS (n7 % (11 : Int) == (0 : Int))
 (needS (decide ((0 : Int) ≤ (↑(ND.i x_1) : Int)) && decide ((↑(ND.i x_1) : Int) < (↑(List.length l) : Int)))
 (ldIS IntKind.i64 (List.map (IV.int IntKind.i64) l) (Int.toNat (↑(ND.i x_1) : Int) * (1 : Nat)) fun (n8 : Int) =>
 needS (decide ((0 : Int) ≤ (↑(ND.i x_1) : Int)) && decide ((↑(ND.i x_1) : Int) < (↑(List.length l) : Int)))
 (ldIS IntKind.i64 (List.map (IV.int IntKind.i64) l) (Int.toNat (↑(ND.i x_1) : Int) * (1 : Nat)) fun (n9 : Int) =>
 i64b n9 ∧
 ∀ (w : Int),
 i64b w →
 ∃ (x : ND),
 some (TV.v (IV.vslice none (0 : Nat) (List.length l) (1 : Nat) (List.map (IV.int IntKind.i64) l))) =
 some (TV.v (IV.vslice none (0 : Nat) (List.length l) (1 : Nat) (List.map (IV.int IntKind.i64) l))) ∧
 some (TV.v (IV.bool b)) = some (TV.v (IV.bool b)) ∧
 some (TV.v (IV.int IntKind.i64 (↑(ND.i x_1) : Int))) = some (TV.v (IV.int IntKind.i64 (↑(ND.i x) : Int))) ∧
 some (TV.v (IV.vslice (ND.io x_1) (ND.e x_1) (List.length (ND.x x_1)) (3 : Nat) (List.flatMap cN (ND.x x_1)))) =
 some (TV.v (IV.vslice (ND.io x) (ND.e x) (List.length (ND.x x)) (3 : Nat) (List.flatMap cN (ND.x x)))) ∧
 some (TV.v (IV.ptr (ND.rd x_1) (0 : Nat))) = some (TV.v (IV.ptr (ND.rd x) (0 : Nat))) ∧
 some (TV.l (8 : Nat) (0 : Nat)) = some (TV.l (8 : Nat) (0 : Nat)) ∧
 some [IV.int IntKind.i64 (1 : Int), IV.int IntKind.i64 w, IV.nilslice] = some [IV.int IntKind.i64 (ND.op x), IV.int IntKind.i64 (ND.im x), IV.nilslice] ∧
 ND.g x_1 = ND.g x ∧ ((ND.i x < (14 : Nat) ∧ ND.i x < List.length l) ∧ OR x ∧ OI (ND.op x) (ND.im x)) ∧ ((14 : Nat) - ND.i x) * (10 : Nat) ≤ M)))
 (∃ (x : ND),
 some (TV.v (IV.vslice none (0 : Nat) (List.length l) (1 : Nat) (List.map (IV.int IntKind.i64) l))) =
 some (TV.v (IV.vslice none (0 : Nat) (List.length l) (1 : Nat) (List.map (IV.int IntKind.i64) l))) ∧
 some (TV.v (IV.bool b)) = some (TV.v (IV.bool b)) ∧
 some (TV.v (IV.int IntKind.i64 (↑(ND.i x_1) : Int))) = some (TV.v (IV.int IntKind.i64 (↑(ND.i x) : Int))) ∧
 some (TV.v (IV.vslice (ND.io x_1) (ND.e x_1) (List.length (ND.x x_1)) (3 : Nat) (List.flatMap cN (ND.x x_1)))) =
 some (TV.v (IV.vslice (ND.io x) (ND.e x) (List.length (ND.x x)) (3 : Nat) (List.flatMap cN (ND.x x)))) ∧
 some (TV.v (IV.ptr (ND.rd x_1) (0 : Nat))) = some (TV.v (IV.ptr (ND.rd x) (0 : Nat))) ∧
 some (TV.l (8 : Nat) (0 : Nat)) = some (TV.l (8 : Nat) (0 : Nat)) ∧
 some [IV.int IntKind.i64 (ND.op x_1), IV.int IntKind.i64 (ND.im x_1), IV.nilslice] = some [IV.int IntKind.i64 (ND.op x), IV.int IntKind.i64 (ND.im x), IV.nilslice] ∧
 ND.g x_1 = ND.g x ∧ ((ND.i x < (14 : Nat) ∧ ND.i x < List.length l) ∧ OR x ∧ OI (ND.op x) (ND.im x)) ∧ ((14 : Nat) - ND.i x) * (10 : Nat) ≤ M)) ∧
 ∀ (x_2 : ND) (b_3 : FF),
 (ND.i x_2 < (14 : Nat) ∧ ND.i x_2 < List.length l) ∧ OR x_2 ∧ OI (ND.op x_2) (ND.im x_2) →
 ((14 : Nat) - ND.i x_2) * (10 : Nat) ≤ M →
 ∃ (M : Nat),
 (∃ (x : ND),
 some (TV.v (IV.vslice none (0 : Nat) (List.length l) (1 : Nat) (List.map (IV.int IntKind.i64) l))) =
 some (TV.v (IV.vslice none (0 : Nat) (List.length l) (1 : Nat) (List.map (IV.int IntKind.i64) l))) ∧
 some (TV.v (IV.bool b)) = some (TV.v (IV.bool b)) ∧
 some (TV.v (IV.int IntKind.i64 (↑(ND.i x_2) : Int))) = some (TV.v (IV.int IntKind.i64 (↑(ND.i x) : Int))) ∧
 some (TV.v (IV.vslice (ND.io x_2) (ND.e x_2) (List.length (ND.x x_2)) (3 : Nat) (List.flatMap cN (ND.x x_2)))) =
 some (TV.v (IV.vslice (ND.io x) (ND.e x) (List.length (ND.x x)) (3 : Nat) (List.flatMap cN (ND.x x)))) ∧
 some (TV.v (IV.ptr (ND.rd x_2) (0 : Nat))) = some (TV.v (IV.ptr (ND.rd x) (0 : Nat))) ∧
 some (TV.l (8 : Nat) (0 : Nat)) = some (TV.l (8 : Nat) (0 : Nat)) ∧
 some (TV.v (IV.int IntKind.i64 (ar (ND.op x_2)))) = some (TV.v (IV.int IntKind.i64 (ar (ND.op x)))) ∧
 some (TV.v (IV.int IntKind.i64 (0 : Int))) = some (TV.v (IV.int IntKind.i64 (↑(List.length (ND.ks x)) : Int))) ∧
 some [IV.int IntKind.i64 (ND.op x_2), IV.int IntKind.i64 (ND.im x_2), IV.nilslice] = some [IV.int IntKind.i64 (ND.op x), IV.int IntKind.i64 (ND.im x), ND.kv x] ∧
 ND.g x_2 = ND.g x ∧
 ((ND.i x < (14 : Nat) ∧ ND.i x < List.length l) ∧ OR x ∧ OI (ND.op x) (ND.im x) ∧ KV x) ∧
 ((14 : Nat) - ND.i x) * (10 : Nat) + ((3 : Nat) - List.length (ND.ks x)) ≤ M) ∧
 ∀ (x_3 : ND) (b_4 : FF),
 (ND.i x_3 < (14 : Nat) ∧ ND.i x_3 < List.length l) ∧ OR x_3 ∧ OI (ND.op x_3) (ND.im x_3) ∧ KV x_3 →
 ((14 : Nat) - ND.i x_3) * (10 : Nat) + ((3 : Nat) - List.length (ND.ks x_3)) ≤ M →
 brS (decide ((↑(List.length (ND.ks x_3)) : Int) < ar (ND.op x_3)))
 (RD (ND.g x_3) (ND.rd x_3) ∧
 ∀ (n : Int) (h2 : Heap),
 i64b n →
 RD h2 (ND.rd x_3) →
 HF (ND.rd x_3) (ND.g x_3) h2 →
 ∃ (l_1 : List Nd),
 (List.length (ND.x x_3) = List.length l_1 ∧ List.flatMap cN (ND.x x_3) = List.flatMap cN l_1) ∧
 ((∀ (x : Nd), x ∈ l_1 → List.length (Nd.ks x) ≤ (1000000 : Nat) ∧ Nd.op x ≠ (25 : Int) ∧ Nd.op x ≠ (30 : Int) ∧ Nd.op x ≠ (31 : Int)) ∧
 List.length l_1 ≤ (1000000 : Nat) ∧ osort (ND.op x_3) (↑(List.length (ND.ks x_3)) : Int) ∈ sortsA l_1) ∧
 ∀ (q : Int),
 (0 : Int) ≤ q ∧ q < (↑(List.length l_1) : Int) ∧ List.getD (sortsA l_1) (Int.toNat q) (0 : Int) = osort (ND.op x_3) (↑(List.length (ND.ks x_3)) : Int) →
 appGS h2 (1 : Nat) (8 : Nat) x_3.8 (1 : Nat) [IV.int IntKind.i64 q] fun (i10 e11 l12 : Nat) (c13 : List IV) (g14 : Heap) =>
 ∃ (x : ND),
 some (TV.v (IV.vslice none (0 : Nat) (List.length l) (1 : Nat) (List.map (IV.int IntKind.i64) l))) =
 some (TV.v (IV.vslice none (0 : Nat) (List.length l) (1 : Nat) (List.map (IV.int IntKind.i64) l))) ∧
 some (TV.v (IV.bool b)) = some (TV.v (IV.bool b)) ∧
 some (TV.v (IV.int IntKind.i64 (↑(ND.i x_3) : Int))) = some (TV.v (IV.int IntKind.i64 (↑(ND.i x) : Int))) ∧
 some (TV.v (IV.vslice (ND.io x_3) (ND.e x_3) (List.length (ND.x x_3)) (3 : Nat) (List.flatMap cN (ND.x x_3)))) =
 some (TV.v (IV.vslice (ND.io x) (ND.e x) (List.length (ND.x x)) (3 : Nat) (List.flatMap cN (ND.x x)))) ∧
 some (TV.v (IV.ptr (ND.rd x_3) (0 : Nat))) = some (TV.v (IV.ptr (ND.rd x) (0 : Nat))) ∧
 some (TV.l (8 : Nat) (0 : Nat)) = some (TV.l (8 : Nat) (0 : Nat)) ∧
 some (TV.v (IV.int IntKind.i64 (ar (ND.op x_3)))) = some (TV.v (IV.int IntKind.i64 (ar (ND.op x)))) ∧
 some (TV.v (IV.int IntKind.i64 (IntKind.wrap IntKind.i64 ((↑(List.length (ND.ks x_3)) : Int) + (1 : Int))))) =
 some (TV.v (IV.int IntKind.i64 (↑(List.length (ND.ks x)) : Int))) ∧
 some [IV.int IntKind.i64 (ND.op x_3), IV.int IntKind.i64 (ND.im x_3), IV.vslice (some i10) e11 l12 (1 : Nat) c13] =
 some [IV.int IntKind.i64 (ND.op x), IV.int IntKind.i64 (ND.im x), ND.kv x] ∧
 g14 = ND.g x ∧
 ((ND.i x < (14 : Nat) ∧ ND.i x < List.length l) ∧ OR x ∧ OI (ND.op x) (ND.im x) ∧ KV x) ∧
 ((14 : Nat) - ND.i x) * (10 : Nat) + ((3 : Nat) - List.length (ND.ks x)) <
 ((14 : Nat) - ND.i x_3) * (10 : Nat) + ((3 : Nat) - List.length (ND.ks x_3)))
 (∃ (M : Nat),
 brS (ND.op x_3 == (27 : Int))
 (needS (decide ((0 : Int) ≤ (↑(ND.i x_3) : Int)) && decide ((↑(ND.i x_3) : Int) < (↑(List.length l) : Int)))
 (ldIS IntKind.i64 (List.map (IV.int IntKind.i64) l) (Int.toNat (↑(ND.i x_3) : Int) * (1 : Nat)) fun (n15 : Int) =>
 ((0 : Int) < (2 : Int) ∧ (2 : Int) < (4611686018427387904 : Int)) ∧
 ∃ (x : ND),
 some (TV.v (IV.vslice none (0 : Nat) (List.length l) (1 : Nat) (List.map (IV.int IntKind.i64) l))) =
 some (TV.v (IV.vslice none (0 : Nat) (List.length l) (1 : Nat) (List.map (IV.int IntKind.i64) l))) ∧
 some (TV.v (IV.bool b)) = some (TV.v (IV.bool b)) ∧
 some (TV.v (IV.int IntKind.i64 (↑(ND.i x_3) : Int))) = some (TV.v (IV.int IntKind.i64 (↑(ND.i x) : Int))) ∧
 some (TV.v (IV.vslice (ND.io x_3) (ND.e x_3) (List.length (ND.x x_3)) (3 : Nat) (List.flatMap cN (ND.x x_3)))) =
 some (TV.v (IV.vslice (ND.io x) (ND.e x) (List.length (ND.x x)) (3 : Nat) (List.flatMap cN (ND.x x)))) ∧
 some (TV.l (8 : Nat) (0 : Nat)) = some (TV.l (8 : Nat) (0 : Nat)) ∧
 some
 [IV.int IntKind.i64 (ND.op x_3),
 IV.int IntKind.i64 (IntKind.wrap IntKind.i64 ((1 : Int) + IntKind.wrap IntKind.i64 (Int.tdiv n15 (5 : Int)) % (2 : Int))), ND.kv x_3] =
 some [IV.int IntKind.i64 (ND.op x), IV.int IntKind.i64 (ND.im x), ND.kv x] ∧
 ND.g x_3 = ND.g x ∧
 ((ND.i x < (14 : Nat) ∧ ND.i x < List.length l) ∧
 OV x ∧
 KV x ∧
 OI (ND.op x) (0 : Int) ∧
 (↑(List.length (ND.ks x)) : Int) = ar (ND.op x) ∧
 (ND.op x ≠ (27 : Int) ∧ i64b (ND.im x) ∧ (ND.op x = (1 : Int) ∨ ND.im x = (0 : Int)) ∨
 ND.op x = (27 : Int) ∧ (1 : Int) ≤ ND.im x ∧ ND.im x ≤ (2 : Int))) ∧
 ((14 : Nat) - ND.i x) * (10 : Nat) ≤ M))
 (∃ (x : ND),
 some (TV.v (IV.vslice none (0 : Nat) (List.length l) (1 : Nat) (List.map (IV.int IntKind.i64) l))) =
 some (TV.v (IV.vslice none (0 : Nat) (List.length l) (1 : Nat) (List.map (IV.int IntKind.i64) l))) ∧
 some (TV.v (IV.bool b)) = some (TV.v (IV.bool b)) ∧
 some (TV.v (IV.int IntKind.i64 (↑(ND.i x_3) : Int))) = some (TV.v (IV.int IntKind.i64 (↑(ND.i x) : Int))) ∧
 some (TV.v (IV.vslice (ND.io x_3) (ND.e x_3) (List.length (ND.x x_3)) (3 : Nat) (List.flatMap cN (ND.x x_3)))) =
 some (TV.v (IV.vslice (ND.io x) (ND.e x) (List.length (ND.x x)) (3 : Nat) (List.flatMap cN (ND.x x)))) ∧
 some (TV.l (8 : Nat) (0 : Nat)) = some (TV.l (8 : Nat) (0 : Nat)) ∧
 some [IV.int IntKind.i64 (ND.op x_3), IV.int IntKind.i64 (ND.im x_3), ND.kv x_3] = some [IV.int IntKind.i64 (ND.op x), IV.int IntKind.i64 (ND.im x), ND.kv x] ∧
 ND.g x_3 = ND.g x ∧
 ((ND.i x < (14 : Nat) ∧ ND.i x < List.length l) ∧
 OV x ∧
 KV x ∧
 OI (ND.op x) (0 : Int) ∧
 (↑(List.length (ND.ks x)) : Int) = ar (ND.op x) ∧
 (ND.op x ≠ (27 : Int) ∧ i64b (ND.im x) ∧ (ND.op x = (1 : Int) ∨ ND.im x = (0 : Int)) ∨
 ND.op x = (27 : Int) ∧ (1 : Int) ≤ ND.im x ∧ ND.im x ≤ (2 : Int))) ∧
 ((14 : Nat) - ND.i x) * (10 : Nat) ≤ M) ∧
 ∀ (x_4 : ND) (b_5 : FF),
 (ND.i x_4 < (14 : Nat) ∧ ND.i x_4 < List.length l) ∧
 OV x_4 ∧
 KV x_4 ∧
 OI (ND.op x_4) (0 : Int) ∧
 (↑(List.length (ND.ks x_4)) : Int) = ar (ND.op x_4) ∧
 (ND.op x_4 ≠ (27 : Int) ∧ i64b (ND.im x_4) ∧ (ND.op x_4 = (1 : Int) ∨ ND.im x_4 = (0 : Int)) ∨
 ND.op x_4 = (27 : Int) ∧ (1 : Int) ≤ ND.im x_4 ∧ ND.im x_4 ≤ (2 : Int)) →
 ((14 : Nat) - ND.i x_4) * (10 : Nat) ≤ M →
 ∃ (M : Nat),
 brS (ND.op x_4 == (23 : Int))
 (needS (decide ((0 : Int) ≤ (↑(ND.i x_4) : Int)) && decide ((↑(ND.i x_4) : Int) < (↑(List.length l) : Int)))
 (ldIS IntKind.i64 (List.map (IV.int IntKind.i64) l) (Int.toNat (↑(ND.i x_4) : Int) * (1 : Nat)) fun (n16 : Int) =>
 ((0 : Int) < (2 : Int) ∧ (2 : Int) < (4611686018427387904 : Int)) ∧
 ((∃ (x : ND),
 some (TV.v (IV.vslice none (0 : Nat) (List.length l) (1 : Nat) (List.map (IV.int IntKind.i64) l))) =
 some (TV.v (IV.vslice none (0 : Nat) (List.length l) (1 : Nat) (List.map (IV.int IntKind.i64) l))) ∧
 some (TV.v (IV.bool b)) = some (TV.v (IV.bool b)) ∧
 some (TV.v (IV.int IntKind.i64 (↑(ND.i x_4) : Int))) = some (TV.v (IV.int IntKind.i64 (↑(ND.i x) : Int))) ∧
 some (TV.v (IV.vslice (ND.io x_4) (ND.e x_4) (List.length (ND.x x_4)) (3 : Nat) (List.flatMap cN (ND.x x_4)))) =
 some (TV.v (IV.vslice (ND.io x) (ND.e x) (List.length (ND.x x)) (3 : Nat) (List.flatMap cN (ND.x x)))) ∧
 some (TV.l (8 : Nat) (0 : Nat)) = some (TV.l (8 : Nat) (0 : Nat)) ∧
 some [IV.int IntKind.i64 (ND.op x_4), IV.int IntKind.i64 (IntKind.wrap IntKind.i64 (Int.tdiv n16 (5 : Int)) % (2 : Int)), ND.kv x_4] =
 some [IV.int IntKind.i64 (ND.op x), IV.int IntKind.i64 (ND.im x), IV.nilslice] ∧
 ND.g x_4 = ND.g x ∧
 ((ND.i x < (14 : Nat) ∧ ND.i x < List.length l) ∧ OV x ∧ FN (ND.x x) (ND.op x) (ND.im x) [] ∧ ND.ks x = []) ∧
 ((14 : Nat) - ND.i x) * (10 : Nat) ≤ M) ∨
 ∃ (x : ND),
 some (TV.v (IV.vslice none (0 : Nat) (List.length l) (1 : Nat) (List.map (IV.int IntKind.i64) l))) =
 some (TV.v (IV.vslice none (0 : Nat) (List.length l) (1 : Nat) (List.map (IV.int IntKind.i64) l))) ∧
 some (TV.v (IV.bool b)) = some (TV.v (IV.bool b)) ∧
 some (TV.v (IV.int IntKind.i64 (↑(ND.i x_4) : Int))) = some (TV.v (IV.int IntKind.i64 (↑(ND.i x) : Int))) ∧
 some (TV.v (IV.vslice (ND.io x_4) (ND.e x_4) (List.length (ND.x x_4)) (3 : Nat) (List.flatMap cN (ND.x x_4)))) =
 some (TV.v (IV.vslice (ND.io x) (ND.e x) (List.length (ND.x x)) (3 : Nat) (List.flatMap cN (ND.x x)))) ∧
 some (TV.l (8 : Nat) (0 : Nat)) = some (TV.l (8 : Nat) (0 : Nat)) ∧
 some [IV.int IntKind.i64 (ND.op x_4), IV.int IntKind.i64 (IntKind.wrap IntKind.i64 (Int.tdiv n16 (5 : Int)) % (2 : Int)), ND.kv x_4] =
 some
 [IV.int IntKind.i64 (ND.op x), IV.int IntKind.i64 (ND.im x),
 IV.vslice (some (ND.rd x)) (List.length (ND.ks x)) (List.length (ND.ks x)) (1 : Nat) (List.map (IV.int IntKind.i64) (ND.ks x))] ∧
 ND.g x_4 = ND.g x ∧
 ((ND.i x < (14 : Nat) ∧ ND.i x < List.length l) ∧ OV x ∧ FN (ND.x x) (ND.op x) (ND.im x) (ND.ks x)) ∧
 ((14 : Nat) - ND.i x) * (10 : Nat) ≤ M)))
 (brS (ND.op x_4 == (28 : Int))
 (needS (decide ((0 : Int) ≤ (↑(ND.i x_4) : Int)) && decide ((↑(ND.i x_4) : Int) < (↑(List.length l) : Int)))
 (ldIS IntKind.i64 (List.map (IV.int IntKind.i64) l) (Int.toNat (↑(ND.i x_4) : Int) * (1 : Nat)) fun (n17 : Int) =>
 ((0 : Int) < (2 : Int) ∧ (2 : Int) < (4611686018427387904 : Int)) ∧
 ((∃ (x : ND),
 some (TV.v (IV.vslice none (0 : Nat) (List.length l) (1 : Nat) (List.map (IV.int IntKind.i64) l))) =
 some (TV.v (IV.vslice none (0 : Nat) (List.length l) (1 : Nat) (List.map (IV.int IntKind.i64) l))) ∧
 some (TV.v (IV.bool b)) = some (TV.v (IV.bool b)) ∧
 some (TV.v (IV.int IntKind.i64 (↑(ND.i x_4) : Int))) = some (TV.v (IV.int IntKind.i64 (↑(ND.i x) : Int))) ∧
 some (TV.v (IV.vslice (ND.io x_4) (ND.e x_4) (List.length (ND.x x_4)) (3 : Nat) (List.flatMap cN (ND.x x_4)))) =
 some (TV.v (IV.vslice (ND.io x) (ND.e x) (List.length (ND.x x)) (3 : Nat) (List.flatMap cN (ND.x x)))) ∧
 some (TV.l (8 : Nat) (0 : Nat)) = some (TV.l (8 : Nat) (0 : Nat)) ∧
 some [IV.int IntKind.i64 (ND.op x_4), IV.int IntKind.i64 (IntKind.wrap IntKind.i64 (Int.tdiv n17 (5 : Int)) % (2 : Int)), ND.kv x_4] =
 some [IV.int IntKind.i64 (ND.op x), IV.int IntKind.i64 (ND.im x), IV.nilslice] ∧
 ND.g x_4 = ND.g x ∧
 ((ND.i x < (14 : Nat) ∧ ND.i x < List.length l) ∧ OV x ∧ FN (ND.x x) (ND.op x) (ND.im x) [] ∧ ND.ks x = []) ∧
 ((14 : Nat) - ND.i x) * (10 : Nat) ≤ M) ∨
 ∃ (x : ND),
 some (TV.v (IV.vslice none (0 : Nat) (List.length l) (1 : Nat) (List.map (IV.int IntKind.i64) l))) =
 some (TV.v (IV.vslice none (0 : Nat) (List.length l) (1 : Nat) (List.map (IV.int IntKind.i64) l))) ∧
 some (TV.v (IV.bool b)) = some (TV.v (IV.bool b)) ∧
 some (TV.v (IV.int IntKind.i64 (↑(ND.i x_4) : Int))) = some (TV.v (IV.int IntKind.i64 (↑(ND.i x) : Int))) ∧
 some (TV.v (IV.vslice (ND.io x_4) (ND.e x_4) (List.length (ND.x x_4)) (3 : Nat) (List.flatMap cN (ND.x x_4)))) =
 some (TV.v (IV.vslice (ND.io x) (ND.e x) (List.length (ND.x x)) (3 : Nat) (List.flatMap cN (ND.x x)))) ∧
 some (TV.l (8 : Nat) (0 : Nat)) = some (TV.l (8 : Nat) (0 : Nat)) ∧
 some [IV.int IntKind.i64 (ND.op x_4), IV.int IntKind.i64 (IntKind.wrap IntKind.i64 (Int.tdiv n17 (5 : Int)) % (2 : Int)), ND.kv x_4] =
 some
 [IV.int IntKind.i64 (ND.op x), IV.int IntKind.i64 (ND.im x),
 IV.vslice (some (ND.rd x)) (List.length (ND.ks x)) (List.length (ND.ks x)) (1 : Nat) (List.map (IV.int IntKind.i64) (ND.ks x))] ∧
 ND.g x_4 = ND.g x ∧
 ((ND.i x < (14 : Nat) ∧ ND.i x < List.length l) ∧ OV x ∧ FN (ND.x x) (ND.op x) (ND.im x) (ND.ks x)) ∧
 ((14 : Nat) - ND.i x) * (10 : Nat) ≤ M)))
 ((∃ (x : ND),
 some (TV.v (IV.vslice none (0 : Nat) (List.length l) (1 : Nat) (List.map (IV.int IntKind.i64) l))) =
 some (TV.v (IV.vslice none (0 : Nat) (List.length l) (1 : Nat) (List.map (IV.int IntKind.i64) l))) ∧
 some (TV.v (IV.bool b)) = some (TV.v (IV.bool b)) ∧
 some (TV.v (IV.int IntKind.i64 (↑(ND.i x_4) : Int))) = some (TV.v (IV.int IntKind.i64 (↑(ND.i x) : Int))) ∧
 some (TV.v (IV.vslice (ND.io x_4) (ND.e x_4) (List.length (ND.x x_4)) (3 : Nat) (List.flatMap cN (ND.x x_4)))) =
 some (TV.v (IV.vslice (ND.io x) (ND.e x) (List.length (ND.x x)) (3 : Nat) (List.flatMap cN (ND.x x)))) ∧
 some (TV.l (8 : Nat) (0 : Nat)) = some (TV.l (8 : Nat) (0 : Nat)) ∧
 some [IV.int IntKind.i64 (ND.op x_4), IV.int IntKind.i64 (ND.im x_4), ND.kv x_4] =
 some [IV.int IntKind.i64 (ND.op x), IV.int IntKind.i64 (ND.im x), IV.nilslice] ∧
 ND.g x_4 = ND.g x ∧
 ((ND.i x < (14 : Nat) ∧ ND.i x < List.length l) ∧ OV x ∧ FN (ND.x x) (ND.op x) (ND.im x) [] ∧ ND.ks x = []) ∧
 ((14 : Nat) - ND.i x) * (10 : Nat) ≤ M) ∨
 ∃ (x : ND),
 some (TV.v (IV.vslice none (0 : Nat) (List.length l) (1 : Nat) (List.map (IV.int IntKind.i64) l))) =
 some (TV.v (IV.vslice none (0 : Nat) (List.length l) (1 : Nat) (List.map (IV.int IntKind.i64) l))) ∧
 some (TV.v (IV.bool b)) = some (TV.v (IV.bool b)) ∧
 some (TV.v (IV.int IntKind.i64 (↑(ND.i x_4) : Int))) = some (TV.v (IV.int IntKind.i64 (↑(ND.i x) : Int))) ∧
 some (TV.v (IV.vslice (ND.io x_4) (ND.e x_4) (List.length (ND.x x_4)) (3 : Nat) (List.flatMap cN (ND.x x_4)))) =
 some (TV.v (IV.vslice (ND.io x) (ND.e x) (List.length (ND.x x)) (3 : Nat) (List.flatMap cN (ND.x x)))) ∧
 some (TV.l (8 : Nat) (0 : Nat)) = some (TV.l (8 : Nat) (0 : Nat)) ∧
 some [IV.int IntKind.i64 (ND.op x_4), IV.int IntKind.i64 (ND.im x_4), ND.kv x_4] =
 some
 [IV.int IntKind.i64 (ND.op x), IV.int IntKind.i64 (ND.im x),
 IV.vslice (some (ND.rd x)) (List.length (ND.ks x)) (List.length (ND.ks x)) (1 : Nat) (List.map (IV.int IntKind.i64) (ND.ks x))] ∧
 ND.g x_4 = ND.g x ∧
 ((ND.i x < (14 : Nat) ∧ ND.i x < List.length l) ∧ OV x ∧ FN (ND.x x) (ND.op x) (ND.im x) (ND.ks x)) ∧
 ((14 : Nat) - ND.i x) * (10 : Nat) ≤ M)) ∧
 (∀ (x_5 : ND) (b_6 : FF),
 (ND.i x_5 < (14 : Nat) ∧ ND.i x_5 < List.length l) ∧ OV x_5 ∧ FN (ND.x x_5) (ND.op x_5) (ND.im x_5) [] ∧ ND.ks x_5 = [] →
 ((14 : Nat) - ND.i x_5) * (10 : Nat) ≤ M →
 ∃ (l_1 : List Nd),
 ∃ (ks : List Int),
 (List.length (ND.x x_5) = List.length l_1 ∧ List.flatMap cN (ND.x x_5) = List.flatMap cN l_1) ∧
 ((0 : Nat) = List.length ks ∧ [] = List.map (IV.int IntKind.i64) ks) ∧
 (List.length l_1 ≤ (1000000 : Nat) ∧ ∀ (x : Nd), x ∈ l_1 → List.length (Nd.ks x) ≤ (1000000 : Nat)) ∧
 brS (!decide (Nd.mk (ND.op x_5) (ND.im x_5) ks ∈ l_1))
 (appGS (ND.g x_5) (3 : Nat) (40 : Nat) (IV.vslice (ND.io x_5) (ND.e x_5) (List.length (ND.x x_5)) (3 : Nat) (List.flatMap cN (ND.x x_5)))
 (1 : Nat) [IV.int IntKind.i64 (ND.op x_5), IV.int IntKind.i64 (ND.im x_5), IV.vslice none (0 : Nat) (0 : Nat) (1 : Nat) []]
 fun (i18 e19 l20 : Nat) (c21 : List IV) (g22 : Heap) =>
 ∃ (x_6 : ND),
 some (TV.v (IV.vslice none (0 : Nat) (List.length l) (1 : Nat) (List.map (IV.int IntKind.i64) l))) =
 some (TV.v (IV.vslice none (0 : Nat) (List.length l) (1 : Nat) (List.map (IV.int IntKind.i64) l))) ∧
 some (TV.v (IV.bool b)) = some (TV.v (IV.bool b)) ∧
 some (TV.v (IV.int IntKind.i64 (IntKind.wrap IntKind.i64 ((↑(ND.i x_5) : Int) + (1 : Int))))) =
 some (TV.v (IV.int IntKind.i64 (↑(ND.i x_6) : Int))) ∧
 some (TV.v (IV.vslice (some i18) e19 l20 (3 : Nat) c21)) =
 some (TV.v (IV.vslice (ND.io x_6) (ND.e x_6) (List.length (ND.x x_6)) (3 : Nat) (List.flatMap cN (ND.x x_6)))) ∧
 g22 = ND.g x_6 ∧ (ND.i x_6 ≤ (14 : Nat) ∧ OV x_6) ∧ ((14 : Nat) - ND.i x_6) * (10 : Nat) < ((14 : Nat) - ND.i x) * (10 : Nat))
 (∃ (x_6 : ND),
 some (TV.v (IV.vslice none (0 : Nat) (List.length l) (1 : Nat) (List.map (IV.int IntKind.i64) l))) =
 some (TV.v (IV.vslice none (0 : Nat) (List.length l) (1 : Nat) (List.map (IV.int IntKind.i64) l))) ∧
 some (TV.v (IV.bool b)) = some (TV.v (IV.bool b)) ∧
 some (TV.v (IV.int IntKind.i64 (IntKind.wrap IntKind.i64 ((↑(ND.i x_5) : Int) + (1 : Int))))) =
 some (TV.v (IV.int IntKind.i64 (↑(ND.i x_6) : Int))) ∧
 some (TV.v (IV.vslice (ND.io x_5) (ND.e x_5) (List.length (ND.x x_5)) (3 : Nat) (List.flatMap cN (ND.x x_5)))) =
 some (TV.v (IV.vslice (ND.io x_6) (ND.e x_6) (List.length (ND.x x_6)) (3 : Nat) (List.flatMap cN (ND.x x_6)))) ∧
 ND.g x_5 = ND.g x_6 ∧ (ND.i x_6 ≤ (14 : Nat) ∧ OV x_6) ∧ ((14 : Nat) - ND.i x_6) * (10 : Nat) < ((14 : Nat) - ND.i x) * (10 : Nat))) ∧
 ∀ (x_5 : ND) (b_6 : FF),
 (ND.i x_5 < (14 : Nat) ∧ ND.i x_5 < List.length l) ∧ OV x_5 ∧ FN (ND.x x_5) (ND.op x_5) (ND.im x_5) (ND.ks x_5) →
 ((14 : Nat) - ND.i x_5) * (10 : Nat) ≤ M →
 ∃ (l_1 : List Nd),
 ∃ (ks : List Int),
 (List.length (ND.x x_5) = List.length l_1 ∧ List.flatMap cN (ND.x x_5) = List.flatMap cN l_1) ∧
 (List.length (ND.ks x_5) = List.length ks ∧ List.map (IV.int IntKind.i64) (ND.ks x_5) = List.map (IV.int IntKind.i64) ks) ∧
 (List.length l_1 ≤ (1000000 : Nat) ∧ ∀ (x : Nd), x ∈ l_1 → List.length (Nd.ks x) ≤ (1000000 : Nat)) ∧
 brS (!decide (Nd.mk (ND.op x_5) (ND.im x_5) ks ∈ l_1))
 (appGS (ND.g x_5) (3 : Nat) (40 : Nat) (IV.vslice (ND.io x_5) (ND.e x_5) (List.length (ND.x x_5)) (3 : Nat) (List.flatMap cN (ND.x x_5)))
 (1 : Nat)
 [IV.int IntKind.i64 (ND.op x_5), IV.int IntKind.i64 (ND.im x_5),
 IV.vslice none (0 : Nat) (List.length (ND.ks x_5)) (1 : Nat) (List.map (IV.int IntKind.i64) (ND.ks x_5))]
 fun (i23 e24 l25 : Nat) (c26 : List IV) (g27 : Heap) =>
 ∃ (x_6 : ND),
 some (TV.v (IV.vslice none (0 : Nat) (List.length l) (1 : Nat) (List.map (IV.int IntKind.i64) l))) =
 some (TV.v (IV.vslice none (0 : Nat) (List.length l) (1 : Nat) (List.map (IV.int IntKind.i64) l))) ∧
 some (TV.v (IV.bool b)) = some (TV.v (IV.bool b)) ∧
 some (TV.v (IV.int IntKind.i64 (IntKind.wrap IntKind.i64 ((↑(ND.i x_5) : Int) + (1 : Int))))) =
 some (TV.v (IV.int IntKind.i64 (↑(ND.i x_6) : Int))) ∧
 some (TV.v (IV.vslice (some i23) e24 l25 (3 : Nat) c26)) =
 some (TV.v (IV.vslice (ND.io x_6) (ND.e x_6) (List.length (ND.x x_6)) (3 : Nat) (List.flatMap cN (ND.x x_6)))) ∧
 g27 = ND.g x_6 ∧ (ND.i x_6 ≤ (14 : Nat) ∧ OV x_6) ∧ ((14 : Nat) - ND.i x_6) * (10 : Nat) < ((14 : Nat) - ND.i x) * (10 : Nat))
 (∃ (x_6 : ND),
 some (TV.v (IV.vslice none (0 : Nat) (List.length l) (1 : Nat) (List.map (IV.int IntKind.i64) l))) =
 some (TV.v (IV.vslice none (0 : Nat) (List.length l) (1 : Nat) (List.map (IV.int IntKind.i64) l))) ∧
 some (TV.v (IV.bool b)) = some (TV.v (IV.bool b)) ∧
 some (TV.v (IV.int IntKind.i64 (IntKind.wrap IntKind.i64 ((↑(ND.i x_5) : Int) + (1 : Int))))) =
 some (TV.v (IV.int IntKind.i64 (↑(ND.i x_6) : Int))) ∧
 some (TV.v (IV.vslice (ND.io x_5) (ND.e x_5) (List.length (ND.x x_5)) (3 : Nat) (List.flatMap cN (ND.x x_5)))) =
 some (TV.v (IV.vslice (ND.io x_6) (ND.e x_6) (List.length (ND.x x_6)) (3 : Nat) (List.flatMap cN (ND.x x_6)))) ∧
 ND.g x_5 = ND.g x_6 ∧
 (ND.i x_6 ≤ (14 : Nat) ∧ OV x_6) ∧ ((14 : Nat) - ND.i x_6) * (10 : Nat) < ((14 : Nat) - ND.i x) * (10 : Nat))))))))
 (needS (pureL [IV.vslice none (0 : Nat) (List.length (ND.x x)) (3 : Nat) (List.flatMap cN (ND.x x))]) (Q (IV.vslice none (0 : Nat) (List.length (ND.x x)) (3 : Nat) (List.flatMap cN (ND.x x))) h)))
 (needS (pureL [IV.vslice none (0 : Nat) (List.length (ND.x x)) (3 : Nat) (List.flatMap cN (ND.x x))]) (Q (IV.vslice none (0 : Nat) (List.length (ND.x x)) (3 : Nat) (List.flatMap cN (ND.x x))) h)))) := by kernel_rfl
set_option maxHeartbeats 4000000 in
theorem sNodes : ∀ xs h Q, kNodes xs h Q → CallW env 6 xs h Q := by
  intro xs h Q hk
  unfold kNodes at hk
  split at hk
  · rename_i e1 n1 c1 b
    obtain ⟨l, ⟨rfl, rfl⟩, hb, hk⟩ := hk
    refine dF_run (okCont) (vNodes l b e1 h Q) ?_
    have tn : ∀ x : Nat, (x : Int).toNat = x := Int.toNat_natCast
    obtain ⟨hlb, hll⟩ := hb
    have hL : ∀ {i : Nat} {K : Int → Prop}, i < l.length → (∀ n, i64b n → K n) → needS (decide ((0 : Int) ≤ (i : Int)) && decide ((i : Int) < (l.length : Int))) (ldIS .i64 (l.map (IV.int .i64)) ((i : Int).toNat * 1) K) :=
      fun h hk => needS_intro (by simp; omega) (ldI1 h (by rw [Nat.mul_one, tn]) (hk _ (hlb _ (List.getElem_mem h))))
    refine needS_intro (by simp only [pureL, pureB, pureL_ints, Bool.and_true]) ⟨⟨⟨0, init3, none, 1, 0, 0, [], .nilslice, 0, Heap.empty⟩, ?_⟩, ?_⟩
    · repeat (refine And.intro (by first | rfl | exact True.intro | (rw [IntWalk.i64_in _ (by omega)]; rfl)) ?_)
      exact ⟨⟨Nat.zero_le _, NW.init, .inl ⟨rfl, rfl⟩⟩, trivial⟩
    rintro x _ ⟨hi, hov⟩
    have fin : needS (pureL [.vslice none 0 x.x.length 3 (x.x.flatMap cN)]) (Q (.vslice none 0 x.x.length 3 (x.x.flatMap cN)) h) := needS_intro (by simp only [pureL, pureB, pureL_cN, Bool.and_true]) (hk _ (hov.1.mono hi))
    refine brS_intro (fun c => brS_intro (fun c2 => ?_) (fun _ => fin)) (fun _ => fin)
    rw [decide_eq_true_eq] at c c2
    have hr : x.i < 14 ∧ x.i < l.length := by omega
    refine hL hr.2 (fun n0 _ => hL hr.2 (fun n1 _ => hL hr.2 (fun n2 _ => hL hr.2 (fun n3 _ => ⟨by omega, (14 - x.i) * 10, ?_, ?_⟩))))
    · have w3 : IntKind.i64.wrap (4 + n3 % 19) = 4 + n3 % 19 := IntWalk.i64_in _ (by omega)
      rw [w3]
      have o3 : opOk (4 + n3 % 19) = true := by unfold opOk; rw [decide_eq_true_eq]; omega
      have oi : ∀ op, opOk op = true → OI op 0 := fun op h => ⟨h, by unfold i64b; omega, .inr rfl⟩
      refine brS_intro (fun _ => hL hr.2 (fun n4 _ => ⟨by omega, brS_intro (fun _ => hL hr.2 (fun n5 _ => ⟨by omega, needS_intro (by simp; omega) ?_⟩)) (fun _ => ?_)⟩)) (fun _ => ?_)
      · show ldIS .i64 (([23, 27, 28, 29, 24] : List Int).map (IV.int .i64)) _ _
        have hl : (IntKind.i64.wrap (n5.tdiv 9) % 5).toNat < ([23, 27, 28, 29, 24] : List Int).length := by simp; omega
        have ha : ∀ x ∈ ([23, 27, 28, 29, 24] : List Int), opOk x = true := by decide
        exact ldI1 hl (Nat.mul_one _) ⟨⟨x.i, x.x, x.io, x.e, _, 0, [], .nilslice, x.g.next, _⟩, rfl, rfl, rfl, rfl, rfl, rfl, rfl, rfl, ⟨hr, OR.mk1 hov _ _ _ _ _, oi _ (ha _ (List.getElem_mem hl))⟩, Nat.le_refl _⟩
      · exact ⟨⟨x.i, x.x, x.io, x.e, 4 + n3 % 19, 0, [], .nilslice, x.g.next, _⟩, rfl, rfl, rfl, rfl, rfl, rfl, rfl, rfl, ⟨hr, OR.mk1 hov _ _ _ _ _, oi _ o3⟩, Nat.le_refl _⟩
      · exact ⟨⟨x.i, x.x, x.io, x.e, 4 + n3 % 19, 0, [], .nilslice, x.g.next, _⟩, rfl, rfl, rfl, rfl, rfl, rfl, rfl, rfl, ⟨hr, OR.mk1 hov _ _ _ _ _, oi _ o3⟩, Nat.le_refl _⟩
    · rintro x1 _ ⟨hr1, hor, hoi⟩ hM1
      refine ⟨(14 - x1.i) * 10, hL hr1.2 (fun n7 _ => ⟨by omega, brS_intro (fun _ => hL hr1.2 (fun n8 _ => hL hr1.2 (fun n9 h9 => ⟨h9, fun w hw => ⟨⟨x1.i, x1.x, x1.io, x1.e, 1, w, [], .nilslice, x1.rd, x1.g⟩, ?_⟩⟩))) (fun _ => ⟨x1, ?_⟩)⟩), ?_⟩
      · repeat (refine And.intro (by first | rfl | exact True.intro | (rw [IntWalk.i64_in _ (by omega)]; rfl)) ?_)
        exact ⟨⟨hr1, hor, ⟨rfl, hw, .inl rfl⟩⟩, Nat.le_refl _⟩
      · repeat (refine And.intro (by first | rfl | exact True.intro | (rw [IntWalk.i64_in _ (by omega)]; rfl)) ?_)
        exact ⟨⟨hr1, hor, hoi⟩, Nat.le_refl _⟩
      rintro x2 _ ⟨hr2, hor2, hoi2⟩ hM2
      refine ⟨(14 - x2.i) * 10 + 3, ⟨⟨x2.i, x2.x, x2.io, x2.e, x2.op, x2.im, [], .nilslice, x2.rd, x2.g⟩, ?_⟩, ?_⟩
      · repeat (refine And.intro (by first | rfl | exact True.intro | (rw [IntWalk.i64_in _ (by omega)]; rfl)) ?_)
        exact ⟨⟨hr2, hor2, hoi2, KS.nil hoi2.1, .inl ⟨rfl, rfl⟩⟩, Nat.le_refl _⟩
      rintro x3 _ ⟨hr3, hor3, hoi3, hks, hkv⟩ hM3
      have hxl := hor3.1.1.1
      have ha3 := ar_3 x3.op
      have hkl := hks.1
      refine brS_intro (fun c3 => ?_) (fun c3 => ?_)
      · rw [decide_eq_true_eq] at c3
        refine ⟨hor3.2.1, fun n h2 hn hrd hf => ⟨x3.x, ⟨rfl, rfl⟩, ⟨hor3.1.1.sorts, by omega, hor3.1.1.has _ _⟩, fun q hq => ?_⟩⟩
        have hkv2 : (x3.kv = .nilslice ∧ x3.ks = []) ∨ ∃ id, x3.kv = .vslice (some id) x3.ks.length x3.ks.length 1 (x3.ks.map (IV.int .i64)) ∧ KH x3.ks id h2 := by
          rcases hkv with q | ⟨id, q1, q2, q3, _⟩
          · exact .inl q
          · exact .inr ⟨id, q1, q2.hf hf q3⟩
        refine app_kids hkv2 (by omega) (fun id h3 hkh hf3 hfr => ⟨⟨x3.i, x3.x, x3.io, x3.e, x3.op, x3.im, x3.ks ++ [q], .vslice (some id) (x3.ks ++ [q]).length (x3.ks ++ [q]).length 1 ((x3.ks ++ [q]).map (IV.int .i64)), x3.rd, h3⟩, ?_⟩)
        have hne : ∀ j, x3.io = some j → j ≠ id := fun j hj e => by
          subst e
          rcases hfr with q | q
          · rcases hor3.1.2 with q2 | ⟨id2, q2, _, q3⟩
            · rw [q2.1] at hj
              cases hj
            · rw [q2] at hj
              cases hj
              have := q3.2
              have := hf.1
              omega
          · rcases hkv with ⟨q2, _⟩ | ⟨id2, q2, _, _, q3⟩
            · rw [q2] at q
              cases q
            · rw [q2] at q
              cases q
              exact q3 _ hj rfl
        have hnr : id ≠ x3.rd := fun e => by
          subst e
          rcases hfr with q | q
          · have := hrd.1
            omega
          · rcases hkv with ⟨q2, _⟩ | ⟨id2, q2, _, q3, _⟩
            · rw [q2] at q
              cases q
            · rw [q2] at q
              cases q
              exact q3 rfl
        refine ⟨rfl, rfl, rfl, rfl, rfl, rfl, rfl, ?_⟩
        refine ⟨by rw [IntWalk.i64_in _ (by omega)]; simp, ?_⟩
        repeat (refine And.intro (by first | rfl | exact True.intro | (rw [IntWalk.i64_in _ (by omega)]; rfl)) ?_)
        refine ⟨⟨hr3, ⟨⟨hor3.1.1, ?_⟩, hrd.hf hf3 hnr.symm, hor3.2.2⟩, hoi3, hks.snoc c3 hq, .inr ⟨id, rfl, hkh, hnr, hne⟩⟩, by simp only [List.length_append, List.length_cons, List.length_nil]; omega⟩
        rcases hor3.1.2 with q2 | ⟨id2, q2, q4, q3⟩
        · exact .inl q2
        · exact .inr ⟨id2, q2, q4, (q3.hf hf (hor3.2.2 _ q2)).hf hf3 (hne _ q2)⟩
      · rw [decide_eq_false_iff_not] at c3
        have hka : (x3.ks.length : Int) = ar x3.op := by omega
        refine ⟨(14 - x3.i) * 10, brS_intro (fun c4 => hL hr3.2 (fun n15 _ => ⟨by omega, ⟨⟨x3.i, x3.x, x3.io, x3.e, x3.op, 1 + IntKind.i64.wrap (n15.tdiv 5) % 2, x3.ks, x3.kv, x3.rd, x3.g⟩, ?_⟩⟩)) (fun c4 => ⟨x3, ?_⟩), ?_⟩
        · have w4 : IntKind.i64.wrap (1 + IntKind.i64.wrap (n15.tdiv 5) % 2) = 1 + IntKind.i64.wrap (n15.tdiv 5) % 2 := IntWalk.i64_in _ (by omega)
          rw [w4]
          repeat (refine And.intro (by first | rfl | exact True.intro | (rw [IntWalk.i64_in _ (by omega)]; rfl)) ?_)
          refine ⟨⟨hr3, hor3.1, ⟨hks, hkv⟩, ⟨hoi3.1, by unfold i64b; omega, .inr rfl⟩, hka, .inr ⟨beq_iff_eq.1 c4, by dsimp only; omega, by dsimp only; omega⟩⟩, by dsimp only; omega⟩
        · repeat (refine And.intro (by first | rfl | exact True.intro | (rw [IntWalk.i64_in _ (by omega)]; rfl)) ?_)
          refine ⟨⟨hr3, hor3.1, ⟨hks, hkv⟩, ⟨hoi3.1, by unfold i64b; omega, .inr rfl⟩, hka, .inl ⟨by simpa using c4, hoi3.2.1, hoi3.2.2⟩⟩, by omega⟩
        rintro x4 _ ⟨hr4, hov4, ⟨hks4, hkv4⟩, hoi4, hka4, him4⟩ hM4
        have toB : ∀ im, FN x4.x x4.op im x4.ks → ((∃ y : ND, some (TV.v (.vslice none 0 l.length 1 (l.map (IV.int .i64)))) = some (TV.v (.vslice none 0 l.length 1 (l.map (IV.int .i64)))) ∧ some (TV.v (.bool b)) = some (TV.v (.bool b)) ∧ some (TV.v (.int .i64 (x4.i : Int))) = some (TV.v (.int .i64 (y.i : Int))) ∧
          some (TV.v (.vslice x4.io x4.e x4.x.length 3 (x4.x.flatMap cN))) = some (TV.v (.vslice y.io y.e y.x.length 3 (y.x.flatMap cN))) ∧ some (TV.l 8 0) = some (TV.l 8 0) ∧ some [.int .i64 x4.op, .int .i64 im, x4.kv] = some [.int .i64 y.op, .int .i64 y.im, IV.nilslice] ∧ x4.g = y.g ∧
          ((y.i < 14 ∧ y.i < l.length) ∧ OV y ∧ FN y.x y.op y.im [] ∧ y.ks = []) ∧ (14 - y.i) * 10 ≤ (14 - x4.i) * 10) ∨
         ∃ y : ND, some (TV.v (.vslice none 0 l.length 1 (l.map (IV.int .i64)))) = some (TV.v (.vslice none 0 l.length 1 (l.map (IV.int .i64)))) ∧ some (TV.v (.bool b)) = some (TV.v (.bool b)) ∧ some (TV.v (.int .i64 (x4.i : Int))) = some (TV.v (.int .i64 (y.i : Int))) ∧
          some (TV.v (.vslice x4.io x4.e x4.x.length 3 (x4.x.flatMap cN))) = some (TV.v (.vslice y.io y.e y.x.length 3 (y.x.flatMap cN))) ∧ some (TV.l 8 0) = some (TV.l 8 0) ∧ some [.int .i64 x4.op, .int .i64 im, x4.kv] = some [.int .i64 y.op, .int .i64 y.im, IV.vslice (some y.rd) y.ks.length y.ks.length 1 (y.ks.map (IV.int .i64))] ∧ x4.g = y.g ∧
          ((y.i < 14 ∧ y.i < l.length) ∧ OV y ∧ FN y.x y.op y.im y.ks) ∧ (14 - y.i) * 10 ≤ (14 - x4.i) * 10) := fun im hfn => by
          rcases hkv4 with ⟨q1, q2⟩ | ⟨id, q1, q2, q3, q4⟩
          · refine .inl ⟨⟨x4.i, x4.x, x4.io, x4.e, x4.op, im, [], .nilslice, x4.rd, x4.g⟩, ?_⟩
            rw [q1]
            repeat (refine And.intro (by first | rfl | exact True.intro | (rw [IntWalk.i64_in _ (by omega)]; rfl)) ?_)
            exact ⟨⟨hr4, hov4, by rw [q2] at hfn; exact hfn, rfl⟩, Nat.le_refl _⟩
          · refine .inr ⟨⟨x4.i, x4.x, x4.io, x4.e, x4.op, im, x4.ks, .nilslice, id, x4.g⟩, ?_⟩
            rw [q1]
            repeat (refine And.intro (by first | rfl | exact True.intro | (rw [IntWalk.i64_in _ (by omega)]; rfl)) ?_)
            exact ⟨⟨hr4, hov4, hfn⟩, Nat.le_refl _⟩
        refine ⟨(14 - x4.i) * 10, brS_intro (fun c5 => hL hr4.2 (fun n16 _ => ⟨by omega, toB _ ?_⟩)) (fun c5 => brS_intro (fun c6 => hL hr4.2 (fun n17 _ => ⟨by omega, toB _ ?_⟩)) (fun c6 => toB _ ?_)), ?_, ?_⟩
        · exact hoi4.fn hks4 hka4 (.inr (.inl ⟨.inl (beq_iff_eq.1 c5), by omega, by omega⟩))
        · exact hoi4.fn hks4 hka4 (.inr (.inl ⟨.inr (beq_iff_eq.1 c6), by omega, by omega⟩))
        · rw [beq_eq_false_iff_ne] at c5 c6
          rcases him4 with ⟨q1, q2, q3⟩ | ⟨q1, q2, q3⟩
          · have : OI x4.op x4.im := ⟨hoi4.1, q2, q3⟩
            exact this.fn hks4 hka4 (.inl ⟨c5, q1, c6, rfl⟩)
          · exact hoi4.fn hks4 hka4 (.inr (.inr ⟨q1, q2, q3⟩))
        · rintro x5 _ ⟨hr5, hov5, hfn5, hk5⟩ hM5
          have hx5 := hov5.1.1
          refine ⟨x5.x, ([] : List Int), ⟨rfl, rfl⟩, ⟨rfl, rfl⟩, ⟨by omega, fun n hn => (hov5.1.sorts n hn).1⟩, brS_intro (fun cm => app_out (n := ⟨x5.op, x5.im, ([] : List Int)⟩) hov5.2 (by omega) (fun id h3 hoh => ⟨⟨x5.i + 1, x5.x ++ [⟨x5.op, x5.im, ([] : List Int)⟩], some id, (x5.x ++ [(⟨x5.op, x5.im, ([] : List Int)⟩ : Nd)]).length * 3, 0, 0, [], .nilslice, 0, h3⟩, ?_⟩)) (fun _ => ⟨⟨x5.i + 1, x5.x, x5.io, x5.e, 0, 0, [], .nilslice, 0, x5.g⟩, ?_⟩)⟩
          · repeat (refine And.intro (by first | rfl | exact True.intro | (rw [IntWalk.i64_in _ (by omega)]; rfl)) ?_)
            exact ⟨⟨by dsimp only; omega, hov5.1.app (by omega) (by simpa using cm) hfn5, .inr ⟨id, rfl, rfl, hoh⟩⟩, by dsimp only; omega⟩
          · repeat (refine And.intro (by first | rfl | exact True.intro | (rw [IntWalk.i64_in _ (by omega)]; rfl)) ?_)
            exact ⟨⟨by dsimp only; omega, hov5.1.mono (Nat.le_succ _), hov5.2⟩, by dsimp only; omega⟩
        · rintro x5 _ ⟨hr5, hov5, hfn5⟩ hM5
          have hx5 := hov5.1.1
          refine ⟨x5.x, x5.ks, ⟨rfl, rfl⟩, ⟨rfl, rfl⟩, ⟨by omega, fun n hn => (hov5.1.sorts n hn).1⟩, brS_intro (fun cm => app_out (n := ⟨x5.op, x5.im, x5.ks⟩) hov5.2 (by omega) (fun id h3 hoh => ⟨⟨x5.i + 1, x5.x ++ [⟨x5.op, x5.im, x5.ks⟩], some id, (x5.x ++ [(⟨x5.op, x5.im, x5.ks⟩ : Nd)]).length * 3, 0, 0, [], .nilslice, 0, h3⟩, ?_⟩)) (fun _ => ⟨⟨x5.i + 1, x5.x, x5.io, x5.e, 0, 0, [], .nilslice, 0, x5.g⟩, ?_⟩)⟩
          · repeat (refine And.intro (by first | rfl | exact True.intro | (rw [IntWalk.i64_in _ (by omega)]; rfl)) ?_)
            exact ⟨⟨by dsimp only; omega, hov5.1.app (by omega) (by simpa using cm) hfn5, .inr ⟨id, rfl, rfl, hoh⟩⟩, by dsimp only; omega⟩
          · repeat (refine And.intro (by first | rfl | exact True.intro | (rw [IntWalk.i64_in _ (by omega)]; rfl)) ?_)
            exact ⟨⟨by dsimp only; omega, hov5.1.mono (Nat.le_succ _), hov5.2⟩, by dsimp only; omega⟩
  · exact hk.elim
def cNodes := addC 6 kNodes cCont
theorem okNodes : Sound env cNodes := sound_add sNodes (okCont)

end Go.Proofs.Ythoehkkoaegeoaa
