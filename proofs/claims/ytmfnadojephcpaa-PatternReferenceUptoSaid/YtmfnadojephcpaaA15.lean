/-
  Patterns: what the generators of the statements about patterns compute.
  Conditions: none.
-/
import Derived.Test.YtmfnadojephcpaaEnv15
import Derived.Test.YtmfnadojephcpaaM15
import Derived.Test.YtmfnadojephcpaaM13
import Derived.KernelRfl
set_option linter.unusedVariables false
set_option linter.unusedSimpArgs false
namespace Go.Proofs.Ytmfnadojephcpaa
open Go.Pv Go.M15
def kPick (xs : List IV) (h : Heap) (K : IV → Heap → Prop) : Prop := match xs with
  | [.int .i64 n, .int .i64 m] => (0 < m ∧ m < 4611686018427387904) ∧ K (.int .i64 (n % m)) h
  | _ => False
set_option maxRecDepth 100000 in
theorem vPick (n m : Int) (h : Heap) (Q : IV → Heap → Prop) : dF (stdS noC) env 17 noU noI noI [.int .i64 n, .int .i64 m] h Q = (
  needS (!m == (0 : Int)) (brS (decide (Int.tmod n m < (0 : Int))) (Q (IV.int IntKind.i64 (IntKind.wrap IntKind.i64 (Int.tmod n m + m))) h) (Q (IV.int IntKind.i64 (Int.tmod n m)) h))) := by kernel_rfl
theorem sPick : ∀ xs h Q, kPick xs h Q → CallW env 17 xs h Q := by
  intro xs h Q hk
  unfold kPick at hk
  split at hk
  · rename_i n m
    refine dF_run (sound_no env) (vPick n m h Q) ?_
    obtain ⟨hm, hk⟩ := hk
    have h1 := Int.emod_emod_of_dvd n (Int.dvd_refl m)
    have ht := Go.M13.tmod_cases n m hm.1
    refine needS_intro (by simp; omega) (brS_intro (fun hc => q_eq hk ?_) (fun hc => q_eq hk ?_))
    · simp only [decide_eq_true_eq] at hc; rw [IntWalk.i64_in _ (by omega)]; congr 1; omega
    · simp only [decide_eq_false_iff_not] at hc; congr 1; omega
  · exact hk.elim
def cPick := addC 17 kPick noC
theorem okPick : Sound env cPick := sound_add sPick (sound_no env)

def kWord (xs : List IV) (h : Heap) (K : IV → Heap → Prop) : Prop := match xs with
  | [.int .i64 n, .int .i64 raw] => i64b raw ∧ ∀ w : Int, i64b w → K (.int .i64 w) h
  | _ => False
set_option maxRecDepth 100000 in
theorem vWord (n raw : Int) (h : Heap) (Q : IV → Heap → Prop) : dF (stdS cPick) env 32 noU noI noI [.int .i64 n, .int .i64 raw] h Q = (
  ((0 : Int) < (24 : Int) ∧ (24 : Int) < (4611686018427387904 : Int)) ∧
 brS (decide (n % (24 : Int) < (10 : Int)))
 (needS (decide ((0 : Int) ≤ n % (24 : Int)) && decide (n % (24 : Int) < (10 : Int)))
 (ldIS IntKind.i64
 [IV.int IntKind.i64 (0 : Int), IV.int IntKind.i64 (1 : Int), IV.int IntKind.i64 (-1 : Int), IV.int IntKind.i64 (2 : Int), IV.int IntKind.i64 (-9223372036854775808 : Int), IV.int IntKind.i64 (9223372036854775807 : Int),
 IV.int IntKind.i64 (4294967296 : Int), IV.int IntKind.i64 (-2147483648 : Int), IV.int IntKind.i64 (63 : Int), IV.int IntKind.i64 (64 : Int)]
 (Int.toNat (n % (24 : Int)) * (1 : Nat)) fun (n0 : Int) => Q (IV.int IntKind.i64 n0) h))
 (brS (decide (n % (24 : Int) < (22 : Int)))
 (((0 : Int) < (17 : Int) ∧ (17 : Int) < (4611686018427387904 : Int)) ∧ Q (IV.int IntKind.i64 (IntKind.wrap IntKind.i64 (IntKind.wrap IntKind.i64 (Int.tdiv n (24 : Int)) % (17 : Int) - (6 : Int)))) h) (Q (IV.int IntKind.i64 raw) h))) := by kernel_rfl
theorem sWord : ∀ xs h Q, kWord xs h Q → CallW env 32 xs h Q := by
  intro xs h Q hk
  unfold kWord at hk
  split at hk
  · rename_i n raw
    refine dF_run (okPick) (vWord n raw h Q) ?_
    obtain ⟨hr, hk⟩ := hk
    refine And.intro (by omega) (brS_intro (fun hc => ?_) (fun hc => brS_intro (fun hd => And.intro (by omega) (hk _ ?_)) (fun hd => hk _ hr)))
    · rw [decide_eq_true_eq] at hc
      refine needS_intro (by simp; omega) ?_
      rw [Nat.mul_one]
      show ldIS .i64 (Go.M13.edges.map (IV.int .i64)) _ _
      have hl : (n % 24).toNat < Go.M13.edges.length := by have : Go.M13.edges.length = 10 := rfl; omega
      refine ldIS_map hl (hk _ ?_)
      have ha : ∀ x ∈ Go.M13.edges, i64b x := by decide
      exact ha _ (List.getElem_mem hl)
    · have := IntWalk.i64_in (IntKind.i64.wrap (n.tdiv 24) % 17 - 6) (by omega)
      rw [this]
      unfold i64b
      omega
  · exact hk.elim
def cWord := addC 32 kWord cPick
theorem okWord : Sound env cWord := sound_add sWord (okPick)

def kArity (xs : List IV) (h : Heap) (K : IV → Heap → Prop) : Prop := match xs with
  | [.int .i64 op] => K (.tuple [.int .i64 (ar op), .bool (arOk op)]) h
  | _ => False
set_option maxRecDepth 100000 in
theorem vArity (op : Int) (h : Heap) (Q : IV → Heap → Prop) : dF (stdS cWord) env 14 noU noI noI [.int .i64 op] h Q = (
  brS (op == (1 : Int)) (Q (IV.tuple [IV.int IntKind.i64 (0 : Int), IV.bool true]) h)
 (brS (op == (2 : Int)) (Q (IV.tuple [IV.int IntKind.i64 (0 : Int), IV.bool true]) h)
 (brS (op == (3 : Int)) (Q (IV.tuple [IV.int IntKind.i64 (0 : Int), IV.bool true]) h)
 (brS (op == (26 : Int)) (Q (IV.tuple [IV.int IntKind.i64 (0 : Int), IV.bool true]) h)
 (brS (op == (20 : Int)) (Q (IV.tuple [IV.int IntKind.i64 (1 : Int), IV.bool true]) h)
 (brS (op == (21 : Int)) (Q (IV.tuple [IV.int IntKind.i64 (1 : Int), IV.bool true]) h)
 (brS (op == (24 : Int)) (Q (IV.tuple [IV.int IntKind.i64 (1 : Int), IV.bool true]) h)
 (brS (op == (25 : Int)) (Q (IV.tuple [IV.int IntKind.i64 (1 : Int), IV.bool true]) h)
 (brS (decide (op ≥ (4 : Int)))
 (brS (decide (op ≤ (19 : Int))) (Q (IV.tuple [IV.int IntKind.i64 (2 : Int), IV.bool true]) h)
 (brS (op == (23 : Int)) (Q (IV.tuple [IV.int IntKind.i64 (2 : Int), IV.bool true]) h)
 (brS (op == (27 : Int)) (Q (IV.tuple [IV.int IntKind.i64 (2 : Int), IV.bool true]) h)
 (brS (op == (29 : Int)) (Q (IV.tuple [IV.int IntKind.i64 (2 : Int), IV.bool true]) h)
 (brS (op == (22 : Int)) (Q (IV.tuple [IV.int IntKind.i64 (3 : Int), IV.bool true]) h)
 (brS (op == (28 : Int)) (Q (IV.tuple [IV.int IntKind.i64 (3 : Int), IV.bool true]) h)
 (brS (op == (30 : Int)) (Q (IV.tuple [IV.int IntKind.i64 (-1 : Int), IV.bool true]) h)
 (brS (op == (31 : Int)) (Q (IV.tuple [IV.int IntKind.i64 (-1 : Int), IV.bool true]) h) (Q (IV.tuple [IV.int IntKind.i64 (0 : Int), IV.bool false]) h)))))))))
 (brS (op == (23 : Int)) (Q (IV.tuple [IV.int IntKind.i64 (2 : Int), IV.bool true]) h)
 (brS (op == (27 : Int)) (Q (IV.tuple [IV.int IntKind.i64 (2 : Int), IV.bool true]) h)
 (brS (op == (29 : Int)) (Q (IV.tuple [IV.int IntKind.i64 (2 : Int), IV.bool true]) h)
 (brS (op == (22 : Int)) (Q (IV.tuple [IV.int IntKind.i64 (3 : Int), IV.bool true]) h)
 (brS (op == (28 : Int)) (Q (IV.tuple [IV.int IntKind.i64 (3 : Int), IV.bool true]) h)
 (brS (op == (30 : Int)) (Q (IV.tuple [IV.int IntKind.i64 (-1 : Int), IV.bool true]) h)
 (brS (op == (31 : Int)) (Q (IV.tuple [IV.int IntKind.i64 (-1 : Int), IV.bool true]) h) (Q (IV.tuple [IV.int IntKind.i64 (0 : Int), IV.bool false]) h))))))))))))))))) := by kernel_rfl
set_option maxHeartbeats 2000000 in
theorem sArity : ∀ xs h Q, kArity xs h Q → CallW env 14 xs h Q := by
  intro xs h Q hk
  unfold kArity at hk
  split at hk
  · rename_i op
    refine dF_run (okWord) (vArity op h Q) ?_
    repeat' (first | refine needS_intro ?_ ?_ | refine brS_intro (fun _ => ?_) (fun _ => ?_) | refine And.intro ?_ ?_)
    all_goals first | assumption | omega | (refine q_eq hk ?_; simp only [IV.agg.injEq, IV.tuple.injEq, IV.int.injEq, IV.bool.injEq, List.cons.injEq, true_and, and_true]; grind [ar, arOk])
  · exact hk.elim
def cArity := addC 14 kArity cWord
theorem okArity : Sound env cArity := sound_add sArity (okWord)

def kSort (xs : List IV) (h : Heap) (K : IV → Heap → Prop) : Prop := match xs with
  | [.int .i64 op] => K (.int .i64 (sort op)) h
  | _ => False
set_option maxRecDepth 100000 in
theorem vSort (op : Int) (h : Heap) (Q : IV → Heap → Prop) : dF (stdS cArity) env 47 noU noI noI [.int .i64 op] h Q = (
  brS (op == (27 : Int)) (Q (IV.int IntKind.i64 (2 : Int)) h) (brS (op == (28 : Int)) (Q (IV.int IntKind.i64 (2 : Int)) h) (brS (op == (29 : Int)) (Q (IV.int IntKind.i64 (2 : Int)) h) (Q (IV.int IntKind.i64 (1 : Int)) h)))) := by kernel_rfl
theorem sSort : ∀ xs h Q, kSort xs h Q → CallW env 47 xs h Q := by
  intro xs h Q hk
  unfold kSort at hk
  split at hk
  · rename_i op
    refine dF_run (okArity) (vSort op h Q) ?_
    repeat' (first | refine needS_intro ?_ ?_ | refine brS_intro (fun _ => ?_) (fun _ => ?_) | refine And.intro ?_ ?_)
    all_goals first | assumption | omega | (refine q_eq hk ?_; simp only [IV.agg.injEq, IV.tuple.injEq, IV.int.injEq, IV.bool.injEq, List.cons.injEq, true_and, and_true]; grind [sort])
  · exact hk.elim
def cSort := addC 47 kSort cArity
theorem okSort : Sound env cSort := sound_add sSort (okArity)

def kOSort (xs : List IV) (h : Heap) (K : IV → Heap → Prop) : Prop := match xs with
  | [.int .i64 op, .int .i64 k] => K (.int .i64 (osort op k)) h
  | _ => False
set_option maxRecDepth 100000 in
theorem vOSort (op k : Int) (h : Heap) (Q : IV → Heap → Prop) : dF (stdS cSort) env 34 noU noI noI [.int .i64 op, .int .i64 k] h Q = (
  brS (k == (0 : Int))
 (brS (sort op == (2 : Int)) (Q (IV.int IntKind.i64 (2 : Int)) h) (brS (op == (23 : Int)) (Q (IV.int IntKind.i64 (2 : Int)) h) (brS (op == (24 : Int)) (Q (IV.int IntKind.i64 (2 : Int)) h) (Q (IV.int IntKind.i64 (1 : Int)) h))))
 (Q (IV.int IntKind.i64 (1 : Int)) h)) := by kernel_rfl
theorem sOSort : ∀ xs h Q, kOSort xs h Q → CallW env 34 xs h Q := by
  intro xs h Q hk
  unfold kOSort at hk
  split at hk
  · rename_i op k
    refine dF_run (okSort) (vOSort op k h Q) ?_
    repeat' (first | refine needS_intro ?_ ?_ | refine brS_intro (fun _ => ?_) (fun _ => ?_) | refine And.intro ?_ ?_)
    all_goals first | assumption | omega | (refine q_eq hk ?_; simp only [IV.agg.injEq, IV.tuple.injEq, IV.int.injEq, IV.bool.injEq, List.cons.injEq, true_and, and_true]; grind [osort])
  · exact hk.elim
def cOSort := addC 34 kOSort cSort
theorem okOSort : Sound env cOSort := sound_add sOSort (okSort)

def kHasImm (xs : List IV) (h : Heap) (K : IV → Heap → Prop) : Prop := match xs with
  | [.int .i64 op] => K (.bool (hasImm op)) h
  | _ => False
set_option maxRecDepth 100000 in
theorem vHasImm (op : Int) (h : Heap) (Q : IV → Heap → Prop) : dF (stdS cOSort) env 45 noU noI noI [.int .i64 op] h Q = (
  brS (op == (1 : Int)) (Q (IV.bool true) h) (brS (op == (23 : Int)) (Q (IV.bool true) h) (brS (op == (27 : Int)) (Q (IV.bool true) h) (Q (IV.bool (op == (28 : Int))) h)))) := by kernel_rfl
theorem sHasImm : ∀ xs h Q, kHasImm xs h Q → CallW env 45 xs h Q := by
  intro xs h Q hk
  unfold kHasImm at hk
  split at hk
  · rename_i op
    refine dF_run (okOSort) (vHasImm op h Q) ?_
    repeat' (first | refine needS_intro ?_ ?_ | refine brS_intro (fun _ => ?_) (fun _ => ?_) | refine And.intro ?_ ?_)
    all_goals first | assumption | omega | (refine q_eq hk ?_; simp only [IV.agg.injEq, IV.tuple.injEq, IV.int.injEq, IV.bool.injEq, List.cons.injEq, true_and, and_true]; grind [hasImm])
  · exact hk.elim
def cHasImm := addC 45 kHasImm cOSort
theorem okHasImm : Sound env cHasImm := sound_add sHasImm (okOSort)

def kNext (xs : List IV) (h : Heap) (K : IV → Heap → Prop) : Prop := match xs with
  | [.ptr id 0] => RD h id ∧ ∀ (n : Int) (h2 : Heap), i64b n → RD h2 id → HF id h h2 → K (.int .i64 n) h2
  | _ => False
set_option maxRecDepth 100000 in
theorem vNext (id : Nat) (h : Heap) (Q : IV → Heap → Prop) : dF (stdS cHasImm) env 29 noU noI noI [.ptr id 0] h Q = (
  hgetS h id fun (r0 : List IV) =>
 ldVS (1 : Nat) r0 (0 : Nat) fun (i1 : Option Nat) (e2 l3 : Nat) (c4 : List IV) =>
 brS ((↑l3 : Int) == (0 : Int)) (Q (IV.int IntKind.i64 (0 : Int)) h)
 (hgetS h id fun (r5 : List IV) =>
 ldVS (1 : Nat) r5 (0 : Nat) fun (i6 : Option Nat) (e7 l8 : Nat) (c9 : List IV) =>
 needS (true && decide ((0 : Int) < (↑l8 : Int)))
 (ldIS IntKind.i64 c9 (0 : Nat) fun (n10 : Int) =>
 hgetS h id fun (r11 : List IV) =>
 ldVS (1 : Nat) r11 (0 : Nat) fun (i12 : Option Nat) (e13 l14 : Nat) (c15 : List IV) =>
 needS (true && (decide ((1 : Int) ≤ (↑l14 : Int)) && decide ((↑l14 : Int) ≤ (↑l14 : Int))))
 (hgetS h id fun (r16 : List IV) =>
 needS (Nat.ble (1 : Nat) (List.length r16))
 (Q (IV.int IntKind.i64 n10)
 (Heap.set h id
 (IObj.cells
 (IV.vslice i12 (e13 - (l14 - Int.toNat (↑l14 : Int)) * (1 : Nat)) (Int.toNat (↑l14 : Int) - (1 : Nat)) (1 : Nat) (List.take ((Int.toNat (↑l14 : Int) - (1 : Nat)) * (1 : Nat)) (List.drop (1 : Nat) c15)) ::
 List.drop (1 : Nat) r16)))))))) := by kernel_rfl
theorem sNext : ∀ xs h Q, kNext xs h Q → CallW env 29 xs h Q := by
  intro xs h Q hk
  unfold kNext at hk
  split at hk
  · rename_i id
    refine dF_run (okHasImm) (vNext id h Q) ?_
    obtain ⟨⟨hlt, io, e, lp, l, hb, hg⟩, hk⟩ := hk
    refine hget_intro hg (ldV0 ?_)
    refine brS_intro (fun c => hk 0 h (by unfold i64b; omega) ⟨hlt, io, e, lp, l, hb, hg⟩ HF.refl) (fun c => hget_intro hg (ldV0 ?_))
    have hl : 0 < l.length := by
      simp at c
      exact Nat.pos_of_ne_zero (by simpa using c)
    refine needS_intro (by simp; omega) (ldIS_map (i := 0) hl (hget_intro hg (ldV0 (needS_intro (by simp; omega) (hget_intro hg (needS_intro (by simp) ?_))))))
    refine hk _ _ (hb _ (List.getElem_mem hl)) ⟨hlt, io, e - (l.length - ((l.length : Int)).toNat) * 1, lp, l.drop 1, fun x hx => hb x (List.mem_of_mem_drop hx), ?_⟩ HF.set
    refine (get_set_eq (h := h)).trans ?_
    simp
    exact List.take_of_length_le (by simp)
  · exact hk.elim
def cNext := addC 29 kNext cHasImm
theorem okNext : Sound env cNext := sound_add sNext (okHasImm)

end Go.Proofs.Ytmfnadojephcpaa
