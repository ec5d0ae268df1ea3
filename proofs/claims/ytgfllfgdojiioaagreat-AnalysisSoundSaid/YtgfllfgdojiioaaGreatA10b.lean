import Derived.Test.YtgfllfgdojiioaaGreatEnv10
import Derived.Test.YtgfllfgdojiioaaGreatM13
import Derived.Test.YtgfllfgdojiioaaGreatV10
import Derived.Test.YtgfllfgdojiioaaGreatP10
import Derived.KernelRfl
set_option linter.unusedVariables false
set_option linter.unusedSimpArgs false
namespace Go.Proofs.YtgfllfgdojiioaaGreat
open Go.Pv Go.M15 Go.M10
theorem ldNk {l : List Nd} {i o : Nat} {K : Option Nat -> Nat -> Nat -> List IV -> Prop} (h : i < l.length) (ho : o = i * 3 + 2) (hk : K none 0 l[i].ks.length (l[i].ks.map (IV.int .i64))) : ldVS 1 (l.flatMap cN) o K := by
 subst ho
 have e2 := cN_at (j := 2) h (by omega)
 unfold ldVS
 simp only [e2]
 exact hk
theorem cN_take : ∀ {l : List Nd} {n : Nat}, (l.flatMap cN).take (n * 3) = (l.take n).flatMap cN
 | [], n => by simp
 | x :: l, 0 => by simp
 | x :: l, n + 1 => by
   rw [List.flatMap_cons, List.take_succ_cons, List.flatMap_cons, List.take_append, show (n + 1) * 3 - (cN x).length = n * 3 by show (n + 1) * 3 - 3 = _; omega, cN_take, List.take_of_length_le (by show 3 <= _; omega)]
theorem ldI1 {k : IntKind} {l : List Int} {i o : Nat} {K : Int -> Prop} (h : i < l.length) (ho : o = i) (hk : K l[i]) : ldIS k (l.map (IV.int k)) o K := by
 subst ho
 exact ldIS_map h hk
def kPick (xs : List IV) (h : Heap) (K : IV -> Heap -> Prop) : Prop := match xs with
 | [.int .i64 n, .int .i64 m] => (0 < m /\ m < 4611686018427387904) /\ K (.int .i64 (n % m)) h
 | _ => False
set_option maxRecDepth 100000 in
theorem vPick (n m : Int) (h : Heap) (Q : IV -> Heap -> Prop) : dF (stdS noC) env 9 noU noI noI [.int .i64 n, .int .i64 m] h Q = (
 needS (!m == 0) (brS (decide (Int.tmod n m < 0)) (Q (.int .i64 (IntKind.wrap .i64 (Int.tmod n m + m))) h) (Q (.int .i64 (Int.tmod n m)) h))) := by kernel_rfl
theorem sPick : ∀ xs h Q, kPick xs h Q -> CallW env 9 xs h Q := by
 intro xs h Q hk
 unfold kPick at hk
 split at hk
 ·rename_i n m
  refine dF_run (sound_no env) (vPick n m h Q) ?_
  obtain ⟨hm, hk⟩ := hk
  have h1 := Int.emod_emod_of_dvd n (Int.dvd_refl m)
  have ht := Go.M13.tmod_cases n m hm.1
  refine needS_intro (by simp; omega) (brS_intro (fun hc => q_eq hk ?_) (fun hc => q_eq hk ?_))
  ·simp only [decide_eq_true_eq] at hc; rw [IntWalk.i64_in _ (by omega)]; congr 1; omega
  ·simp only [decide_eq_false_iff_not] at hc; congr 1; omega
 ·exact hk.elim
def cPick := addC 9 kPick noC
theorem okPick : Sound env cPick := sound_add sPick (sound_no env)
def kWord (xs : List IV) (h : Heap) (K : IV -> Heap -> Prop) : Prop := match xs with
 | [.int .i64 n, .int .i64 raw] => i64b raw /\ ∀ w : Int, i64b w -> K (.int .i64 w) h
 | _ => False
set_option maxRecDepth 100000 in
theorem vWord (n raw : Int) (h : Heap) (Q : IV -> Heap -> Prop) : dF (stdS cPick) env 10 noU noI noI [.int .i64 n, .int .i64 raw] h Q = (
 ((0 : Int) < 24 /\ (24 : Int) < 4611686018427387904) /\
 brS (decide (n % (24 : Int) < 10))
 (needS (decide (0 <= n % (24 : Int)) && decide (n % (24 : Int) < 10))
 (ldIS .i64
 [IV.int .i64 0, IV.int .i64 1, IV.int .i64 (-1), IV.int .i64 2, IV.int .i64 (-9223372036854775808), IV.int .i64 9223372036854775807,
 IV.int .i64 4294967296, IV.int .i64 (-2147483648), IV.int .i64 63, IV.int .i64 64]
 (Int.toNat (n % (24 : Int)) * 1) fun n0 => Q (.int .i64 n0) h))
 (brS (decide (n % (24 : Int) < 22))
 (((0 : Int) < 17 /\ (17 : Int) < 4611686018427387904) /\ Q (.int .i64 (IntKind.wrap .i64 (IntKind.wrap .i64 (Int.tdiv n (24 : Int)) % (17 : Int) - 6))) h) (Q (.int .i64 raw) h))) := by kernel_rfl
theorem sWord : ∀ xs h Q, kWord xs h Q -> CallW env 10 xs h Q := by
 intro xs h Q hk
 unfold kWord at hk
 split at hk
 ·rename_i n raw
  refine dF_run (okPick) (vWord n raw h Q) ?_
  obtain ⟨hr, hk⟩ := hk
  refine And.intro (by omega) (brS_intro (fun hc => ?_) (fun hc => brS_intro (fun hd => And.intro (by omega) (hk _ ?_)) (fun hd => hk _ hr)))
  ·rw [decide_eq_true_eq] at hc
   refine needS_intro (by simp; omega) ?_
   rw [Nat.mul_one]
   show ldIS .i64 (Go.M13.edges.map (IV.int .i64)) _ _
   have hl : (n % 24).toNat < Go.M13.edges.length := by have : Go.M13.edges.length = 10 := rfl; omega
   refine ldIS_map hl (hk _ ?_)
   have ha : ∀ x ∈ Go.M13.edges, i64b x := by decide
   exact ha _ (List.getElem_mem hl)
  ·have := IntWalk.i64_in (IntKind.i64.wrap (n.tdiv 24) % 17 - 6) (by omega)
   rw [this]
   unfold i64b
   omega
 ·exact hk.elim
def cWord := addC 10 kWord cPick
theorem okWord : Sound env cWord := sound_add sWord (okPick)
def kArity (xs : List IV) (h : Heap) (K : IV -> Heap -> Prop) : Prop := match xs with
 | [.int .i64 op] => K (.tuple [.int .i64 (ar op), .bool (arOk op)]) h
 | _ => False
noncomputable def z11a (op : Int) (h : Heap) (Q : IV -> Heap -> Prop) := brS (op == 23) (Q (.tuple [.int .i64 2, IV.bool true]) h) (brS (op == 27) (Q (.tuple [.int .i64 2, IV.bool true]) h) (brS (op == 29) (Q (.tuple [.int .i64 2, IV.bool true]) h) (brS (op == 22) (Q (.tuple [.int .i64 3, IV.bool true]) h) (brS (op == 28) (Q (.tuple [.int .i64 3, IV.bool true]) h) (brS (op == 30) (Q (.tuple [.int .i64 (-1), IV.bool true]) h) (brS (op == 31) (Q (.tuple [.int .i64 (-1), IV.bool true]) h) (Q (.tuple [.int .i64 0, IV.bool false]) h)))))))
noncomputable def z11b  := IV.tuple [.int .i64 0, IV.bool true]
noncomputable def z11c  := IV.tuple [.int .i64 1, IV.bool true]
set_option maxRecDepth 100000 in
theorem vArity (op : Int) (h : Heap) (Q : IV -> Heap -> Prop) : dF (stdS cWord) env 11 noU noI noI [.int .i64 op] h Q = (
 brS (op == 1) (Q z11b h) (brS (op == 2) (Q z11b h) (brS (op == 3) (Q z11b h) (brS (op == 26) (Q z11b h) (brS (op == 20) (Q z11c h) (brS (op == 21) (Q z11c h) (brS (op == 24) (Q z11c h) (brS (op == 25) (Q z11c h) (brS (decide (op >= 4))
 (brS (decide (op <= 19)) (Q (.tuple [.int .i64 2, IV.bool true]) h) (z11a op h Q)) (z11a op h Q)))))))))) := by kernel_rfl
set_option maxHeartbeats 2000000 in
theorem sArity : ∀ xs h Q, kArity xs h Q -> CallW env 11 xs h Q := by
 intro xs h Q hk
 unfold kArity at hk
 split at hk
 ·rename_i op
  refine dF_run (okWord) (vArity op h Q) ?_
  delta z11a z11b z11c
  repeat' (first | refine needS_intro ?_ ?_ | refine brS_intro (fun _ => ?_) (fun _ => ?_) | refine And.intro ?_ ?_)
  all_goals first | assumption | omega | (refine q_eq hk ?_; simp only [IV.agg.injEq, IV.tuple.injEq, IV.int.injEq, IV.bool.injEq, List.cons.injEq, true_and, and_true]; grind [ar, arOk])
 ·exact hk.elim
def cArity := addC 11 kArity cWord
theorem okArity : Sound env cArity := sound_add sArity (okWord)
def kSort (xs : List IV) (h : Heap) (K : IV -> Heap -> Prop) : Prop := match xs with
 | [.int .i64 op] => K (.int .i64 (sort op)) h
 | _ => False
set_option maxRecDepth 100000 in
theorem vSort (op : Int) (h : Heap) (Q : IV -> Heap -> Prop) : dF (stdS cArity) env 29 noU noI noI [.int .i64 op] h Q = (
 brS (op == 27) (Q (.int .i64 2) h) (brS (op == 28) (Q (.int .i64 2) h) (brS (op == 29) (Q (.int .i64 2) h) (Q (.int .i64 1) h)))) := by kernel_rfl
theorem sSort : ∀ xs h Q, kSort xs h Q -> CallW env 29 xs h Q := by
 intro xs h Q hk
 unfold kSort at hk
 split at hk
 ·rename_i op
  refine dF_run (okArity) (vSort op h Q) ?_
  repeat' (first | refine needS_intro ?_ ?_ | refine brS_intro (fun _ => ?_) (fun _ => ?_) | refine And.intro ?_ ?_)
  all_goals first | assumption | omega | (refine q_eq hk ?_; simp only [IV.agg.injEq, IV.tuple.injEq, IV.int.injEq, IV.bool.injEq, List.cons.injEq, true_and, and_true]; grind [sort])
 ·exact hk.elim
def cSort := addC 29 kSort cArity
theorem okSort : Sound env cSort := sound_add sSort (okArity)
def kOSort (xs : List IV) (h : Heap) (K : IV -> Heap -> Prop) : Prop := match xs with
 | [.int .i64 op, .int .i64 k] => K (.int .i64 (osort op k)) h
 | _ => False
set_option maxRecDepth 100000 in
theorem vOSort (op k : Int) (h : Heap) (Q : IV -> Heap -> Prop) : dF (stdS cSort) env 13 noU noI noI [.int .i64 op, .int .i64 k] h Q = (
 brS (k == 0)
 (brS (sort op == 2) (Q (.int .i64 2) h) (brS (op == 23) (Q (.int .i64 2) h) (brS (op == 24) (Q (.int .i64 2) h) (Q (.int .i64 1) h))))
 (Q (.int .i64 1) h)) := by kernel_rfl
theorem sOSort : ∀ xs h Q, kOSort xs h Q -> CallW env 13 xs h Q := by
 intro xs h Q hk
 unfold kOSort at hk
 split at hk
 ·rename_i op k
  refine dF_run (okSort) (vOSort op k h Q) ?_
  repeat' (first | refine needS_intro ?_ ?_ | refine brS_intro (fun _ => ?_) (fun _ => ?_) | refine And.intro ?_ ?_)
  all_goals first | assumption | omega | (refine q_eq hk ?_; simp only [IV.agg.injEq, IV.tuple.injEq, IV.int.injEq, IV.bool.injEq, List.cons.injEq, true_and, and_true]; grind [osort])
 ·exact hk.elim
def cOSort := addC 13 kOSort cSort
theorem okOSort : Sound env cOSort := sound_add sOSort (okSort)
def kNext (xs : List IV) (h : Heap) (K : IV -> Heap -> Prop) : Prop := match xs with
 | [.ptr id 0] => RD h id /\ ∀ (n : Int) (h2 : Heap), i64b n -> RD h2 id -> HF id h h2 -> K (.int .i64 n) h2
 | _ => False
set_option maxRecDepth 100000 in
theorem vNext (id : Nat) (h : Heap) (Q : IV -> Heap -> Prop) : dF (stdS cOSort) env 14 noU noI noI [.ptr id 0] h Q = (
 hgetS h id fun r0 =>
 ldVS 1 r0 0 fun (i1 : Option Nat) (e2 l3 : Nat) (c4 : List IV) =>
 brS ((↑l3 : Int) == 0) (Q (.int .i64 0) h)
 (hgetS h id fun r5 =>
 ldVS 1 r5 0 fun (i6 : Option Nat) (e7 l8 : Nat) (c9 : List IV) =>
 needS (true && decide (0 < (↑l8 : Int)))
 (ldIS .i64 c9 0 fun n10 =>
 hgetS h id fun r11 =>
 ldVS 1 r11 0 fun (i12 : Option Nat) (e13 l14 : Nat) (c15 : List IV) =>
 needS (true && (decide (1 <= (↑l14 : Int)) && decide ((↑l14 : Int) <= (↑l14 : Int))))
 (hgetS h id fun r16 =>
 needS (Nat.ble 1 r16.length)
 (Q (.int .i64 n10)
 (Heap.set h id
 (IObj.cells
 (IV.vslice i12 (e13 - (l14 - Int.toNat (↑l14 : Int)) * 1) (Int.toNat (↑l14 : Int) - 1) 1 (List.take ((Int.toNat (↑l14 : Int) - 1) * 1) (List.drop 1 c15)) ::
 List.drop 1 r16)))))))) := by kernel_rfl
theorem sNext : ∀ xs h Q, kNext xs h Q -> CallW env 14 xs h Q := by
 intro xs h Q hk
 unfold kNext at hk
 split at hk
 ·rename_i id
  refine dF_run (okOSort) (vNext id h Q) ?_
  obtain ⟨⟨hlt, io, e, lp, l, hb, hg⟩, hk⟩ := hk
  refine hget_intro hg (ldV0 ?_)
  refine brS_intro (fun c => hk 0 h (by unfold i64b; omega) ⟨hlt, io, e, lp, l, hb, hg⟩ HF.refl) (fun c => hget_intro hg (ldV0 ?_))
  have hl : 0 < l.length := by
   simp at c
   exact Nat.pos_of_ne_zero (by simpa using c)
  refine needS_intro (by simp; omega) (ldIS_map (i := 0) hl (hget_intro hg (ldV0 (needS_intro (by simp; omega) (hget_intro hg (needS_intro (by simp) ?_))))))
  refine hk _ _ (hb _ (List.getElem_mem hl)) ⟨hlt, io, e - (l.length - ((l.length : Int)).toNat) * 1, lp, l.drop 1, fun x hx => hb x (List.mem_of_mem_drop hx), ?_⟩ HF.set
  refine (get_set_eq (h := h)).trans ?_
  simp
  exact List.take_of_length_le (by simp)
 ·exact hk.elim
def cNext := addC 14 kNext cOSort
theorem okNext : Sound env cNext := sound_add sNext (okOSort)
def kMaxImm (xs : List IV) (h : Heap) (K : IV -> Heap -> Prop) : Prop := match xs with
 | [.int .i64 op] => K (.int .i64 (mxI op)) h
 | _ => False
set_option maxRecDepth 100000 in
theorem vMaxImm (op : Int) (h : Heap) (Q : IV -> Heap -> Prop) : dF (stdS cNext) env 125 noU noI noI [.int .i64 op] h Q = (
 brS (op == 2) (Q (.int .i64 5) h)
 (brS (op == 3) (Q (.int .i64 255) h)
 (brS (op == 23) (Q (.int .i64 3) h)
 (brS (op == 28) (Q (.int .i64 3) h)
 (brS (op == 27) (Q (.int .i64 1000016) h)
 (brS (op == 30) (Q (.int .i64 7) h) (brS (op == 31) (Q (.int .i64 15) h) (brS (op == 25) (Q (.int .i64 15) h) (Q (.int .i64 (-1)) h))))))))) := by kernel_rfl
theorem sMaxImm : ∀ xs h Q, kMaxImm xs h Q -> CallW env 125 xs h Q := by
 intro xs h Q hk
 unfold kMaxImm at hk
 split at hk
 ·rename_i op
  refine dF_run (okNext) (vMaxImm op h Q) ?_
  repeat' (first | refine needS_intro ?_ ?_ | refine brS_intro (fun _ => ?_) (fun _ => ?_) | refine And.intro ?_ ?_)
  all_goals first | assumption | omega | (refine q_eq hk ?_; simp only [IV.agg.injEq, IV.tuple.injEq, IV.int.injEq, IV.bool.injEq, List.cons.injEq, true_and, and_true]; grind [mxI])
 ·exact hk.elim
def cMaxImm := addC 125 kMaxImm cNext
theorem okMaxImm : Sound env cMaxImm := sound_add sMaxImm (okNext)
def kRVImm (xs : List IV) (h : Heap) (K : IV -> Heap -> Prop) : Prop := match xs with
 | [.int .i64 op, .int .i64 n] => K (.bool (vImm op n)) h
 | _ => False
set_option maxRecDepth 100000 in
theorem vRVImm (op n : Int) (h : Heap) (Q : IV -> Heap -> Prop) : dF (stdS cMaxImm) env 101 noU noI noI [.int .i64 op, .int .i64 n] h Q = (
 brS (op == 1) (Q (.bool true) h)
 (brS (decide (mxI op < 0)) (Q (.bool (n == 0)) h)
 (brS (decide (n >= 0)) (brS (decide (n <= mxI op)) (brS (op != 27) (Q (.bool true) h) (Q (.bool (decide (n > 0))) h)) (Q (.bool false) h)) (Q (.bool false) h)))) := by kernel_rfl
theorem sRVImm : ∀ xs h Q, kRVImm xs h Q -> CallW env 101 xs h Q := by
 intro xs h Q hk
 unfold kRVImm at hk
 split at hk
 ·rename_i op n
  refine dF_run (okMaxImm) (vRVImm op n h Q) ?_
  repeat' (first | refine needS_intro ?_ ?_ | refine brS_intro (fun _ => ?_) (fun _ => ?_) | refine And.intro ?_ ?_)
  all_goals first | assumption | omega | (refine q_eq hk ?_; simp only [IV.agg.injEq, IV.tuple.injEq, IV.int.injEq, IV.bool.injEq, List.cons.injEq, true_and, and_true]; grind [vImm])
 ·exact hk.elim
def cRVImm := addC 101 kRVImm cMaxImm
theorem okRVImm : Sound env cRVImm := sound_add sRVImm (okMaxImm)
def kSortIf (xs : List IV) (h : Heap) (K : IV -> Heap -> Prop) : Prop := match xs with
 | [.bool b, .int .i64 n] => K (.int .i64 (if b = true then n else 0)) h
 | _ => False
set_option maxRecDepth 100000 in
theorem vSortIf (b : Bool) (n : Int) (h : Heap) (Q : IV -> Heap -> Prop) : dF (stdS cRVImm) env 102 noU noI noI [.bool b, .int .i64 n] h Q = (
 brS b (Q (.int .i64 n) h) (Q (.int .i64 0) h)) := by kernel_rfl
theorem sSortIf : ∀ xs h Q, kSortIf xs h Q -> CallW env 102 xs h Q := by
 intro xs h Q hk
 unfold kSortIf at hk
 split at hk
 ·rename_i b n
  refine dF_run (okRVImm) (vSortIf b n h Q) ?_
  refine brS_intro (fun c => ?_) (fun c => ?_)
  ·rw [if_pos c] at hk
   exact hk
  ·rw [if_neg (by rw [c]; exact Bool.false_ne_true)] at hk
   exact hk
 ·exact hk.elim
def cSortIf := addC 102 kSortIf cRVImm
theorem okSortIf : Sound env cSortIf := sound_add sSortIf (okRVImm)
def avInv (k : List Int) : Inv' := atX Nat (fun i => [(0, .v (.vslice none 0 (k).length 1 ((k).map (IV.int .i64)))), (3, .v (.int .i64 i))]) (fun _ => []) (fun _ => Heap.empty)
 (fun i => i <= k.length /\ (k.drop i).all (fun x => decide (x = 1)) = k.all (fun x => decide (x = 1))) (fun i => k.length - i)
def kAllV (xs : List IV) (h : Heap) (K : IV -> Heap -> Prop) : Prop := match xs with
 | [.vslice none e1 n1 1 c1] => ∃ k : List Int, (n1 = k.length /\ c1 = k.map (IV.int .i64)) /\ k.length <= 1000000000 /\ K (.bool (k.all fun x => decide (x = 1))) h
 | _ => False
set_option maxRecDepth 100000 in
theorem vAllV (k : List Int) (e1 : Nat) (h : Heap) (Q : IV -> Heap -> Prop) : dF (stdS cSortIf) env 103 noU (ic1 3 (avInv k)) noI [.vslice none e1 (k).length 1 ((k).map (IV.int .i64))] h Q = (
 needS (pureL [IV.vslice none 0 k.length 1 (List.map (IV.int .i64) k)])
 ((∃ (x : Nat),
 some (TV.v (.vslice none 0 k.length 1 (List.map (IV.int .i64) k))) = some (TV.v (.vslice none 0 k.length 1 (List.map (IV.int .i64) k))) /\
 some (TV.v (.int .i64 0)) = some (TV.v (.int .i64 (↑x : Int))) /\
 Heap.mk PT.nil 0 = Heap.mk PT.nil 0 /\ (x <= k.length /\ (List.all (List.drop x k) fun x => decide (x = 1)) = List.all k fun x => decide (x = 1)) /\ True) /\
 ∀ (x : Nat) (b : FF),
 (x <= k.length /\ (List.all (List.drop x k) fun x => decide (x = 1)) = List.all k fun x => decide (x = 1)) ->
 brS (decide ((↑x : Int) < (↑k.length : Int)))
 (needS (decide (0 <= (↑x : Int)) && decide ((↑x : Int) < (↑k.length : Int)))
 (ldIS .i64 (List.map (IV.int .i64) k) (Int.toNat (↑x : Int) * 1) fun n0 =>
 brS (n0 != 1) (Q (.bool false) h)
 (∃ (x_1 : Nat),
 some (TV.v (.vslice none 0 k.length 1 (List.map (IV.int .i64) k))) = some (TV.v (.vslice none 0 k.length 1 (List.map (IV.int .i64) k))) /\
 some (TV.v (.int .i64 (IntKind.wrap .i64 ((↑x : Int) + 1)))) = some (TV.v (.int .i64 (↑x_1 : Int))) /\
 Heap.mk PT.nil 0 = Heap.mk PT.nil 0 /\
 (x_1 <= k.length /\ (List.all (List.drop x_1 k) fun x => decide (x = 1)) = List.all k fun x => decide (x = 1)) /\ k.length - x_1 < k.length - x)))
 (Q (.bool true) h))) := by kernel_rfl
set_option maxHeartbeats 1000000 in
theorem sAllV : ∀ xs h Q, kAllV xs h Q -> CallW env 103 xs h Q := by
 intro xs h Q hk
 unfold kAllV at hk
 split at hk
 ·rename_i e1 n1 c1
  obtain ⟨k, ⟨rfl, rfl⟩, hb, hk⟩ := hk
  refine dF_run (okSortIf) (vAllV k e1 h Q) ?_
  have tn : ∀ x : Nat, (x : Int).toNat = x := Int.toNat_natCast
  refine needS_intro (by simp only [pureL, pureB, pureL_ints, Bool.and_true]) ⟨⟨0, (by first | rfl | exact True.intro), (by first | rfl | exact True.intro), (by first | rfl | exact True.intro), ⟨Nat.zero_le _, rfl⟩, trivial⟩, ?_⟩
  rintro i _ ⟨hi, ha⟩
  try dsimp only at hi ha ⊢
  refine brS_intro (fun c => ?_) (fun c => ?_)
  ·rw [decide_eq_true_eq] at c
   have hlt : i < k.length := by omega
   simp only [tn]
   rw [Nat.mul_one]
   rw [List.drop_eq_getElem_cons hlt, List.all_cons] at ha
   refine needS_intro (by simp; omega) (ldIS_map hlt (brS_intro (fun c1 => ?_) (fun c1 => ⟨i + 1, (by first | rfl | exact True.intro), ?_, (by first | rfl | exact True.intro), ⟨hlt, ?_⟩, by (try dsimp only); omega⟩)))
   ·rw [decide_eq_false (bne_iff_ne.1 c1), Bool.false_and] at ha
    rw [<- ha] at hk
    exact hk
   ·rw [IntWalk.i64_in _ (by omega)]; rfl
   ·rw [bne_eq_false_iff_eq] at c1
    rw [decide_eq_true c1, Bool.true_and] at ha
    exact ha
  ·rw [decide_eq_false_iff_not] at c
   rw [List.drop_eq_nil_of_le (by omega)] at ha
   rw [<- ha] at hk
   exact hk
 ·exact hk.elim
def cAllV := addC 103 kAllV cSortIf
theorem okAllV : Sound env cAllV := sound_add sAllV (okSortIf)
def kNSort (xs : List IV) (h : Heap) (K : IV -> Heap -> Prop) : Prop := match xs with
 | [.vslice none e0 n0 3 c0, .agg [.int .i64 op, .int .i64 im, .vslice none e1 n1 1 c1], .vslice none e2 n2 1 c2] => ∃ (l : List Nd) (ks k : List Int), (n0 = l.length /\ c0 = l.flatMap cN) /\ (n1 = ks.length /\ c1 = ks.map (IV.int .i64)) /\ (n2 = k.length /\ c2 = k.map (IV.int .i64)) /\ ((op ≠ 25 /\ op ≠ 30 /\ op ≠ 31) /\ ks.length = k.length /\ k.length <= 1000000000) /\ K (.int .i64 (nsort op im k)) h
 | _ => False
noncomputable def z60c (k : List Int) := List.map (IV.int .i64) k
noncomputable def z60n (k : List Int) := Int.tdiv (↑k.length : Int) (2 : Int)
noncomputable def z60a (k : List Int) (h : Heap) (Q : IV -> Heap -> Prop) := needS (decide (0 <= IntKind.wrap .i64 (IntKind.wrap .i64 (z60n k) + 2)) && (decide (IntKind.wrap .i64 (IntKind.wrap .i64 (z60n k) + 2) <= (↑k.length : Int)) && decide ((↑k.length : Int) <= (↑k.length : Int)))) (∃ (k_2 : List Int), (Int.toNat (↑k.length : Int) - Int.toNat (IntKind.wrap .i64 (IntKind.wrap .i64 (z60n k) + 2)) = k_2.length /\ List.take ((Int.toNat (↑k.length : Int) - Int.toNat (IntKind.wrap .i64 (IntKind.wrap .i64 (z60n k) + 2))) * 1) (List.drop (Int.toNat (IntKind.wrap .i64 (IntKind.wrap .i64 (z60n k) + 2)) * 1) (z60c k)) = List.map (IV.int .i64) k_2) /\ k_2.length <= 1000000000 /\ Q (.int .i64 (if (List.all k_2 fun x => decide (x = 1)) = true then (3 : Int) else (0 : Int))) h)
noncomputable def z60b  := IV.int .i64 0
noncomputable def z60d (k : List Int) := IntKind.wrap .i64 (z60n k) + 1
noncomputable def z60e (k : List Int) := true && decide (0 < (↑k.length : Int))
noncomputable def z60f (k : List Int) := true && decide (1 < (↑k.length : Int))
noncomputable def z60g (k : List Int) (h : Heap) (Q : IV -> Heap -> Prop) := needS (true && (decide (1 <= (↑k.length : Int)) && decide ((↑k.length : Int) <= (↑k.length : Int)))) (∃ (k_1 : List Int), (Int.toNat (↑k.length : Int) - 1 = k_1.length /\ List.take ((Int.toNat (↑k.length : Int) - 1) * 1) (List.drop 1 (z60c k)) = List.map (IV.int .i64) k_1) /\ k_1.length <= 1000000000 /\ Q (.int .i64 (if (List.all k_1 fun x => decide (x = 1)) = true then (2 : Int) else (0 : Int))) h)
noncomputable abbrev z60h (k : List Int) (h : Heap) (Q : IV -> Heap -> Prop) := ∃ (k_1 : List Int), (k.length = k_1.length /\ List.map (IV.int .i64) k = List.map (IV.int .i64) k_1) /\ k_1.length <= 1000000000 /\ Q (.int .i64 (if (List.all k_1 fun x => decide (x = 1)) = true then (1 : Int) else (0 : Int))) h
noncomputable abbrev z60i (k k_1 : List Int) := Int.toNat (IntKind.wrap .i64 (z60d k)) - 1 = k_1.length /\ List.take ((Int.toNat (IntKind.wrap .i64 (z60d k)) - 1) * 1) (List.drop 1 (z60c k)) = List.map (IV.int .i64) k_1
noncomputable def z60j (k : List Int) := true && decide (2 < (↑k.length : Int))
noncomputable def z60k (k : List Int) := true && (decide (1 <= IntKind.wrap .i64 (z60d k)) && decide (IntKind.wrap .i64 (z60d k) <= (↑k.length : Int)))
noncomputable def z60l (k : List Int) := decide (0 <= IntKind.wrap .i64 (z60d k)) && decide (IntKind.wrap .i64 (z60d k) < (↑k.length : Int))
noncomputable def z60m (im : Int) := IV.int .i64 (IntKind.wrap .i64 ((if (im == 0) = true then (1 : Int) else (0 : Int)) + 1))
noncomputable def z60o  := IV.int .i64 2
set_option maxRecDepth 100000 in
theorem vNSort (l : List Nd) (op im : Int) (ks k : List Int) (e0 e1 e2 : Nat) (h : Heap) (Q : IV -> Heap -> Prop) : dF (stdS cAllV) env 60 noU noI noI [.vslice none e0 (l).length 3 ((l).flatMap cN), .agg [.int .i64 op, .int .i64 im, .vslice none e1 ks.length 1 (ks.map (IV.int .i64))], .vslice none e2 (k).length 1 ((k).map (IV.int .i64))] h Q = (
 needS (pureL [IV.vslice none 0 l.length 3 (List.flatMap cN l), IV.agg [.int .i64 op, IV.int .i64 im, IV.vslice none 0 ks.length 1 (List.map (IV.int .i64) ks)], IV.vslice none 0 k.length 1 (z60c k)]) (brS (!arOk
 op) (Q z60b h) (brS (decide (ar op >= 0)) (brS ((↑ks.length : Int) != ar op) (Q z60b h) (brS (!vImm op im) (Q z60b h) (brS (op == 3) (brS (Int.tmod im (16 : Int) == 0) (Q z60o h) (Q (.int .i64 1) h)) (brS (op == 26) (Q z60o h) (brS (op == 22)
 (needS (z60e k) (ldIS .i64 (z60c k) 0 fun n0 => brS (n0 != 1) (Q z60b h) (needS (z60f k) (ldIS .i64 (z60c k) 1 fun n1 => needS (z60j k) (ldIS .i64 (z60c k) 2 fun n2 => brS (n1 != n2) (Q z60b h) (needS (z60f k) (ldIS .i64
 (z60c k) 1 fun n3 => brS (n3 == 3) (Q z60b h) (needS (z60f k) (ldIS .i64 (z60c k) 1 fun n4 => Q (.int .i64 n4) h))))))))) (brS (op == 23) (needS (z60e k) (ldIS .i64 (z60c k) 0 fun n5 => brS (n5 == 2) (needS
 (z60f k) (ldIS .i64 (z60c k) 1 fun n6 => Q (.int .i64 (if (n6 == 1) = true then (1 : Int) else (0 : Int))) h)) (Q z60b h))) (brS (op == 24) (needS (z60e k) (ldIS .i64 (z60c k) 0 fun n7 => Q (.int .i64 (if (n7 == 2)
 = true then (1 : Int) else (0 : Int))) h)) (brS (op == 25) (needS (z60e k) (ldIS .i64 (z60c k) 0 fun n8 => brS (n8 != 3) (Q z60b h) (needS (true && decide (0 < (↑ks.length : Int))) (ldIS .i64 (List.map (IV.int .i64) ks) 0 fun
 (n9 : Int) => needS (decide (0 <= n9) && decide (n9 < (↑l.length : Int))) (ldVS 1 (List.flatMap cN l) (n9.toNat * 3 + (2 : Nat)) fun (i10 : Option Nat) (e11 l12 : Nat) (c13 : List IV) => brS (decide (im >= IntKind.wrap .i64 (Int.tdiv (↑l12 : Int) (2 : Int)))) (Q
 z60b h) (Q (z60m im) h)))))) (brS (op == 27) (needS (z60e k) (ldIS .i64 (z60c k) 0 fun n14 => brS (n14 == 2) (needS (z60f k) (ldIS .i64 (z60c k) 1 fun n15 => Q (.int .i64 (if (n15 == 1) = true then (2 : Int) else (0 : Int)))
 h)) (Q z60b h))) (brS (op == 29) (needS (z60e k) (ldIS .i64 (z60c k) 0 fun n16 => brS (n16 == 2) (needS (z60f k) (ldIS .i64 (z60c k) 1 fun n17 => Q (.int .i64 (if (n17 == 1) = true then (2 : Int) else (0 : Int))) h)) (Q z60b
 h))) (brS (op == 28) (needS (z60e k) (ldIS .i64 (z60c k) 0 fun n18 => brS (n18 == 2) (needS (z60f k) (ldIS .i64 (z60c k) 1 fun n19 => brS (n19 == 1) (needS (z60j k) (ldIS .i64 (z60c k) 2 fun n20 => Q (.int
 .i64 (if (n20 == 1) = true then (2 : Int) else (0 : Int))) h)) (Q z60b h))) (Q z60b h))) (brS (op == 30) (brS (decide ((↑k.length : Int) >= 1)) (brS (decide ((↑k.length : Int) <= 7)) (needS (z60e k) (ldIS .i64 (z60c k) 0 fun (n21 : Int)
 => brS (n21 == 2) (z60g k h Q) (Q z60b h))) (Q z60b h)) (Q z60b h)) (brS (op == 31) (brS (Int.tmod (↑k.length : Int) (2 : Int) == 1) (brS (decide (IntKind.wrap .i64 (z60n k) >= 1)) (brS (decide (IntKind.wrap .i64 (z60n k) <= 16)) (needS (z60e
 k) (ldIS .i64 (z60c k) 0 fun n22 => brS (n22 == 2) (needS (z60k k) (∃ (k_1 : List Int), (z60i k k_1) /\ k_1.length <= 1000000000 /\ brS (List.all k_1 fun x => decide (x = 1)) (needS (z60l k) (ldIS .i64 (z60c k) (Int.toNat (IntKind.wrap .i64
 (z60d k)) * 1) fun n23 => brS (n23 == 2) (z60a k h Q) (Q z60b h))) (Q z60b h))) (Q z60b h))) (Q z60b h)) (Q z60b h)) (Q z60b h)) (z60h k h Q)))))))))))))) (brS (!vImm op im) (Q z60b h) (brS (op == 3) (brS (Int.tmod im (16 : Int) == 0) (Q z60o h) (Q (.int .i64
 (1 : Int)) h)) (brS (op == 26) (Q z60o h) (brS (op == 22) (needS (z60e k) (ldIS .i64 (z60c k) 0 fun n24 => brS (n24 != 1) (Q z60b h) (needS (z60f k) (ldIS .i64 (z60c k) 1 fun n25 => needS (z60j k) (ldIS .i64 (z60c k) 2
 fun n26 => brS (n25 != n26) (Q z60b h) (needS (z60f k) (ldIS .i64 (z60c k) 1 fun n27 => brS (n27 == 3) (Q z60b h) (needS (z60f k) (ldIS .i64 (z60c k) 1 fun n28 => Q (.int .i64 n28) h))))))))) (brS (op == 23) (needS (z60e k)
 (ldIS .i64 (z60c k) 0 fun n29 => brS (n29 == 2) (needS (z60f k) (ldIS .i64 (z60c k) 1 fun n30 => Q (.int .i64 (if (n30 == 1) = true then (1 : Int) else (0 : Int))) h)) (Q z60b h))) (brS (op == 24) (needS (z60e k) (ldIS .i64
 (z60c k) 0 fun n31 => Q (.int .i64 (if (n31 == 2) = true then (1 : Int) else (0 : Int))) h)) (brS (op == 25) (needS (z60e k) (ldIS .i64 (z60c k) 0 fun n32 => brS (n32 != 3) (Q z60b h) (needS (true && decide (0 < (↑(List.length
 ks) : Int))) (ldIS .i64 (List.map (IV.int .i64) ks) 0 fun n33 => needS (decide (0 <= n33) && decide (n33 < (↑l.length : Int))) (ldVS 1 (List.flatMap cN l) (n33.toNat * 3 + (2 : Nat)) fun (i34 : Option Nat) (e35 l36 : Nat) (c37 : List IV)
 => brS (decide (im >= IntKind.wrap .i64 (Int.tdiv (↑l36 : Int) (2 : Int)))) (Q z60b h) (Q (z60m im) h)))))) (brS (op == 27) (needS (z60e k) (ldIS .i64 (z60c k) 0 fun n38 => brS (n38 == 2) (needS (z60f k) (ldIS .i64 (z60c k) 1 fun (n39 : Int)
 => Q (.int .i64 (if (n39 == 1) = true then (2 : Int) else (0 : Int))) h)) (Q z60b h))) (brS (op == 29) (needS (z60e k) (ldIS .i64 (z60c k) 0 fun n40 => brS (n40 == 2) (needS (z60f k) (ldIS .i64 (z60c k) 1 fun n41 => Q (.int
 .i64 (if (n41 == 1) = true then (2 : Int) else (0 : Int))) h)) (Q z60b h))) (brS (op == 28) (needS (z60e k) (ldIS .i64 (z60c k) 0 fun n42 => brS (n42 == 2) (needS (z60f k) (ldIS .i64 (z60c k) 1 fun n43 => brS (n43 == 1)
 (needS (z60j k) (ldIS .i64 (z60c k) 2 fun n44 => Q (.int .i64 (if (n44 == 1) = true then (2 : Int) else (0 : Int))) h)) (Q z60b h))) (Q z60b h))) (brS (op == 30) (brS (decide ((↑k.length : Int) >= 1)) (brS (decide ((↑k.length : Int)
 <= (7 : Int))) (needS (z60e k) (ldIS .i64 (z60c k) 0 fun n45 => brS (n45 == 2) (z60g k h Q) (Q z60b h))) (Q z60b h)) (Q z60b h)) (brS (op == 31) (brS (Int.tmod (↑k.length : Int) (2 : Int) == 1) (brS (decide (IntKind.wrap .i64 (z60n k) >= (1 :
 Int))) (brS (decide (IntKind.wrap .i64 (z60n k) <= 16)) (needS (z60e k) (ldIS .i64 (z60c k) 0 fun n46 => brS (n46 == 2) (needS (z60k k) (∃ (k_1 : List Int), (z60i k k_1) /\ k_1.length <= 1000000000 /\ brS (List.all k_1 fun x => decide (x
 = (1 : Int))) (needS (z60l k) (ldIS .i64 (z60c k) (Int.toNat (IntKind.wrap .i64 (z60d k)) * 1) fun n47 => brS (n47 == 2) (z60a k h Q) (Q z60b h))) (Q z60b h))) (Q z60b h))) (Q z60b h)) (Q z60b h)) (Q z60b h)) (z60h k h Q)))))))))))))))) := by kernel_rfl
set_option maxHeartbeats 2000000 in
theorem sNSort : ∀ xs h Q, kNSort xs h Q -> CallW env 60 xs h Q := by
 intro xs h Q hk
 unfold kNSort at hk
 split at hk
 ·rename_i e0 n0 c0 op im e1 n1 c1 e2 n2 c2
  obtain ⟨l, ks, k, ⟨rfl, rfl⟩, ⟨rfl, rfl⟩, ⟨rfl, rfl⟩, hb, hk⟩ := hk
  refine dF_run (okAllV) (vNSort l op im ks k e0 e1 e2 h Q) ?_
  delta z60a z60b z60c z60d z60e z60f z60g z60h z60i z60j z60k z60l z60m z60n z60o
  obtain ⟨hop, hkk, hkl⟩ := hb
  refine needS_intro (by simp only [pureL, pureB, pureL_ints, pureL_cN, Bool.and_true]) (brS_intro (fun c => ?_) (fun c0 => ?_))
  ·unfold nsort at hk
   rw [if_pos (.inl (by simpa using c))] at hk
   exact hk
  rw [Bool.not_eq_false'] at c0
  have hz : ((k.length : Int) ≠ ar op \/ vImm op im = false) -> Q (.int .i64 0) h := fun e => by
   unfold nsort at hk
   rw [if_pos (.inr e)] at hk
   exact hk
  have har : op ≠ 30 -> op ≠ 31 -> 0 <= ar op := by unfold ar; repeat' split <;> omega
  refine brS_intro (fun _ => ?_) (fun c => by rw [decide_eq_false_iff_not] at c; exact absurd (har hop.2.1 hop.2.2) (by omega))
  refine brS_intro (fun c => hz (.inl (by rw [<- hkk]; exact bne_iff_ne.1 c))) (fun c1 => brS_intro (fun c => hz (.inr (by simpa using c))) (fun c2 => ?_))
  rw [bne_eq_false_iff_eq, hkk] at c1
  rw [Bool.not_eq_false'] at c2
  rw [nsort_ops hop c0 c1 c2] at hk
  have rest : ∀ {o : Int}, (op == o) = false -> ¬ op = o := fun c => by simpa using c
  refine brS_intro (fun c => ?_) (fun c3 => ?_)
  ·have e := beq_iff_eq.1 c
   subst e
   rw [if_pos rfl] at hk
   have hi : 0 <= im := by
    unfold vImm at c2
    rw [decide_eq_true_eq] at c2
    have : mxI 3 = 255 := by decide
    omega
   rw [Int.tmod_eq_emod_of_nonneg hi]
   refine brS_intro (fun d => ?_) (fun d => ?_)
   ·rw [if_pos (beq_iff_eq.1 d)] at hk
    exact hk
   ·rw [if_neg (by simpa using d)] at hk
    exact hk
  rw [if_neg (rest c3)] at hk
  refine brS_intro (fun c => ?_) (fun c26 => ?_)
  ·have e := beq_iff_eq.1 c
   rw [if_pos e] at hk
   exact hk
  rw [if_neg (rest c26)] at hk
  refine brS_intro (fun c => ?_) (fun c22 => ?_)
  ·have e := beq_iff_eq.1 c
   subst e
   rw [if_pos rfl] at hk
   have h3 : k.length = 3 := by have : ar 22 = 3 := by decide
                                omega
   match k, h3 with
   | [a, b, c], _ =>
     repeat' (first | refine needS_intro (by simp) ?_ | refine ldIS_map (by simp) ?_ | refine brS_intro (fun _ => ?_) (fun _ => ?_))
     all_goals
      refine q_eq hk ?_
      simp only [IV.int.injEq, true_and]
      simp_all
  rw [if_neg (rest c22)] at hk
  refine brS_intro (fun c => ?_) (fun c23 => ?_)
  ·have e := beq_iff_eq.1 c
   subst e
   rw [if_pos rfl] at hk
   have h3 : k.length = 2 := by have : ar 23 = 2 := by decide
                                omega
   match k, h3 with
   | [a, b], _ =>
     repeat' (first | refine needS_intro (by simp) ?_ | refine ldIS_map (by simp) ?_ | refine brS_intro (fun _ => ?_) (fun _ => ?_))
     all_goals
      refine q_eq hk ?_
      simp only [IV.int.injEq, true_and]
      simp_all
  rw [if_neg (rest c23)] at hk
  refine brS_intro (fun c => ?_) (fun c24 => ?_)
  ·have e := beq_iff_eq.1 c
   subst e
   rw [if_pos rfl] at hk
   have h3 : k.length = 1 := by have : ar 24 = 1 := by decide
                                omega
   match k, h3 with
   | [a], _ =>
     repeat' (first | refine needS_intro (by simp) ?_ | refine ldIS_map (by simp) ?_ | refine brS_intro (fun _ => ?_) (fun _ => ?_))
     all_goals
      refine q_eq hk ?_
      simp only [IV.int.injEq, true_and]
      simp_all
  rw [if_neg (rest c24)] at hk
  refine brS_intro (fun c => absurd (beq_iff_eq.1 c) hop.1) (fun _ => brS_intro (fun c => ?_) (fun c27 => brS_intro (fun c => ?_) (fun c29 => ?_)))
  ·have e := beq_iff_eq.1 c
   subst e
   rw [if_pos (.inl rfl)] at hk
   have h3 : k.length = 2 := by have : ar 27 = 2 := by decide
                                omega
   match k, h3 with
   | [a, b], _ =>
     repeat' (first | refine needS_intro (by simp) ?_ | refine ldIS_map (by simp) ?_ | refine brS_intro (fun _ => ?_) (fun _ => ?_))
     all_goals
      refine q_eq hk ?_
      simp only [IV.int.injEq, true_and]
      simp_all
  ·have e := beq_iff_eq.1 c
   subst e
   rw [if_pos (.inr rfl)] at hk
   have h3 : k.length = 2 := by have : ar 29 = 2 := by decide
                                omega
   match k, h3 with
   | [a, b], _ =>
     repeat' (first | refine needS_intro (by simp) ?_ | refine ldIS_map (by simp) ?_ | refine brS_intro (fun _ => ?_) (fun _ => ?_))
     all_goals
      refine q_eq hk ?_
      simp only [IV.int.injEq, true_and]
      simp_all
  rw [if_neg (fun e => e.elim (rest c27) (rest c29))] at hk
  refine brS_intro (fun c => ?_) (fun c28 => ?_)
  ·have e := beq_iff_eq.1 c
   subst e
   rw [if_pos rfl] at hk
   have h3 : k.length = 3 := by have : ar 28 = 3 := by decide
                                omega
   match k, h3 with
   | [a, b, c], _ =>
     repeat' (first | refine needS_intro (by simp) ?_ | refine ldIS_map (by simp) ?_ | refine brS_intro (fun _ => ?_) (fun _ => ?_))
     all_goals
      refine q_eq hk ?_
      simp only [IV.int.injEq, true_and]
      simp_all
  rw [if_neg (rest c28)] at hk
  exact brS_intro (fun c => absurd (beq_iff_eq.1 c) hop.2.1) (fun _ => brS_intro (fun c => absurd (beq_iff_eq.1 c) hop.2.2) (fun _ => ⟨k, ⟨rfl, rfl⟩, hkl, hk⟩))
 ·exact hk.elim
def cNSort := addC 60 kNSort cAllV
theorem okNSort : Sound env cNSort := sound_add sNSort (okAllV)
def soInv (l : List Nd) : Inv' := .or
 (atX Heap (fun _ => [(0, .v (.vslice none 0 (l).length 3 ((l).flatMap cN))), (4, .v (.int .i64 0)), (3, .v .nilslice)]) (fun _ => []) (fun x => x) (fun _ => True) (fun _ => l.length))
 (atX (Nat × Nat × Heap) (fun x => [(0, .v (.vslice none 0 (l).length 3 ((l).flatMap cN))), (4, .v (.int .i64 x.1)), (3, .v (.vslice (some x.2.1) x.1 x.1 1 ((sortsA (l.take x.1)).map (IV.int .i64))))]) (fun _ => []) (fun x => x.2.2) (fun x => SO l x.1 x.2.1 x.2.2) (fun x => l.length - x.1))
def siInv (l : List Nd) : Inv' := .or
 (atX Heap (fun _ => [(0, .v (.vslice none 0 (l).length 3 ((l).flatMap cN))), (4, .v (.int .i64 0)), (3, .v .nilslice), (5, .v .nilslice), (6, .v (.bool true)), (7, .v (.int .i64 0))]) (fun _ => []) (fun x => x) (fun _ => 0 < l.length) (fun _ => l.length * 1000002 + kRest l 0 0))
 (.or
 (atX (Nat × Nat × Heap) (fun x => [(0, .v (.vslice none 0 (l).length 3 ((l).flatMap cN))), (4, .v (.int .i64 x.1)), (3, .v (.vslice (some x.2.1) x.1 x.1 1 ((sortsA (l.take x.1)).map (IV.int .i64)))), (5, .v .nilslice), (6, .v (.bool true)), (7, .v (.int .i64 0))]) (fun _ => []) (fun x => x.2.2) (fun x => x.1 < l.length /\ SO l x.1 x.2.1 x.2.2) (fun x => (l.length - x.1) * 1000002 + kRest l x.1 0))
 (atX (Nat × Nat × Heap × Nat × List Int × Nat) (fun x => [(0, .v (.vslice none 0 (l).length 3 ((l).flatMap cN))), (4, .v (.int .i64 x.1)), (3, .v (.vslice (some x.2.1) x.1 x.1 1 ((sortsA (l.take x.1)).map (IV.int .i64)))), (5, .v (.vslice (some x.2.2.2.2.2) x.2.2.2.2.1.length x.2.2.2.2.1.length 1 (x.2.2.2.2.1.map (IV.int .i64)))), (6, .v (.bool true)), (7, .v (.int .i64 x.2.2.2.1))]) (fun _ => []) (fun x => x.2.2.1)
  (fun x => x.1 < l.length /\ SO l x.1 x.2.1 x.2.2.1 /\ SI l x.1 x.2.2.2.1 x.2.2.2.2.1 /\ SK x.2.2.2.2.1 x.2.1 x.2.2.2.2.2 x.2.2.1) (fun x => (l.length - x.1) * 1000002 + kRest l x.1 x.2.2.2.1)))
def kSorts (xs : List IV) (h : Heap) (K : IV -> Heap -> Prop) : Prop := match xs with
 | [.vslice none e1 n1 3 c1] => ∃ l : List Nd, (n1 = l.length /\ c1 = l.flatMap cN) /\ ((∀ x ∈ l, x.ks.length <= 1000000 /\ x.op ≠ 25 /\ x.op ≠ 30 /\ x.op ≠ 31) /\ l.length <= 1000000) /\ K (.vslice none 0 (sortsA l).length 1 ((sortsA l).map (IV.int .i64))) h
 | _ => False
noncomputable def z28h (l : List Nd) := List.flatMap cN l
noncomputable def z28m (l : List Nd) := l.length
noncomputable def z28a (l : List Nd) := TV.v (.vslice none 0 (z28m l) 3 (z28h l))
noncomputable def z28b  := IV.int .i64
noncomputable def z28c  := TV.v (.int .i64 0)
noncomputable def z28d  := [IV.int .i64 0]
noncomputable def z28e  := TV.v IV.nilslice
noncomputable def z28f  := TV.v (.bool true)
noncomputable def z28g  := TV.v (.int .i64 1)
noncomputable abbrev z28i (l l_1 : List Nd) := l.length = l_1.length /\ List.flatMap cN l = List.flatMap cN l_1
noncomputable def z28j  := IObj.tip (1 : Nat)
noncomputable def z28k (l : List Nd) := true && decide (0 < (↑(z28m l) : Int))
noncomputable abbrev z28l (k : List Int) := (0 : Nat) = k.length /\ [] = List.map z28b k
set_option maxRecDepth 100000 in
theorem vSorts (l : List Nd) (e1 : Nat) (h : Heap) (Q : IV -> Heap -> Prop) : dF (stdS cNSort) env 28 noU (icA 4 (soInv l) (ic1 1000009 (siInv l))) noI [.vslice none e1 (l).length 3 ((l).flatMap cN)] h Q = (
 needS (pureL [IV.vslice none 0 (z28m l) 3 (z28h l)]) (((∃ (x : Heap), some (z28a l) = some (z28a l) /\ some z28c = some z28c /\ some z28e = some z28e /\ Heap.mk PT.nil 0 = x /\ True /\ True) \/ ∃ (x : Nat × Nat × Heap), some (z28a l) = some (z28a l) /\ some z28c = some (TV.v (.int
 .i64 (↑x.1 : Int))) /\ some z28e = some (TV.v (.vslice (some x.2.1) x.1 x.1 1 (List.map z28b (sortsA (List.take x.1 l))))) /\ Heap.mk PT.nil 0 = x.2.2 /\ ((0 < x.1 /\ x.1 <= l.length)
 /\ Heap.get x.2.2 x.2.1 = IObj.tip x.1 /\ x.2.1 < Heap.next x.2.2) /\ True) /\ (∀ (x : Heap) (b : FF), True -> brS (decide (0 < (↑(z28m l) : Int))) (∃ (M : Nat), ((∃ (x_1 : Heap), some (z28a l) = some (z28a l) /\ some z28c
 = some z28c /\ some z28e = some z28e /\ some z28e = some z28e /\ some z28f = some z28f /\ some z28c = some z28c /\ x = x_1 /\ Nat.le (1 : Nat) (z28m l) /\ l.length * 1000002 + kRest l (0 : Nat) 0 <= M) \/ (∃ (x_1 : Nat × Nat × Heap), some (z28a l) = some (z28a l) /\ some z28c = some (TV.v
 (IV.int .i64 (↑x_1.1 : Int))) /\ some z28e = some (TV.v (.vslice (some x_1.2.1) x_1.1 x_1.1 1 (List.map z28b (sortsA (List.take x_1.1 l))))) /\ some z28e = some z28e /\ some z28f = some z28f /\ some z28c = some z28c /\ x = Prod.snd (Prod.snd
 x_1) /\ (x_1.1 < l.length /\ SO l x_1.1 x_1.2.1 x_1.2.2) /\ (l.length - x_1.1) * 1000002 + kRest l x_1.1 0 <= M) \/ ∃ (x_1 : Nat × Nat × Heap × Nat × List Int × Nat), some (z28a l) = some (z28a l) /\ some z28c = some
 (TV.v (.int .i64 (↑x_1.1 : Int))) /\ some z28e = some (TV.v (.vslice (some x_1.2.1) x_1.1 x_1.1 1 (List.map z28b (sortsA (List.take x_1.1 l))))) /\ some z28e = some (TV.v (.vslice (some (Prod.snd (Prod.snd (Prod.snd (Prod.snd (Prod.snd
 x_1)))))) x_1.2.2.2.2.1.length x_1.2.2.2.2.1.length 1 (List.map z28b x_1.2.2.2.2.1))) /\ some z28f = some z28f /\ some z28c = some (TV.v (.int .i64
 (↑x_1.2.2.2.1 : Int))) /\ x = x_1.2.2.1 /\ (x_1.1 < l.length /\ SO l x_1.1 x_1.2.1 x_1.2.2.1 /\ SI l x_1.1 x_1.2.2.2.1 (Prod.fst (Prod.snd
 x_1.2.2.2)) /\ SK x_1.2.2.2.2.1 x_1.2.1 x_1.2.2.2.2.2 x_1.2.2.1) /\ (l.length - x_1.1) * 1000002 + kRest l x_1.1
 x_1.2.2.2.1 <= M) /\ (∀ (x : Heap) (b : FF), 0 < l.length -> l.length * 1000002 + kRest l (0 : Nat) 0 <= M -> needS (z28k l) (ldVS 1 (z28h l) 2 fun (i0 : Option Nat) (e1 l2 : Nat) (c3 : List IV) => brS (decide ((0 : Int)
 < (↑l2 : Int))) (needS (z28k l) (ldVS 1 (z28h l) 2 fun (i4 : Option Nat) (e5 l6 : Nat) (c7 : List IV) => needS (true && decide (0 < (↑l6 : Int))) (ldIS .i64 c7 0 fun n8 => brS (decide (n8 < 0)) ((∃ (x_1 : Heap), some (z28a l) = some (z28a l) /\ some
 z28g = some z28c /\ some (TV.v (.vslice (some (Heap.next x)) 1 1 1 z28d)) = some z28e /\ Heap.push x z28j = x_1 /\ True /\ l.length < l.length) \/ ∃ (x_1 : Nat × Nat × Heap), some (z28a l) = some (z28a l) /\ some z28g = some (TV.v (.int .i64 (↑x_1.1 : Int)))
 /\ some (TV.v (.vslice (some (Heap.next x)) 1 1 1 z28d)) = some (TV.v (.vslice (some x_1.2.1) x_1.1 x_1.1 1 (List.map z28b (sortsA (List.take x_1.1 l))))) /\ Heap.push x z28j = x_1.2.2 /\ ((0 < Prod.fst
 x_1 /\ x_1.1 <= l.length) /\ Heap.get x_1.2.2 x_1.2.1 = IObj.tip x_1.1 /\ x_1.2.1 < Heap.next x_1.2.2) /\ l.length - x_1.1 < l.length) (brS (decide (n8 >= 0)) ((∃ (x_1 : Heap), some (z28a l)
 = some (z28a l) /\ some z28g = some z28c /\ some (TV.v (.vslice (some (Heap.next x)) 1 1 1 z28d)) = some z28e /\ Heap.push x z28j = x_1 /\ True /\ l.length < l.length) \/ ∃ (x_1 : Nat × Nat × Heap), some (z28a l) = some (z28a l) /\ some z28g = some (TV.v (.int .i64
 (↑x_1.1 : Int))) /\ some (TV.v (.vslice (some (Heap.next x)) 1 1 1 z28d)) = some (TV.v (.vslice (some x_1.2.1) x_1.1 x_1.1 1 (List.map z28b (sortsA (List.take x_1.1 l))))) /\ Heap.push x z28j = Prod.snd (Prod.snd
 x_1) /\ ((0 < x_1.1 /\ x_1.1 <= l.length) /\ Heap.get x_1.2.2 x_1.2.1 = IObj.tip x_1.1 /\ x_1.2.1 < Heap.next x_1.2.2) /\ l.length - x_1.1 < l.length) False)))) (needS (z28k l) (ldIS .i64
 (z28h l) 0 fun n9 => ldIS .i64 (z28h l) 1 fun n10 => ldVS 1 (z28h l) 2 fun (i11 : Option Nat) (e12 l13 : Nat) (c14 : List IV) => ∃ (l_1 : List Nd), ∃ (ks k : List Int), (z28i l l_1) /\ (l13 = ks.length /\ c14 = List.map z28b ks)
 /\ (z28l k) /\ ((n9 ≠ 25 /\ n9 ≠ 30 /\ n9 ≠ 31) /\ ks.length = k.length /\ k.length <= 1000000000) /\ ((∃ (x_1 : Heap), some (z28a l) = some (z28a l) /\ some z28g = some z28c /\ some (TV.v (.vslice (some (Heap.next x)) 1 1 1 [IV.int .i64
 (nsort n9 n10 k)])) = some z28e /\ Heap.push x z28j = x_1 /\ True /\ l.length < l.length) \/ ∃ (x_1 : Nat × Nat × Heap), some (z28a l) = some (z28a l) /\ some z28g = some (TV.v (.int .i64 (↑x_1.1 : Int))) /\ some (TV.v (.vslice (some (Heap.next x)) 1 1 1
 [IV.int .i64 (nsort n9 n10 k)])) = some (TV.v (.vslice (some x_1.2.1) x_1.1 x_1.1 1 (List.map z28b (sortsA (List.take x_1.1 l))))) /\ Heap.push x z28j = x_1.2.2 /\ ((0 < x_1.1 /\ x_1.1 <= l.length) /\
 Heap.get x_1.2.2 x_1.2.1 = IObj.tip x_1.1 /\ x_1.2.1 < Heap.next x_1.2.2) /\ l.length - x_1.1 < l.length))))) /\ (∀ (x : Nat × Nat × Heap) (b : FF), x.1 < l.length /\ SO l x.1 (Prod.fst (Prod.snd
 x)) x.2.2 -> (l.length - x.1) * 1000002 + kRest l x.1 0 <= M -> needS (decide (0 <= (↑x.1 : Int)) && decide ((↑x.1 : Int) < (↑(z28m l) : Int))) (ldVS 1 (z28h l) (Int.toNat (↑x.1 : Int) * 3 + (2 : Nat))
 fun (i15 : Option Nat) (e16 l17 : Nat) (c18 : List IV) => brS (decide (0 < (↑l17 : Int))) (needS (decide (0 <= (↑x.1 : Int)) && decide ((↑x.1 : Int) < (↑(z28m l) : Int))) (ldVS 1 (z28h l) (Int.toNat (↑x.1 : Int) * 3 + (2 : Nat)) fun (i19 : Option
 Nat) (e20 l21 : Nat) (c22 : List IV) => needS (true && decide (0 < (↑l21 : Int))) (ldIS .i64 c22 0 fun n23 => brS (decide (n23 < 0)) (tipS x.2.2 x.2.1 fun (m24 : Nat) => needS (Nat.beq m24 x.1 && Nat.ble ((x.1
 + (1 : Nat)) * 8) (140737488355328 : Nat)) ((∃ (x_1 : Heap), some (z28a l) = some (z28a l) /\ some (TV.v (.int .i64 (IntKind.wrap .i64 ((↑x.1 : Int) + 1)))) = some z28c /\ some (TV.v (.vslice (some x.2.1) (x.1 + 1) (x.1
 + (1 : Nat)) 1 (List.map z28b (sortsA (List.take x.1 l)) ++ z28d))) = some z28e /\ Heap.set x.2.2 x.2.1 (IObj.tip (x.1 + 1)) = x_1 /\ True /\ l.length < l.length) \/ ∃ (x_1 : Nat × Nat × Heap), some (z28a l) = some (z28a l) /\ some
 (TV.v (.int .i64 (IntKind.wrap .i64 ((↑x.1 : Int) + 1)))) = some (TV.v (.int .i64 (↑x_1.1 : Int))) /\ some (TV.v (.vslice (some x.2.1) (x.1 + 1) (x.1 + 1) 1 (List.map z28b (sortsA (List.take (Prod.fst
 x) l)) ++ z28d))) = some (TV.v (.vslice (some x_1.2.1) x_1.1 x_1.1 1 (List.map z28b (sortsA (List.take x_1.1 l))))) /\ Heap.set x.2.2 x.2.1 (IObj.tip (x.1 + 1)) = x_1.2.2 /\ (((0 :
 Nat) < x_1.1 /\ x_1.1 <= l.length) /\ Heap.get x_1.2.2 x_1.2.1 = IObj.tip x_1.1 /\ x_1.2.1 < Heap.next x_1.2.2) /\ l.length - x_1.1 < l.length)) (brS (decide (n23 >= (↑x.1 : Int))) (tipS
 x.2.2 x.2.1 fun (m25 : Nat) => needS (Nat.beq m25 x.1 && Nat.ble ((x.1 + 1) * 8) (140737488355328 : Nat)) ((∃ (x_1 : Heap), some (z28a l) = some (z28a l) /\ some (TV.v (.int .i64 (IntKind.wrap .i64 ((↑x.1 : Int)
 + (1 : Int))))) = some z28c /\ some (TV.v (.vslice (some x.2.1) (x.1 + 1) (x.1 + 1) 1 (List.map z28b (sortsA (List.take x.1 l)) ++ z28d))) = some z28e /\ Heap.set x.2.2 x.2.1 (IObj.tip (x.1 + (1
 : Nat))) = x_1 /\ True /\ l.length < l.length) \/ ∃ (x_1 : Nat × Nat × Heap), some (z28a l) = some (z28a l) /\ some (TV.v (.int .i64 (IntKind.wrap .i64 ((↑x.1 : Int) + 1)))) = some (TV.v (.int .i64 (↑x_1.1 : Int))) /\ some (TV.v (.vslice (some
 x.2.1) (x.1 + 1) (x.1 + 1) 1 (List.map z28b (sortsA (List.take x.1 l)) ++ z28d))) = some (TV.v (.vslice (some x_1.2.1) x_1.1 x_1.1 1 (List.map z28b (sortsA (List.take x_1.1 l))))) /\
 Heap.set x.2.2 x.2.1 (IObj.tip (x.1 + 1)) = x_1.2.2 /\ ((0 < x_1.1 /\ x_1.1 <= l.length) /\ Heap.get x_1.2.2 x_1.2.1 = IObj.tip x_1.1 /\ x_1.2.1 < Heap.next
 x_1.2.2) /\ l.length - x_1.1 < l.length)) (needS (decide (0 <= n23) && decide (n23 < (↑x.1 : Int))) (ldIS .i64 (List.map z28b (sortsA (List.take x.1 l))) (n23.toNat * 1) fun n26 => brS (n26 == 0) (tipS (Prod.snd
 x.2) x.2.1 fun (m27 : Nat) => needS (Nat.beq m27 x.1 && Nat.ble ((x.1 + 1) * 8) (140737488355328 : Nat)) ((∃ (x_1 : Heap), some (z28a l) = some (z28a l) /\ some (TV.v (.int .i64 (IntKind.wrap .i64 ((↑x.1 : Int) + (1 :
 Int))))) = some z28c /\ some (TV.v (.vslice (some x.2.1) (x.1 + 1) (x.1 + 1) 1 (List.map z28b (sortsA (List.take x.1 l)) ++ z28d))) = some z28e /\ Heap.set x.2.2 x.2.1 (IObj.tip (x.1 + 1))
 = x_1 /\ True /\ l.length < l.length) \/ ∃ (x_1 : Nat × Nat × Heap), some (z28a l) = some (z28a l) /\ some (TV.v (.int .i64 (IntKind.wrap .i64 ((↑x.1 : Int) + 1)))) = some (TV.v (.int .i64 (↑x_1.1 : Int))) /\ some (TV.v (.vslice (some (Prod.fst
 x.2)) (x.1 + 1) (x.1 + 1) 1 (List.map z28b (sortsA (List.take x.1 l)) ++ z28d))) = some (TV.v (.vslice (some x_1.2.1) x_1.1 x_1.1 1 (List.map z28b (sortsA (List.take x_1.1 l))))) /\ Heap.set
 x.2.2 x.2.1 (IObj.tip (x.1 + 1)) = x_1.2.2 /\ ((0 < x_1.1 /\ x_1.1 <= l.length) /\ Heap.get x_1.2.2 x_1.2.1 = IObj.tip x_1.1 /\ x_1.2.1 < Heap.next (Prod.snd
 x_1.2)) /\ l.length - x_1.1 < l.length)) (needS (decide (0 <= n23) && decide (n23 < (↑x.1 : Int))) (ldIS .i64 (List.map z28b (sortsA (List.take x.1 l))) (n23.toNat * 1) fun n28 => (∃ (x_1 : Heap), some (z28a l) = some (z28a
 l) /\ some (TV.v (.int .i64 (↑x.1 : Int))) = some z28c /\ some (TV.v (.vslice (some x.2.1) x.1 x.1 1 (List.map z28b (sortsA (List.take x.1 l))))) = some z28e /\ some (TV.v (.vslice (some (Heap.next x.2.2)) (1 :
 Nat) 1 1 [IV.int .i64 n28])) = some z28e /\ some z28f = some z28f /\ some z28g = some z28c /\ Heap.push x.2.2 z28j = x_1 /\ Nat.le (1 : Nat) (z28m l) /\ l.length * 1000002 + kRest l (0 : Nat) 0 < (l.length - x.1) * 1000002 +
 kRest l x.1 (0 : Nat)) \/ (∃ (x_1 : Nat × Nat × Heap), some (z28a l) = some (z28a l) /\ some (TV.v (.int .i64 (↑x.1 : Int))) = some (TV.v (.int .i64 (↑x_1.1 : Int))) /\ some (TV.v (.vslice (some x.2.1) x.1 x.1 1 (List.map
 z28b (sortsA (List.take x.1 l))))) = some (TV.v (.vslice (some x_1.2.1) x_1.1 x_1.1 1 (List.map z28b (sortsA (List.take x_1.1 l))))) /\ some (TV.v (.vslice (some (Heap.next x.2.2)) 1 1 1 [IV.int
 .i64 n28])) = some z28e /\ some z28f = some z28f /\ some z28g = some z28c /\ Heap.push x.2.2 z28j = x_1.2.2 /\ (x_1.1 < l.length /\ SO l x_1.1 x_1.2.1 x_1.2.2) /\ (l.length - x_1.1) * 1000002
 + kRest l x_1.1 0 < (l.length - x.1) * 1000002 + kRest l x.1 (0 : Nat)) \/ ∃ (x_1 : Nat × Nat × Heap × Nat × List Int × Nat), some (z28a l) = some (z28a l) /\ some (TV.v (.int .i64 (↑x.1 : Int))) = some (TV.v (.int .i64 (↑(Prod.fst
 x_1) : Int))) /\ some (TV.v (.vslice (some x.2.1) x.1 x.1 1 (List.map z28b (sortsA (List.take x.1 l))))) = some (TV.v (.vslice (some x_1.2.1) x_1.1 x_1.1 1 (List.map z28b (sortsA (List.take x_1.1
 l))))) /\ some (TV.v (.vslice (some (Heap.next x.2.2)) 1 1 1 [IV.int .i64 n28])) = some (TV.v (.vslice (some x_1.2.2.2.2.2) x_1.2.2.2.2.1.length (List.length
 x_1.2.2.2.2.1) 1 (List.map z28b x_1.2.2.2.2.1))) /\ some z28f = some z28f /\ some z28g = some (TV.v (.int .i64 (↑x_1.2.2.2.1 : Int))) /\ Heap.push (Prod.snd (Prod.snd
 x)) z28j = x_1.2.2.1 /\ (x_1.1 < l.length /\ SO l x_1.1 x_1.2.1 x_1.2.2.1 /\ SI l x_1.1 x_1.2.2.2.1 x_1.2.2.2.2.1 /\ SK (Prod.fst
 x_1.2.2.2.2) x_1.2.1 x_1.2.2.2.2.2 x_1.2.2.1) /\ (l.length - x_1.1) * 1000002 + kRest l x_1.1 x_1.2.2.2.1 < (List.length
 l - x.1) * 1000002 + kRest l x.1 (0 : Nat))))))))) (needS (decide (0 <= (↑x.1 : Int)) && decide ((↑x.1 : Int) < (↑(z28m l) : Int))) (ldIS .i64 (z28h l) (Int.toNat (↑x.1 : Int) * 3) fun n29 => ldIS .i64 (z28h l) (Int.toNat
 (↑x.1 : Int) * 3 + (1 : Nat)) fun n30 => ldVS 1 (z28h l) (Int.toNat (↑x.1 : Int) * 3 + (1 : Nat) + 1) fun (i31 : Option Nat) (e32 l33 : Nat) (c34 : List IV) => ∃ (l_1 : List Nd), ∃ (ks k : List Int), (z28i l l_1) /\ (l33 = List.length
 ks /\ c34 = List.map z28b ks) /\ (z28l k) /\ ((n29 ≠ 25 /\ n29 ≠ 30 /\ n29 ≠ 31) /\ ks.length = k.length /\ k.length <= 1000000000) /\ tipS x.2.2 x.2.1 fun (m35 : Nat) => needS (Nat.beq m35 x.1 && Nat.ble ((x.1
 + (1 : Nat)) * 8) (140737488355328 : Nat)) ((∃ (x_1 : Heap), some (z28a l) = some (z28a l) /\ some (TV.v (.int .i64 (IntKind.wrap .i64 ((↑x.1 : Int) + 1)))) = some z28c /\ some (TV.v (.vslice (some x.2.1) (x.1 + 1) (x.1
 + (1 : Nat)) 1 (List.map z28b (sortsA (List.take x.1 l)) ++ [IV.int .i64 (nsort n29 n30 k)]))) = some z28e /\ Heap.set x.2.2 x.2.1 (IObj.tip (x.1 + 1)) = x_1 /\ True /\ l.length < l.length) \/ ∃ (x_1 : Nat × Nat × Heap),
 some (z28a l) = some (z28a l) /\ some (TV.v (.int .i64 (IntKind.wrap .i64 ((↑x.1 : Int) + 1)))) = some (TV.v (.int .i64 (↑x_1.1 : Int))) /\ some (TV.v (.vslice (some x.2.1) (x.1 + 1) (x.1 + 1) 1
 (List.map z28b (sortsA (List.take x.1 l)) ++ [IV.int .i64 (nsort n29 n30 k)]))) = some (TV.v (.vslice (some x_1.2.1) x_1.1 x_1.1 1 (List.map z28b (sortsA (List.take x_1.1 l))))) /\ Heap.set x.2.2 (Prod.fst (Prod.snd
 x)) (IObj.tip (x.1 + 1)) = x_1.2.2 /\ ((0 < x_1.1 /\ x_1.1 <= l.length) /\ Heap.get x_1.2.2 x_1.2.1 = IObj.tip x_1.1 /\ x_1.2.1 < Heap.next x_1.2.2) /\ l.length - Prod.fst
 x_1 < l.length))))) /\ ∀ (x : Nat × Nat × Heap × Nat × List Int × Nat) (b : FF), x.1 < l.length /\ SO l x.1 x.2.1 x.2.2.1 /\ SI l x.1 x.2.2.2.1 (Prod.fst (Prod.snd (Prod.snd (Prod.snd (Prod.snd
 x))))) /\ SK x.2.2.2.2.1 x.2.1 x.2.2.2.2.2 x.2.2.1 -> (l.length - x.1) * 1000002 + kRest l x.1 x.2.2.2.1
 <= M -> needS (decide (0 <= (↑x.1 : Int)) && decide ((↑x.1 : Int) < (↑(z28m l) : Int))) (ldVS 1 (z28h l) (Int.toNat (↑x.1 : Int) * 3 + (2 : Nat)) fun (i36 : Option Nat) (e37 l38 : Nat) (c39 : List IV) => brS (decide ((↑(Prod.fst (Prod.snd (Prod.snd (Prod.snd
 x)))) : Int) < (↑l38 : Int))) (needS (decide (0 <= (↑x.1 : Int)) && decide ((↑x.1 : Int) < (↑(z28m l) : Int))) (ldVS 1 (z28h l) (Int.toNat (↑x.1 : Int) * 3 + (2 : Nat)) fun (i40 : Option Nat) (e41 l42 : Nat) (c43 : List IV) => needS (decide ((0 : Int)
 <= (↑x.2.2.2.1 : Int)) && decide ((↑x.2.2.2.1 : Int) < (↑l42 : Int))) (ldIS .i64 c43 (Int.toNat (↑x.2.2.2.1 : Int) * 1) fun n44 => brS (decide (n44 < 0)) (tipS (Prod.fst
 x.2.2) x.2.1 fun (m45 : Nat) => needS (Nat.beq m45 x.1 && Nat.ble ((x.1 + 1) * 8) (140737488355328 : Nat)) ((∃ (x_1 : Heap), some (z28a l) = some (z28a l) /\ some (TV.v (.int .i64 (IntKind.wrap .i64 ((↑x.1 : Int)
 + (1 : Int))))) = some z28c /\ some (TV.v (.vslice (some x.2.1) (x.1 + 1) (x.1 + 1) 1 (List.map z28b (sortsA (List.take x.1 l)) ++ z28d))) = some z28e /\ Heap.set x.2.2.1 x.2.1 (IObj.tip (Prod.fst
 x + 1)) = x_1 /\ True /\ l.length < l.length) \/ ∃ (x_1 : Nat × Nat × Heap), some (z28a l) = some (z28a l) /\ some (TV.v (.int .i64 (IntKind.wrap .i64 ((↑x.1 : Int) + 1)))) = some (TV.v (.int .i64 (↑x_1.1 : Int))) /\ some (TV.v (.vslice
 (some x.2.1) (x.1 + 1) (x.1 + 1) (1 : Nat) (List.map z28b (sortsA (List.take x.1 l)) ++ z28d))) = some (TV.v (.vslice (some x_1.2.1) x_1.1 x_1.1 1 (List.map z28b (sortsA (List.take x_1.1 l)))))
 /\ Heap.set x.2.2.1 x.2.1 (IObj.tip (x.1 + 1)) = x_1.2.2 /\ ((0 < x_1.1 /\ x_1.1 <= l.length) /\ Heap.get x_1.2.2 x_1.2.1 = IObj.tip x_1.1 /\ Prod.fst (Prod.snd
 x_1) < Heap.next x_1.2.2) /\ l.length - x_1.1 < l.length)) (brS (decide (n44 >= (↑x.1 : Int))) (tipS x.2.2.1 x.2.1 fun (m46 : Nat) => needS (Nat.beq m46 x.1 && Nat.ble ((x.1 + 1) * 8)
 (140737488355328 : Nat)) ((∃ (x_1 : Heap), some (z28a l) = some (z28a l) /\ some (TV.v (.int .i64 (IntKind.wrap .i64 ((↑x.1 : Int) + 1)))) = some z28c /\ some (TV.v (.vslice (some x.2.1) (x.1 + 1) (x.1 + 1) 1 (List.map
 z28b (sortsA (List.take x.1 l)) ++ z28d))) = some z28e /\ Heap.set x.2.2.1 x.2.1 (IObj.tip (x.1 + 1)) = x_1 /\ True /\ l.length < l.length) \/ ∃ (x_1 : Nat × Nat × Heap), some (z28a l) = some (z28a l) /\ some (TV.v (.int .i64
 (IntKind.wrap .i64 ((↑x.1 : Int) + 1)))) = some (TV.v (.int .i64 (↑x_1.1 : Int))) /\ some (TV.v (.vslice (some x.2.1) (x.1 + 1) (x.1 + 1) 1 (List.map z28b (sortsA (List.take x.1 l)) ++ z28d)))
 = some (TV.v (.vslice (some x_1.2.1) x_1.1 x_1.1 1 (List.map z28b (sortsA (List.take x_1.1 l))))) /\ Heap.set x.2.2.1 x.2.1 (IObj.tip (x.1 + 1)) = x_1.2.2 /\ (((0 : Nat) <
 x_1.1 /\ x_1.1 <= l.length) /\ Heap.get x_1.2.2 x_1.2.1 = IObj.tip x_1.1 /\ x_1.2.1 < Heap.next x_1.2.2) /\ l.length - x_1.1 < l.length)) (needS (decide (0 <= n44) && decide (n44 < (↑(Prod.fst
 x) : Int))) (ldIS .i64 (List.map z28b (sortsA (List.take x.1 l))) (n44.toNat * 1) fun n47 => brS (n47 == 0) (tipS x.2.2.1 x.2.1 fun (m48 : Nat) => needS (Nat.beq m48 x.1 && Nat.ble ((x.1 + 1)
 * (8 : Nat)) (140737488355328 : Nat)) ((∃ (x_1 : Heap), some (z28a l) = some (z28a l) /\ some (TV.v (.int .i64 (IntKind.wrap .i64 ((↑x.1 : Int) + 1)))) = some z28c /\ some (TV.v (.vslice (some x.2.1) (x.1 + 1) (x.1 + 1)
 1 (List.map z28b (sortsA (List.take x.1 l)) ++ z28d))) = some z28e /\ Heap.set x.2.2.1 x.2.1 (IObj.tip (x.1 + 1)) = x_1 /\ True /\ l.length < l.length) \/ ∃ (x_1 : Nat × Nat × Heap), some (z28a l) = some (z28a l) /\ some
 (TV.v (.int .i64 (IntKind.wrap .i64 ((↑x.1 : Int) + 1)))) = some (TV.v (.int .i64 (↑x_1.1 : Int))) /\ some (TV.v (.vslice (some x.2.1) (x.1 + 1) (x.1 + 1) 1 (List.map z28b (sortsA (List.take (Prod.fst
 x) l)) ++ z28d))) = some (TV.v (.vslice (some x_1.2.1) x_1.1 x_1.1 1 (List.map z28b (sortsA (List.take x_1.1 l))))) /\ Heap.set x.2.2.1 x.2.1 (IObj.tip (x.1 + 1)) = x_1.2.2
 /\ ((0 < x_1.1 /\ x_1.1 <= l.length) /\ Heap.get x_1.2.2 x_1.2.1 = IObj.tip x_1.1 /\ x_1.2.1 < Heap.next x_1.2.2) /\ l.length - x_1.1 < l.length)) (needS (decide (0 <= n44) && decide
 (n44 < (↑x.1 : Int))) (ldIS .i64 (List.map z28b (sortsA (List.take x.1 l))) (n44.toNat * 1) fun n49 => tipS x.2.2.1 x.2.2.2.2.2 fun (m50 : Nat) => needS (Nat.beq m50 (List.length (Prod.fst
 x.2.2.2.2)) && Nat.ble ((x.2.2.2.2.1.length + 1) * 8) (140737488355328 : Nat)) ((∃ (x_1 : Heap), some (z28a l) = some (z28a l) /\ some (TV.v (.int .i64 (↑x.1 : Int))) = some z28c /\ some
 (TV.v (.vslice (some x.2.1) x.1 x.1 1 (List.map z28b (sortsA (List.take x.1 l))))) = some z28e /\ some (TV.v (.vslice (some x.2.2.2.2.2) (List.length (Prod.fst (Prod.snd (Prod.snd (Prod.snd (Prod.snd
 x))))) + 1) (x.2.2.2.2.1.length + 1) 1 (List.map z28b x.2.2.2.2.1 ++ [IV.int .i64 n49]))) = some z28e /\ some z28f = some z28f /\ some (TV.v (.int .i64 (IntKind.wrap .i64
 ((↑x.2.2.2.1 : Int) + 1)))) = some z28c /\ Heap.set x.2.2.1 x.2.2.2.2.2 (IObj.tip (x.2.2.2.2.1.length + 1)) = x_1 /\ Nat.le (1 :
 Nat) (z28m l) /\ l.length * 1000002 + kRest l (0 : Nat) 0 < (l.length - x.1) * 1000002 + kRest l x.1 x.2.2.2.1) \/ (∃ (x_1 : Nat × Nat × Heap), some (z28a l) = some (z28a l) /\ some (TV.v (.int .i64 (↑(Prod.fst
 x) : Int))) = some (TV.v (.int .i64 (↑x_1.1 : Int))) /\ some (TV.v (.vslice (some x.2.1) x.1 x.1 1 (List.map z28b (sortsA (List.take x.1 l))))) = some (TV.v (.vslice (some x_1.2.1) x_1.1 x_1.1
 1 (List.map z28b (sortsA (List.take x_1.1 l))))) /\ some (TV.v (.vslice (some x.2.2.2.2.2) (x.2.2.2.2.1.length + 1) (x.2.2.2.2.1.length
 + (1 : Nat)) 1 (List.map z28b x.2.2.2.2.1 ++ [IV.int .i64 n49]))) = some z28e /\ some z28f = some z28f /\ some (TV.v (.int .i64 (IntKind.wrap .i64 ((↑x.2.2.2.1 : Int) + 1)))) = some z28c
 /\ Heap.set x.2.2.1 x.2.2.2.2.2 (IObj.tip (x.2.2.2.2.1.length + 1)) = x_1.2.2 /\ (x_1.1 < l.length /\ SO l x_1.1 x_1.2.1
 x_1.2.2) /\ (l.length - x_1.1) * 1000002 + kRest l x_1.1 0 < (l.length - x.1) * 1000002 + kRest l x.1 x.2.2.2.1) \/ ∃ (x_1 : Nat × Nat × Heap × Nat × List Int × Nat), some (z28a l) =
 some (z28a l) /\ some (TV.v (.int .i64 (↑x.1 : Int))) = some (TV.v (.int .i64 (↑x_1.1 : Int))) /\ some (TV.v (.vslice (some x.2.1) x.1 x.1 1 (List.map z28b (sortsA (List.take x.1 l))))) = some (TV.v (.vslice (some
 x_1.2.1) x_1.1 x_1.1 1 (List.map z28b (sortsA (List.take x_1.1 l))))) /\ some (TV.v (.vslice (some x.2.2.2.2.2) (x.2.2.2.2.1.length + 1) (List.length
 x.2.2.2.2.1 + 1) 1 (List.map z28b x.2.2.2.2.1 ++ [IV.int .i64 n49]))) = some (TV.v (.vslice (some x_1.2.2.2.2.2) (List.length (Prod.fst (Prod.snd
 x_1.2.2.2))) x_1.2.2.2.2.1.length 1 (List.map z28b x_1.2.2.2.2.1))) /\ some z28f = some z28f /\ some (TV.v (.int .i64 (IntKind.wrap .i64 ((↑(Prod.fst (Prod.snd
 x.2.2)) : Int) + 1)))) = some (TV.v (.int .i64 (↑x_1.2.2.2.1 : Int))) /\ Heap.set x.2.2.1 x.2.2.2.2.2 (IObj.tip (List.length (Prod.fst (Prod.snd (Prod.snd (Prod.snd
 x.2)))) + 1)) = x_1.2.2.1 /\ (x_1.1 < l.length /\ SO l x_1.1 x_1.2.1 x_1.2.2.1 /\ SI l x_1.1 x_1.2.2.2.1 (Prod.fst (Prod.snd (Prod.snd (Prod.snd (Prod.snd
 x_1))))) /\ SK x_1.2.2.2.2.1 x_1.2.1 x_1.2.2.2.2.2 x_1.2.2.1) /\ (l.length - x_1.1) * 1000002 + kRest l x_1.1 (Prod.fst (Prod.snd (Prod.snd
 x_1.2))) < (l.length - x.1) * 1000002 + kRest l x.1 x.2.2.2.1))))))))) (needS (decide (0 <= (↑x.1 : Int)) && decide ((↑x.1 : Int) < (↑(z28m l) : Int))) (ldIS .i64 (z28h l) (Int.toNat (↑(Prod.fst
 x) : Int) * 3) fun n51 => ldIS .i64 (z28h l) (Int.toNat (↑x.1 : Int) * 3 + (1 : Nat)) fun n52 => ldVS 1 (z28h l) (Int.toNat (↑x.1 : Int) * 3 + (1 : Nat) + 1) fun (i53 : Option Nat) (e54 l55 : Nat) (c56 : List IV) => ∃ (l_1
 : List Nd), ∃ (ks k : List Int), (z28i l l_1) /\ (l55 = ks.length /\ c56 = List.map z28b ks) /\ (x.2.2.2.2.1.length = k.length /\ List.map z28b x.2.2.2.2.1 = List.map z28b k) /\ ((n51 ≠
 (25 : Int) /\ n51 ≠ 30 /\ n51 ≠ 31) /\ ks.length = k.length /\ k.length <= 1000000000) /\ tipS x.2.2.1 x.2.1 fun (m57 : Nat) => needS (Nat.beq m57 x.1 && Nat.ble ((x.1 + 1) * 8) (140737488355328
 : Nat)) ((∃ (x_1 : Heap), some (z28a l) = some (z28a l) /\ some (TV.v (.int .i64 (IntKind.wrap .i64 ((↑x.1 : Int) + 1)))) = some z28c /\ some (TV.v (.vslice (some x.2.1) (x.1 + 1) (x.1 + 1) 1 (List.map z28b (sortsA
 (List.take x.1 l)) ++ [IV.int .i64 (nsort n51 n52 k)]))) = some z28e /\ Heap.set x.2.2.1 x.2.1 (IObj.tip (x.1 + 1)) = x_1 /\ True /\ l.length < l.length) \/ ∃ (x_1 : Nat × Nat × Heap), some (z28a l) = some (z28a l) /\ some
 (TV.v (.int .i64 (IntKind.wrap .i64 ((↑x.1 : Int) + 1)))) = some (TV.v (.int .i64 (↑x_1.1 : Int))) /\ some (TV.v (.vslice (some x.2.1) (x.1 + 1) (x.1 + 1) 1 (List.map z28b (sortsA (List.take (Prod.fst
 x) l)) ++ [IV.int .i64 (nsort n51 n52 k)]))) = some (TV.v (.vslice (some x_1.2.1) x_1.1 x_1.1 1 (List.map z28b (sortsA (List.take x_1.1 l))))) /\ Heap.set x.2.2.1 x.2.1 (IObj.tip (x.1 + (1
 : Nat))) = x_1.2.2 /\ ((0 < x_1.1 /\ x_1.1 <= l.length) /\ Heap.get x_1.2.2 x_1.2.1 = IObj.tip x_1.1 /\ x_1.2.1 < Heap.next x_1.2.2) /\ l.length - x_1.1 < l.length)))))
 (Q (.vslice none 0 0 1 []) h)) /\ ∀ (x : Nat × Nat × Heap) (b : FF), SO l x.1 x.2.1 x.2.2 -> brS (decide ((↑x.1 : Int) < (↑(z28m l) : Int))) (∃ (M : Nat), ((∃ (x_1 : Heap), some (z28a l) = some (z28a l) /\ some (TV.v (.int
 .i64 (↑x.1 : Int))) = some z28c /\ some (TV.v (.vslice (some x.2.1) x.1 x.1 1 (List.map z28b (sortsA (List.take x.1 l))))) = some z28e /\ some z28e = some z28e /\ some z28f = some z28f /\ some z28c = some z28c /\ x.2.2
 = x_1 /\ Nat.le (1 : Nat) (z28m l) /\ l.length * 1000002 + kRest l (0 : Nat) 0 <= M) \/ (∃ (x_1 : Nat × Nat × Heap), some (z28a l) = some (z28a l) /\ some (TV.v (.int .i64 (↑x.1 : Int))) = some (TV.v (.int .i64 (↑x_1.1 : Int))) /\ some (TV.v (.vslice
 (some x.2.1) x.1 x.1 (1 : Nat) (List.map z28b (sortsA (List.take x.1 l))))) = some (TV.v (.vslice (some x_1.2.1) x_1.1 x_1.1 1 (List.map z28b (sortsA (List.take x_1.1 l))))) /\ some z28e = some z28e /\ some
 z28f = some z28f /\ some z28c = some z28c /\ x.2.2 = x_1.2.2 /\ (x_1.1 < l.length /\ SO l x_1.1 x_1.2.1 x_1.2.2) /\ (l.length - x_1.1) * 1000002 + kRest l x_1.1 0 <= M) \/ ∃ (x_1 : Nat
 × Nat × Heap × Nat × List Int × Nat), some (z28a l) = some (z28a l) /\ some (TV.v (.int .i64 (↑x.1 : Int))) = some (TV.v (.int .i64 (↑x_1.1 : Int))) /\ some (TV.v (.vslice (some x.2.1) x.1 x.1 1 (List.map z28b (sortsA (List.take
 x.1 l))))) = some (TV.v (.vslice (some x_1.2.1) x_1.1 x_1.1 1 (List.map z28b (sortsA (List.take x_1.1 l))))) /\ some z28e = some (TV.v (.vslice (some x_1.2.2.2.2.2) (List.length (Prod.fst (Prod.snd
 x_1.2.2.2))) x_1.2.2.2.2.1.length 1 (List.map z28b x_1.2.2.2.2.1))) /\ some z28f = some z28f /\ some z28c = some (TV.v (.int .i64 (↑(Prod.fst (Prod.snd (Prod.snd
 x_1.2))) : Int))) /\ x.2.2 = x_1.2.2.1 /\ (x_1.1 < l.length /\ SO l x_1.1 x_1.2.1 x_1.2.2.1 /\ SI l x_1.1 x_1.2.2.2.1 (Prod.fst (Prod.snd (Prod.snd
 x_1.2.2))) /\ SK x_1.2.2.2.2.1 x_1.2.1 x_1.2.2.2.2.2 x_1.2.2.1) /\ (l.length - x_1.1) * 1000002 + kRest l x_1.1 (Prod.fst
 x_1.2.2.2) <= M) /\ (∀ (x_1 : Heap) (b : FF), 0 < l.length -> l.length * 1000002 + kRest l (0 : Nat) 0 <= M -> needS (z28k l) (ldVS 1 (z28h l) 2 fun (i58 : Option Nat) (e59 l60 : Nat) (c61 : List IV) => brS (decide (0 < (↑l60
 : Int))) (needS (z28k l) (ldVS 1 (z28h l) 2 fun (i62 : Option Nat) (e63 l64 : Nat) (c65 : List IV) => needS (true && decide (0 < (↑l64 : Int))) (ldIS .i64 c65 0 fun n66 => brS (decide (n66 < 0)) ((∃ (x_2 : Heap), some (z28a l) = some (z28a l) /\ some
 z28g = some z28c /\ some (TV.v (.vslice (some (Heap.next x_1)) 1 1 1 z28d)) = some z28e /\ Heap.push x_1 z28j = x_2 /\ True /\ l.length < l.length - x.1) \/ ∃ (x_2 : Nat × Nat × Heap), some (z28a l) = some (z28a l) /\ some z28g = some (TV.v (.int .i64 (↑(Prod.fst
 x_2) : Int))) /\ some (TV.v (.vslice (some (Heap.next x_1)) 1 1 1 z28d)) = some (TV.v (.vslice (some x_2.2.1) x_2.1 x_2.1 1 (List.map z28b (sortsA (List.take x_2.1 l))))) /\ Heap.push x_1 z28j = x_2.2.2 /\ (((0
 : Nat) < x_2.1 /\ x_2.1 <= l.length) /\ Heap.get x_2.2.2 x_2.2.1 = IObj.tip x_2.1 /\ x_2.2.1 < Heap.next x_2.2.2) /\ l.length - x_2.1 < l.length - x.1) (brS (decide (n66 >= 0))
 ((∃ (x_2 : Heap), some (z28a l) = some (z28a l) /\ some z28g = some z28c /\ some (TV.v (.vslice (some (Heap.next x_1)) 1 1 1 z28d)) = some z28e /\ Heap.push x_1 z28j = x_2 /\ True /\ l.length < l.length - x.1) \/ ∃ (x_2 : Nat × Nat × Heap), some (z28a l) = some (z28a
 l) /\ some z28g = some (TV.v (.int .i64 (↑x_2.1 : Int))) /\ some (TV.v (.vslice (some (Heap.next x_1)) 1 1 1 z28d)) = some (TV.v (.vslice (some x_2.2.1) x_2.1 x_2.1 1 (List.map z28b (sortsA (List.take x_2.1
 l))))) /\ Heap.push x_1 z28j = x_2.2.2 /\ ((0 < x_2.1 /\ x_2.1 <= l.length) /\ Heap.get x_2.2.2 x_2.2.1 = IObj.tip x_2.1 /\ x_2.2.1 < Heap.next x_2.2.2) /\ l.length - x_2.1 <
 l.length - x.1) False)))) (needS (z28k l) (ldIS .i64 (z28h l) 0 fun n67 => ldIS .i64 (z28h l) 1 fun n68 => ldVS 1 (z28h l) 2 fun (i69 : Option Nat) (e70 l71 : Nat) (c72 : List IV) => ∃ (l_1 : List Nd), ∃ (ks : List Int), ∃ (k :
 List Int), (z28i l l_1) /\ (l71 = ks.length /\ c72 = List.map z28b ks) /\ (z28l k) /\ ((n67 ≠ 25 /\ n67 ≠ 30 /\ n67 ≠ 31) /\ ks.length = k.length /\ k.length <= 1000000000) /\ ((∃ (x_2 : Heap), some (z28a l) = some (z28a l) /\ some z28g = some z28c /\ some (TV.v
 (IV.vslice (some (Heap.next x_1)) 1 1 1 [IV.int .i64 (nsort n67 n68 k)])) = some z28e /\ Heap.push x_1 z28j = x_2 /\ True /\ l.length < l.length - x.1) \/ ∃ (x_2 : Nat × Nat × Heap), some (z28a l) = some (z28a l) /\ some z28g = some (TV.v (.int .i64
 (↑x_2.1 : Int))) /\ some (TV.v (.vslice (some (Heap.next x_1)) 1 1 1 [IV.int .i64 (nsort n67 n68 k)])) = some (TV.v (.vslice (some x_2.2.1) x_2.1 x_2.1 1 (List.map z28b (sortsA (List.take x_2.1 l))))) /\ Heap.push
 x_1 z28j = x_2.2.2 /\ ((0 < x_2.1 /\ x_2.1 <= l.length) /\ Heap.get x_2.2.2 x_2.2.1 = IObj.tip x_2.1 /\ x_2.2.1 < Heap.next x_2.2.2) /\ l.length - x_2.1 < l.length - Prod.fst
 x))))) /\ (∀ (x_1 : Nat × Nat × Heap) (b : FF), x_1.1 < l.length /\ SO l x_1.1 x_1.2.1 x_1.2.2 -> (l.length - x_1.1) * 1000002 + kRest l x_1.1 0 <= M -> needS (decide (0 <= (↑x_1.1 : Int)) && decide
 ((↑x_1.1 : Int) < (↑(z28m l) : Int))) (ldVS 1 (z28h l) (Int.toNat (↑x_1.1 : Int) * 3 + (2 : Nat)) fun (i73 : Option Nat) (e74 l75 : Nat) (c76 : List IV) => brS (decide (0 < (↑l75 : Int))) (needS (decide (0 <= (↑x_1.1 : Int)) && decide ((↑(Prod.fst
 x_1) : Int) < (↑(z28m l) : Int))) (ldVS 1 (z28h l) (Int.toNat (↑x_1.1 : Int) * 3 + (2 : Nat)) fun (i77 : Option Nat) (e78 l79 : Nat) (c80 : List IV) => needS (true && decide (0 < (↑l79 : Int))) (ldIS .i64 c80 0 fun n81 => brS (decide (n81 < (0 :
 Int))) (tipS x_1.2.2 x_1.2.1 fun (m82 : Nat) => needS (Nat.beq m82 x_1.1 && Nat.ble ((x_1.1 + 1) * 8) (140737488355328 : Nat)) ((∃ (x_2 : Heap), some (z28a l) = some (z28a l) /\ some (TV.v (.int .i64 (IntKind.wrap .i64
 ((↑x_1.1 : Int) + 1)))) = some z28c /\ some (TV.v (.vslice (some x_1.2.1) (x_1.1 + 1) (x_1.1 + 1) 1 (List.map z28b (sortsA (List.take x_1.1 l)) ++ z28d))) = some z28e /\ Heap.set x_1.2.2 (Prod.fst (Prod.snd
 x_1)) (IObj.tip (x_1.1 + 1)) = x_2 /\ True /\ l.length < l.length - x.1) \/ ∃ (x_2 : Nat × Nat × Heap), some (z28a l) = some (z28a l) /\ some (TV.v (.int .i64 (IntKind.wrap .i64 ((↑x_1.1 : Int) + 1)))) = some (TV.v (.int .i64 (↑(Prod.fst
 x_2) : Int))) /\ some (TV.v (.vslice (some x_1.2.1) (x_1.1 + 1) (x_1.1 + 1) 1 (List.map z28b (sortsA (List.take x_1.1 l)) ++ z28d))) = some (TV.v (.vslice (some x_2.2.1) x_2.1 x_2.1 1 (List.map
 z28b (sortsA (List.take x_2.1 l))))) /\ Heap.set x_1.2.2 x_1.2.1 (IObj.tip (x_1.1 + 1)) = x_2.2.2 /\ ((0 < x_2.1 /\ x_2.1 <= l.length) /\ Heap.get x_2.2.2 x_2.2.1 = IObj.tip
 x_2.1 /\ x_2.2.1 < Heap.next x_2.2.2) /\ l.length - x_2.1 < l.length - x.1)) (brS (decide (n81 >= (↑x_1.1 : Int))) (tipS x_1.2.2 x_1.2.1 fun (m83 : Nat) => needS (Nat.beq m83 x_1.1 &&
 Nat.ble ((x_1.1 + 1) * 8) (140737488355328 : Nat)) ((∃ (x_2 : Heap), some (z28a l) = some (z28a l) /\ some (TV.v (.int .i64 (IntKind.wrap .i64 ((↑x_1.1 : Int) + 1)))) = some z28c /\ some (TV.v (.vslice (some x_1.2.1) (Prod.fst
 x_1 + 1) (x_1.1 + 1) 1 (List.map z28b (sortsA (List.take x_1.1 l)) ++ z28d))) = some z28e /\ Heap.set x_1.2.2 x_1.2.1 (IObj.tip (x_1.1 + 1)) = x_2 /\ True /\ l.length < l.length - x.1) \/ ∃ (x_2 :
 Nat × Nat × Heap), some (z28a l) = some (z28a l) /\ some (TV.v (.int .i64 (IntKind.wrap .i64 ((↑x_1.1 : Int) + 1)))) = some (TV.v (.int .i64 (↑x_2.1 : Int))) /\ some (TV.v (.vslice (some x_1.2.1) (x_1.1 + 1) (Prod.fst
 x_1 + 1) 1 (List.map z28b (sortsA (List.take x_1.1 l)) ++ z28d))) = some (TV.v (.vslice (some x_2.2.1) x_2.1 x_2.1 1 (List.map z28b (sortsA (List.take x_2.1 l))))) /\ Heap.set x_1.2.2 (Prod.fst (Prod.snd
 x_1)) (IObj.tip (x_1.1 + 1)) = x_2.2.2 /\ ((0 < x_2.1 /\ x_2.1 <= l.length) /\ Heap.get x_2.2.2 x_2.2.1 = IObj.tip x_2.1 /\ x_2.2.1 < Heap.next x_2.2.2) /\ l.length
 - x_2.1 < l.length - x.1)) (needS (decide (0 <= n81) && decide (n81 < (↑x_1.1 : Int))) (ldIS .i64 (List.map z28b (sortsA (List.take x_1.1 l))) (n81.toNat * 1) fun n84 => brS (n84 == 0) (tipS x_1.2.2 (Prod.fst
 x_1.2) fun (m85 : Nat) => needS (Nat.beq m85 x_1.1 && Nat.ble ((x_1.1 + 1) * 8) (140737488355328 : Nat)) ((∃ (x_2 : Heap), some (z28a l) = some (z28a l) /\ some (TV.v (.int .i64 (IntKind.wrap .i64 ((↑x_1.1 : Int) + 1)))) = some
 z28c /\ some (TV.v (.vslice (some x_1.2.1) (x_1.1 + 1) (x_1.1 + 1) 1 (List.map z28b (sortsA (List.take x_1.1 l)) ++ z28d))) = some z28e /\ Heap.set x_1.2.2 x_1.2.1 (IObj.tip (x_1.1 + 1))
 = x_2 /\ True /\ l.length < l.length - x.1) \/ ∃ (x_2 : Nat × Nat × Heap), some (z28a l) = some (z28a l) /\ some (TV.v (.int .i64 (IntKind.wrap .i64 ((↑x_1.1 : Int) + 1)))) = some (TV.v (.int .i64 (↑x_2.1 : Int))) /\ some (TV.v (.vslice
 (some x_1.2.1) (x_1.1 + 1) (x_1.1 + 1) (1 : Nat) (List.map z28b (sortsA (List.take x_1.1 l)) ++ z28d))) = some (TV.v (.vslice (some x_2.2.1) x_2.1 x_2.1 1 (List.map z28b (sortsA (List.take (Prod.fst
 x_2) l))))) /\ Heap.set x_1.2.2 x_1.2.1 (IObj.tip (x_1.1 + 1)) = x_2.2.2 /\ ((0 < x_2.1 /\ x_2.1 <= l.length) /\ Heap.get x_2.2.2 x_2.2.1 = IObj.tip x_2.1 /\ Prod.fst (Prod.snd
 x_2) < Heap.next x_2.2.2) /\ l.length - x_2.1 < l.length - x.1)) (needS (decide (0 <= n81) && decide (n81 < (↑x_1.1 : Int))) (ldIS .i64 (List.map z28b (sortsA (List.take x_1.1 l))) (n81.toNat * 1) fun n86 =>
 (∃ (x : Heap), some (z28a l) = some (z28a l) /\ some (TV.v (.int .i64 (↑x_1.1 : Int))) = some z28c /\ some (TV.v (.vslice (some x_1.2.1) x_1.1 x_1.1 1 (List.map z28b (sortsA (List.take x_1.1 l))))) = some z28e /\ some (TV.v (.vslice
 (some (Heap.next x_1.2.2)) (1 : Nat) (1 : Nat) 1 [IV.int .i64 n86])) = some z28e /\ some z28f = some z28f /\ some z28g = some z28c /\ Heap.push x_1.2.2 z28j = x /\ Nat.le (1 : Nat) (z28m l) /\ l.length * 1000002 + kRest l (0 : Nat) (0 : Nat)
 < (l.length - x_1.1) * 1000002 + kRest l x_1.1 (0 : Nat)) \/ (∃ (x : Nat × Nat × Heap), some (z28a l) = some (z28a l) /\ some (TV.v (.int .i64 (↑x_1.1 : Int))) = some (TV.v (.int .i64 (↑x.1 : Int))) /\ some (TV.v (.vslice (some (Prod.fst
 x_1.2)) x_1.1 x_1.1 1 (List.map z28b (sortsA (List.take x_1.1 l))))) = some (TV.v (.vslice (some x.2.1) x.1 x.1 1 (List.map z28b (sortsA (List.take x.1 l))))) /\ some (TV.v (.vslice (some (Heap.next (Prod.snd
 x_1.2))) 1 1 1 [IV.int .i64 n86])) = some z28e /\ some z28f = some z28f /\ some z28g = some z28c /\ Heap.push x_1.2.2 z28j = x.2.2 /\ (x.1 < l.length /\ SO l x.1 x.2.1 x.2.2)
 /\ (l.length - x.1) * 1000002 + kRest l x.1 0 < (l.length - x_1.1) * 1000002 + kRest l x_1.1 (0 : Nat)) \/ ∃ (x : Nat × Nat × Heap × Nat × List Int × Nat), some (z28a l) = some (z28a l) /\ some (TV.v (.int .i64 (↑x_1.1 :
 Int))) = some (TV.v (.int .i64 (↑x.1 : Int))) /\ some (TV.v (.vslice (some x_1.2.1) x_1.1 x_1.1 1 (List.map z28b (sortsA (List.take x_1.1 l))))) = some (TV.v (.vslice (some x.2.1) x.1 x.1 (1
 : Nat) (List.map z28b (sortsA (List.take x.1 l))))) /\ some (TV.v (.vslice (some (Heap.next x_1.2.2)) 1 1 1 [IV.int .i64 n86])) = some (TV.v (.vslice (some x.2.2.2.2.2) (List.length (Prod.fst (Prod.snd
 x.2.2.2))) x.2.2.2.2.1.length 1 (List.map z28b x.2.2.2.2.1))) /\ some z28f = some z28f /\ some z28g = some (TV.v (.int .i64 (↑(Prod.fst (Prod.snd (Prod.snd (Prod.snd
 x)))) : Int))) /\ Heap.push x_1.2.2 z28j = x.2.2.1 /\ (x.1 < l.length /\ SO l x.1 x.2.1 x.2.2.1 /\ SI l x.1 x.2.2.2.1 (Prod.fst (Prod.snd (Prod.snd (Prod.snd
 x.2)))) /\ SK x.2.2.2.2.1 x.2.1 x.2.2.2.2.2 x.2.2.1) /\ (l.length - x.1) * 1000002 + kRest l x.1 (Prod.fst (Prod.snd (Prod.snd (Prod.snd
 x)))) < (l.length - x_1.1) * 1000002 + kRest l x_1.1 (0 : Nat))))))))) (needS (decide (0 <= (↑x_1.1 : Int)) && decide ((↑x_1.1 : Int) < (↑(z28m l) : Int))) (ldIS .i64 (z28h l) (Int.toNat (↑x_1.1 : Int) * 3) fun (n87 : Int)
 => ldIS .i64 (z28h l) (Int.toNat (↑x_1.1 : Int) * 3 + (1 : Nat)) fun n88 => ldVS 1 (z28h l) (Int.toNat (↑x_1.1 : Int) * 3 + (1 : Nat) + 1) fun (i89 : Option Nat) (e90 l91 : Nat) (c92 : List IV) => ∃ (l_1 : List Nd), ∃ (ks : List Int), ∃
 (k : List Int), (z28i l l_1) /\ (l91 = ks.length /\ c92 = List.map z28b ks) /\ (z28l k) /\ ((n87 ≠ 25 /\ n87 ≠ 30 /\ n87 ≠ 31) /\ ks.length = k.length /\ k.length <= 1000000000) /\ tipS x_1.2.2 x_1.2.1 fun (m93 : Nat) => needS
 (Nat.beq m93 x_1.1 && Nat.ble ((x_1.1 + 1) * 8) (140737488355328 : Nat)) ((∃ (x_2 : Heap), some (z28a l) = some (z28a l) /\ some (TV.v (.int .i64 (IntKind.wrap .i64 ((↑x_1.1 : Int) + 1)))) = some z28c /\ some (TV.v (.vslice (some (Prod.fst
 x_1.2)) (x_1.1 + 1) (x_1.1 + 1) 1 (List.map z28b (sortsA (List.take x_1.1 l)) ++ [IV.int .i64 (nsort n87 n88 k)]))) = some z28e /\ Heap.set x_1.2.2 x_1.2.1 (IObj.tip (x_1.1 + 1)) = x_2 /\ True
 /\ l.length < l.length - x.1) \/ ∃ (x_2 : Nat × Nat × Heap), some (z28a l) = some (z28a l) /\ some (TV.v (.int .i64 (IntKind.wrap .i64 ((↑x_1.1 : Int) + 1)))) = some (TV.v (.int .i64 (↑x_2.1 : Int))) /\ some (TV.v (.vslice (some (Prod.fst
 x_1.2)) (x_1.1 + 1) (x_1.1 + 1) 1 (List.map z28b (sortsA (List.take x_1.1 l)) ++ [IV.int .i64 (nsort n87 n88 k)]))) = some (TV.v (.vslice (some x_2.2.1) x_2.1 x_2.1 1 (List.map z28b (sortsA (List.take
 x_2.1 l))))) /\ Heap.set x_1.2.2 x_1.2.1 (IObj.tip (x_1.1 + 1)) = x_2.2.2 /\ ((0 < x_2.1 /\ x_2.1 <= l.length) /\ Heap.get x_2.2.2 x_2.2.1 = IObj.tip x_2.1 /\
 x_2.2.1 < Heap.next x_2.2.2) /\ l.length - x_2.1 < l.length - x.1))))) /\ ∀ (x_1 : Nat × Nat × Heap × Nat × List Int × Nat) (b : FF), x_1.1 < l.length /\ SO l x_1.1 x_1.2.1 x_1.2.2.1
 /\ SI l x_1.1 x_1.2.2.2.1 x_1.2.2.2.2.1 /\ SK x_1.2.2.2.2.1 x_1.2.1 x_1.2.2.2.2.2 (Prod.fst (Prod.snd (Prod.snd
 x_1))) -> (l.length - x_1.1) * 1000002 + kRest l x_1.1 x_1.2.2.2.1 <= M -> needS (decide (0 <= (↑x_1.1 : Int)) && decide ((↑x_1.1 : Int) < (↑(z28m l) : Int))) (ldVS 1 (z28h l) (Int.toNat (↑x_1.1 :
 Int) * 3 + (2 : Nat)) fun (i94 : Option Nat) (e95 l96 : Nat) (c97 : List IV) => brS (decide ((↑x_1.2.2.2.1 : Int) < (↑l96 : Int))) (needS (decide (0 <= (↑x_1.1 : Int)) && decide ((↑x_1.1 : Int) < (↑(z28m l) : Int))) (ldVS 1
 (z28h l) (Int.toNat (↑x_1.1 : Int) * 3 + (2 : Nat)) fun (i98 : Option Nat) (e99 l100 : Nat) (c101 : List IV) => needS (decide (0 <= (↑x_1.2.2.2.1 : Int)) && decide ((↑x_1.2.2.2.1 : Int) < (↑l100 : Int))) (ldIS
 .i64 c101 (Int.toNat (↑x_1.2.2.2.1 : Int) * 1) fun n102 => brS (decide (n102 < 0)) (tipS x_1.2.2.1 x_1.2.1 fun (m103 : Nat) => needS (Nat.beq m103 x_1.1 && Nat.ble ((x_1.1 +
 (1 : Nat)) * 8) (140737488355328 : Nat)) ((∃ (x_2 : Heap), some (z28a l) = some (z28a l) /\ some (TV.v (.int .i64 (IntKind.wrap .i64 ((↑x_1.1 : Int) + 1)))) = some z28c /\ some (TV.v (.vslice (some x_1.2.1) (x_1.1 + 1) (Prod.fst
 x_1 + 1) 1 (List.map z28b (sortsA (List.take x_1.1 l)) ++ z28d))) = some z28e /\ Heap.set x_1.2.2.1 x_1.2.1 (IObj.tip (x_1.1 + 1)) = x_2 /\ True /\ l.length < l.length - x.1) \/ ∃ (x_2 : Nat × Nat × Heap),
 some (z28a l) = some (z28a l) /\ some (TV.v (.int .i64 (IntKind.wrap .i64 ((↑x_1.1 : Int) + 1)))) = some (TV.v (.int .i64 (↑x_2.1 : Int))) /\ some (TV.v (.vslice (some x_1.2.1) (x_1.1 + 1) (x_1.1 + 1) (1
 : Nat) (List.map z28b (sortsA (List.take x_1.1 l)) ++ z28d))) = some (TV.v (.vslice (some x_2.2.1) x_2.1 x_2.1 1 (List.map z28b (sortsA (List.take x_2.1 l))))) /\ Heap.set x_1.2.2.1 x_1.2.1 (IObj.tip
 (x_1.1 + 1)) = x_2.2.2 /\ ((0 < x_2.1 /\ x_2.1 <= l.length) /\ Heap.get x_2.2.2 x_2.2.1 = IObj.tip x_2.1 /\ x_2.2.1 < Heap.next x_2.2.2) /\ l.length - x_2.1 <
 l.length - x.1)) (brS (decide (n102 >= (↑x_1.1 : Int))) (tipS x_1.2.2.1 x_1.2.1 fun (m104 : Nat) => needS (Nat.beq m104 x_1.1 && Nat.ble ((x_1.1 + 1) * 8) (140737488355328 : Nat)) ((∃ (x_2 : Heap), some (z28a
 l) = some (z28a l) /\ some (TV.v (.int .i64 (IntKind.wrap .i64 ((↑x_1.1 : Int) + 1)))) = some z28c /\ some (TV.v (.vslice (some x_1.2.1) (x_1.1 + 1) (x_1.1 + 1) 1 (List.map z28b (sortsA (List.take x_1.1
 l)) ++ z28d))) = some z28e /\ Heap.set x_1.2.2.1 x_1.2.1 (IObj.tip (x_1.1 + 1)) = x_2 /\ True /\ l.length < l.length - x.1) \/ ∃ (x_2 : Nat × Nat × Heap), some (z28a l) = some (z28a l) /\ some (TV.v (.int .i64 (IntKind.wrap
 .i64 ((↑x_1.1 : Int) + 1)))) = some (TV.v (.int .i64 (↑x_2.1 : Int))) /\ some (TV.v (.vslice (some x_1.2.1) (x_1.1 + 1) (x_1.1 + 1) 1 (List.map z28b (sortsA (List.take x_1.1 l)) ++ z28d))) = some
 (TV.v (.vslice (some x_2.2.1) x_2.1 x_2.1 1 (List.map z28b (sortsA (List.take x_2.1 l))))) /\ Heap.set x_1.2.2.1 x_1.2.1 (IObj.tip (x_1.1 + 1)) = x_2.2.2 /\ ((0 < Prod.fst
 x_2 /\ x_2.1 <= l.length) /\ Heap.get x_2.2.2 x_2.2.1 = IObj.tip x_2.1 /\ x_2.2.1 < Heap.next x_2.2.2) /\ l.length - x_2.1 < l.length - x.1)) (needS (decide (0 <= n102) && decide (n102
 < (↑x_1.1 : Int))) (ldIS .i64 (List.map z28b (sortsA (List.take x_1.1 l))) (n102.toNat * 1) fun n105 => brS (n105 == 0) (tipS x_1.2.2.1 x_1.2.1 fun (m106 : Nat) => needS (Nat.beq m106 x_1.1 && Nat.ble
 ((x_1.1 + 1) * 8) (140737488355328 : Nat)) ((∃ (x_2 : Heap), some (z28a l) = some (z28a l) /\ some (TV.v (.int .i64 (IntKind.wrap .i64 ((↑x_1.1 : Int) + 1)))) = some z28c /\ some (TV.v (.vslice (some x_1.2.1) (x_1.1 + (1
 : Nat)) (x_1.1 + 1) 1 (List.map z28b (sortsA (List.take x_1.1 l)) ++ z28d))) = some z28e /\ Heap.set x_1.2.2.1 x_1.2.1 (IObj.tip (x_1.1 + 1)) = x_2 /\ True /\ l.length < l.length - x.1) \/ ∃ (x_2
 : Nat × Nat × Heap), some (z28a l) = some (z28a l) /\ some (TV.v (.int .i64 (IntKind.wrap .i64 ((↑x_1.1 : Int) + 1)))) = some (TV.v (.int .i64 (↑x_2.1 : Int))) /\ some (TV.v (.vslice (some x_1.2.1) (x_1.1 + 1) (Prod.fst
 x_1 + 1) 1 (List.map z28b (sortsA (List.take x_1.1 l)) ++ z28d))) = some (TV.v (.vslice (some x_2.2.1) x_2.1 x_2.1 1 (List.map z28b (sortsA (List.take x_2.1 l))))) /\ Heap.set x_1.2.2.1 (Prod.fst
 x_1.2) (IObj.tip (x_1.1 + 1)) = x_2.2.2 /\ ((0 < x_2.1 /\ x_2.1 <= l.length) /\ Heap.get x_2.2.2 x_2.2.1 = IObj.tip x_2.1 /\ x_2.2.1 < Heap.next x_2.2.2) /\ List.length
 l - x_2.1 < l.length - x.1)) (needS (decide (0 <= n102) && decide (n102 < (↑x_1.1 : Int))) (ldIS .i64 (List.map z28b (sortsA (List.take x_1.1 l))) (n102.toNat * 1) fun n107 => tipS x_1.2.2.1 (Prod.snd (Prod.snd
 x_1.2.2.2)) fun (m108 : Nat) => needS (Nat.beq m108 x_1.2.2.2.2.1.length && Nat.ble ((x_1.2.2.2.2.1.length + 1) * 8) (140737488355328 : Nat)) ((∃ (x : Heap),
 some (z28a l) = some (z28a l) /\ some (TV.v (.int .i64 (↑x_1.1 : Int))) = some z28c /\ some (TV.v (.vslice (some x_1.2.1) x_1.1 x_1.1 1 (List.map z28b (sortsA (List.take x_1.1 l))))) = some z28e /\ some (TV.v (.vslice (some (Prod.snd
 x_1.2.2.2.2)) (x_1.2.2.2.2.1.length + 1) (x_1.2.2.2.2.1.length + 1) 1 (List.map z28b x_1.2.2.2.2.1
 ++ [IV.int .i64 n107]))) = some z28e /\ some z28f = some z28f /\ some (TV.v (.int .i64 (IntKind.wrap .i64 ((↑x_1.2.2.2.1 : Int) + 1)))) = some z28c /\ Heap.set x_1.2.2.1 (Prod.snd (Prod.snd (Prod.snd (Prod.snd
 x_1.2)))) (IObj.tip (x_1.2.2.2.2.1.length + 1)) = x /\ Nat.le (1 : Nat) (z28m l) /\ l.length * 1000002 + kRest l (0 : Nat) 0 < (l.length - x_1.1) * 1000002 + kRest l x_1.1 (Prod.fst (Prod.snd
 x_1.2.2))) \/ (∃ (x : Nat × Nat × Heap), some (z28a l) = some (z28a l) /\ some (TV.v (.int .i64 (↑x_1.1 : Int))) = some (TV.v (.int .i64 (↑x.1 : Int))) /\ some (TV.v (.vslice (some x_1.2.1) x_1.1 x_1.1 1
 (List.map z28b (sortsA (List.take x_1.1 l))))) = some (TV.v (.vslice (some x.2.1) x.1 x.1 1 (List.map z28b (sortsA (List.take x.1 l))))) /\ some (TV.v (.vslice (some x_1.2.2.2.2.2) (List.length
 x_1.2.2.2.2.1 + 1) (x_1.2.2.2.2.1.length + 1) 1 (List.map z28b x_1.2.2.2.2.1 ++ [IV.int .i64 n107]))) = some z28e /\ some z28f = some
 z28f /\ some (TV.v (.int .i64 (IntKind.wrap .i64 ((↑x_1.2.2.2.1 : Int) + 1)))) = some z28c /\ Heap.set x_1.2.2.1 x_1.2.2.2.2.2 (IObj.tip (List.length (Prod.fst (Prod.snd (Prod.snd
 x_1.2.2))) + 1)) = x.2.2 /\ (x.1 < l.length /\ SO l x.1 x.2.1 x.2.2) /\ (l.length - x.1) * 1000002 + kRest l x.1 0 < (l.length - x_1.1) * 1000002 +
 kRest l x_1.1 x_1.2.2.2.1) \/ ∃ (x : Nat × Nat × Heap × Nat × List Int × Nat), some (z28a l) = some (z28a l) /\ some (TV.v (.int .i64 (↑x_1.1 : Int))) = some (TV.v (.int .i64 (↑x.1 : Int))) /\ some (TV.v (.vslice (some (Prod.fst
 x_1.2)) x_1.1 x_1.1 1 (List.map z28b (sortsA (List.take x_1.1 l))))) = some (TV.v (.vslice (some x.2.1) x.1 x.1 1 (List.map z28b (sortsA (List.take x.1 l))))) /\ some (TV.v (.vslice (some (Prod.snd (Prod.snd
 x_1.2.2.2))) (x_1.2.2.2.2.1.length + 1) (x_1.2.2.2.2.1.length + 1) 1 (List.map z28b x_1.2.2.2.2.1 ++ [IV.int
 .i64 n107]))) = some (TV.v (.vslice (some x.2.2.2.2.2) x.2.2.2.2.1.length x.2.2.2.2.1.length 1 (List.map z28b (Prod.fst (Prod.snd (Prod.snd
 x.2.2)))))) /\ some z28f = some z28f /\ some (TV.v (.int .i64 (IntKind.wrap .i64 ((↑x_1.2.2.2.1 : Int) + 1)))) = some (TV.v (.int .i64 (↑x.2.2.2.1 : Int))) /\ Heap.set (Prod.fst (Prod.snd
 x_1.2)) x_1.2.2.2.2.2 (IObj.tip (x_1.2.2.2.2.1.length + 1)) = x.2.2.1 /\ (x.1 < l.length /\ SO l x.1 x.2.1 (Prod.fst (Prod.snd
 x.2)) /\ SI l x.1 x.2.2.2.1 x.2.2.2.2.1 /\ SK x.2.2.2.2.1 x.2.1 x.2.2.2.2.2 (Prod.fst (Prod.snd
 x.2))) /\ (l.length - x.1) * 1000002 + kRest l x.1 x.2.2.2.1 < (l.length - x_1.1) * 1000002 + kRest l x_1.1 x_1.2.2.2.1))))))))) (needS (decide (0 <= (↑(Prod.fst
 x_1) : Int)) && decide ((↑x_1.1 : Int) < (↑(z28m l) : Int))) (ldIS .i64 (z28h l) (Int.toNat (↑x_1.1 : Int) * 3) fun n109 => ldIS .i64 (z28h l) (Int.toNat (↑x_1.1 : Int) * 3 + (1 : Nat)) fun n110 => ldVS 1 (z28h l) (Int.toNat
 (↑x_1.1 : Int) * 3 + (1 : Nat) + 1) fun (i111 : Option Nat) (e112 l113 : Nat) (c114 : List IV) => ∃ (l_1 : List Nd), ∃ (ks k : List Int), (z28i l l_1) /\ (l113 = ks.length /\ c114 = List.map z28b ks) /\ (List.length (Prod.fst (Prod.snd (Prod.snd (Prod.snd (Prod.snd
 x_1))))) = k.length /\ List.map z28b x_1.2.2.2.2.1 = List.map z28b k) /\ ((n109 ≠ 25 /\ n109 ≠ 30 /\ n109 ≠ 31) /\ ks.length = k.length /\ k.length <= 1000000000) /\ tipS x_1.2.2.1 (Prod.fst
 x_1.2) fun (m115 : Nat) => needS (Nat.beq m115 x_1.1 && Nat.ble ((x_1.1 + 1) * 8) (140737488355328 : Nat)) ((∃ (x_2 : Heap), some (z28a l) = some (z28a l) /\ some (TV.v (.int .i64 (IntKind.wrap .i64 ((↑x_1.1 : Int) + 1)))) = some
 z28c /\ some (TV.v (.vslice (some x_1.2.1) (x_1.1 + 1) (x_1.1 + 1) 1 (List.map z28b (sortsA (List.take x_1.1 l)) ++ [IV.int .i64 (nsort n109 n110 k)]))) = some z28e /\ Heap.set x_1.2.2.1 (Prod.fst (Prod.snd
 x_1)) (IObj.tip (x_1.1 + 1)) = x_2 /\ True /\ l.length < l.length - x.1) \/ ∃ (x_2 : Nat × Nat × Heap), some (z28a l) = some (z28a l) /\ some (TV.v (.int .i64 (IntKind.wrap .i64 ((↑x_1.1 : Int) + 1)))) = some (TV.v (.int .i64 (↑(Prod.fst
 x_2) : Int))) /\ some (TV.v (.vslice (some x_1.2.1) (x_1.1 + 1) (x_1.1 + 1) 1 (List.map z28b (sortsA (List.take x_1.1 l)) ++ [IV.int .i64 (nsort n109 n110 k)]))) = some (TV.v (.vslice (some x_2.2.1) (Prod.fst
 x_2) x_2.1 1 (List.map z28b (sortsA (List.take x_2.1 l))))) /\ Heap.set x_1.2.2.1 x_1.2.1 (IObj.tip (x_1.1 + 1)) = x_2.2.2 /\ ((0 < x_2.1 /\ x_2.1 <= l.length) /\ Heap.get (Prod.snd
 x_2.2) x_2.2.1 = IObj.tip x_2.1 /\ x_2.2.1 < Heap.next x_2.2.2) /\ l.length - x_2.1 < l.length - x.1))))) (needS (pureL [IV.vslice none 0 x.1 1 (List.map z28b (sortsA (List.take (Prod.fst
 x) l)))]) (Q (.vslice none 0 x.1 1 (List.map z28b (sortsA (List.take x.1 l)))) h)))) := by kernel_rfl
set_option maxHeartbeats 2000000 in
theorem sSorts : ∀ xs h Q, kSorts xs h Q -> CallW env 28 xs h Q := by
 intro xs h Q hk
 unfold kSorts at hk
 split at hk
 ·rename_i e1 n1 c1
  obtain ⟨l, ⟨rfl, rfl⟩, hb, hk⟩ := hk
  refine dF_run (okNSort) (vSorts l e1 h Q) ?_
  delta z28a z28b z28c z28d z28e z28f z28g z28h z28i z28j z28k z28l z28m
  have tn : ∀ x : Nat, (x : Int).toNat = x := Int.toNat_natCast
  obtain ⟨hb1, hbl⟩ := hb
  have hel : ∀ {i : Nat} (h : i < l.length), l[i].ks.length <= 1000000 := fun h => (hb1 _ (List.getElem_mem h)).1
  have hkr : ∀ i, kRest l i 0 <= 1000000 := fun i => by
   rcases Nat.lt_or_ge i l.length with q | q
   ·rw [kRest_at q]
    have := hel q
    omega
   ·unfold kRest
    rw [List.getElem?_eq_none q]
    exact Nat.zero_le _
  refine needS_intro (by simp only [pureL, pureB, pureL_cN, Bool.and_true]) ⟨.inl ⟨Heap.empty, (by first | rfl | exact True.intro), (by first | rfl | exact True.intro), (by first | rfl | exact True.intro), (by first | rfl | exact True.intro), trivial, trivial⟩, ?_, ?_⟩
  ·rintro g _ _
   refine brS_intro (fun c => ?_) (fun c => ?_)
   ·rw [decide_eq_true_eq] at c
    have hlt0 : 0 < l.length := by omega
    refine ⟨l.length * 1000002 + kRest l 0 0, .inl ⟨g, (by first | rfl | exact True.intro), (by first | rfl | exact True.intro), (by first | rfl | exact True.intro), (by first | rfl | exact True.intro), (by first | rfl | exact True.intro), (by first | rfl | exact True.intro), (by first | rfl | exact True.intro), hlt0, Nat.le_refl _⟩, ?_, ?_, ?_⟩
    ·rintro g _ hlt hM
     refine needS_intro (by simp; omega) (ldNk hlt rfl (brS_intro (fun c1 => ?_) (fun c1 => ?_)))
     ·rw [decide_eq_true_eq] at c1
      have hj : 0 < l[0].ks.length := by omega
      have hm : l[0].ks[0] ∈ l[0].ks := List.getElem_mem hj
      refine needS_intro (by simp; omega) (ldNk hlt rfl (needS_intro (by simp; omega) (ldI1 hj rfl (brS_intro (fun c2 => ?_) (fun c2 => brS_intro (fun c3 => ?_) (fun c3 => ?_))))))
      ·rw [decide_eq_true_eq] at c2
       exact (.inr ⟨(1, g.next, g.push (.tip 1)), (by first | rfl | exact True.intro), (by first | rfl | exact True.intro), (by rw [sortsA_step hlt, sstep_bad hm (kidOk_neg c2)]; rfl), (by first | rfl | exact True.intro), ⟨⟨Nat.one_pos, hlt⟩, get_push_eq, Nat.lt_succ_self _⟩, by dsimp only; omega⟩)
      ·rw [decide_eq_true_eq] at c3
       exact (.inr ⟨(1, g.next, g.push (.tip 1)), (by first | rfl | exact True.intro), (by first | rfl | exact True.intro), (by rw [sortsA_step hlt, sstep_bad hm (kidOk_big (by show (0 : Int) <= _; omega))]; rfl), (by first | rfl | exact True.intro), ⟨⟨Nat.one_pos, hlt⟩, get_push_eq, Nat.lt_succ_self _⟩, by dsimp only; omega⟩)
      ·rw [decide_eq_false_iff_not] at c2 c3
       omega
     ·rw [decide_eq_false_iff_not] at c1
      have hl := (SI.zero hlt).last hlt (by omega)
      refine needS_intro (by simp; omega) (ldNd (i := 0) (o := 0) hlt rfl ⟨l, l[0].ks, [], ⟨rfl, rfl⟩, ⟨rfl, rfl⟩, ⟨rfl, rfl⟩, ⟨(hb1 _ (List.getElem_mem hlt)).2, hl.2.symm, by simp⟩, ?_⟩)
      exact (.inr ⟨(1, g.next, g.push (.tip 1)), (by first | rfl | exact True.intro), (by first | rfl | exact True.intro), (by rw [sortsA_step hlt, show sstep (sortsA (l.take 0)) l[0] = nsort l[0].op l[0].im [] from hl.1]; rfl), (by first | rfl | exact True.intro), ⟨⟨Nat.one_pos, hlt⟩, get_push_eq, Nat.lt_succ_self _⟩, by dsimp only; omega⟩)
    ·rintro ⟨i, id, g⟩ _ ⟨hi, ⟨⟨hi0, hi1⟩, hg, hid⟩⟩ hM
     dsimp only at hi hi0 hi1 hg hid hM ⊢
     have hol : (sortsA (l.take i)).length = i := by rw [sortsA_len, List.length_take]; omega
     have hkl := hel hi
     simp only [kRest_at hi] at hM
     refine needS_intro (by simp; omega) (ldNk hi (by rw [tn]) (brS_intro (fun c1 => ?_) (fun c1 => ?_)))
     ·rw [decide_eq_true_eq] at c1
      have hj : 0 < l[i].ks.length := by omega
      have hm : l[i].ks[0] ∈ l[i].ks := List.getElem_mem hj
      refine needS_intro (by simp; omega) (ldNk hi (by rw [tn]) (needS_intro (by simp; omega) (ldI1 hj rfl (brS_intro (fun c2 => ?_) (fun c2 => brS_intro (fun c3 => ?_) (fun c3 => ?_))))))
      ·rw [decide_eq_true_eq] at c2
       exact tip_intro hg (needS_intro (by simp only [Nat.mul_one, Bool.and_eq_true, nbeq_t, Nat.ble_eq, true_and]; omega) (.inr ⟨(i + 1, id, g.set id (.tip (i + 1))), (by first | rfl | exact True.intro), (by rw [IntWalk.i64_in _ (by omega)]; rfl), (by rw [sortsA_step hi, sstep_bad hm (kidOk_neg c2)]; simp), (by first | rfl | exact True.intro), ⟨⟨Nat.succ_pos _, hi⟩, get_set_eq, hid⟩, by dsimp only; omega⟩))
      ·rw [decide_eq_true_eq] at c3
       exact tip_intro hg (needS_intro (by simp only [Nat.mul_one, Bool.and_eq_true, nbeq_t, Nat.ble_eq, true_and]; omega) (.inr ⟨(i + 1, id, g.set id (.tip (i + 1))), (by first | rfl | exact True.intro), (by rw [IntWalk.i64_in _ (by omega)]; rfl), (by rw [sortsA_step hi, sstep_bad hm (kidOk_big (by omega))]; simp), (by first | rfl | exact True.intro), ⟨⟨Nat.succ_pos _, hi⟩, get_set_eq, hid⟩, by dsimp only; omega⟩))
      rw [decide_eq_false_iff_not] at c2 c3
      have hq : (l[i].ks[0]).toNat < (sortsA (l.take i)).length := by omega
      refine needS_intro (by simp; omega) (ldI1 hq (Nat.mul_one _) (brS_intro (fun c4 => ?_) (fun c4 => ?_)))
      ·rw [beq_iff_eq] at c4
       exact tip_intro hg (needS_intro (by simp only [Nat.mul_one, Bool.and_eq_true, nbeq_t, Nat.ble_eq, true_and]; omega) (.inr ⟨(i + 1, id, g.set id (.tip (i + 1))), (by first | rfl | exact True.intro), (by rw [IntWalk.i64_in _ (by omega)]; rfl), (by rw [sortsA_step hi, sstep_bad hm (kidOk_zero hq c4)]; simp), (by first | rfl | exact True.intro), ⟨⟨Nat.succ_pos _, hi⟩, get_set_eq, hid⟩, by dsimp only; omega⟩))
      rw [beq_eq_false_iff_ne] at c4
      obtain ⟨k1, k2⟩ := kidOk_intro (by omega) hq c4
      have hs := (SI.zero hi).step hi hj k1
      rw [k2] at hs
      refine needS_intro (by simp; omega) (ldI1 hq (Nat.mul_one _) (.inr (.inr ⟨(i, id, g.push (.tip 1), 1, [(sortsA (l.take i))[(l[i].ks[0]).toNat]], g.next), (by first | rfl | exact True.intro), (by first | rfl | exact True.intro), (by first | rfl | exact True.intro), (by first | rfl | exact True.intro), (by first | rfl | exact True.intro), (by first | rfl | exact True.intro), (by first | rfl | exact True.intro), ⟨hi, ⟨⟨hi0, hi1⟩, by rw [get_push_lt hid]; exact hg, Nat.lt_succ_of_lt hid⟩, hs, ⟨Nat.one_pos, get_push_eq, Nat.lt_succ_self _, by dsimp only; omega⟩⟩, ?_⟩)))
      dsimp only
      rw [kRest_at hi, kRest_at hi]
      omega
     ·rw [decide_eq_false_iff_not] at c1
      have hl := (SI.zero hi).last hi (by omega)
      refine needS_intro (by simp; omega) (ldNd hi (by rw [tn]) ⟨l, l[i].ks, [], ⟨rfl, rfl⟩, ⟨rfl, rfl⟩, ⟨rfl, rfl⟩, ⟨(hb1 _ (List.getElem_mem hi)).2, hl.2.symm, by simp⟩, ?_⟩)
      exact tip_intro hg (needS_intro (by simp only [Nat.mul_one, Bool.and_eq_true, nbeq_t, Nat.ble_eq, true_and]; omega) (.inr ⟨(i + 1, id, g.set id (.tip (i + 1))), (by first | rfl | exact True.intro), (by rw [IntWalk.i64_in _ (by omega)]; rfl), (by rw [sortsA_step hi, hl.1]; simp), (by first | rfl | exact True.intro), ⟨⟨Nat.succ_pos _, hi⟩, get_set_eq, hid⟩, by dsimp only; omega⟩))
    ·rintro ⟨i, id, g, j, k, idK⟩ _ ⟨hi, ⟨⟨hi0, hi1⟩, hg, hid⟩, hsi, ⟨hk0, hkg, hkid, hkne⟩⟩ hM
     dsimp only at hi hi0 hi1 hg hid hsi hk0 hkg hkid hkne hM ⊢
     have hol : (sortsA (l.take i)).length = i := by rw [sortsA_len, List.length_take]; omega
     have hkl := hel hi
     have hkj : k.length = j := by obtain ⟨n, _, h2, _⟩ := hsi; exact h2.2
     simp only [kRest_at hi] at hM
     refine needS_intro (by simp; omega) (ldNk hi (by rw [tn]) (brS_intro (fun c1 => ?_) (fun c1 => ?_)))
     ·rw [decide_eq_true_eq] at c1
      have hj : j < l[i].ks.length := by omega
      have hm : l[i].ks[j] ∈ l[i].ks := List.getElem_mem hj
      refine needS_intro (by simp; omega) (ldNk hi (by rw [tn]) (needS_intro (by simp; omega) (ldI1 hj (by rw [Nat.mul_one, tn]) (brS_intro (fun c2 => ?_) (fun c2 => brS_intro (fun c3 => ?_) (fun c3 => ?_))))))
      ·rw [decide_eq_true_eq] at c2
       exact tip_intro hg (needS_intro (by simp only [Nat.mul_one, Bool.and_eq_true, nbeq_t, Nat.ble_eq, true_and]; omega) (.inr ⟨(i + 1, id, g.set id (.tip (i + 1))), (by first | rfl | exact True.intro), (by rw [IntWalk.i64_in _ (by omega)]; rfl), (by rw [sortsA_step hi, sstep_bad hm (kidOk_neg c2)]; simp), (by first | rfl | exact True.intro), ⟨⟨Nat.succ_pos _, hi⟩, get_set_eq, hid⟩, by dsimp only; omega⟩))
      ·rw [decide_eq_true_eq] at c3
       exact tip_intro hg (needS_intro (by simp only [Nat.mul_one, Bool.and_eq_true, nbeq_t, Nat.ble_eq, true_and]; omega) (.inr ⟨(i + 1, id, g.set id (.tip (i + 1))), (by first | rfl | exact True.intro), (by rw [IntWalk.i64_in _ (by omega)]; rfl), (by rw [sortsA_step hi, sstep_bad hm (kidOk_big (by omega))]; simp), (by first | rfl | exact True.intro), ⟨⟨Nat.succ_pos _, hi⟩, get_set_eq, hid⟩, by dsimp only; omega⟩))
      rw [decide_eq_false_iff_not] at c2 c3
      have hq : (l[i].ks[j]).toNat < (sortsA (l.take i)).length := by omega
      refine needS_intro (by simp; omega) (ldI1 hq (Nat.mul_one _) (brS_intro (fun c4 => ?_) (fun c4 => ?_)))
      ·rw [beq_iff_eq] at c4
       exact tip_intro hg (needS_intro (by simp only [Nat.mul_one, Bool.and_eq_true, nbeq_t, Nat.ble_eq, true_and]; omega) (.inr ⟨(i + 1, id, g.set id (.tip (i + 1))), (by first | rfl | exact True.intro), (by rw [IntWalk.i64_in _ (by omega)]; rfl), (by rw [sortsA_step hi, sstep_bad hm (kidOk_zero hq c4)]; simp), (by first | rfl | exact True.intro), ⟨⟨Nat.succ_pos _, hi⟩, get_set_eq, hid⟩, by dsimp only; omega⟩))
      rw [beq_eq_false_iff_ne] at c4
      obtain ⟨k1, k2⟩ := kidOk_intro (by omega) hq c4
      have hs := hsi.step hi hj k1
      rw [k2] at hs
      refine needS_intro (by simp; omega) (ldI1 hq (Nat.mul_one _) (tip_intro hkg (needS_intro (by simp only [Nat.mul_one, Bool.and_eq_true, nbeq_t, Nat.ble_eq, true_and]; omega) (.inr (.inr ⟨(i, id, g.set idK (.tip (k.length + 1)), j + 1, k ++ [(sortsA (l.take i))[(l[i].ks[j]).toNat]], idK), (by first | rfl | exact True.intro), (by first | rfl | exact True.intro), (by first | rfl | exact True.intro), ?_, (by first | rfl | exact True.intro), ?_, (by first | rfl | exact True.intro), ⟨hi, ⟨⟨hi0, hi1⟩, by rw [get_set_ne hkne.symm]; exact hg, hid⟩, hs, ⟨by simp, by rw [get_set_eq]; simp, hkid, hkne⟩⟩, ?_⟩)))))
      ·simp
      ·rw [IntWalk.i64_in _ (by omega)]; rfl
      ·dsimp only
       rw [kRest_at hi, kRest_at hi]
       omega
     ·rw [decide_eq_false_iff_not] at c1
      have hl := hsi.last hi (by omega)
      refine needS_intro (by simp; omega) (ldNd hi (by rw [tn]) ⟨l, l[i].ks, k, ⟨rfl, rfl⟩, ⟨rfl, rfl⟩, ⟨rfl, rfl⟩, ⟨(hb1 _ (List.getElem_mem hi)).2, hl.2.symm, by omega⟩, ?_⟩)
      exact tip_intro hg (needS_intro (by simp only [Nat.mul_one, Bool.and_eq_true, nbeq_t, Nat.ble_eq, true_and]; omega) (.inr ⟨(i + 1, id, g.set id (.tip (i + 1))), (by first | rfl | exact True.intro), (by rw [IntWalk.i64_in _ (by omega)]; rfl), (by rw [sortsA_step hi, hl.1]; simp), (by first | rfl | exact True.intro), ⟨⟨Nat.succ_pos _, hi⟩, get_set_eq, hid⟩, by dsimp only; omega⟩))
   ·rw [decide_eq_false_iff_not] at c
    have : l = [] := List.eq_nil_of_length_eq_zero (by omega)
    subst this
    exact hk
  ·rintro ⟨i0, id0, g0⟩ _ ⟨⟨hp0, hp1⟩, hpg, hpid⟩
   dsimp only at hp0 hp1 hpg hpid ⊢
   have hkr0 := hkr i0
   refine brS_intro (fun c => ?_) (fun c => ?_)
   ·rw [decide_eq_true_eq] at c
    have hlt0 : i0 < l.length := by omega
    refine ⟨(l.length - i0) * 1000002 + kRest l i0 0, .inr (.inl ⟨(i0, id0, g0), (by first | rfl | exact True.intro), (by first | rfl | exact True.intro), (by first | rfl | exact True.intro), (by first | rfl | exact True.intro), (by first | rfl | exact True.intro), (by first | rfl | exact True.intro), (by first | rfl | exact True.intro), ⟨hlt0, ⟨⟨hp0, hp1⟩, hpg, hpid⟩⟩, Nat.le_refl _⟩), ?_, ?_, ?_⟩
    ·rintro g _ hlt hM
     exfalso
     omega
    ·rintro ⟨i, id, g⟩ _ ⟨hi, ⟨⟨hi0, hi1⟩, hg, hid⟩⟩ hM
     dsimp only at hi hi0 hi1 hg hid hM ⊢
     have hol : (sortsA (l.take i)).length = i := by rw [sortsA_len, List.length_take]; omega
     have hkl := hel hi
     simp only [kRest_at hi] at hM
     refine needS_intro (by simp; omega) (ldNk hi (by rw [tn]) (brS_intro (fun c1 => ?_) (fun c1 => ?_)))
     ·rw [decide_eq_true_eq] at c1
      have hj : 0 < l[i].ks.length := by omega
      have hm : l[i].ks[0] ∈ l[i].ks := List.getElem_mem hj
      refine needS_intro (by simp; omega) (ldNk hi (by rw [tn]) (needS_intro (by simp; omega) (ldI1 hj rfl (brS_intro (fun c2 => ?_) (fun c2 => brS_intro (fun c3 => ?_) (fun c3 => ?_))))))
      ·rw [decide_eq_true_eq] at c2
       exact tip_intro hg (needS_intro (by simp only [Nat.mul_one, Bool.and_eq_true, nbeq_t, Nat.ble_eq, true_and]; omega) (.inr ⟨(i + 1, id, g.set id (.tip (i + 1))), (by first | rfl | exact True.intro), (by rw [IntWalk.i64_in _ (by omega)]; rfl), (by rw [sortsA_step hi, sstep_bad hm (kidOk_neg c2)]; simp), (by first | rfl | exact True.intro), ⟨⟨Nat.succ_pos _, hi⟩, get_set_eq, hid⟩, by dsimp only; omega⟩))
      ·rw [decide_eq_true_eq] at c3
       exact tip_intro hg (needS_intro (by simp only [Nat.mul_one, Bool.and_eq_true, nbeq_t, Nat.ble_eq, true_and]; omega) (.inr ⟨(i + 1, id, g.set id (.tip (i + 1))), (by first | rfl | exact True.intro), (by rw [IntWalk.i64_in _ (by omega)]; rfl), (by rw [sortsA_step hi, sstep_bad hm (kidOk_big (by omega))]; simp), (by first | rfl | exact True.intro), ⟨⟨Nat.succ_pos _, hi⟩, get_set_eq, hid⟩, by dsimp only; omega⟩))
      rw [decide_eq_false_iff_not] at c2 c3
      have hq : (l[i].ks[0]).toNat < (sortsA (l.take i)).length := by omega
      refine needS_intro (by simp; omega) (ldI1 hq (Nat.mul_one _) (brS_intro (fun c4 => ?_) (fun c4 => ?_)))
      ·rw [beq_iff_eq] at c4
       exact tip_intro hg (needS_intro (by simp only [Nat.mul_one, Bool.and_eq_true, nbeq_t, Nat.ble_eq, true_and]; omega) (.inr ⟨(i + 1, id, g.set id (.tip (i + 1))), (by first | rfl | exact True.intro), (by rw [IntWalk.i64_in _ (by omega)]; rfl), (by rw [sortsA_step hi, sstep_bad hm (kidOk_zero hq c4)]; simp), (by first | rfl | exact True.intro), ⟨⟨Nat.succ_pos _, hi⟩, get_set_eq, hid⟩, by dsimp only; omega⟩))
      rw [beq_eq_false_iff_ne] at c4
      obtain ⟨k1, k2⟩ := kidOk_intro (by omega) hq c4
      have hs := (SI.zero hi).step hi hj k1
      rw [k2] at hs
      refine needS_intro (by simp; omega) (ldI1 hq (Nat.mul_one _) (.inr (.inr ⟨(i, id, g.push (.tip 1), 1, [(sortsA (l.take i))[(l[i].ks[0]).toNat]], g.next), (by first | rfl | exact True.intro), (by first | rfl | exact True.intro), (by first | rfl | exact True.intro), (by first | rfl | exact True.intro), (by first | rfl | exact True.intro), (by first | rfl | exact True.intro), (by first | rfl | exact True.intro), ⟨hi, ⟨⟨hi0, hi1⟩, by rw [get_push_lt hid]; exact hg, Nat.lt_succ_of_lt hid⟩, hs, ⟨Nat.one_pos, get_push_eq, Nat.lt_succ_self _, by dsimp only; omega⟩⟩, ?_⟩)))
      dsimp only
      rw [kRest_at hi, kRest_at hi]
      omega
     ·rw [decide_eq_false_iff_not] at c1
      have hl := (SI.zero hi).last hi (by omega)
      refine needS_intro (by simp; omega) (ldNd hi (by rw [tn]) ⟨l, l[i].ks, [], ⟨rfl, rfl⟩, ⟨rfl, rfl⟩, ⟨rfl, rfl⟩, ⟨(hb1 _ (List.getElem_mem hi)).2, hl.2.symm, by simp⟩, ?_⟩)
      exact tip_intro hg (needS_intro (by simp only [Nat.mul_one, Bool.and_eq_true, nbeq_t, Nat.ble_eq, true_and]; omega) (.inr ⟨(i + 1, id, g.set id (.tip (i + 1))), (by first | rfl | exact True.intro), (by rw [IntWalk.i64_in _ (by omega)]; rfl), (by rw [sortsA_step hi, hl.1]; simp), (by first | rfl | exact True.intro), ⟨⟨Nat.succ_pos _, hi⟩, get_set_eq, hid⟩, by dsimp only; omega⟩))
    ·rintro ⟨i, id, g, j, k, idK⟩ _ ⟨hi, ⟨⟨hi0, hi1⟩, hg, hid⟩, hsi, ⟨hk0, hkg, hkid, hkne⟩⟩ hM
     dsimp only at hi hi0 hi1 hg hid hsi hk0 hkg hkid hkne hM ⊢
     have hol : (sortsA (l.take i)).length = i := by rw [sortsA_len, List.length_take]; omega
     have hkl := hel hi
     have hkj : k.length = j := by obtain ⟨n, _, h2, _⟩ := hsi; exact h2.2
     simp only [kRest_at hi] at hM
     refine needS_intro (by simp; omega) (ldNk hi (by rw [tn]) (brS_intro (fun c1 => ?_) (fun c1 => ?_)))
     ·rw [decide_eq_true_eq] at c1
      have hj : j < l[i].ks.length := by omega
      have hm : l[i].ks[j] ∈ l[i].ks := List.getElem_mem hj
      refine needS_intro (by simp; omega) (ldNk hi (by rw [tn]) (needS_intro (by simp; omega) (ldI1 hj (by rw [Nat.mul_one, tn]) (brS_intro (fun c2 => ?_) (fun c2 => brS_intro (fun c3 => ?_) (fun c3 => ?_))))))
      ·rw [decide_eq_true_eq] at c2
       exact tip_intro hg (needS_intro (by simp only [Nat.mul_one, Bool.and_eq_true, nbeq_t, Nat.ble_eq, true_and]; omega) (.inr ⟨(i + 1, id, g.set id (.tip (i + 1))), (by first | rfl | exact True.intro), (by rw [IntWalk.i64_in _ (by omega)]; rfl), (by rw [sortsA_step hi, sstep_bad hm (kidOk_neg c2)]; simp), (by first | rfl | exact True.intro), ⟨⟨Nat.succ_pos _, hi⟩, get_set_eq, hid⟩, by dsimp only; omega⟩))
      ·rw [decide_eq_true_eq] at c3
       exact tip_intro hg (needS_intro (by simp only [Nat.mul_one, Bool.and_eq_true, nbeq_t, Nat.ble_eq, true_and]; omega) (.inr ⟨(i + 1, id, g.set id (.tip (i + 1))), (by first | rfl | exact True.intro), (by rw [IntWalk.i64_in _ (by omega)]; rfl), (by rw [sortsA_step hi, sstep_bad hm (kidOk_big (by omega))]; simp), (by first | rfl | exact True.intro), ⟨⟨Nat.succ_pos _, hi⟩, get_set_eq, hid⟩, by dsimp only; omega⟩))
      rw [decide_eq_false_iff_not] at c2 c3
      have hq : (l[i].ks[j]).toNat < (sortsA (l.take i)).length := by omega
      refine needS_intro (by simp; omega) (ldI1 hq (Nat.mul_one _) (brS_intro (fun c4 => ?_) (fun c4 => ?_)))
      ·rw [beq_iff_eq] at c4
       exact tip_intro hg (needS_intro (by simp only [Nat.mul_one, Bool.and_eq_true, nbeq_t, Nat.ble_eq, true_and]; omega) (.inr ⟨(i + 1, id, g.set id (.tip (i + 1))), (by first | rfl | exact True.intro), (by rw [IntWalk.i64_in _ (by omega)]; rfl), (by rw [sortsA_step hi, sstep_bad hm (kidOk_zero hq c4)]; simp), (by first | rfl | exact True.intro), ⟨⟨Nat.succ_pos _, hi⟩, get_set_eq, hid⟩, by dsimp only; omega⟩))
      rw [beq_eq_false_iff_ne] at c4
      obtain ⟨k1, k2⟩ := kidOk_intro (by omega) hq c4
      have hs := hsi.step hi hj k1
      rw [k2] at hs
      refine needS_intro (by simp; omega) (ldI1 hq (Nat.mul_one _) (tip_intro hkg (needS_intro (by simp only [Nat.mul_one, Bool.and_eq_true, nbeq_t, Nat.ble_eq, true_and]; omega) (.inr (.inr ⟨(i, id, g.set idK (.tip (k.length + 1)), j + 1, k ++ [(sortsA (l.take i))[(l[i].ks[j]).toNat]], idK), (by first | rfl | exact True.intro), (by first | rfl | exact True.intro), (by first | rfl | exact True.intro), ?_, (by first | rfl | exact True.intro), ?_, (by first | rfl | exact True.intro), ⟨hi, ⟨⟨hi0, hi1⟩, by rw [get_set_ne hkne.symm]; exact hg, hid⟩, hs, ⟨by simp, by rw [get_set_eq]; simp, hkid, hkne⟩⟩, ?_⟩)))))
      ·simp
      ·rw [IntWalk.i64_in _ (by omega)]; rfl
      ·dsimp only
       rw [kRest_at hi, kRest_at hi]
       omega
     ·rw [decide_eq_false_iff_not] at c1
      have hl := hsi.last hi (by omega)
      refine needS_intro (by simp; omega) (ldNd hi (by rw [tn]) ⟨l, l[i].ks, k, ⟨rfl, rfl⟩, ⟨rfl, rfl⟩, ⟨rfl, rfl⟩, ⟨(hb1 _ (List.getElem_mem hi)).2, hl.2.symm, by omega⟩, ?_⟩)
      exact tip_intro hg (needS_intro (by simp only [Nat.mul_one, Bool.and_eq_true, nbeq_t, Nat.ble_eq, true_and]; omega) (.inr ⟨(i + 1, id, g.set id (.tip (i + 1))), (by first | rfl | exact True.intro), (by rw [IntWalk.i64_in _ (by omega)]; rfl), (by rw [sortsA_step hi, hl.1]; simp), (by first | rfl | exact True.intro), ⟨⟨Nat.succ_pos _, hi⟩, get_set_eq, hid⟩, by dsimp only; omega⟩))
   ·rw [decide_eq_false_iff_not] at c
    obtain rfl : i0 = l.length := by omega
    rw [List.take_length]
    exact needS_intro (by simp only [pureL, pureB, pureL_ints, Bool.and_true]) (q_eq hk (by rw [sortsA_len]))
 ·exact hk.elim
def cSorts := addC 28 kSorts cNSort
theorem okSorts : Sound env cSorts := sound_add sSorts (okNSort)
def kNdSort (xs : List IV) (h : Heap) (K : IV -> Heap -> Prop) : Prop := match xs with
 | [.vslice none e1 n1 3 c1, .int .i64 i] => ∃ l : List Nd, (n1 = l.length /\ c1 = l.flatMap cN) /\ ((∀ x ∈ l, x.ks.length <= 1000000 /\ x.op ≠ 25 /\ x.op ≠ 30 /\ x.op ≠ 31) /\ l.length <= 1000000 /\ 0 <= i /\ i < l.length) /\ K (.int .i64 ((sortsA l).getD i.toNat 0)) h
 | _ => False
set_option maxRecDepth 100000 in
theorem vNdSort (l : List Nd) (i : Int) (e1 : Nat) (h : Heap) (Q : IV -> Heap -> Prop) : dF (stdS cSorts) env 19 noU noI noI [.vslice none e1 (l).length 3 ((l).flatMap cN), .int .i64 i] h Q = (
 needS (pureL [IV.vslice none 0 l.length 3 (List.flatMap cN l), IV.int .i64 i])
 (brS (decide (i < 0)) (Q (.int .i64 0) h)
 (brS (decide (i >= (↑l.length : Int))) (Q (.int .i64 0) h)
 (needS (true && (decide (0 <= IntKind.wrap .i64 (i + 1)) && decide (IntKind.wrap .i64 (i + 1) <= (↑l.length : Int))))
 (∃ (l_1 : List Nd),
 (Int.toNat (IntKind.wrap .i64 (i + 1)) - 0 = l_1.length /\
 List.take ((Int.toNat (IntKind.wrap .i64 (i + 1)) - 0) * 3) (List.drop 0 (List.flatMap cN l)) = List.flatMap cN l_1) /\
 ((∀ (x : Nd), x ∈ l_1 -> List.length (Nd.ks x) <= 1000000 /\ Nd.op x ≠ 25 /\ Nd.op x ≠ 30 /\ Nd.op x ≠ 31) /\ l_1.length <= 1000000) /\
 needS (decide (0 <= i) && decide (i < (↑(List.length (sortsA l_1)) : Int))) (ldIS .i64 (List.map (IV.int .i64) (sortsA l_1)) (i.toNat * 1) fun n0 => Q (.int .i64 n0) h)))))) := by kernel_rfl
set_option maxHeartbeats 1000000 in
theorem sNdSort : ∀ xs h Q, kNdSort xs h Q -> CallW env 19 xs h Q := by
 intro xs h Q hk
 unfold kNdSort at hk
 split at hk
 ·rename_i e1 n1 c1 i
  obtain ⟨l, ⟨rfl, rfl⟩, hb, hk⟩ := hk
  refine dF_run (okSorts) (vNdSort l i e1 h Q) ?_
  obtain ⟨hb1, hbl, hi0, hi1⟩ := hb
  have hw : IntKind.i64.wrap (i + 1) = i + 1 := IntWalk.i64_in _ (by omega)
  rw [hw]
  have hlt : i.toNat < l.length := by omega
  have e3 : (i + 1).toNat - 0 = i.toNat + 1 := by omega
  refine needS_intro (by simp only [pureL, pureB, pureL_cN, Bool.and_true]) (brS_intro (fun c => absurd (of_decide_eq_true c) (by omega)) (fun _ => brS_intro (fun c => absurd (of_decide_eq_true c) (by omega)) (fun _ => needS_intro (by simp; omega) ⟨l.take (i.toNat + 1), ⟨by rw [e3, List.length_take]; omega, by rw [e3, List.drop_zero, cN_take]⟩, ⟨fun x hx => hb1 x (List.mem_of_mem_take hx), by rw [List.length_take]; omega⟩, ?_⟩)))
  have hq : i.toNat < (sortsA (l.take (i.toNat + 1))).length := by rw [sortsA_len, List.length_take]; omega
  refine needS_intro (by simp; omega) (ldI1 hq (Nat.mul_one _) (q_eq hk ?_))
  congr 1
  rw [pre_getD (sortsA_pre (List.take_prefix (i.toNat + 1) l)) hq, List.getD_eq_getElem?_getD, List.getElem?_eq_getElem hq]
  rfl
 ·exact hk.elim
def cNdSort := addC 19 kNdSort cSorts
theorem okNdSort : Sound env cNdSort := sound_add sNdSort (okSorts)
def ofInv (l : List Nd) (s n : Int) : Inv' := .or
 (atX Nat (fun x => [(0, .v (.vslice none 0 (l).length 3 ((l).flatMap cN))), (1, .v (.int .i64 s)), (2, .v (.int .i64 n)), (7, .v (.vslice none 0 (sortsA l).length 1 ((sortsA l).map (IV.int .i64)))), (8, .v .nilslice), (9, .v (.int .i64 x))]) (fun _ => []) (fun _ => Heap.empty) (fun x => x <= l.length /\ s ∈ (sortsA l).drop x) (fun x => l.length - x))
 (atX (Nat × List Int × Nat × Heap) (fun x => [(0, .v (.vslice none 0 (l).length 3 ((l).flatMap cN))), (1, .v (.int .i64 s)), (2, .v (.int .i64 n)), (7, .v (.vslice none 0 (sortsA l).length 1 ((sortsA l).map (IV.int .i64)))), (8, .v (.vslice (some x.2.2.1) x.2.1.length x.2.1.length 1 (x.2.1.map (IV.int .i64)))), (9, .v (.int .i64 x.1))]) (fun _ => []) (fun x => x.2.2.2)
  (fun x => (x.1 <= l.length /\ 0 < x.2.1.length /\ x.2.1.length <= x.1) /\ (x.2.2.2.get x.2.2.1 = .tip x.2.1.length /\ x.2.2.1 < x.2.2.2.next) /\ ∀ q ∈ x.2.1, 0 <= q /\ q < l.length /\ (sortsA l).getD q.toNat 0 = s) (fun x => l.length - x.1))
def kOf (xs : List IV) (h : Heap) (K : IV -> Heap -> Prop) : Prop := match xs with
 | [.vslice none e1 n1 3 c1, .int .i64 s, .int .i64 n] => ∃ l : List Nd, (n1 = l.length /\ c1 = l.flatMap cN) /\ ((∀ x ∈ l, x.ks.length <= 1000000 /\ x.op ≠ 25 /\ x.op ≠ 30 /\ x.op ≠ 31) /\ l.length <= 1000000 /\ s ∈ sortsA l) /\ ∀ q : Int, (0 <= q /\ q < l.length /\ (sortsA l).getD q.toNat 0 = s) -> K (.int .i64 q) h
 | _ => False
noncomputable def z12e  := IV.int .i64
noncomputable def z12a (l : List Nd) := TV.v (.vslice none 0 (List.length (sortsA l)) 1 (List.map z12e (sortsA l)))
noncomputable def z12b (l : List Nd) := TV.v (.vslice none 0 l.length 3 (List.flatMap cN l))
noncomputable def z12c (s : Int) := TV.v (.int .i64 s)
noncomputable def z12d (n : Int) := TV.v (.int .i64 n)
noncomputable def z12f  := TV.v IV.nilslice
noncomputable def z12g (l_1 : List Nd) := TV.v (.vslice none 0 (List.length (sortsA l_1)) 1 (List.map z12e (sortsA l_1)))
set_option maxRecDepth 100000 in
theorem vOf (l : List Nd) (s n : Int) (e1 : Nat) (h : Heap) (Q : IV -> Heap -> Prop) : dF (stdS cNdSort) env 12 noU (ic1 5 (ofInv l s n)) noI [.vslice none e1 (l).length 3 ((l).flatMap cN), .int .i64 s, .int .i64 n] h Q = (
 needS (pureL [IV.vslice none 0 l.length 3 (List.flatMap cN l), IV.int .i64 s, IV.int .i64 n]) (∃ (l_1 : List Nd), (l.length = l_1.length /\ List.flatMap cN l = List.flatMap cN l_1) /\ ((∀ (x : Nd), x ∈ l_1 -> List.length (Nd.ks x) <= 1000000 /\ Nd.op
 x ≠ 25 /\ Nd.op x ≠ 30 /\ Nd.op x ≠ 31) /\ l_1.length <= 1000000) /\ ((∃ (x : Nat), some (z12b l) = some (z12b l) /\ some (z12c s) = some (z12c s) /\ some (z12d n) = some (z12d n) /\ some (z12g l_1) = some (z12a l) /\ some z12f = some z12f /\ some (TV.v (.int .i64
 (0 : Int))) = some (TV.v (.int .i64 (↑x : Int))) /\ Heap.mk PT.nil 0 = Heap.mk PT.nil 0 /\ (x <= l.length /\ s ∈ List.drop x (sortsA l)) /\ True) \/ ∃ (x : Nat × List Int × Nat × Heap), some (z12b l) = some (z12b l) /\ some (z12c s) = some (z12c s) /\ some (z12d n) = some (z12d
 n) /\ some (z12g l_1) = some (z12a l) /\ some z12f = some (TV.v (.vslice (some x.2.2.1) x.2.1.length x.2.1.length 1 (List.map z12e x.2.1))) /\ some (TV.v (.int .i64 0)) = some (TV.v
 (IV.int .i64 (↑x.1 : Int))) /\ Heap.mk PT.nil 0 = x.2.2.2 /\ ((x.1 <= l.length /\ 0 < x.2.1.length /\ x.2.1.length <= x.1) /\ (Heap.get x.2.2.2 (Prod.fst (Prod.snd
 x.2)) = IObj.tip x.2.1.length /\ x.2.2.1 < Heap.next x.2.2.2) /\ ∀ (q : Int), q ∈ x.2.1 -> 0 <= q /\ q < (↑l.length : Int) /\ List.getD (sortsA l) q.toNat 0 = s) /\ True) /\ (∀ (x
 : Nat) (b : FF), x <= l.length /\ s ∈ List.drop x (sortsA l) -> brS (decide ((↑x : Int) < (↑l.length : Int))) (needS (decide (0 <= (↑x : Int)) && decide ((↑x : Int) < (↑(List.length (sortsA l)) : Int))) (ldIS .i64 (List.map z12e (sortsA l)) (Int.toNat (↑x : Int) * 1) fun
 (n0 : Int) => brS (n0 == s) ((∃ (x_1 : Nat), some (z12b l) = some (z12b l) /\ some (z12c s) = some (z12c s) /\ some (z12d n) = some (z12d n) /\ some (z12a l) = some (z12a l) /\ some (TV.v (.vslice (some (0 : Nat)) 1 1 1 [IV.int .i64 (↑x : Int)])) = some z12f /\ some (TV.v
 (IV.int .i64 (IntKind.wrap .i64 ((↑x : Int) + 1)))) = some (TV.v (.int .i64 (↑x_1 : Int))) /\ Heap.mk (PT.node PT.nil (some (IObj.tip (1 : Nat))) PT.nil) ((0 : Nat) + 1) = Heap.mk PT.nil 0 /\ (x_1 <= l.length /\ s ∈ List.drop x_1 (sortsA l)) /\ List.length
 l - x_1 < l.length - x) \/ ∃ (x_1 : Nat × List Int × Nat × Heap), some (z12b l) = some (z12b l) /\ some (z12c s) = some (z12c s) /\ some (z12d n) = some (z12d n) /\ some (z12a l) = some (z12a l) /\ some (TV.v (.vslice (some (0 : Nat)) 1 1 1 [IV.int .i64 (↑x : Int)]))
 = some (TV.v (.vslice (some x_1.2.2.1) x_1.2.1.length x_1.2.1.length 1 (List.map z12e x_1.2.1))) /\ some (TV.v (.int .i64 (IntKind.wrap .i64 ((↑x : Int) + 1)))) = some (TV.v
 (IV.int .i64 (↑x_1.1 : Int))) /\ Heap.mk (PT.node PT.nil (some (IObj.tip (1 : Nat))) PT.nil) ((0 : Nat) + 1) = x_1.2.2.2 /\ ((x_1.1 <= l.length /\ 0 < x_1.2.1.length /\ x_1.2.1.length <= Prod.fst
 x_1) /\ (Heap.get x_1.2.2.2 x_1.2.2.1 = IObj.tip x_1.2.1.length /\ x_1.2.2.1 < Heap.next x_1.2.2.2) /\ ∀ (q : Int), q ∈ x_1.2.1 -> 0 <= q /\ q < (↑(List.length
 l) : Int) /\ List.getD (sortsA l) q.toNat 0 = s) /\ l.length - x_1.1 < l.length - x) ((∃ (x_1 : Nat), some (z12b l) = some (z12b l) /\ some (z12c s) = some (z12c s) /\ some (z12d n) = some (z12d n) /\ some (z12a l) = some (z12a l) /\ some z12f = some z12f /\ some (TV.v (.int
 .i64 (IntKind.wrap .i64 ((↑x : Int) + 1)))) = some (TV.v (.int .i64 (↑x_1 : Int))) /\ Heap.mk PT.nil 0 = Heap.mk PT.nil 0 /\ (x_1 <= l.length /\ s ∈ List.drop x_1 (sortsA l)) /\ l.length - x_1 < l.length - x) \/ ∃ (x_1 : Nat × List Int × Nat × Heap),
 some (z12b l) = some (z12b l) /\ some (z12c s) = some (z12c s) /\ some (z12d n) = some (z12d n) /\ some (z12a l) = some (z12a l) /\ some z12f = some (TV.v (.vslice (some x_1.2.2.1) x_1.2.1.length x_1.2.1.length 1 (List.map
 z12e x_1.2.1))) /\ some (TV.v (.int .i64 (IntKind.wrap .i64 ((↑x : Int) + 1)))) = some (TV.v (.int .i64 (↑x_1.1 : Int))) /\ Heap.mk PT.nil 0 = x_1.2.2.2 /\ ((x_1.1 <= l.length /\ 0 < List.length
 x_1.2.1 /\ x_1.2.1.length <= x_1.1) /\ (Heap.get x_1.2.2.2 x_1.2.2.1 = IObj.tip x_1.2.1.length /\ x_1.2.2.1 < Heap.next x_1.2.2.2)
 /\ ∀ (q : Int), q ∈ x_1.2.1 -> 0 <= q /\ q < (↑l.length : Int) /\ List.getD (sortsA l) q.toNat 0 = s) /\ l.length - x_1.1 < l.length - x))) (((0 : Int) < 0 /\ (0 : Int) < 4611686018427387904) /\ False)) /\ ∀ (x : Nat × List Int × Nat
 × Heap) (b : FF), ((x.1 <= l.length /\ 0 < x.2.1.length /\ x.2.1.length <= x.1) /\ (Heap.get x.2.2.2 x.2.2.1 = IObj.tip x.2.1.length /\ Prod.fst (Prod.snd
 x.2) < Heap.next x.2.2.2) /\ ∀ (q : Int), q ∈ x.2.1 -> 0 <= q /\ q < (↑l.length : Int) /\ List.getD (sortsA l) q.toNat 0 = s) -> brS (decide ((↑x.1 : Int) < (↑l.length : Int))) (needS (decide (0 <= (↑(Prod.fst
 x) : Int)) && decide ((↑x.1 : Int) < (↑(List.length (sortsA l)) : Int))) (ldIS .i64 (List.map z12e (sortsA l)) (Int.toNat (↑x.1 : Int) * 1) fun n1 => brS (n1 == s) (tipS x.2.2.2 x.2.2.1 fun (m2 : Nat) => needS
 (Nat.beq m2 x.2.1.length && Nat.ble ((x.2.1.length + 1) * 8) (140737488355328 : Nat)) ((∃ (x_1 : Nat), some (z12b l) = some (z12b l) /\ some (z12c s) = some (z12c s) /\ some (z12d n) = some (z12d n) /\ some (z12a l) = some (z12a l) /\ some (TV.v
 (IV.vslice (some x.2.2.1) (x.2.1.length + 1) (x.2.1.length + 1) 1 (List.map z12e x.2.1 ++ [IV.int .i64 (↑x.1 : Int)]))) = some z12f /\ some (TV.v (.int .i64 (IntKind.wrap
 .i64 ((↑x.1 : Int) + 1)))) = some (TV.v (.int .i64 (↑x_1 : Int))) /\ Heap.set x.2.2.2 x.2.2.1 (IObj.tip (x.2.1.length + 1)) = Heap.mk PT.nil 0 /\ (x_1 <= l.length /\ s ∈ List.drop
 x_1 (sortsA l)) /\ l.length - x_1 < l.length - x.1) \/ ∃ (x_1 : Nat × List Int × Nat × Heap), some (z12b l) = some (z12b l) /\ some (z12c s) = some (z12c s) /\ some (z12d n) = some (z12d n) /\ some (z12a l) = some (z12a l) /\ some (TV.v (.vslice (some x.2.2.1)
 (x.2.1.length + 1) (x.2.1.length + 1) 1 (List.map z12e x.2.1 ++ [IV.int .i64 (↑x.1 : Int)]))) = some (TV.v (.vslice (some x_1.2.2.1) x_1.2.1.length
 x_1.2.1.length 1 (List.map z12e x_1.2.1))) /\ some (TV.v (.int .i64 (IntKind.wrap .i64 ((↑x.1 : Int) + 1)))) = some (TV.v (.int .i64 (↑x_1.1 : Int))) /\ Heap.set x.2.2.2 (Prod.fst
 x.2.2) (IObj.tip (x.2.1.length + 1)) = x_1.2.2.2 /\ ((x_1.1 <= l.length /\ 0 < x_1.2.1.length /\ x_1.2.1.length <= x_1.1) /\ (Heap.get (Prod.snd (Prod.snd (Prod.snd
 x_1))) x_1.2.2.1 = IObj.tip x_1.2.1.length /\ x_1.2.2.1 < Heap.next x_1.2.2.2) /\ ∀ (q : Int), q ∈ x_1.2.1 -> 0 <= q /\ q < (↑l.length : Int) /\ List.getD (sortsA l) (Int.toNat
 q) 0 = s) /\ l.length - x_1.1 < l.length - x.1)) ((∃ (x_1 : Nat), some (z12b l) = some (z12b l) /\ some (z12c s) = some (z12c s) /\ some (z12d n) = some (z12d n) /\ some (z12a l) = some (z12a l) /\ some (TV.v (.vslice (some x.2.2.1) (List.length
 x.2.1) x.2.1.length 1 (List.map z12e x.2.1))) = some z12f /\ some (TV.v (.int .i64 (IntKind.wrap .i64 ((↑x.1 : Int) + 1)))) = some (TV.v (.int .i64 (↑x_1 : Int))) /\ Prod.snd (Prod.snd (Prod.snd
 x)) = Heap.mk PT.nil 0 /\ (x_1 <= l.length /\ s ∈ List.drop x_1 (sortsA l)) /\ l.length - x_1 < l.length - x.1) \/ ∃ (x_1 : Nat × List Int × Nat × Heap), some (z12b l) = some (z12b l) /\ some (z12c s) = some (z12c s) /\ some (z12d n) = some (z12d n) /\ some (z12a l) = some (z12a
 l) /\ some (TV.v (.vslice (some x.2.2.1) x.2.1.length x.2.1.length 1 (List.map z12e x.2.1))) = some (TV.v (.vslice (some x_1.2.2.1) x_1.2.1.length
 x_1.2.1.length 1 (List.map z12e x_1.2.1))) /\ some (TV.v (.int .i64 (IntKind.wrap .i64 ((↑x.1 : Int) + 1)))) = some (TV.v (.int .i64 (↑x_1.1 : Int))) /\ x.2.2.2 = Prod.snd (Prod.snd
 x_1.2) /\ ((x_1.1 <= l.length /\ 0 < x_1.2.1.length /\ x_1.2.1.length <= x_1.1) /\ (Heap.get x_1.2.2.2 x_1.2.2.1 = IObj.tip x_1.2.1.length /\ Prod.fst
 x_1.2.2 < Heap.next x_1.2.2.2) /\ ∀ (q : Int), q ∈ x_1.2.1 -> 0 <= q /\ q < (↑l.length : Int) /\ List.getD (sortsA l) q.toNat 0 = s) /\ l.length - x_1.1 < l.length - x.1))) ((0 < (↑(List.length
 x.2.1) : Int) /\ (↑x.2.1.length : Int) < 4611686018427387904) /\ needS (decide (0 <= IntKind.wrap .i64 (IntKind.wrap .i64 ((↑x.2.1.length : Int) - 1) - n % (↑x.2.1.length :
 Int))) && decide (IntKind.wrap .i64 (IntKind.wrap .i64 ((↑x.2.1.length : Int) - 1) - n % (↑x.2.1.length : Int)) < (↑x.2.1.length : Int))) (ldIS .i64 (List.map z12e x.2.1) (Int.toNat
 (IntKind.wrap .i64 (IntKind.wrap .i64 ((↑x.2.1.length : Int) - 1) - n % (↑x.2.1.length : Int))) * 1) fun n3 => Q (.int .i64 n3) h)))) := by kernel_rfl
set_option maxHeartbeats 2000000 in
theorem sOf : ∀ xs h Q, kOf xs h Q -> CallW env 12 xs h Q := by
 intro xs h Q hk
 unfold kOf at hk
 split at hk
 ·rename_i e1 n1 c1 s n
  obtain ⟨l, ⟨rfl, rfl⟩, hb, hk⟩ := hk
  refine dF_run (okNdSort) (vOf l s n e1 h Q) ?_
  delta z12a z12b z12c z12d z12e z12f z12g
  have tn : ∀ x : Nat, (x : Int).toNat = x := Int.toNat_natCast
  obtain ⟨hb1, hbl, hs⟩ := hb
  have hsl : (sortsA l).length = l.length := sortsA_len l
  have hat : ∀ {i : Nat} (h : i < (sortsA l).length), (sortsA l).getD i 0 = (sortsA l)[i] := fun h => by rw [List.getD_eq_getElem?_getD, List.getElem?_eq_getElem h]; rfl
  refine needS_intro (by simp only [pureL, pureB, pureL_cN, Bool.and_true]) ⟨l, ⟨rfl, rfl⟩, ⟨hb1, hbl⟩, .inl ⟨0, (by first | rfl | exact True.intro), (by first | rfl | exact True.intro), (by first | rfl | exact True.intro), (by first | rfl | exact True.intro), (by first | rfl | exact True.intro), (by first | rfl | exact True.intro), (by first | rfl | exact True.intro), ⟨Nat.zero_le _, hs⟩, trivial⟩, ?_, ?_⟩
  ·rintro i _ ⟨hi, hd⟩
   try dsimp only at hi hd ⊢
   refine brS_intro (fun c => ?_) (fun c => ?_)
   ·rw [decide_eq_true_eq] at c
    have hlt : i < (sortsA l).length := by omega
    refine needS_intro (by simp; omega) (ldI1 hlt (by rw [Nat.mul_one, tn]) (brS_intro (fun c1 => .inr ⟨(i + 1, [(i : Int)], 0, _), (by first | rfl | exact True.intro), (by first | rfl | exact True.intro), (by first | rfl | exact True.intro), (by first | rfl | exact True.intro), (by first | rfl | exact True.intro), (by rw [IntWalk.i64_in _ (by omega)]; rfl), (by first | rfl | exact True.intro), ⟨⟨by dsimp only; omega, Nat.one_pos, by dsimp only [List.length_cons, List.length_nil]; omega⟩, ⟨rfl, Nat.one_pos⟩, fun q hq => ?_⟩, by dsimp only; omega⟩) (fun c1 => .inl ⟨i + 1, (by first | rfl | exact True.intro), (by first | rfl | exact True.intro), (by first | rfl | exact True.intro), (by first | rfl | exact True.intro), (by first | rfl | exact True.intro), (by rw [IntWalk.i64_in _ (by omega)]; rfl), (by first | rfl | exact True.intro), ⟨by omega, ?_⟩, by omega⟩)))
    ·rw [List.mem_singleton.1 hq, tn, hat hlt, beq_iff_eq.1 c1]
     omega
    ·rw [List.drop_eq_getElem_cons hlt] at hd
     rcases List.mem_cons.1 hd with q | q
     ·rw [beq_eq_false_iff_ne] at c1
      exact absurd q.symm c1
     ·exact q
   ·rw [decide_eq_false_iff_not] at c
    rw [List.drop_eq_nil_of_le (by omega)] at hd
    cases hd
  ·rintro ⟨i, a, ia, g⟩ _ ⟨⟨hi, ha, hai⟩, ⟨hg, hga⟩, hq⟩
   dsimp only at hi ha hai hg hga hq ⊢
   refine brS_intro (fun c => ?_) (fun c => ?_)
   ·rw [decide_eq_true_eq] at c
    have hlt : i < (sortsA l).length := by omega
    refine needS_intro (by simp; omega) (ldI1 hlt (by rw [Nat.mul_one, tn]) (brS_intro (fun c1 => tip_intro hg (needS_intro (by simp only [Nat.mul_one, Bool.and_eq_true, nbeq_t, Nat.ble_eq, true_and]; omega) (.inr ⟨(i + 1, a ++ [(i : Int)], ia, g.set ia (.tip (a.length + 1))), (by first | rfl | exact True.intro), (by first | rfl | exact True.intro), (by first | rfl | exact True.intro), (by first | rfl | exact True.intro), (by simp), (by rw [IntWalk.i64_in _ (by omega)]; rfl), (by first | rfl | exact True.intro), ⟨⟨by dsimp only; omega, by simp, by simp; omega⟩, ⟨by rw [get_set_eq]; simp, hga⟩, fun q hq2 => ?_⟩, by dsimp only; omega⟩))) (fun c1 => .inr ⟨(i + 1, a, ia, g), (by first | rfl | exact True.intro), (by first | rfl | exact True.intro), (by first | rfl | exact True.intro), (by first | rfl | exact True.intro), (by first | rfl | exact True.intro), (by rw [IntWalk.i64_in _ (by omega)]; rfl), (by first | rfl | exact True.intro), ⟨⟨by dsimp only; omega, ha, by dsimp only; omega⟩, ⟨hg, hga⟩, hq⟩, by dsimp only; omega⟩)))
    rcases List.mem_append.1 hq2 with hq2 | hq2
    ·exact hq q hq2
    ·rw [List.mem_singleton.1 hq2, tn, hat hlt, beq_iff_eq.1 c1]
     omega
   ·have hm1 := Int.emod_nonneg n (show (a.length : Int) ≠ 0 by omega)
    have hm2 := Int.emod_lt_of_pos n (show (0 : Int) < a.length by omega)
    have w1 : IntKind.i64.wrap ((a.length : Int) - 1) = (a.length : Int) - 1 := IntWalk.i64_in _ (by omega)
    rw [w1]
    have w2 : IntKind.i64.wrap ((a.length : Int) - 1 - n % (a.length : Int)) = (a.length : Int) - 1 - n % (a.length : Int) := IntWalk.i64_in _ (by omega)
    rw [w2]
    have hlt : ((a.length : Int) - 1 - n % (a.length : Int)).toNat < a.length := by omega
    exact ⟨⟨by omega, by omega⟩, needS_intro (by simp; omega) (ldI1 hlt (Nat.mul_one _) (hk _ (hq _ (List.getElem_mem hlt))))⟩
 ·exact hk.elim
def cOf := addC 12 kOf cNdSort
theorem okOf : Sound env cOf := sound_add sOf (okNdSort)
def snInv (op im : Int) (ks : List Int) (op2 im2 : Int) (ks2 : List Int) : Inv' := atX Nat (fun i => [(2, .l 2 0), (3, .l 3 0), (5, .v (.int .i64 i))]) (fun _ => [(2, [.int .i64 op, .int .i64 im, .vslice none 0 ks.length 1 (ks.map (IV.int .i64))]), (3, [.int .i64 op2, .int .i64 im2, .vslice none 0 ks2.length 1 (ks2.map (IV.int .i64))])]) (fun _ => Heap.empty)
 (fun i => (ks.length = ks2.length /\ i <= ks.length) /\ ∀ j, j < i -> ks[j]? = ks2[j]?) (fun i => ks.length - i)
def kSameNd (xs : List IV) (h : Heap) (K : IV -> Heap -> Prop) : Prop := match xs with
 | [.agg [.int .i64 op, .int .i64 im, .vslice none e1 n1 1 c1], .agg [.int .i64 op2, .int .i64 im2, .vslice none e2 n2 1 c2]] => ∃ ks ks2 : List Int, (n1 = ks.length /\ c1 = ks.map (IV.int .i64)) /\ (n2 = ks2.length /\ c2 = ks2.map (IV.int .i64)) /\ ks.length <= 1000000000 /\ K (.bool (decide ((⟨op, im, ks⟩ : Nd) = ⟨op2, im2, ks2⟩))) h
 | _ => False
noncomputable def z30a (op im : Int) (ks : List Int) := [IV.int .i64 op, IV.int .i64 im, IV.vslice none 0 ks.length 1 (List.map (IV.int .i64) ks)]
noncomputable def z30b (op2 im2 : Int) (ks2 : List Int) := [IV.int .i64 op2, IV.int .i64 im2, IV.vslice none 0 ks2.length 1 (List.map (IV.int .i64) ks2)]
noncomputable def z30c  := TV.l 2 0
noncomputable def z30d  := TV.l 3 0
set_option maxRecDepth 100000 in
theorem vSameNd (op im op2 im2 : Int) (ks ks2 : List Int) (e1 e2 : Nat) (h : Heap) (Q : IV -> Heap -> Prop) : dF (stdS cOf) env 30 noU (ic1 5 (snInv op im ks op2 im2 ks2)) noI [.agg [.int .i64 op, .int .i64 im, .vslice none e1 ks.length 1 (ks.map (IV.int .i64))], .agg [.int .i64 op2, .int .i64 im2, .vslice none e2 ks2.length 1 (ks2.map (IV.int .i64))]] h Q = (
 needS (pureL [IV.agg (z30a op im ks), IV.agg (z30b op2 im2 ks2)]) (brS (op != op2) (Q (.bool false) h) (brS (im != im2) (Q (.bool false) h) (brS ((↑ks.length : Int) != (↑ks2.length : Int)) (Q (.bool false) h) ((∃ (x : Nat), some z30c = some z30c /\ some z30d = some z30d /\ some (TV.v
 (IV.int .i64 0)) = some (TV.v (.int .i64 (↑x : Int))) /\ some (z30a op im ks) = some (z30a op im ks) /\ some (z30b op2 im2 ks2) = some (z30b op2 im2 ks2) /\ Heap.mk PT.nil 0 = Heap.mk PT.nil 0 /\ ((ks.length = ks2.length /\ x <= ks.length) /\ ∀ (j : Nat),
 j < x -> ks[j]? = ks2[j]?) /\ True) /\ ∀ (x : Nat) (b : FF), ((ks.length = ks2.length /\ x <= ks.length) /\ ∀ (j : Nat), j < x -> ks[j]? = ks2[j]?) -> brS (decide ((↑x : Int) < (↑ks.length : Int))) (needS (decide (0 <= (↑x : Int)) && decide ((↑x : Int) < (↑ks.length : Int)))
 (ldIS .i64 (List.map (IV.int .i64) ks) (Int.toNat (↑x : Int) * 1) fun n0 => needS (decide (0 <= (↑x : Int)) && decide ((↑x : Int) < (↑ks2.length : Int))) (ldIS .i64 (List.map (IV.int .i64) ks2) (Int.toNat (↑x : Int) * 1) fun (n1 : Int)
 => brS (n0 != n1) (Q (.bool false) h) (∃ (x_1 : Nat), some z30c = some z30c /\ some z30d = some z30d /\ some (TV.v (.int .i64 (IntKind.wrap .i64 ((↑x : Int) + 1)))) = some (TV.v (.int .i64 (↑x_1 : Int))) /\ some (z30a op im ks) = some (z30a op im ks) /\ some (z30b op2 im2
 ks2) = some (z30b op2 im2 ks2) /\ Heap.mk PT.nil 0 = Heap.mk PT.nil 0 /\ ((ks.length = ks2.length /\ x_1 <= ks.length) /\ ∀ (j : Nat), j < x_1 -> ks[j]? = ks2[j]?) /\ ks.length - x_1 < ks.length - x)))) (Q (.bool true) h)))))) := by kernel_rfl
set_option maxHeartbeats 1000000 in
theorem sSameNd : ∀ xs h Q, kSameNd xs h Q -> CallW env 30 xs h Q := by
 intro xs h Q hk
 unfold kSameNd at hk
 split at hk
 ·rename_i op im e1 n1 c1 op2 im2 e2 n2 c2
  obtain ⟨ks, ks2, ⟨rfl, rfl⟩, ⟨rfl, rfl⟩, hb, hk⟩ := hk
  refine dF_run (okOf) (vSameNd op im op2 im2 ks ks2 e1 e2 h Q) ?_
  delta z30a z30b z30c z30d
  have tn : ∀ x : Nat, (x : Int).toNat = x := Int.toNat_natCast
  have fin : ∀ b : Bool, (b = true ↔ (op = op2 /\ im = im2 /\ ks = ks2)) -> Q (.bool b) h := fun b e => by
   have : b = decide ((⟨op, im, ks⟩ : Nd) = ⟨op2, im2, ks2⟩) := by
    rw [Bool.eq_iff_iff, e, decide_eq_true_eq, Nd.mk.injEq]
   rw [this]
   exact hk
  have no : ¬ (op = op2 /\ im = im2 /\ ks = ks2) -> Q (.bool false) h := fun e => fin false ⟨fun q => (by cases q), fun q => absurd q e⟩
  refine needS_intro (by simp only [pureL, pureB, pureL_ints, Bool.and_true]) (brS_intro (fun c => no (fun e => bne_iff_ne.1 c e.1)) (fun c1 => brS_intro (fun c => no (fun e => bne_iff_ne.1 c e.2.1)) (fun c2 => brS_intro (fun c => no (fun e => bne_iff_ne.1 c (by rw [e.2.2]))) (fun c3 => ?_))))
  rw [bne_eq_false_iff_eq] at c1 c2 c3
  subst c1 c2
  have hl : ks.length = ks2.length := by omega
  refine ⟨⟨0, rfl, rfl, rfl, rfl, rfl, rfl, ⟨⟨hl, Nat.zero_le _⟩, fun j hj => by omega⟩, trivial⟩, ?_⟩
  rintro i _ ⟨⟨hl2, hi⟩, ha⟩
  try dsimp only at hi ha ⊢
  refine brS_intro (fun c => ?_) (fun c => ?_)
  ·rw [decide_eq_true_eq] at c
   have hlt : i < ks.length := by omega
   have hlt2 : i < ks2.length := by omega
   simp only [tn]
   rw [Nat.mul_one]
   refine needS_intro (by simp; omega) (ldIS_map hlt (needS_intro (by simp; omega) (ldIS_map hlt2 (brS_intro (fun c1 => no (fun e => ?_)) (fun c1 => ⟨i + 1, (by first | rfl | exact True.intro), (by first | rfl | exact True.intro), ?_, (by first | rfl | exact True.intro), (by first | rfl | exact True.intro), (by first | rfl | exact True.intro), ⟨⟨hl, hlt⟩, fun j hj => ?_⟩, by (try dsimp only); omega⟩)))))
   ·have e := e.2.2
    subst e
    simp at c1
   ·rw [IntWalk.i64_in _ (by omega)]; rfl
   ·rcases Nat.lt_or_ge j i with q | q
    ·exact ha j q
    ·obtain rfl : j = i := by omega
     rw [bne_eq_false_iff_eq] at c1
     rw [List.getElem?_eq_getElem hlt, List.getElem?_eq_getElem hlt2, c1]
  ·rw [decide_eq_false_iff_not] at c
   refine fin true ⟨fun _ => ⟨rfl, rfl, List.ext_getElem? fun j => ?_⟩, fun _ => rfl⟩
   rcases Nat.lt_or_ge j i with q | q
   ·exact ha j q
   ·rw [List.getElem?_eq_none (by omega), List.getElem?_eq_none (by omega)]
 ·exact hk.elim
def cSameNd := addC 30 kSameNd cOf
theorem okSameNd : Sound env cSameNd := sound_add sSameNd (okOf)
def ctInv (l : List Nd) (op im : Int) (ks : List Int) : Inv' := atX Nat (fun x => [(0, .v (.vslice none 0 (l).length 3 ((l).flatMap cN))), (3, .l 3 0), (5, .v (.int .i64 x))]) (fun _ => [(3, [.int .i64 op, .int .i64 im, .vslice none 0 ks.length 1 (ks.map (IV.int .i64))])]) (fun _ => Heap.empty) (fun x => x <= l.length /\ ∀ j, j < x -> ∀ q, l[j]? = some q -> (⟨op, im, ks⟩ : Nd) ≠ q) (fun x => l.length - x)
def kCont (xs : List IV) (h : Heap) (K : IV -> Heap -> Prop) : Prop := match xs with
 | [.vslice none e0 n0 3 c0, .agg [.int .i64 op, .int .i64 im, .vslice none e1 n1 1 c1]] => ∃ (l : List Nd) (ks : List Int), (n0 = l.length /\ c0 = l.flatMap cN) /\ (n1 = ks.length /\ c1 = ks.map (IV.int .i64)) /\ (l.length <= 1000000 /\ ∀ x ∈ l, x.ks.length <= 1000000) /\ K (.bool (decide ((⟨op, im, ks⟩ : Nd) ∈ l))) h
 | _ => False
noncomputable def z15a (op im : Int) (ks : List Int) := [IV.int .i64 op, IV.int .i64 im, IV.vslice none 0 ks.length 1 (List.map (IV.int .i64) ks)]
noncomputable def z15b (l : List Nd) := TV.v (.vslice none 0 l.length 3 (List.flatMap cN l))
noncomputable def z15c  := TV.l 3 0
set_option maxRecDepth 100000 in
theorem vCont (l : List Nd) (op im : Int) (ks : List Int) (e0 e1 : Nat) (h : Heap) (Q : IV -> Heap -> Prop) : dF (stdS cSameNd) env 15 noU (ic1 3 (ctInv l op im ks)) noI [.vslice none e0 (l).length 3 ((l).flatMap cN), .agg [.int .i64 op, .int .i64 im, .vslice none e1 ks.length 1 (ks.map (IV.int .i64))]] h Q = (
 needS (pureL [IV.vslice none 0 l.length 3 (List.flatMap cN l), IV.agg (z15a op im ks)]) ((∃ (x : Nat), some (z15b l) = some (z15b l) /\ some z15c = some z15c /\ some (TV.v (.int .i64 0)) = some (TV.v (.int .i64 (↑x : Int))) /\ some (z15a op im ks) = some
 (z15a op im ks) /\ Heap.mk PT.nil 0 = Heap.mk PT.nil 0 /\ (x <= l.length /\ ∀ (j : Nat), j < x -> ∀ (q : Nd), l[j]? = some q -> Nd.mk op im ks ≠ q) /\ True) /\ ∀ (x : Nat) (b : FF), (x <= l.length /\ ∀ (j : Nat), j < x -> ∀ (q : Nd), l[j]? = some q -> Nd.mk op im ks ≠ q) -> brS (decide ((↑x
 : Int) < (↑l.length : Int))) (needS (decide (0 <= (↑x : Int)) && decide ((↑x : Int) < (↑l.length : Int))) (ldIS .i64 (List.flatMap cN l) (Int.toNat (↑x : Int) * 3) fun n0 => ldIS .i64 (List.flatMap cN l) (Int.toNat (↑x : Int) * 3 + (1 : Nat))
 fun n1 => ldVS 1 (List.flatMap cN l) (Int.toNat (↑x : Int) * 3 + (1 : Nat) + 1) fun (i2 : Option Nat) (e3 l4 : Nat) (c5 : List IV) => ∃ (ks_1 ks2 : List Int), (l4 = ks_1.length /\ c5 = List.map (IV.int .i64) ks_1) /\ (ks.length = List.length
 ks2 /\ List.map (IV.int .i64) ks = List.map (IV.int .i64) ks2) /\ ks_1.length <= 1000000000 /\ brS (decide (Nd.mk n0 n1 ks_1 = Nd.mk op im ks2)) (Q (.bool true) h) (∃ (x_1 : Nat), some (z15b l) = some (z15b l) /\ some z15c = some z15c /\ some (TV.v (.int .i64 (IntKind.wrap
 .i64 ((↑x : Int) + 1)))) = some (TV.v (.int .i64 (↑x_1 : Int))) /\ some (z15a op im ks) = some (z15a op im ks) /\ Heap.mk PT.nil 0 = Heap.mk PT.nil 0 /\ (x_1 <= l.length /\ ∀ (j : Nat), j < x_1 -> ∀ (q : Nd), l[j]? = some q -> Nd.mk op im ks ≠ q) /\ l.length
 - x_1 < l.length - x))) (Q (.bool false) h))) := by kernel_rfl
set_option maxHeartbeats 1000000 in
theorem sCont : ∀ xs h Q, kCont xs h Q -> CallW env 15 xs h Q := by
 intro xs h Q hk
 unfold kCont at hk
 split at hk
 ·rename_i e0 n0 c0 op im e1 n1 c1
  obtain ⟨l, ks, ⟨rfl, rfl⟩, ⟨rfl, rfl⟩, hb, hk⟩ := hk
  refine dF_run (okSameNd) (vCont l op im ks e0 e1 h Q) ?_
  delta z15a z15b z15c
  have tn : ∀ x : Nat, (x : Int).toNat = x := Int.toNat_natCast
  refine needS_intro (by simp only [pureL, pureB, pureL_ints, pureL_cN, Bool.and_true]) ⟨⟨0, (by first | rfl | exact True.intro), (by first | rfl | exact True.intro), (by first | rfl | exact True.intro), (by first | rfl | exact True.intro), (by first | rfl | exact True.intro), ⟨Nat.zero_le _, fun j hj => by omega⟩, trivial⟩, ?_⟩
  rintro i _ ⟨hi, hne⟩
  try dsimp only at hi hne ⊢
  have et : ∀ x : Nd, (⟨x.op, x.im, x.ks⟩ : Nd) = x := fun x => by cases x; rfl
  refine brS_intro (fun c => ?_) (fun c => ?_)
  ·rw [decide_eq_true_eq] at c
   have hlt : i < l.length := by omega
   refine needS_intro (by simp; omega) (ldNd hlt (by rw [tn]) ⟨l[i].ks, ks, ⟨rfl, rfl⟩, ⟨rfl, rfl⟩, by have := hb.2 _ (List.getElem_mem hlt); omega, brS_intro (fun c1 => ?_) (fun c1 => ⟨i + 1, (by first | rfl | exact True.intro), (by first | rfl | exact True.intro), ?_, (by first | rfl | exact True.intro), (by first | rfl | exact True.intro), ⟨hlt, fun j hj q hq => ?_⟩, by (try dsimp only); omega⟩)⟩)
   ·rw [decide_eq_true_eq, et] at c1
    rw [decide_eq_true (c1 ▸ List.getElem_mem hlt)] at hk
    exact hk
   ·rw [IntWalk.i64_in _ (by omega)]; rfl
   ·rcases Nat.lt_or_ge j i with p | p
    ·exact hne j p q hq
    ·obtain rfl : j = i := by omega
     rw [decide_eq_false_iff_not, et] at c1
     rw [List.getElem?_eq_getElem hlt, Option.some.injEq] at hq
     rw [<- hq]
     exact fun e => c1 e.symm
  ·rw [decide_eq_false_iff_not] at c
   rw [decide_eq_false (fun hm => ?_)] at hk
   ·exact hk
   ·obtain ⟨j, hj, e⟩ := List.mem_iff_getElem.1 hm
    exact hne j (by omega) _ (List.getElem?_eq_getElem hj) e.symm
 ·exact hk.elim
def cCont := addC 15 kCont cSameNd
theorem okCont : Sound env cCont := sound_add sCont (okSameNd)
def noInv (b : Bool) (l : List Int) : Inv' := (atX ND (fun x => [(0, .v (.vslice none 0 (l).length 1 ((l).map (IV.int .i64)))), (1, .v (.bool b)), (6, .v (.int .i64 x.i)), (5, .v (.vslice x.io x.e x.x.length 3 (x.x.flatMap cN)))]) (fun x => []) (fun x => x.g) (fun x => x.i <= 14 /\ OV x) (fun x => (14 - x.i) * 10))
def naInv (b : Bool) (l : List Int) : Inv' := (atX ND (fun x => [(0, .v (.vslice none 0 (l).length 1 ((l).map (IV.int .i64)))), (1, .v (.bool b)), (6, .v (.int .i64 x.i)), (5, .v (.vslice x.io x.e x.x.length 3 (x.x.flatMap cN))), (7, .v (.ptr x.rd 0)), (8, .l 8 0)]) (fun x => [(8, [.int .i64 x.op, .int .i64 x.im, .nilslice])]) (fun x => x.g) (fun x => (x.i < 14 /\ x.i < l.length) /\ OR x /\ OI x.op x.im) (fun x => (14 - x.i) * 10))
def niInv (b : Bool) (l : List Int) : Inv' := (atX ND (fun x => [(0, .v (.vslice none 0 (l).length 1 ((l).map (IV.int .i64)))), (1, .v (.bool b)), (6, .v (.int .i64 x.i)), (5, .v (.vslice x.io x.e x.x.length 3 (x.x.flatMap cN))), (7, .v (.ptr x.rd 0)), (8, .l 8 0), (9, .v (.int .i64 (ar x.op))), (11, .v (.int .i64 x.ks.length))]) (fun x => [(8, [.int .i64 x.op, .int .i64 x.im, x.kv])]) (fun x => x.g) (fun x => (x.i < 14 /\ x.i < l.length) /\ OR x /\ OI x.op x.im /\ KV x) (fun x => (14 - x.i) * 10 + (3 - x.ks.length)))
def ncInv (b : Bool) (l : List Int) : Inv' := (atX ND (fun x => [(0, .v (.vslice none 0 (l).length 1 ((l).map (IV.int .i64)))), (1, .v (.bool b)), (6, .v (.int .i64 x.i)), (5, .v (.vslice x.io x.e x.x.length 3 (x.x.flatMap cN))), (8, .l 8 0)]) (fun x => [(8, [.int .i64 x.op, .int .i64 x.im, x.kv])]) (fun x => x.g) (fun x => (x.i < 14 /\ x.i < l.length) /\ OV x /\ KV x /\ OI x.op 0 /\ (x.ks.length : Int) = ar x.op /\ ((x.op ≠ 27 /\ i64b x.im /\ (x.op = 1 \/ x.im = 0)) \/ (x.op = 27 /\ 1 <= x.im /\ x.im <= 2))) (fun x => (14 - x.i) * 10))
def nbInv (b : Bool) (l : List Int) : Inv' := .or (atX ND (fun x => [(0, .v (.vslice none 0 (l).length 1 ((l).map (IV.int .i64)))), (1, .v (.bool b)), (6, .v (.int .i64 x.i)), (5, .v (.vslice x.io x.e x.x.length 3 (x.x.flatMap cN))), (8, .l 8 0)]) (fun x => [(8, [.int .i64 x.op, .int .i64 x.im, .nilslice])]) (fun x => x.g) (fun x => (x.i < 14 /\ x.i < l.length) /\ OV x /\ FN x.x x.op x.im [] /\ x.ks = []) (fun x => (14 - x.i) * 10)) (atX ND (fun x => [(0, .v (.vslice none 0 (l).length 1 ((l).map (IV.int .i64)))), (1, .v (.bool b)), (6, .v (.int .i64 x.i)), (5, .v (.vslice x.io x.e x.x.length 3 (x.x.flatMap cN))), (8, .l 8 0)]) (fun x => [(8, [.int .i64 x.op, .int .i64 x.im, .vslice (some x.rd) x.ks.length x.ks.length 1 (x.ks.map (IV.int .i64))])]) (fun x => x.g) (fun x => (x.i < 14 /\ x.i < l.length) /\ OV x /\ FN x.x x.op x.im x.ks) (fun x => (14 - x.i) * 10))
def kNodes (xs : List IV) (h : Heap) (K : IV -> Heap -> Prop) : Prop := match xs with
 | [.vslice none e1 n1 1 c1, .bool b] => ∃ l : List Int, (n1 = l.length /\ c1 = l.map (IV.int .i64)) /\ ((∀ x ∈ l, i64b x) /\ l.length <= 9223372036854775807) /\ ∀ x : List Nd, NW 14 x -> K (.vslice none 0 (x).length 3 ((x).flatMap cN)) h
 | _ => False
noncomputable def z4g  := IV.int .i64
noncomputable def z4x (l : List Int) := List.map z4g l
noncomputable def z4a (l : List Int) := TV.v (.vslice none 0 l.length 1 (z4x l))
noncomputable def z4b  := TV.l 8 0
noncomputable def z4c (n0 n1 n2 : Int) := IObj.cells [IV.vslice none 1 3 1 [IV.int .i64 (IntKind.wrap .i64 (Int.tdiv n0 (7 : Int))), IV.int .i64 (IntKind.wrap .i64 (Int.tdiv n1 (101 : Int))), IV.int .i64 (IntKind.wrap .i64 (Int.tdiv n2 (1009 : Int)))], IV.int .i64 0]
noncomputable def z4d (x_4 : ND) := TV.v (.vslice (ND.io x_4) (ND.e x_4) (List.length (ND.x x_4)) 3 (List.flatMap cN (ND.x x_4)))
noncomputable def z4e (b : Bool) := TV.v (.bool b)
noncomputable def z4f (x_1 : ND) := TV.v (.vslice (ND.io x_1) (ND.e x_1) (List.length (ND.x x_1)) 3 (List.flatMap cN (ND.x x_1)))
noncomputable def z4h (x_6 : ND) := TV.v (.vslice (ND.io x_6) (ND.e x_6) (List.length (ND.x x_6)) 3 (List.flatMap cN (ND.x x_6)))
noncomputable def z4i (x_5 : ND) := IV.vslice (ND.io x_5) (ND.e x_5) (List.length (ND.x x_5)) 3 (List.flatMap cN (ND.x x_5))
noncomputable def z4j (x_5 : ND) := TV.v (.int .i64 (IntKind.wrap .i64 ((↑(ND.i x_5) : Int) + 1)))
noncomputable def z4k (x_1 : ND) := [IV.int .i64 (ND.op x_1), IV.int .i64 (ND.im x_1), IV.nilslice]
noncomputable def z4l (x_4 : ND) := TV.v (.int .i64 (↑(ND.i x_4) : Int))
noncomputable def z4m (x_3 : ND) := TV.v (.vslice (ND.io x_3) (ND.e x_3) (List.length (ND.x x_3)) 3 (List.flatMap cN (ND.x x_3)))
noncomputable def z4n (l : List Int) (x_1 : ND) := decide (0 <= (↑(ND.i x_1) : Int)) && decide ((↑(ND.i x_1) : Int) < (↑l.length : Int))
noncomputable def z4o (x_1 : ND) := TV.v (.int .i64 (↑(ND.i x_1) : Int))
noncomputable abbrev z4p (l : List Int) (x_1 : ND) := (ND.i x_1 < 14 /\ ND.i x_1 < l.length) /\ OR x_1 /\ OI (ND.op x_1) (ND.im x_1)
noncomputable abbrev z4q  := (0 : Int) < 2 /\ (2 : Int) < 4611686018427387904
noncomputable def z4r (x_6 : ND) := TV.v (.int .i64 (↑(ND.i x_6) : Int))
noncomputable def z4s (n3 : Int) := [IV.int .i64 (IntKind.wrap .i64 ((4 : Int) + n3 % (19 : Int))), IV.int .i64 0, IV.nilslice]
noncomputable def z4t (x_1 : ND) := TV.v (.ptr (ND.rd x_1) 0)
noncomputable def z4u (x_4 : ND) (n16 : Int) := [IV.int .i64 (ND.op x_4), IV.int .i64 (IntKind.wrap .i64 (Int.tdiv n16 (5 : Int)) % (2 : Int)), ND.kv x_4]
noncomputable def z4v (x_4 : ND) (n17 : Int) := [IV.int .i64 (ND.op x_4), IV.int .i64 (IntKind.wrap .i64 (Int.tdiv n17 (5 : Int)) % (2 : Int)), ND.kv x_4]
noncomputable abbrev z4w (l_1 : List Nd) := l_1.length <= 1000000 /\ ∀ (x : Nd), x ∈ l_1 -> List.length (Nd.ks x) <= 1000000
noncomputable def z4y (l : List Int) (x_4 : ND) := decide (0 <= (↑(ND.i x_4) : Int)) && decide ((↑(ND.i x_4) : Int) < (↑l.length : Int))
noncomputable def z4z (x_3 : ND) := TV.v (.int .i64 (↑(ND.i x_3) : Int))
noncomputable abbrev z4aa (x_6 : ND) := ND.i x_6 <= 14 /\ OV x_6
noncomputable def z4ab (x_1 : ND) := Int.toNat (↑(ND.i x_1) : Int) * 1
noncomputable def z4ac (x_4 : ND) := [IV.int .i64 (ND.op x_4), IV.int .i64 (ND.im x_4), ND.kv x_4]
set_option maxRecDepth 100000 in
theorem vNodes (l : List Int) (b : Bool) (e1 : Nat) (h : Heap) (Q : IV -> Heap -> Prop) : dF (stdS cCont) env 4 noU (icA 4 (noInv b l) (ic1 1000014 (niInv b l))) (icA 1000010 (naInv b l) (icA 1000012 (naInv b l) (icA 1000019 (ncInv b l) (ic1 1000021 (nbInv b l))))) [.vslice none e1 (l).length 1 ((l).map (IV.int .i64)), .bool b] h Q = (
 needS (pureL [IV.vslice none 0 l.length 1 (z4x l), IV.bool b]) ((∃ (x : ND), some (z4a l) = some (z4a l) /\ some (z4e b) = some (z4e b) /\ some (TV.v (.int .i64 0)) = some (TV.v (.int .i64 (↑(ND.i x) : Int))) /\ some (TV.v (.vslice none 1 3
 3 [IV.int .i64 2, IV.int .i64 0, IV.vslice none 0 0 1 [], IV.int .i64 2, IV.int .i64 1, IV.vslice none 0 0 1 [], IV.int .i64 26, IV.int .i64 0, IV.vslice none
 0 0 1 []])) = some (TV.v (.vslice (ND.io x) (ND.e x) (List.length (ND.x x)) 3 (List.flatMap cN (ND.x x)))) /\ Heap.mk PT.nil 0 = ND.g x /\ (ND.i x <= 14 /\ OV x) /\ True) /\ ∀ (x : ND) (b_1 : FF), ND.i x <= 14 /\ OV x -> brS (decide ((↑(ND.i x) : Int)
 < (↑l.length : Int))) (brS (decide ((↑(ND.i x) : Int) < 14)) (needS (decide (0 <= (↑(ND.i x) : Int)) && decide ((↑(ND.i x) : Int) < (↑l.length : Int))) (ldIS .i64 (z4x l) (Int.toNat (↑(ND.i x) : Int) * 1) fun n0 => needS (decide (0 <= (↑(ND.i
 x) : Int)) && decide ((↑(ND.i x) : Int) < (↑l.length : Int))) (ldIS .i64 (z4x l) (Int.toNat (↑(ND.i x) : Int) * 1) fun n1 => needS (decide (0 <= (↑(ND.i x) : Int)) && decide ((↑(ND.i x) : Int) < (↑l.length : Int))) (ldIS .i64 (z4x l) (Int.toNat (↑(ND.i
 x) : Int) * 1) fun n2 => needS (decide (0 <= (↑(ND.i x) : Int)) && decide ((↑(ND.i x) : Int) < (↑l.length : Int))) (ldIS .i64 (z4x l) (Int.toNat (↑(ND.i x) : Int) * 1) fun n3 => ((0 : Int) < 19 /\ (19 : Int) < 4611686018427387904) /\
 ∃ (M : Nat), brS (!b) (needS (decide (0 <= (↑(ND.i x) : Int)) && decide ((↑(ND.i x) : Int) < (↑l.length : Int))) (ldIS .i64 (z4x l) (Int.toNat (↑(ND.i x) : Int) * 1) fun n4 => ((0 : Int) < 9 /\ (9 : Int) < 4611686018427387904) /\ brS (decide (n4 % (9
 : Int) > 5)) (needS (decide (0 <= (↑(ND.i x) : Int)) && decide ((↑(ND.i x) : Int) < (↑l.length : Int))) (ldIS .i64 (z4x l) (Int.toNat (↑(ND.i x) : Int) * 1) fun n5 => ((0 : Int) < 5 /\ (5 : Int) < 4611686018427387904) /\ needS (decide ((0 : Int)
 <= IntKind.wrap .i64 (Int.tdiv n5 (9 : Int)) % (5 : Int)) && decide (IntKind.wrap .i64 (Int.tdiv n5 (9 : Int)) % (5 : Int) < 5)) (ldIS .i64 [IV.int .i64 23, IV.int .i64 27, IV.int .i64 28, IV.int .i64 29, IV.int .i64
 (24 : Int)] (Int.toNat (IntKind.wrap .i64 (Int.tdiv n5 (9 : Int)) % (5 : Int)) * 1) fun n6 => ∃ (x_1 : ND), some (z4a l) = some (z4a l) /\ some (z4e b) = some (z4e b) /\ some (TV.v (.int .i64 (↑(ND.i x) : Int))) = some (z4o x_1) /\ some (TV.v (.vslice (ND.io x) (ND.e x)
 (List.length (ND.x x)) 3 (List.flatMap cN (ND.x x)))) = some (z4f x_1) /\ some (TV.v (.ptr (Heap.next (ND.g x)) 0)) = some (z4t x_1) /\ some z4b = some z4b /\ some [IV.int .i64 n6, IV.int .i64 0, IV.nilslice] = some (z4k x_1) /\ Heap.push (ND.g x) (z4c n0 n1 n2) =
 ND.g x_1 /\ (z4p l x_1) /\ ((14 : Nat) - ND.i x_1) * 10 <= M))) (∃ (x_1 : ND), some (z4a l) = some (z4a l) /\ some (z4e b) = some (z4e b) /\ some (TV.v (.int .i64 (↑(ND.i x) : Int))) = some (z4o x_1) /\ some (TV.v (.vslice (ND.io x) (ND.e x) (List.length (ND.x x)) 3 (List.flatMap
 cN (ND.x x)))) = some (z4f x_1) /\ some (TV.v (.ptr (Heap.next (ND.g x)) 0)) = some (z4t x_1) /\ some z4b = some z4b /\ some (z4s n3) = some (z4k x_1) /\ Heap.push (ND.g x) (z4c n0 n1 n2) = ND.g x_1 /\ (z4p l x_1) /\ ((14 : Nat) - ND.i x_1) * 10 <= M))) (∃ (x_1 : ND), some (z4a l) = some (z4a
 l) /\ some (z4e b) = some (z4e b) /\ some (TV.v (.int .i64 (↑(ND.i x) : Int))) = some (z4o x_1) /\ some (TV.v (.vslice (ND.io x) (ND.e x) (List.length (ND.x x)) 3 (List.flatMap cN (ND.x x)))) = some (z4f x_1) /\ some (TV.v (.ptr (Heap.next (ND.g x)) 0)) = some (z4t x_1) /\ some
 z4b = some z4b /\ some (z4s n3) = some (z4k x_1) /\ Heap.push (ND.g x) (z4c n0 n1 n2) = ND.g x_1 /\ (z4p l x_1) /\ ((14 : Nat) - ND.i x_1) * 10 <= M) /\ ∀ (x_1 : ND) (b_2 : FF), (ND.i x_1 < 14 /\ ND.i x_1 < l.length) /\ OR x_1 /\ OI (ND.op x_1) (ND.im x_1) -> ((14 : Nat) - ND.i x_1) * (10
 : Nat) <= M -> ∃ (M : Nat), needS (z4n l x_1) (ldIS .i64 (z4x l) (z4ab x_1) fun n7 => ((0 : Int) < 11 /\ (11 : Int) < 4611686018427387904) /\ brS (n7 % (11 : Int) == 0) (needS (z4n l x_1) (ldIS .i64 (z4x l) (z4ab x_1) fun n8 => needS (z4n l x_1) (ldIS
 .i64 (z4x l) (z4ab x_1) fun n9 => i64b n9 /\ ∀ (w : Int), i64b w -> ∃ (x : ND), some (z4a l) = some (z4a l) /\ some (z4e b) = some (z4e b) /\ some (z4o x_1) = some (TV.v (.int .i64 (↑(ND.i x) : Int))) /\ some (z4f x_1) = some (TV.v (.vslice (ND.io x) (ND.e x) (List.length (ND.x x))
 3 (List.flatMap cN (ND.x x)))) /\ some (z4t x_1) = some (TV.v (.ptr (ND.rd x) 0)) /\ some z4b = some z4b /\ some [IV.int .i64 1, IV.int .i64 w, IV.nilslice] = some [IV.int .i64 (ND.op x), IV.int .i64 (ND.im x), IV.nilslice] /\ ND.g x_1 = ND.g x /\ ((ND.i
 x < 14 /\ ND.i x < l.length) /\ OR x /\ OI (ND.op x) (ND.im x)) /\ ((14 : Nat) - ND.i x) * 10 <= M))) (∃ (x : ND), some (z4a l) = some (z4a l) /\ some (z4e b) = some (z4e b) /\ some (z4o x_1) = some (TV.v (.int .i64 (↑(ND.i x) : Int))) /\ some (z4f x_1) = some (TV.v (.vslice (ND.io
 x) (ND.e x) (List.length (ND.x x)) 3 (List.flatMap cN (ND.x x)))) /\ some (z4t x_1) = some (TV.v (.ptr (ND.rd x) 0)) /\ some z4b = some z4b /\ some (z4k x_1) = some [IV.int .i64 (ND.op x), IV.int .i64 (ND.im x), IV.nilslice] /\ ND.g x_1 = ND.g x /\ ((ND.i x < 14 /\ ND.i
 x < l.length) /\ OR x /\ OI (ND.op x) (ND.im x)) /\ ((14 : Nat) - ND.i x) * 10 <= M)) /\ ∀ (x_2 : ND) (b_3 : FF), (ND.i x_2 < 14 /\ ND.i x_2 < l.length) /\ OR x_2 /\ OI (ND.op x_2) (ND.im x_2) -> ((14 : Nat) - ND.i x_2) * 10 <= M -> ∃ (M : Nat), (∃ (x : ND), some (z4a l) = some
 (z4a l) /\ some (z4e b) = some (z4e b) /\ some (TV.v (.int .i64 (↑(ND.i x_2) : Int))) = some (TV.v (.int .i64 (↑(ND.i x) : Int))) /\ some (TV.v (.vslice (ND.io x_2) (ND.e x_2) (List.length (ND.x x_2)) 3 (List.flatMap cN (ND.x x_2)))) = some (TV.v (.vslice (ND.io x) (ND.e x)
 (List.length (ND.x x)) 3 (List.flatMap cN (ND.x x)))) /\ some (TV.v (.ptr (ND.rd x_2) 0)) = some (TV.v (.ptr (ND.rd x) 0)) /\ some z4b = some z4b /\ some (TV.v (.int .i64 (ar (ND.op x_2)))) = some (TV.v (.int .i64 (ar (ND.op x)))) /\ some (TV.v (.int .i64
 (0 : Int))) = some (TV.v (.int .i64 (↑(List.length (ND.ks x)) : Int))) /\ some [IV.int .i64 (ND.op x_2), IV.int .i64 (ND.im x_2), IV.nilslice] = some [IV.int .i64 (ND.op x), IV.int .i64 (ND.im x), ND.kv x] /\ ND.g x_2 = ND.g x /\ ((ND.i x < 14 /\ ND.i x < List.length
 l) /\ OR x /\ OI (ND.op x) (ND.im x) /\ KV x) /\ ((14 : Nat) - ND.i x) * 10 + ((3 : Nat) - List.length (ND.ks x)) <= M) /\ ∀ (x_3 : ND) (b_4 : FF), (ND.i x_3 < 14 /\ ND.i x_3 < l.length) /\ OR x_3 /\ OI (ND.op x_3) (ND.im x_3) /\ KV x_3 -> ((14 : Nat) - ND.i x_3) * 10 + ((3 : Nat) -
 List.length (ND.ks x_3)) <= M -> brS (decide ((↑(List.length (ND.ks x_3)) : Int) < ar (ND.op x_3))) (RD (ND.g x_3) (ND.rd x_3) /\ ∀ (n : Int) (h2 : Heap), i64b n -> RD h2 (ND.rd x_3) -> HF (ND.rd x_3) (ND.g x_3) h2 -> ∃ (l_1 : List Nd), (List.length (ND.x x_3) = l_1.length /\ List.flatMap cN (ND.x x_3)
 = List.flatMap cN l_1) /\ ((∀ (x : Nd), x ∈ l_1 -> List.length (Nd.ks x) <= 1000000 /\ Nd.op x ≠ 25 /\ Nd.op x ≠ 30 /\ Nd.op x ≠ 31) /\ l_1.length <= 1000000 /\ osort (ND.op x_3) (↑(List.length (ND.ks x_3)) : Int) ∈ sortsA l_1) /\ ∀ (q : Int), 0 <= q /\ q < (↑(List.length
 l_1) : Int) /\ List.getD (sortsA l_1) q.toNat 0 = osort (ND.op x_3) (↑(List.length (ND.ks x_3)) : Int) -> appGS h2 (1 : Nat) (8 : Nat) x_3.8 1 [IV.int .i64 q] fun (i10 e11 l12 : Nat) (c13 : List IV) (g14 : Heap) => ∃ (x : ND), some (z4a l) = some (z4a l) /\ some (z4e b) = some
 (z4e b) /\ some (z4z x_3) = some (TV.v (.int .i64 (↑(ND.i x) : Int))) /\ some (z4m x_3) = some (TV.v (.vslice (ND.io x) (ND.e x) (List.length (ND.x x)) 3 (List.flatMap cN (ND.x x)))) /\ some (TV.v (.ptr (ND.rd x_3) 0)) = some (TV.v (.ptr (ND.rd x) 0)) /\ some z4b =
 some z4b /\ some (TV.v (.int .i64 (ar (ND.op x_3)))) = some (TV.v (.int .i64 (ar (ND.op x)))) /\ some (TV.v (.int .i64 (IntKind.wrap .i64 ((↑(List.length (ND.ks x_3)) : Int) + 1)))) = some (TV.v (.int .i64 (↑(List.length (ND.ks x)) : Int))) /\ some [IV.int
 .i64 (ND.op x_3), IV.int .i64 (ND.im x_3), IV.vslice (some i10) e11 l12 1 c13] = some [IV.int .i64 (ND.op x), IV.int .i64 (ND.im x), ND.kv x] /\ g14 = ND.g x /\ ((ND.i x < 14 /\ ND.i x < l.length) /\ OR x /\ OI (ND.op x) (ND.im x) /\ KV x) /\ ((14 : Nat) - ND.i
 x) * 10 + ((3 : Nat) - List.length (ND.ks x)) < ((14 : Nat) - ND.i x_3) * 10 + ((3 : Nat) - List.length (ND.ks x_3))) (∃ (M : Nat), brS (ND.op x_3 == 27) (needS (decide (0 <= (↑(ND.i x_3) : Int)) && decide ((↑(ND.i x_3) : Int) < (↑l.length : Int))) (ldIS .i64
 (z4x l) (Int.toNat (↑(ND.i x_3) : Int) * 1) fun n15 => z4q /\ ∃ (x : ND), some (z4a l) = some (z4a l) /\ some (z4e b) = some (z4e b) /\ some (z4z x_3) = some (TV.v (.int .i64 (↑(ND.i x) : Int))) /\ some (z4m x_3) = some (TV.v (.vslice (ND.io x) (ND.e x) (List.length (ND.x x)) (3
 : Nat) (List.flatMap cN (ND.x x)))) /\ some z4b = some z4b /\ some [IV.int .i64 (ND.op x_3), IV.int .i64 (IntKind.wrap .i64 ((1 : Int) + IntKind.wrap .i64 (Int.tdiv n15 (5 : Int)) % (2 : Int))), ND.kv x_3] = some [IV.int .i64 (ND.op x), IV.int .i64 (ND.im x), ND.kv
 x] /\ ND.g x_3 = ND.g x /\ ((ND.i x < 14 /\ ND.i x < l.length) /\ OV x /\ KV x /\ OI (ND.op x) (0 : Int) /\ (↑(List.length (ND.ks x)) : Int) = ar (ND.op x) /\ (ND.op x ≠ 27 /\ i64b (ND.im x) /\ (ND.op x = 1 \/ ND.im x = 0) \/ ND.op x = 27 /\ 1 <= ND.im x /\ ND.im
 x <= 2)) /\ ((14 : Nat) - ND.i x) * 10 <= M)) (∃ (x : ND), some (z4a l) = some (z4a l) /\ some (z4e b) = some (z4e b) /\ some (z4z x_3) = some (TV.v (.int .i64 (↑(ND.i x) : Int))) /\ some (z4m x_3) = some (TV.v (.vslice (ND.io x) (ND.e x) (List.length (ND.x x)) 3 (List.flatMap
 cN (ND.x x)))) /\ some z4b = some z4b /\ some [IV.int .i64 (ND.op x_3), IV.int .i64 (ND.im x_3), ND.kv x_3] = some [IV.int .i64 (ND.op x), IV.int .i64 (ND.im x), ND.kv x] /\ ND.g x_3 = ND.g x /\ ((ND.i x < 14 /\ ND.i x < l.length) /\ OV x /\ KV x /\ OI (ND.op x) (0 :
 Int) /\ (↑(List.length (ND.ks x)) : Int) = ar (ND.op x) /\ (ND.op x ≠ 27 /\ i64b (ND.im x) /\ (ND.op x = 1 \/ ND.im x = 0) \/ ND.op x = 27 /\ 1 <= ND.im x /\ ND.im x <= 2)) /\ ((14 : Nat) - ND.i x) * 10 <= M) /\ ∀ (x_4 : ND) (b_5 : FF), (ND.i x_4 < 14
 /\ ND.i x_4 < l.length) /\ OV x_4 /\ KV x_4 /\ OI (ND.op x_4) (0 : Int) /\ (↑(List.length (ND.ks x_4)) : Int) = ar (ND.op x_4) /\ (ND.op x_4 ≠ 27 /\ i64b (ND.im x_4) /\ (ND.op x_4 = 1 \/ ND.im x_4 = 0) \/ ND.op x_4 = 27 /\ 1 <= ND.im x_4 /\ ND.im x_4 <= 2) -> ((14
 : Nat) - ND.i x_4) * 10 <= M -> ∃ (M : Nat), brS (ND.op x_4 == 23) (needS (z4y l x_4) (ldIS .i64 (z4x l) (Int.toNat (↑(ND.i x_4) : Int) * 1) fun n16 => z4q /\ ((∃ (x : ND), some (z4a l) = some (z4a l) /\ some (z4e b) = some (z4e b) /\ some (z4l x_4) = some (TV.v (.int
 .i64 (↑(ND.i x) : Int))) /\ some (z4d x_4) = some (TV.v (.vslice (ND.io x) (ND.e x) (List.length (ND.x x)) 3 (List.flatMap cN (ND.x x)))) /\ some z4b = some z4b /\ some (z4u x_4 n16) = some [IV.int .i64 (ND.op x), IV.int .i64 (ND.im x), IV.nilslice] /\ ND.g x_4 = ND.g x /\ ((ND.i
 x < 14 /\ ND.i x < l.length) /\ OV x /\ FN (ND.x x) (ND.op x) (ND.im x) [] /\ ND.ks x = []) /\ ((14 : Nat) - ND.i x) * 10 <= M) \/ ∃ (x : ND), some (z4a l) = some (z4a l) /\ some (z4e b) = some (z4e b) /\ some (z4l x_4) = some (TV.v (.int .i64 (↑(ND.i x) : Int))) /\ some (z4d x_4)
 = some (TV.v (.vslice (ND.io x) (ND.e x) (List.length (ND.x x)) 3 (List.flatMap cN (ND.x x)))) /\ some z4b = some z4b /\ some (z4u x_4 n16) = some [IV.int .i64 (ND.op x), IV.int .i64 (ND.im x), IV.vslice (some (ND.rd x)) (List.length (ND.ks x)) (List.length (ND.ks x)) 1
 (List.map z4g (ND.ks x))] /\ ND.g x_4 = ND.g x /\ ((ND.i x < 14 /\ ND.i x < l.length) /\ OV x /\ FN (ND.x x) (ND.op x) (ND.im x) (ND.ks x)) /\ ((14 : Nat) - ND.i x) * 10 <= M))) (brS (ND.op x_4 == 28) (needS (z4y l x_4) (ldIS .i64 (z4x l) (Int.toNat (↑(ND.i x_4) : Int) *
 (1 : Nat)) fun n17 => z4q /\ ((∃ (x : ND), some (z4a l) = some (z4a l) /\ some (z4e b) = some (z4e b) /\ some (z4l x_4) = some (TV.v (.int .i64 (↑(ND.i x) : Int))) /\ some (z4d x_4) = some (TV.v (.vslice (ND.io x) (ND.e x) (List.length (ND.x x)) 3 (List.flatMap cN (ND.x x)))) /\
 some z4b = some z4b /\ some (z4v x_4 n17) = some [IV.int .i64 (ND.op x), IV.int .i64 (ND.im x), IV.nilslice] /\ ND.g x_4 = ND.g x /\ ((ND.i x < 14 /\ ND.i x < l.length) /\ OV x /\ FN (ND.x x) (ND.op x) (ND.im x) [] /\ ND.ks x = []) /\ ((14 : Nat) - ND.i x) * 10 <= M) \/ ∃ (x
 : ND), some (z4a l) = some (z4a l) /\ some (z4e b) = some (z4e b) /\ some (z4l x_4) = some (TV.v (.int .i64 (↑(ND.i x) : Int))) /\ some (z4d x_4) = some (TV.v (.vslice (ND.io x) (ND.e x) (List.length (ND.x x)) 3 (List.flatMap cN (ND.x x)))) /\ some z4b = some z4b /\ some (z4v x_4 n17) =
 some [IV.int .i64 (ND.op x), IV.int .i64 (ND.im x), IV.vslice (some (ND.rd x)) (List.length (ND.ks x)) (List.length (ND.ks x)) 1 (List.map z4g (ND.ks x))] /\ ND.g x_4 = ND.g x /\ ((ND.i x < 14 /\ ND.i x < l.length) /\ OV x /\ FN (ND.x x) (ND.op x) (ND.im x) (ND.ks x)) /\
 ((14 : Nat) - ND.i x) * 10 <= M))) ((∃ (x : ND), some (z4a l) = some (z4a l) /\ some (z4e b) = some (z4e b) /\ some (z4l x_4) = some (TV.v (.int .i64 (↑(ND.i x) : Int))) /\ some (z4d x_4) = some (TV.v (.vslice (ND.io x) (ND.e x) (List.length (ND.x x)) 3 (List.flatMap cN (ND.x x))))
 /\ some z4b = some z4b /\ some (z4ac x_4) = some [IV.int .i64 (ND.op x), IV.int .i64 (ND.im x), IV.nilslice] /\ ND.g x_4 = ND.g x /\ ((ND.i x < 14 /\ ND.i x < l.length) /\ OV x /\ FN (ND.x x) (ND.op x) (ND.im x) [] /\ ND.ks x = []) /\ ((14 : Nat) - ND.i x) * 10 <= M) \/ ∃ (x :
 ND), some (z4a l) = some (z4a l) /\ some (z4e b) = some (z4e b) /\ some (z4l x_4) = some (TV.v (.int .i64 (↑(ND.i x) : Int))) /\ some (z4d x_4) = some (TV.v (.vslice (ND.io x) (ND.e x) (List.length (ND.x x)) 3 (List.flatMap cN (ND.x x)))) /\ some z4b = some z4b /\ some (z4ac x_4) = some
 [IV.int .i64 (ND.op x), IV.int .i64 (ND.im x), IV.vslice (some (ND.rd x)) (List.length (ND.ks x)) (List.length (ND.ks x)) 1 (List.map z4g (ND.ks x))] /\ ND.g x_4 = ND.g x /\ ((ND.i x < 14 /\ ND.i x < l.length) /\ OV x /\ FN (ND.x x) (ND.op x) (ND.im x) (ND.ks x)) /\ ((14
 : Nat) - ND.i x) * 10 <= M)) /\ (∀ (x_5 : ND) (b_6 : FF), (ND.i x_5 < 14 /\ ND.i x_5 < l.length) /\ OV x_5 /\ FN (ND.x x_5) (ND.op x_5) (ND.im x_5) [] /\ ND.ks x_5 = [] -> ((14 : Nat) - ND.i x_5) * 10 <= M -> ∃ (l_1 : List Nd), ∃ (ks : List Int), (List.length (ND.x x_5) = List.length
 l_1 /\ List.flatMap cN (ND.x x_5) = List.flatMap cN l_1) /\ ((0 : Nat) = ks.length /\ [] = List.map z4g ks) /\ (z4w l_1) /\ brS (!decide (Nd.mk (ND.op x_5) (ND.im x_5) ks ∈ l_1)) (appGS (ND.g x_5) (3 : Nat) (40 : Nat) (z4i x_5) 1 [IV.int .i64 (ND.op x_5), IV.int .i64 (ND.im x_5),
 IV.vslice none 0 0 1 []] fun (i18 e19 l20 : Nat) (c21 : List IV) (g22 : Heap) => ∃ (x_6 : ND), some (z4a l) = some (z4a l) /\ some (z4e b) = some (z4e b) /\ some (z4j x_5) = some (z4r x_6) /\ some (TV.v (.vslice (some i18) e19 l20 3 c21)) = some (z4h x_6) /\ g22 = ND.g x_6
 /\ (z4aa x_6) /\ ((14 : Nat) - ND.i x_6) * 10 < ((14 : Nat) - ND.i x) * 10) (∃ (x_6 : ND), some (z4a l) = some (z4a l) /\ some (z4e b) = some (z4e b) /\ some (z4j x_5) = some (z4r x_6) /\ some (TV.v (z4i x_5)) = some (z4h x_6) /\ ND.g x_5 = ND.g x_6 /\ (z4aa x_6) /\ ((14 : Nat) - ND.i x_6) *
 (10 : Nat) < ((14 : Nat) - ND.i x) * 10)) /\ ∀ (x_5 : ND) (b_6 : FF), (ND.i x_5 < 14 /\ ND.i x_5 < l.length) /\ OV x_5 /\ FN (ND.x x_5) (ND.op x_5) (ND.im x_5) (ND.ks x_5) -> ((14 : Nat) - ND.i x_5) * 10 <= M -> ∃ (l_1 : List Nd), ∃ (ks : List Int), (List.length (ND.x x_5) = List.length
 l_1 /\ List.flatMap cN (ND.x x_5) = List.flatMap cN l_1) /\ (List.length (ND.ks x_5) = ks.length /\ List.map z4g (ND.ks x_5) = List.map z4g ks) /\ (z4w l_1) /\ brS (!decide (Nd.mk (ND.op x_5) (ND.im x_5) ks ∈ l_1)) (appGS (ND.g x_5) (3 : Nat) (40 : Nat) (z4i x_5) 1 [IV.int .i64 (ND.op
 x_5), IV.int .i64 (ND.im x_5), IV.vslice none 0 (List.length (ND.ks x_5)) 1 (List.map z4g (ND.ks x_5))] fun (i23 e24 l25 : Nat) (c26 : List IV) (g27 : Heap) => ∃ (x_6 : ND), some (z4a l) = some (z4a l) /\ some (z4e b) = some (z4e b) /\ some (z4j x_5) = some (z4r x_6) /\ some (TV.v
 (IV.vslice (some i23) e24 l25 3 c26)) = some (z4h x_6) /\ g27 = ND.g x_6 /\ (z4aa x_6) /\ ((14 : Nat) - ND.i x_6) * 10 < ((14 : Nat) - ND.i x) * 10) (∃ (x_6 : ND), some (z4a l) = some (z4a l) /\ some (z4e b) = some (z4e b) /\ some (z4j x_5) = some (z4r x_6) /\ some (TV.v (z4i x_5))
 = some (z4h x_6) /\ ND.g x_5 = ND.g x_6 /\ (z4aa x_6) /\ ((14 : Nat) - ND.i x_6) * 10 < ((14 : Nat) - ND.i x) * 10))))))) (needS (pureL [IV.vslice none 0 (List.length (ND.x x)) 3 (List.flatMap cN (ND.x x))]) (Q (.vslice none 0 (List.length (ND.x x)) 3 (List.flatMap
 cN (ND.x x))) h))) (needS (pureL [IV.vslice none 0 (List.length (ND.x x)) 3 (List.flatMap cN (ND.x x))]) (Q (.vslice none 0 (List.length (ND.x x)) 3 (List.flatMap cN (ND.x x))) h)))) := by kernel_rfl
set_option maxHeartbeats 4000000 in
theorem sNodes : ∀ xs h Q, kNodes xs h Q -> CallW env 4 xs h Q := by
 intro xs h Q hk
 unfold kNodes at hk
 split at hk
 ·rename_i e1 n1 c1 b
  obtain ⟨l, ⟨rfl, rfl⟩, hb, hk⟩ := hk
  refine dF_run (okCont) (vNodes l b e1 h Q) ?_
  delta z4a z4b z4c z4d z4e z4f z4g z4h z4i z4j z4k z4l z4m z4n z4o z4p z4q z4r z4s z4t z4u z4v z4w z4x z4y z4z z4aa z4ab z4ac
  have tn : ∀ x : Nat, (x : Int).toNat = x := Int.toNat_natCast
  obtain ⟨hlb, hll⟩ := hb
  have hL : ∀ {i : Nat} {K : Int -> Prop}, i < l.length -> (∀ n, i64b n -> K n) -> needS (decide ((0 : Int) <= (i : Int)) && decide ((i : Int) < (l.length : Int))) (ldIS .i64 (l.map (IV.int .i64)) ((i : Int).toNat * 1) K) :=
   fun h hk => needS_intro (by simp; omega) (ldI1 h (by rw [Nat.mul_one, tn]) (hk _ (hlb _ (List.getElem_mem h))))
  refine needS_intro (by simp only [pureL, pureB, pureL_ints, Bool.and_true]) ⟨⟨⟨0, init3, none, 1, 0, 0, [], .nilslice, 0, Heap.empty⟩, ?_⟩, ?_⟩
  ·repeat (refine And.intro (by first | rfl | exact True.intro | (rw [IntWalk.i64_in _ (by omega)]; rfl)) ?_)
   exact ⟨⟨Nat.zero_le _, NW.init, .inl ⟨rfl, rfl⟩⟩, trivial⟩
  rintro x _ ⟨hi, hov⟩
  have fin : needS (pureL [.vslice none 0 x.x.length 3 (x.x.flatMap cN)]) (Q (.vslice none 0 x.x.length 3 (x.x.flatMap cN)) h) := needS_intro (by simp only [pureL, pureB, pureL_cN, Bool.and_true]) (hk _ (hov.1.mono hi))
  refine brS_intro (fun c => brS_intro (fun c2 => ?_) (fun _ => fin)) (fun _ => fin)
  rw [decide_eq_true_eq] at c c2
  have hr : x.i < 14 /\ x.i < l.length := by omega
  refine hL hr.2 (fun n0 _ => hL hr.2 (fun n1 _ => hL hr.2 (fun n2 _ => hL hr.2 (fun n3 _ => ⟨by omega, (14 - x.i) * 10, ?_, ?_⟩))))
  ·have w3 : IntKind.i64.wrap (4 + n3 % 19) = 4 + n3 % 19 := IntWalk.i64_in _ (by omega)
   rw [w3]
   have o3 : opOk (4 + n3 % 19) = true := by unfold opOk; rw [decide_eq_true_eq]; omega
   have oi : ∀ op, opOk op = true -> OI op 0 := fun op h => ⟨h, by unfold i64b; omega, .inr rfl⟩
   refine brS_intro (fun _ => hL hr.2 (fun n4 _ => ⟨by omega, brS_intro (fun _ => hL hr.2 (fun n5 _ => ⟨by omega, needS_intro (by simp; omega) ?_⟩)) (fun _ => ?_)⟩)) (fun _ => ?_)
   ·show ldIS .i64 (([23, 27, 28, 29, 24] : List Int).map (IV.int .i64)) _ _
    have hl : (IntKind.i64.wrap (n5.tdiv 9) % 5).toNat < ([23, 27, 28, 29, 24] : List Int).length := by simp; omega
    have ha : ∀ x ∈ ([23, 27, 28, 29, 24] : List Int), opOk x = true := by decide
    exact ldI1 hl (Nat.mul_one _) ⟨⟨x.i, x.x, x.io, x.e, _, 0, [], .nilslice, x.g.next, _⟩, rfl, rfl, rfl, rfl, rfl, rfl, rfl, rfl, ⟨hr, OR.mk1 hov _ _ _ _ _, oi _ (ha _ (List.getElem_mem hl))⟩, Nat.le_refl _⟩
   ·exact ⟨⟨x.i, x.x, x.io, x.e, 4 + n3 % 19, 0, [], .nilslice, x.g.next, _⟩, rfl, rfl, rfl, rfl, rfl, rfl, rfl, rfl, ⟨hr, OR.mk1 hov _ _ _ _ _, oi _ o3⟩, Nat.le_refl _⟩
   ·exact ⟨⟨x.i, x.x, x.io, x.e, 4 + n3 % 19, 0, [], .nilslice, x.g.next, _⟩, rfl, rfl, rfl, rfl, rfl, rfl, rfl, rfl, ⟨hr, OR.mk1 hov _ _ _ _ _, oi _ o3⟩, Nat.le_refl _⟩
  ·rintro x1 _ ⟨hr1, hor, hoi⟩ hM1
   refine ⟨(14 - x1.i) * 10, hL hr1.2 (fun n7 _ => ⟨by omega, brS_intro (fun _ => hL hr1.2 (fun n8 _ => hL hr1.2 (fun n9 h9 => ⟨h9, fun w hw => ⟨⟨x1.i, x1.x, x1.io, x1.e, 1, w, [], .nilslice, x1.rd, x1.g⟩, ?_⟩⟩))) (fun _ => ⟨x1, ?_⟩)⟩), ?_⟩
   ·repeat (refine And.intro (by first | rfl | exact True.intro | (rw [IntWalk.i64_in _ (by omega)]; rfl)) ?_)
    exact ⟨⟨hr1, hor, ⟨rfl, hw, .inl rfl⟩⟩, Nat.le_refl _⟩
   ·repeat (refine And.intro (by first | rfl | exact True.intro | (rw [IntWalk.i64_in _ (by omega)]; rfl)) ?_)
    exact ⟨⟨hr1, hor, hoi⟩, Nat.le_refl _⟩
   rintro x2 _ ⟨hr2, hor2, hoi2⟩ hM2
   refine ⟨(14 - x2.i) * 10 + 3, ⟨⟨x2.i, x2.x, x2.io, x2.e, x2.op, x2.im, [], .nilslice, x2.rd, x2.g⟩, ?_⟩, ?_⟩
   ·repeat (refine And.intro (by first | rfl | exact True.intro | (rw [IntWalk.i64_in _ (by omega)]; rfl)) ?_)
    exact ⟨⟨hr2, hor2, hoi2, KS.nil hoi2.1, .inl ⟨rfl, rfl⟩⟩, Nat.le_refl _⟩
   rintro x3 _ ⟨hr3, hor3, hoi3, hks, hkv⟩ hM3
   have hxl := hor3.1.1.1
   have ha3 := ar_3 x3.op
   have hkl := hks.1
   refine brS_intro (fun c3 => ?_) (fun c3 => ?_)
   ·rw [decide_eq_true_eq] at c3
    refine ⟨hor3.2.1, fun n h2 hn hrd hf => ⟨x3.x, ⟨rfl, rfl⟩, ⟨hor3.1.1.sorts, by omega, hor3.1.1.has _ _⟩, fun q hq => ?_⟩⟩
    have hkv2 : (x3.kv = .nilslice /\ x3.ks = []) \/ ∃ id, x3.kv = .vslice (some id) x3.ks.length x3.ks.length 1 (x3.ks.map (IV.int .i64)) /\ KH x3.ks id h2 := by
     rcases hkv with q | ⟨id, q1, q2, q3, _⟩
     ·exact .inl q
     ·exact .inr ⟨id, q1, q2.hf hf q3⟩
    refine app_kids hkv2 (by omega) (fun id h3 hkh hf3 hfr => ⟨⟨x3.i, x3.x, x3.io, x3.e, x3.op, x3.im, x3.ks ++ [q], .vslice (some id) (x3.ks ++ [q]).length (x3.ks ++ [q]).length 1 ((x3.ks ++ [q]).map (IV.int .i64)), x3.rd, h3⟩, ?_⟩)
    have hne : ∀ j, x3.io = some j -> j ≠ id := fun j hj e => by
     subst e
     rcases hfr with q | q
     ·rcases hor3.1.2 with q2 | ⟨id2, q2, _, q3⟩
      ·rw [q2.1] at hj
       cases hj
      ·rw [q2] at hj
       cases hj
       have := q3.2
       have := hf.1
       omega
     ·rcases hkv with ⟨q2, _⟩ | ⟨id2, q2, _, _, q3⟩
      ·rw [q2] at q
       cases q
      ·rw [q2] at q
       cases q
       exact q3 _ hj rfl
    have hnr : id ≠ x3.rd := fun e => by
     subst e
     rcases hfr with q | q
     ·have := hrd.1
      omega
     ·rcases hkv with ⟨q2, _⟩ | ⟨id2, q2, _, q3, _⟩
      ·rw [q2] at q
       cases q
      ·rw [q2] at q
       cases q
       exact q3 rfl
    refine ⟨rfl, rfl, rfl, rfl, rfl, rfl, rfl, ?_⟩
    refine ⟨by rw [IntWalk.i64_in _ (by omega)]; simp, ?_⟩
    repeat (refine And.intro (by first | rfl | exact True.intro | (rw [IntWalk.i64_in _ (by omega)]; rfl)) ?_)
    refine ⟨⟨hr3, ⟨⟨hor3.1.1, ?_⟩, hrd.hf hf3 hnr.symm, hor3.2.2⟩, hoi3, hks.snoc c3 hq, .inr ⟨id, rfl, hkh, hnr, hne⟩⟩, by simp only [List.length_append, List.length_cons, List.length_nil]; omega⟩
    rcases hor3.1.2 with q2 | ⟨id2, q2, q4, q3⟩
    ·exact .inl q2
    ·exact .inr ⟨id2, q2, q4, (q3.hf hf (hor3.2.2 _ q2)).hf hf3 (hne _ q2)⟩
   ·rw [decide_eq_false_iff_not] at c3
    have hka : (x3.ks.length : Int) = ar x3.op := by omega
    refine ⟨(14 - x3.i) * 10, brS_intro (fun c4 => hL hr3.2 (fun n15 _ => ⟨by omega, ⟨⟨x3.i, x3.x, x3.io, x3.e, x3.op, 1 + IntKind.i64.wrap (n15.tdiv 5) % 2, x3.ks, x3.kv, x3.rd, x3.g⟩, ?_⟩⟩)) (fun c4 => ⟨x3, ?_⟩), ?_⟩
    ·have w4 : IntKind.i64.wrap (1 + IntKind.i64.wrap (n15.tdiv 5) % 2) = 1 + IntKind.i64.wrap (n15.tdiv 5) % 2 := IntWalk.i64_in _ (by omega)
     rw [w4]
     repeat (refine And.intro (by first | rfl | exact True.intro | (rw [IntWalk.i64_in _ (by omega)]; rfl)) ?_)
     refine ⟨⟨hr3, hor3.1, ⟨hks, hkv⟩, ⟨hoi3.1, by unfold i64b; omega, .inr rfl⟩, hka, .inr ⟨beq_iff_eq.1 c4, by dsimp only; omega, by dsimp only; omega⟩⟩, by dsimp only; omega⟩
    ·repeat (refine And.intro (by first | rfl | exact True.intro | (rw [IntWalk.i64_in _ (by omega)]; rfl)) ?_)
     refine ⟨⟨hr3, hor3.1, ⟨hks, hkv⟩, ⟨hoi3.1, by unfold i64b; omega, .inr rfl⟩, hka, .inl ⟨by simpa using c4, hoi3.2.1, hoi3.2.2⟩⟩, by omega⟩
    rintro x4 _ ⟨hr4, hov4, ⟨hks4, hkv4⟩, hoi4, hka4, him4⟩ hM4
    have toB : ∀ im, FN x4.x x4.op im x4.ks -> ((∃ y : ND, some (TV.v (.vslice none 0 l.length 1 (l.map (IV.int .i64)))) = some (TV.v (.vslice none 0 l.length 1 (l.map (IV.int .i64)))) /\ some (TV.v (.bool b)) = some (TV.v (.bool b)) /\ some (TV.v (.int .i64 (x4.i : Int))) = some (TV.v (.int .i64 (y.i : Int))) /\
     some (TV.v (.vslice x4.io x4.e x4.x.length 3 (x4.x.flatMap cN))) = some (TV.v (.vslice y.io y.e y.x.length 3 (y.x.flatMap cN))) /\ some (TV.l 8 0) = some (TV.l 8 0) /\ some [.int .i64 x4.op, .int .i64 im, x4.kv] = some [.int .i64 y.op, .int .i64 y.im, IV.nilslice] /\ x4.g = y.g /\
     ((y.i < 14 /\ y.i < l.length) /\ OV y /\ FN y.x y.op y.im [] /\ y.ks = []) /\ (14 - y.i) * 10 <= (14 - x4.i) * 10) \/
     ∃ y : ND, some (TV.v (.vslice none 0 l.length 1 (l.map (IV.int .i64)))) = some (TV.v (.vslice none 0 l.length 1 (l.map (IV.int .i64)))) /\ some (TV.v (.bool b)) = some (TV.v (.bool b)) /\ some (TV.v (.int .i64 (x4.i : Int))) = some (TV.v (.int .i64 (y.i : Int))) /\
      some (TV.v (.vslice x4.io x4.e x4.x.length 3 (x4.x.flatMap cN))) = some (TV.v (.vslice y.io y.e y.x.length 3 (y.x.flatMap cN))) /\ some (TV.l 8 0) = some (TV.l 8 0) /\ some [.int .i64 x4.op, .int .i64 im, x4.kv] = some [.int .i64 y.op, .int .i64 y.im, IV.vslice (some y.rd) y.ks.length y.ks.length 1 (y.ks.map (IV.int .i64))] /\ x4.g = y.g /\
      ((y.i < 14 /\ y.i < l.length) /\ OV y /\ FN y.x y.op y.im y.ks) /\ (14 - y.i) * 10 <= (14 - x4.i) * 10) := fun im hfn => by
      rcases hkv4 with ⟨q1, q2⟩ | ⟨id, q1, q2, q3, q4⟩
      ·refine .inl ⟨⟨x4.i, x4.x, x4.io, x4.e, x4.op, im, [], .nilslice, x4.rd, x4.g⟩, ?_⟩
       rw [q1]
       repeat (refine And.intro (by first | rfl | exact True.intro | (rw [IntWalk.i64_in _ (by omega)]; rfl)) ?_)
       exact ⟨⟨hr4, hov4, by rw [q2] at hfn; exact hfn, rfl⟩, Nat.le_refl _⟩
      ·refine .inr ⟨⟨x4.i, x4.x, x4.io, x4.e, x4.op, im, x4.ks, .nilslice, id, x4.g⟩, ?_⟩
       rw [q1]
       repeat (refine And.intro (by first | rfl | exact True.intro | (rw [IntWalk.i64_in _ (by omega)]; rfl)) ?_)
       exact ⟨⟨hr4, hov4, hfn⟩, Nat.le_refl _⟩
    refine ⟨(14 - x4.i) * 10, brS_intro (fun c5 => hL hr4.2 (fun n16 _ => ⟨by omega, toB _ ?_⟩)) (fun c5 => brS_intro (fun c6 => hL hr4.2 (fun n17 _ => ⟨by omega, toB _ ?_⟩)) (fun c6 => toB _ ?_)), ?_, ?_⟩
    ·exact hoi4.fn hks4 hka4 (.inr (.inl ⟨.inl (beq_iff_eq.1 c5), by omega, by omega⟩))
    ·exact hoi4.fn hks4 hka4 (.inr (.inl ⟨.inr (beq_iff_eq.1 c6), by omega, by omega⟩))
    ·rw [beq_eq_false_iff_ne] at c5 c6
     rcases him4 with ⟨q1, q2, q3⟩ | ⟨q1, q2, q3⟩
     ·have : OI x4.op x4.im := ⟨hoi4.1, q2, q3⟩
      exact this.fn hks4 hka4 (.inl ⟨c5, q1, c6, rfl⟩)
     ·exact hoi4.fn hks4 hka4 (.inr (.inr ⟨q1, q2, q3⟩))
    ·rintro x5 _ ⟨hr5, hov5, hfn5, hk5⟩ hM5
     have hx5 := hov5.1.1
     refine ⟨x5.x, ([] : List Int), ⟨rfl, rfl⟩, ⟨rfl, rfl⟩, ⟨by omega, fun n hn => (hov5.1.sorts n hn).1⟩, brS_intro (fun cm => app_out (n := ⟨x5.op, x5.im, ([] : List Int)⟩) hov5.2 (by omega) (fun id h3 hoh => ⟨⟨x5.i + 1, x5.x ++ [⟨x5.op, x5.im, ([] : List Int)⟩], some id, (x5.x ++ [(⟨x5.op, x5.im, ([] : List Int)⟩ : Nd)]).length * 3, 0, 0, [], .nilslice, 0, h3⟩, ?_⟩)) (fun _ => ⟨⟨x5.i + 1, x5.x, x5.io, x5.e, 0, 0, [], .nilslice, 0, x5.g⟩, ?_⟩)⟩
     ·repeat (refine And.intro (by first | rfl | exact True.intro | (rw [IntWalk.i64_in _ (by omega)]; rfl)) ?_)
      exact ⟨⟨by dsimp only; omega, hov5.1.app (by omega) (by simpa using cm) hfn5, .inr ⟨id, rfl, rfl, hoh⟩⟩, by dsimp only; omega⟩
     ·repeat (refine And.intro (by first | rfl | exact True.intro | (rw [IntWalk.i64_in _ (by omega)]; rfl)) ?_)
      exact ⟨⟨by dsimp only; omega, hov5.1.mono (Nat.le_succ _), hov5.2⟩, by dsimp only; omega⟩
    ·rintro x5 _ ⟨hr5, hov5, hfn5⟩ hM5
     have hx5 := hov5.1.1
     refine ⟨x5.x, x5.ks, ⟨rfl, rfl⟩, ⟨rfl, rfl⟩, ⟨by omega, fun n hn => (hov5.1.sorts n hn).1⟩, brS_intro (fun cm => app_out (n := ⟨x5.op, x5.im, x5.ks⟩) hov5.2 (by omega) (fun id h3 hoh => ⟨⟨x5.i + 1, x5.x ++ [⟨x5.op, x5.im, x5.ks⟩], some id, (x5.x ++ [(⟨x5.op, x5.im, x5.ks⟩ : Nd)]).length * 3, 0, 0, [], .nilslice, 0, h3⟩, ?_⟩)) (fun _ => ⟨⟨x5.i + 1, x5.x, x5.io, x5.e, 0, 0, [], .nilslice, 0, x5.g⟩, ?_⟩)⟩
     ·repeat (refine And.intro (by first | rfl | exact True.intro | (rw [IntWalk.i64_in _ (by omega)]; rfl)) ?_)
      exact ⟨⟨by dsimp only; omega, hov5.1.app (by omega) (by simpa using cm) hfn5, .inr ⟨id, rfl, rfl, hoh⟩⟩, by dsimp only; omega⟩
     ·repeat (refine And.intro (by first | rfl | exact True.intro | (rw [IntWalk.i64_in _ (by omega)]; rfl)) ?_)
      exact ⟨⟨by dsimp only; omega, hov5.1.mono (Nat.le_succ _), hov5.2⟩, by dsimp only; omega⟩
 ·exact hk.elim
def cNodes := addC 4 kNodes cCont
theorem okNodes : Sound env cNodes := sound_add sNodes (okCont)
end Go.Proofs.YtgfllfgdojiioaaGreat
