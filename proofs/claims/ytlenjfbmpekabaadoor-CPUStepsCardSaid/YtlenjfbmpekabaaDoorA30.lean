import Derived.Test.YtlenjfbmpekabaaDoorEnv30
import Derived.KernelRfl
set_option linter.unusedVariables false
set_option linter.unusedSimpArgs false
namespace Go.Proofs.YtlenjfbmpekabaaDoor
open Go.Pv Go.M29
theorem lk_step {Q : IV -> Heap -> Prop} {h : Heap} {x : Row} {r : List Row} {k : Int} {s : List UInt8} {B : Prop} (hk : Q (.tuple [.int .i64 (lkp (x :: r) k s).1, .bool (lkp (x :: r) k s).2]) h)
  (hb : Q (.tuple [.int .i64 (lkp r (k + 1) s).1, .bool (lkp r (k + 1) s).2]) h -> B) : brS (x.nm == s) (Q (.tuple [.int .i64 k, .bool true]) h) B := by
 unfold lkp at hk
 cases hc : (x.nm == s) with
 | true => simp only [hc, if_true] at hk; exact hk
 | false => simp only [hc] at hk; exact hb hk
def kInfo (xs : List IV) (h : Heap) (K : IV -> Heap -> Prop) : Prop := match xs with
 | [.int .i64 op] => K (.tuple [.agg [.str (rowOf op).nm, .int .i64 (rowOf op).fm, .bool (rowOf op).ra, .bool (rowOf op).wa, .bool (rowOf op).rb, .bool (rowOf op).mt, .int .i64 (rowOf op).wd], .bool (okI op)]) h
 | _ => False
set_option maxRecDepth 100000 in
theorem vInfo (op : Int) (h : Heap) (Q : IV -> Heap -> Prop) : dF (stdS noC) env 54 noU noI noI [.int .i64 op] h Q = (
 brS (decide (op < 1)) (Q (.tuple [.agg [.str [], IV.int .i64 0, IV.bool false, IV.bool false, IV.bool false, IV.bool false, IV.int .i64 0], IV.bool false]) h)
 (brS (decide (op > 37)) (Q (.tuple [.agg [.str [], IV.int .i64 0, IV.bool false, IV.bool false, IV.bool false, IV.bool false, IV.int .i64 0], IV.bool false]) h)
 (needS (decide (0 <= IntKind.wrap .i64 (op - 1)) && decide (IntKind.wrap .i64 (op - 1) < 37))
 (ldSS Keep.tabC (Int.toNat (IntKind.wrap .i64 (op - 1)) * 7) fun (s0 : List UInt8) =>
 ldIS .i64 Keep.tabC (Int.toNat (IntKind.wrap .i64 (op - 1)) * 7 + (1 : Nat)) fun n1 =>
 ldBS Keep.tabC (Int.toNat (IntKind.wrap .i64 (op - 1)) * 7 + (1 : Nat) + 1) fun b2 =>
 ldBS Keep.tabC (Int.toNat (IntKind.wrap .i64 (op - 1)) * 7 + (1 : Nat) + 1 + (1 : Nat)) fun b3 =>
 ldBS Keep.tabC (Int.toNat (IntKind.wrap .i64 (op - 1)) * 7 + (1 : Nat) + 1 + (1 : Nat) + 1) fun b4 =>
 ldBS Keep.tabC (Int.toNat (IntKind.wrap .i64 (op - 1)) * 7 + (1 : Nat) + 1 + (1 : Nat) + 1 + (1 : Nat)) fun b5 =>
 ldIS .i64 Keep.tabC (Int.toNat (IntKind.wrap .i64 (op - 1)) * 7 + (1 : Nat) + 1 + (1 : Nat) + 1 + (1 : Nat) + 1) fun n6 =>
 Q (.tuple [.agg [.str s0, IV.int .i64 n1, IV.bool b2, IV.bool b3, IV.bool b4, IV.bool b5, IV.int .i64 n6], IV.bool true]) h)))) := by kernel_rfl
set_option maxRecDepth 100000 in
theorem sInfo : ∀ xs h Q, kInfo xs h Q -> CallW env 54 xs h Q := by
 intro xs h Q hk
 unfold kInfo at hk
 split at hk
 ·rename_i op
  by_cases h1 : 1 <= op /\ op <= 37
  ·have h2 : op = 1 \/ op = 2 \/ op = 3 \/ op = 4 \/ op = 5 \/ op = 6 \/ op = 7 \/ op = 8 \/ op = 9 \/ op = 10 \/ op = 11 \/ op = 12 \/ op = 13 \/ op = 14 \/ op = 15 \/ op = 16 \/ op = 17 \/ op = 18 \/ op = 19 \/ op = 20 \/ op = 21 \/ op = 22 \/ op = 23 \/ op = 24 \/ op = 25 \/ op = 26 \/ op = 27 \/ op = 28 \/ op = 29 \/ op = 30 \/ op = 31 \/ op = 32 \/ op = 33 \/ op = 34 \/ op = 35 \/ op = 36 \/ op = 37 := by omega
   rcases h2 with rfl | rfl | rfl | rfl | rfl | rfl | rfl | rfl | rfl | rfl | rfl | rfl | rfl | rfl | rfl | rfl | rfl | rfl | rfl | rfl | rfl | rfl | rfl | rfl | rfl | rfl | rfl | rfl | rfl | rfl | rfl | rfl | rfl | rfl | rfl | rfl | rfl
   all_goals exact ⟨60, _, h, by kernel_rfl, hk⟩
  ·refine dF_sound (sound_no env) (mp_eq (vInfo op h Q) ?_)
   rw [rowOf_out h1, okI_out h1] at hk
   refine brS_intro (fun _ => hk) (fun h2 => brS_intro (fun _ => hk) (fun h3 => ?_))
   simp only [decide_eq_false_iff_not] at h2 h3
   omega
 ·exact hk.elim
def cInfo := addC 54 kInfo noC
theorem okInfo : Sound env cInfo := sound_add sInfo (sound_no env)
def kIsBin (xs : List IV) (h : Heap) (K : IV -> Heap -> Prop) : Prop := match xs with
 | [.int .i64 op] => K (.bool (isBin op)) h
 | _ => False
set_option maxRecDepth 100000 in
theorem vIsBin (op : Int) (h : Heap) (Q : IV -> Heap -> Prop) : dF (stdS cInfo) env 68 noU noI noI [.int .i64 op] h Q = (
 brS (decide (op >= 17)) (Q (.bool (decide (op <= 32))) h) (Q (.bool false) h)) := by kernel_rfl
theorem sIsBin : ∀ xs h Q, kIsBin xs h Q -> CallW env 68 xs h Q := by
 intro xs h Q hk
 unfold kIsBin at hk
 split at hk
 ·rename_i op
  refine dF_run (okInfo) (vIsBin op h Q) ?_
  repeat' (first | refine needS_intro ?_ ?_ | refine brS_intro (fun _ => ?_) (fun _ => ?_) | refine And.intro ?_ ?_)
  all_goals first | exact hk | (refine q_eq hk ?_; congr 1; grind [isBin])
 ·exact hk.elim
def cIsBin := addC 68 kIsBin cInfo
theorem okIsBin : Sound env cIsBin := sound_add sIsBin (okInfo)
def kForm0 (xs : List IV) (h : Heap) (K : IV -> Heap -> Prop) : Prop := match xs with
 | [.int .i64 op] => (op < 1 \/ 37 < op) /\ K (.int .i64 0) h
 | _ => False
set_option maxRecDepth 100000 in
theorem vForm0 (op : Int) (h : Heap) (Q : IV -> Heap -> Prop) : dF (stdS cIsBin) env 63 noU noI noI [.int .i64 op] h Q = (
 brS (op == 1) (Q (.int .i64 1) h)
 (brS (op == 2) (Q (.int .i64 1) h)
 (brS (op == 3) (Q (.int .i64 1) h)
 (brS (op == 4) (Q (.int .i64 8) h)
 (brS (op == 5) (Q (.int .i64 8) h)
 (brS (op == 6) (Q (.int .i64 5) h)
 (brS (op == 7) (Q (.int .i64 5) h)
 (brS (op == 8) (Q (.int .i64 5) h)
 (brS (op == 13) (Q (.int .i64 5) h)
 (brS (op == 33) (Q (.int .i64 5) h)
 (brS (op == 36) (Q (.int .i64 5) h)
 (brS (op == 37) (Q (.int .i64 5) h)
 (brS (op == 9) (Q (.int .i64 2) h)
 (brS (op == 15) (Q (.int .i64 2) h)
 (brS (op == 16) (Q (.int .i64 2) h)
 (brS (op == 11) (Q (.int .i64 4) h)
 (brS (op == 12) (Q (.int .i64 4) h)
 (brS (op == 14) (Q (.int .i64 6) h)
 (brS (op == 34) (Q (.int .i64 7) h)
 (brS (op == 35) (Q (.int .i64 7) h)
 (brS (op == 10) (Q (.int .i64 3) h) (brS (isBin op) (Q (.int .i64 3) h) (Q (.int .i64 0) h))))))))))))))))))))))) := by kernel_rfl
theorem sForm0 : ∀ xs h Q, kForm0 xs h Q -> CallW env 63 xs h Q := by
 intro xs h Q hk
 unfold kForm0 at hk
 split at hk
 ·rename_i op
  refine dF_run (okIsBin) (vForm0 op h Q) ?_
  obtain ⟨h1, hk⟩ := hk
  repeat' (first | refine needS_intro ?_ ?_ | refine brS_intro (fun _ => ?_) (fun _ => ?_) | refine And.intro ?_ ?_)
  all_goals first | exact hk | (exfalso; simp only [beq_iff_eq, isBin, Bool.and_eq_true, decide_eq_true_eq] at *; omega)
 ·exact hk.elim
def cForm0 := addC 63 kForm0 cIsBin
theorem okForm0 : Sound env cForm0 := sound_add sForm0 (okIsBin)
def kRInfo (xs : List IV) (h : Heap) (K : IV -> Heap -> Prop) : Prop := match xs with
 | [.int .i64 op] => K (.tuple [.agg [.str (rowOf op).nm, .int .i64 (rowOf op).fm, .bool (rowOf op).ra, .bool (rowOf op).wa, .bool (rowOf op).rb, .bool (rowOf op).mt, .int .i64 (rowOf op).wd], .bool (okI op)]) h
 | _ => False
set_option maxRecDepth 100000 in
theorem vRInfo (op : Int) (h : Heap) (Q : IV -> Heap -> Prop) : dF (stdS cForm0) env 40 noU noI noI [.int .i64 op] h Q = (
 (op < 1 \/ 37 < op) /\ Q (.tuple [.agg [.str [], IV.int .i64 0, IV.bool false, IV.bool false, IV.bool false, IV.bool false, IV.int .i64 0], IV.bool false]) h) := by kernel_rfl
set_option maxRecDepth 100000 in
theorem sRInfo : ∀ xs h Q, kRInfo xs h Q -> CallW env 40 xs h Q := by
 intro xs h Q hk
 unfold kRInfo at hk
 split at hk
 ·rename_i op
  by_cases h1 : 1 <= op /\ op <= 37
  ·have h2 : op = 1 \/ op = 2 \/ op = 3 \/ op = 4 \/ op = 5 \/ op = 6 \/ op = 7 \/ op = 8 \/ op = 9 \/ op = 10 \/ op = 11 \/ op = 12 \/ op = 13 \/ op = 14 \/ op = 15 \/ op = 16 \/ op = 17 \/ op = 18 \/ op = 19 \/ op = 20 \/ op = 21 \/ op = 22 \/ op = 23 \/ op = 24 \/ op = 25 \/ op = 26 \/ op = 27 \/ op = 28 \/ op = 29 \/ op = 30 \/ op = 31 \/ op = 32 \/ op = 33 \/ op = 34 \/ op = 35 \/ op = 36 \/ op = 37 := by omega
   rcases h2 with rfl | rfl | rfl | rfl | rfl | rfl | rfl | rfl | rfl | rfl | rfl | rfl | rfl | rfl | rfl | rfl | rfl | rfl | rfl | rfl | rfl | rfl | rfl | rfl | rfl | rfl | rfl | rfl | rfl | rfl | rfl | rfl | rfl | rfl | rfl | rfl | rfl
   all_goals exact ⟨60, _, h, by kernel_rfl, hk⟩
  ·refine dF_sound okForm0 (mp_eq (vRInfo op h Q) ?_)
   rw [rowOf_out h1, okI_out h1] at hk
   exact ⟨by omega, hk⟩
 ·exact hk.elim
def cRInfo := addC 40 kRInfo cForm0
theorem okRInfo : Sound env cRInfo := sound_add sRInfo (okForm0)
def kNames (xs : List IV) (h : Heap) (K : IV -> Heap -> Prop) : Prop := match xs with
 | [] => K (.vslice none 0 38 1 Keep.nmsC) h
 | _ => False
theorem sNames : ∀ xs h Q, kNames xs h Q -> CallW env 67 xs h Q := by
 intro xs h Q hk
 unfold kNames at hk
 split at hk
 ·exact ⟨60, _, h, by kernel_rfl, hk⟩
 ·exact hk.elim
def cNames := addC 67 kNames cRInfo
theorem okNames : Sound env cNames := sound_add sNames (okRInfo)
end Go.Proofs.YtlenjfbmpekabaaDoor
