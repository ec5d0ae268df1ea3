/-
  Patterns: the statement PatternSizes.
  Conditions: none.
-/
import Derived.Test.YtmfnadojephcpaaC15
import Derived.KernelRfl
set_option linter.unusedVariables false
set_option linter.unusedSimpArgs false
namespace Go.Proofs.Ytmfnadojephcpaa
open Go.Pv Go.M15
def kSizesL (xs : List IV) (h : Heap) (K : IV → Heap → Prop) : Prop := match xs with
  | [.vslice none e1 n1 1 c1, .vslice none e2 n2 1 c2] => ∃ l m : List Int, (n1 = l.length ∧ c1 = l.map (IV.int .i64)) ∧ (n2 = m.length ∧ c2 = m.map (IV.int .i64)) ∧ ((∀ x ∈ l, i64b x) ∧ l.length ≤ 9223372036854775807) ∧ ((∀ x ∈ m, i64b x) ∧ m.length ≤ 9223372036854775807) ∧ K (.bool true) h
  | _ => False
set_option maxRecDepth 100000 in
theorem vSizesL (l m : List Int) (e1 e2 : Nat) (h : Heap) (Q : IV → Heap → Prop) : dF (stdS cRValid) env 5 noU noI noI [.vslice none e1 (l).length 1 ((l).map (IV.int .i64)), .vslice none e2 (m).length 1 ((m).map (IV.int .i64))] h Q = (
  needS (pureL [IV.vslice none (0 : Nat) (List.length l) (1 : Nat) (List.map (IV.int IntKind.i64) l), IV.vslice none (0 : Nat) (List.length m) (1 : Nat) (List.map (IV.int IntKind.i64) m)])
 (∃ (l_1 : List Int),
 (List.length l = List.length l_1 ∧ List.map (IV.int IntKind.i64) l = List.map (IV.int IntKind.i64) l_1) ∧
 ((∀ (x : Int), x ∈ l_1 → i64b x) ∧ List.length l_1 ≤ (9223372036854775807 : Nat)) ∧
 ∀ (v op im iv : Int) (ks : List T),
 T.ok (T.mk v op im iv ks) →
 T.num (T.mk v op im iv ks) ≤ (40 : Nat) →
 ∃ (l : List Int),
 (List.length m = List.length l ∧ List.map (IV.int IntKind.i64) m = List.map (IV.int IntKind.i64) l) ∧
 ((∀ (x : Int), x ∈ l → i64b x) ∧ List.length l ≤ (9223372036854775807 : Nat)) ∧
 ∀ (v_1 op_1 im_1 iv_1 : Int) (ks_1 : List T),
 T.ok (T.mk v_1 op_1 im_1 iv_1 ks_1) →
 T.num (T.mk v_1 op_1 im_1 iv_1 ks_1) ≤ (40 : Nat) →
 ∃ (d : Nat),
 ∃ (ks_2 : List T),
 ((2 : Nat) = List.length ks_2 ∧
 [IV.int IntKind.i64 v, IV.int IntKind.i64 op, IV.int IntKind.i64 im, IV.int IntKind.i64 iv, IV.vslice none (0 : Nat) (List.length ks) (5 : Nat) (cTs ks), IV.int IntKind.i64 v_1, IV.int IntKind.i64 op_1,
 IV.int IntKind.i64 im_1, IV.int IntKind.i64 iv_1, IV.vslice none (0 : Nat) (List.length ks_1) (5 : Nat) (cTs ks_1)] =
 cTs ks_2) ∧
 (nums ks_2 < d ∧ thins ks_2 ∧ List.length ks_2 ≤ (1000000000000000 : Nat)) ∧
 ∃ (d : Nat),
 ∃ (ks_3 : List T),
 (List.length ks = List.length ks_3 ∧ cTs ks = cTs ks_3) ∧
 (nums ks_3 < d ∧ thins ks_3 ∧ List.length ks_3 ≤ (1000000000000000 : Nat)) ∧
 ∃ (d : Nat),
 ∃ (ks_4 : List T),
 (List.length ks_1 = List.length ks_4 ∧ cTs ks_1 = cTs ks_4) ∧
 (nums ks_4 < d ∧ thins ks_4 ∧ List.length ks_4 ≤ (1000000000000000 : Nat)) ∧
 brS (sizes (1 : Int) ks_2 == IntKind.wrap IntKind.i64 (IntKind.wrap IntKind.i64 ((1 : Int) + sizes (1 : Int) ks_3) + sizes (1 : Int) ks_4))
 (∃ (d : Nat),
 ∃ (ks_5 : List T),
 ((0 : Nat) = List.length ks_5 ∧ [] = cTs ks_5) ∧
 (nums ks_5 < d ∧ thins ks_5 ∧ List.length ks_5 ≤ (1000000000000000 : Nat)) ∧
 brS (sizes (1 : Int) ks_5 == (1 : Int))
 (brS (decide (sizes (1 : Int) ks_2 ≤ (24 : Int))) (Q (IV.bool true) h)
 (∃ (ks_6 : List T),
 ((2 : Nat) = List.length ks_6 ∧
 [IV.int IntKind.i64 v, IV.int IntKind.i64 op, IV.int IntKind.i64 im, IV.int IntKind.i64 iv, IV.vslice none (0 : Nat) (List.length ks) (5 : Nat) (cTs ks),
 IV.int IntKind.i64 v_1, IV.int IntKind.i64 op_1, IV.int IntKind.i64 im_1, IV.int IntKind.i64 iv_1, IV.vslice none (0 : Nat) (List.length ks_1) (5 : Nat) (cTs ks_1)] =
 cTs ks_6) ∧
 (thins ks_6 ∧ List.length ks_6 ≤ (1000000000000000 : Nat)) ∧
 brS (!valB (T.mk (0 : Int) (4 : Int) (0 : Int) (0 : Int) ks_6) (6 : Int) (6 : Int)) (Q (IV.bool true) h) (Q (IV.bool false) h)))
 (Q (IV.bool false) h))
 (Q (IV.bool false) h))) := by kernel_rfl
set_option maxHeartbeats 1000000 in
theorem sSizesL : ∀ xs h Q, kSizesL xs h Q → CallW env 5 xs h Q := by
  intro xs h Q hk
  unfold kSizesL at hk
  split at hk
  · rename_i e1 n1 c1 e2 n2 c2
    obtain ⟨l, m, ⟨rfl, rfl⟩, ⟨rfl, rfl⟩, hl, hm, hk⟩ := hk
    refine dF_run (okRValid) (vSizesL l m e1 e2 h Q) ?_
    refine needS_intro (by simp only [pureL, pureB, pureL_ints, Bool.and_true]) ⟨l, ⟨rfl, rfl⟩, hl, fun v op im iv ks hok hnum => ⟨m, ⟨rfl, rfl⟩, hm, fun v2 op2 im2 iv2 ks2 hok2 hnum2 => ?_⟩⟩
    have e2 : sizes 1 [T.mk v op im iv ks, T.mk v2 op2 im2 iv2 ks2] = IntKind.i64.wrap (IntKind.i64.wrap (1 + sizes 1 ks) + sizes 1 ks2) := rfl
    simp only [T.num] at hnum hnum2
    have hlen := len_nums ks
    have hlen2 := len_nums ks2
    have th : thins [T.mk v op im iv ks, T.mk v2 op2 im2 iv2 ks2] := thins_nums _ (by simp only [nums, T.num]; omega)
    have th1 : thins ks := thins_nums ks (by omega)
    have th2 : thins ks2 := thins_nums ks2 (by omega)
    refine ⟨nums [T.mk v op im iv ks, T.mk v2 op2 im2 iv2 ks2] + 1, [T.mk v op im iv ks, T.mk v2 op2 im2 iv2 ks2], ⟨rfl, by simp [cTs, cT]⟩, ⟨Nat.lt_succ_self _, th, by simp⟩, nums ks + 1, ks, ⟨rfl, rfl⟩, ⟨Nat.lt_succ_self _, th1, by omega⟩, nums ks2 + 1, ks2, ⟨rfl, rfl⟩, ⟨Nat.lt_succ_self _, th2, by omega⟩, ?_⟩
    refine brS_intro (fun _ => ⟨1, [], ⟨rfl, rfl⟩, ⟨Nat.zero_lt_one, trivial, Nat.zero_le _⟩, brS_intro (fun _ => brS_intro (fun _ => hk) (fun c => ⟨[T.mk v op im iv ks, T.mk v2 op2 im2 iv2 ks2], ⟨rfl, by simp [cTs, cT]⟩, ⟨th, by simp⟩, brS_intro (fun _ => hk) (fun c2 => ?_)⟩)) (fun c => by simp [sizes] at c)⟩) (fun c => by rw [e2] at c; simp at c)
    rw [decide_eq_false_iff_not] at c
    rw [Bool.not_eq_false'] at c2
    unfold valB at c2
    simp only [Bool.and_eq_true, decide_eq_true_eq] at c2
    exact absurd c2.2.1 c
  · exact hk.elim
def cSizesL := addC 5 kSizesL cRValid
theorem okSizesL : Sound env cSizesL := sound_add sSizesL (okRValid)

end Go.Proofs.Ytmfnadojephcpaa
