/-
  Patterns: a pattern with one part changed, and the statement PatternReference.
  Conditions: none.
-/
import Derived.Test.YtmfnadojephcpaaZP15
import Derived.KernelRfl
set_option linter.unusedVariables false
set_option linter.unusedSimpArgs false
namespace Go.Proofs.Ytmfnadojephcpaa
open Go.Pv Go.M15
theorem cTs_set : ∀ {ks : List T} {j : Nat}, j < ks.length → ∀ (v op im iv : Int) (ks2 : List T), (cTs ks).take (j * 5) ++ [.int .i64 v, .int .i64 op, .int .i64 im, .int .i64 iv, .vslice none 0 ks2.length 5 (cTs ks2)] ++ (cTs ks).drop (j * 5 + 5) = cTs (ks.set j (.mk v op im iv ks2))
  | t :: r, 0, _, v, op, im, iv, ks2 => by
    rw [cTs, Nat.zero_mul, List.take_zero, Nat.zero_add, List.nil_append, List.set_cons_zero, cTs, List.drop_left' (cT_len t)]
    rfl
  | t :: r, j + 1, h, v, op, im, iv, ks2 => by
    have ih := cTs_set (ks := r) (j := j) (by simpa using h) v op im iv ks2
    have e1 : (cT t ++ cTs r).take ((j + 1) * 5) = cT t ++ (cTs r).take (j * 5) := by
      rw [show (j + 1) * 5 = (cT t).length + j * 5 by rw [cT_len]; omega, List.take_length_add_append]
    have e2 : (cT t ++ cTs r).drop ((j + 1) * 5 + 5) = (cTs r).drop (j * 5 + 5) := by
      rw [show (j + 1) * 5 + 5 = (cT t).length + (j * 5 + 5) by rw [cT_len]; omega, List.drop_length_add_append]
    rw [cTs, List.set_cons_succ, cTs, e1, e2, ← ih]
    simp only [List.append_assoc]
theorem nums_set : ∀ {ks : List T} {j : Nat} (h : j < ks.length) (t : T), nums (ks.set j t) + ks[j].num = nums ks + t.num
  | x :: r, 0, _, t => by simp only [List.set_cons_zero, nums, List.getElem_cons_zero]; omega
  | x :: r, j + 1, h, t => by
    have := nums_set (ks := r) (j := j) (by simpa using h) t
    simp only [List.set_cons_succ, nums, List.getElem_cons_succ]
    omega
theorem oks_set : ∀ {ks : List T} {j : Nat}, oks ks → ∀ (t : T), t.ok → oks (ks.set j t)
  | [], _, h, _, _ => h
  | x :: r, 0, h, t, ht => ⟨ht, h.2⟩
  | x :: r, j + 1, h, t, ht => ⟨h.1, oks_set h.2 t ht⟩
theorem inst_len (t : T) (vars imms : List Int) (l : List Nd) (hn : t.num ≤ 600000) (hl : l.length ≤ 17) (hk : ∀ y ∈ l, y.ks.length ≤ 3) : (∀ y ∈ (instB l t vars imms).1, y.ks.length ≤ 1000000000) ∧ (instB l t vars imms).1.length ≤ 1000000000 := by
  have hkb : KB l := fun y hy => Nat.le_trans (hk y hy) (by decide)
  unfold instB
  split
  · have h1 := instA_kb t vars imms l hkb (by omega)
    have h2 := instA_len t vars imms l
    exact ⟨fun y hy => Nat.le_trans (h1 y hy) (by decide), by omega⟩
  · exact ⟨fun y hy => Nat.le_trans (hk y hy) (by decide), by dsimp only; omega⟩
theorem compB_len {t : T} (h : t.num ≤ 600000) : (compB t).1.length ≤ 1000000 ∧ (compB t).2.length ≤ 1000000 := by
  unfold compB
  split
  · rename_i c
    have := comp_bd t 0 ⟨[], 1, []⟩ (valB_wf c).1 (Nat.zero_le _)
    dsimp only at this ⊢
    simp only [List.length_nil] at this
    omega
  · simp
def kMut (d : Nat) (xs : List IV) (h : Heap) (K : IV → Heap → Prop) : Prop := match xs with
  | [.agg [.int .i64 v, .int .i64 op, .int .i64 im, .int .i64 iv, .vslice none 0 n1 5 c1], .int .i64 how, .int .i64 at_] => ∃ ks : List T, (n1 = ks.length ∧ c1 = cTs ks) ∧ ((T.mk v op im iv ks).ok ∧ (T.mk v op im iv ks).num ≤ d ∧ (T.mk v op im iv ks).num ≤ 1000) ∧ (i64b how ∧ i64b at_) ∧ ∀ (v2 op2 im2 iv2 : Int) (ks2 : List T), (T.mk v2 op2 im2 iv2 ks2).ok → (T.mk v2 op2 im2 iv2 ks2).num ≤ (T.mk v op im iv ks).num + 1 → K (.agg [.int .i64 v2, .int .i64 op2, .int .i64 im2, .int .i64 iv2, .vslice none 0 ks2.length 5 (cTs ks2)]) h
  | _ => False
noncomputable def z16m (ks : List T) := ks.length
noncomputable def z16c (at_ : Int) (ks : List T) := at_ % (↑(z16m ks) : Int)
noncomputable def z16a (v op im iv at_ v2 op2 im2 iv2 : Int) (ks ks2 : List T) (h : Heap) (Q : IV → Heap → Prop) := needS (Nat.ble ((0 : Nat) + Int.toNat (z16c at_ ks) * 5 + (5 : Nat)) (List.length ([] ++ cTs ks))) (needS (true && Nat.ble ((0 : Nat) + ((0 : Nat) + ks.length) * 5) (List.length (List.take ((0 : Nat) + Int.toNat (z16c at_ ks) * 5) ([] ++ cTs ks) ++ [IV.int .i64 v2, IV.int .i64 op2, IV.int .i64 im2, IV.int .i64 iv2, IV.vslice none 0 ks2.length 5 (cTs ks2)] ++ List.drop ((0 : Nat) + Int.toNat (z16c at_ ks) * 5 + (5 : Nat)) ([] ++ cTs ks)))) (needS (pureL [IV.agg [.int .i64 v, IV.int .i64 op, IV.int .i64 im, IV.int .i64 iv, IV.vslice none 0 ((0 : Nat) + ks.length) 5 (List.take (((0 : Nat) + ks.length) * 5) (List.drop 0 (List.take ((0 : Nat) + Int.toNat (z16c at_ ks) * 5) ([] ++ cTs ks) ++ [IV.int .i64 v2, IV.int .i64 op2, IV.int .i64 im2, IV.int .i64 iv2, IV.vslice none 0 ks2.length 5 (cTs ks2)] ++ List.drop ((0 : Nat) + Int.toNat (z16c at_ ks) * 5 + (5 : Nat)) ([] ++ cTs ks))))]]) (Q (.agg [.int .i64 v, IV.int .i64 op, IV.int .i64 im, IV.int .i64 iv, IV.vslice none 0 ((0 : Nat) + ks.length) 5 (List.take (((0 : Nat) + ks.length) * 5) (List.drop 0 (List.take ((0 : Nat) + Int.toNat (z16c at_ ks) * 5) ([] ++ cTs ks) ++ [IV.int .i64 v2, IV.int .i64 op2, IV.int .i64 im2, IV.int .i64 iv2, IV.vslice none 0 ks2.length 5 (cTs ks2)] ++ List.drop ((0 : Nat) + Int.toNat (z16c at_ ks) * 5 + (5 : Nat)) ([] ++ cTs ks))))]) h)))
noncomputable def z16b (v op im iv : Int) (ks : List T) := [IV.int .i64 v, IV.int .i64 op, IV.int .i64 im, IV.int .i64 iv, IV.vslice none 0 (z16m ks) 5 (cTs ks)]
noncomputable def z16d (at_ : Int) (ks : List T) := decide (0 ≤ at_ % (↑(z16m ks) : Int)) && decide (at_ % (↑(z16m ks) : Int) < (↑((0 : Nat) + ks.length) : Int))
noncomputable def z16e  := [IV.int .i64 1, IV.int .i64 0, IV.int .i64 0, IV.int .i64 0, IV.vslice none 0 0 5 []]
noncomputable def z16f (v op im iv : Int) := [IV.int .i64 v, IV.int .i64 op, IV.int .i64 im, IV.int .i64 iv, IV.vslice none 1 0 5 []]
noncomputable abbrev z16g (how at_ : Int) := i64b (IntKind.wrap .i64 (Int.tdiv how (9 : Int))) ∧ i64b (IntKind.wrap .i64 (Int.tdiv at_ (3 : Int)))
noncomputable def z16h (how : Int) := IntKind.wrap .i64 (IntKind.wrap .i64 (Int.tdiv how (9 : Int)) % (9 : Int) - 1)
noncomputable abbrev z16i  := (0 : Int) < 9 ∧ (9 : Int) < 4611686018427387904
noncomputable def z16j (v im iv how : Int) (ks : List T) := [IV.int .i64 v, IV.int .i64 (IntKind.wrap .i64 (IntKind.wrap .i64 (Int.tdiv how (9 : Int)) % (40 : Int) - 1)), IV.int .i64 im, IV.int .i64 iv, IV.vslice none 0 (z16m ks) 5 (cTs ks)]
noncomputable def z16k (v op iv how : Int) (ks : List T) := [IV.int .i64 v, IV.int .i64 op, IV.int .i64 (IntKind.wrap .i64 (IntKind.wrap .i64 (Int.tdiv how (9 : Int)) % (9 : Int) - 3)), IV.int .i64 iv, IV.vslice none 0 (z16m ks) 5 (cTs ks)]
noncomputable def z16l (ks : List T) := Nat.ble (((0 : Nat) + ks.length) * 56) (140737488355328 : Nat)
noncomputable def z16n (v op im iv : Int) (ks : List T) := [IV.int .i64 v, IV.int .i64 op, IV.int .i64 im, IV.int .i64 iv, IV.vslice none 0 ((0 : Nat) + ks.length + 1) 5 ([] ++ cTs ks ++ z16e)]
noncomputable def z16o (v op im iv : Int) := IV.agg [.int .i64 v, IV.int .i64 op, IV.int .i64 im, IV.int .i64 iv, IV.vslice none 0 0 5 []]
noncomputable def z16p  := Heap.mk PT.nil 0
noncomputable abbrev z16q (ks : List T) := 0 < (↑(z16m ks) : Int) ∧ (↑(z16m ks) : Int) < 4611686018427387904
noncomputable def z16r (v op im how : Int) (ks : List T) := [IV.int .i64 v, IV.int .i64 op, IV.int .i64 im, IV.int .i64 (z16h how), IV.vslice none 0 (z16m ks) 5 (cTs ks)]
noncomputable def z16s (op im iv how : Int) (ks : List T) := [IV.int .i64 (z16h how), IV.int .i64 op, IV.int .i64 im, IV.int .i64 iv, IV.vslice none 0 (z16m ks) 5 (cTs ks)]
set_option maxRecDepth 100000 in
theorem vMut (dd : Nat) (v op im iv how at_ : Int) (ks : List T) (h : Heap) (Q : IV → Heap → Prop) : dF (stdS (addC 16 (kMut dd) cLInts)) env 16 noU noI noI [.agg [.int .i64 v, .int .i64 op, .int .i64 im, .int .i64 iv, .vslice none 0 ks.length 5 (cTs ks)], .int .i64 how, .int .i64 at_] h Q = (
  needS (pureL [IV.agg (z16b v op im iv ks), IV.int .i64 how, IV.int .i64 at_]) (z16i ∧ brS (how % (9 : Int) == 0) (z16i ∧ needS (pureL [IV.agg (z16s op im iv how ks)]) (Q (.agg (z16s op im iv how ks)) h)) (brS (how % (9 : Int) == 1) (((0 : Int) < 40 ∧ (40 : Int)
 < (4611686018427387904 : Int)) ∧ needS (pureL [IV.agg (z16j v im iv how ks)]) (Q (.agg (z16j v im iv how ks)) h)) (brS (how % (9 : Int) == 2) (z16i ∧ needS (pureL [IV.agg (z16k v op iv how ks)]) (Q (.agg (z16k v op iv how ks)) h)) (brS (how % (9 : Int) == 3) (z16i ∧ needS (pureL [IV.agg
 (z16r v op im how ks)]) (Q (.agg (z16r v op im how ks)) h)) (brS (how % (9 : Int) == 4) (brS (Nat.beq (z16m ks) (0 : Nat)) (Q (.agg [.int .i64 v, IV.int .i64 op, IV.int .i64 im, IV.int .i64 iv, IV.vslice none 0 1 5 z16e]) h) (needS (z16l
 ks) (needS (Nat.beq (((0 : Nat) + ks.length) * 5) (((0 : Nat) + ks.length) * 5) && Nat.ble (((0 : Nat) + ks.length + 1) * 56) (140737488355328 : Nat)) (needS (pureL [IV.agg (z16n v op im iv ks)]) (Q (.agg (z16n v op im iv ks)) h))))) (brS (how % (9 : Int)
 == (5 : Int)) (brS (decide ((↑(z16m ks) : Int) > 0)) ((z16q ks) ∧ brS (Nat.beq (z16m ks) (0 : Nat)) (ldNHS 5 (z16f v op im iv) 4 False fun (i0 o1 l2 : Nat) => ldNHS 5 (z16f v op im iv) 4 False fun (i3 o4 l5 : Nat) => needS (decide (0 ≤ at_ % (↑(z16m ks)
 : Int)) && decide (at_ % (↑(z16m ks) : Int) < (↑l5 : Int))) (hgetS z16p i3 fun r6 => ldIS .i64 r6 (o4 + Int.toNat (z16c at_ ks) * 5) fun n7 => ldIS .i64 r6 (o4 + Int.toNat (z16c at_ ks) * 5 + (1 : Nat)) fun n8 => ldIS .i64 r6 (o4 + Int.toNat
 (z16c at_ ks) * 5 + (1 : Nat) + 1) fun n9 => ldIS .i64 r6 (o4 + Int.toNat (z16c at_ ks) * 5 + (1 : Nat) + 1 + (1 : Nat)) fun n10 => ldVS 5 r6 (o4 + Int.toNat (z16c at_ ks) * 5 + (1 : Nat) + 1 + (1 : Nat) + 1) fun (i11
 : Option Nat) (e12 l13 : Nat) (c14 : List IV) => ∃ (ks_1 : List T), (l13 = ks_1.length ∧ c14 = cTs ks_1) ∧ (T.ok (T.mk n7 n8 n9 n10 ks_1) ∧ T.num (T.mk n7 n8 n9 n10 ks_1) ≤ dd ∧ T.num (T.mk n7 n8 n9 n10 ks_1) ≤ 1000) ∧ (z16g how at_) ∧ ∀ (v2 op2 im2 iv2 : Int) (ks2 : List T), T.ok (T.mk
 v2 op2 im2 iv2 ks2) → T.num (T.mk v2 op2 im2 iv2 ks2) ≤ T.num (T.mk n7 n8 n9 n10 ks_1) + 1 → needS (decide (0 ≤ at_ % (↑(z16m ks) : Int)) && decide (at_ % (↑(z16m ks) : Int) < (↑l2 : Int))) (hgetS z16p i0 fun r15 => needS (Nat.ble (o1 + Int.toNat (z16c at_ ks) * 5
 + (5 : Nat)) r15.length) (Q (z16o v op im iv) h)))) (needS (z16l ks) (needS (z16d at_ ks) (ldIS .i64 ([] ++ cTs ks) ((0 : Nat) + Int.toNat (z16c at_ ks) * 5) fun n16 => ldIS .i64 ([] ++ cTs ks) ((0 : Nat) + Int.toNat (z16c at_ ks) * 5 + (1 : Nat)) fun (n17
 : Int) => ldIS .i64 ([] ++ cTs ks) ((0 : Nat) + Int.toNat (z16c at_ ks) * 5 + (1 : Nat) + 1) fun n18 => ldIS .i64 ([] ++ cTs ks) ((0 : Nat) + Int.toNat (z16c at_ ks) * 5 + (1 : Nat) + 1 + (1 : Nat)) fun n19 => ldVS 5 ([] ++ cTs ks)
 ((0 : Nat) + Int.toNat (z16c at_ ks) * 5 + (1 : Nat) + 1 + (1 : Nat) + 1) fun (i20 : Option Nat) (e21 l22 : Nat) (c23 : List IV) => ∃ (ks_1 : List T), (l22 = ks_1.length ∧ c23 = cTs ks_1) ∧ (T.ok (T.mk n16 n17 n18 n19 ks_1) ∧ T.num (T.mk n16 n17 n18 n19 ks_1) ≤ dd ∧ T.num
 (T.mk n16 n17 n18 n19 ks_1) ≤ 1000) ∧ (z16g how at_) ∧ ∀ (v2 op2 im2 iv2 : Int) (ks2 : List T), T.ok (T.mk v2 op2 im2 iv2 ks2) → T.num (T.mk v2 op2 im2 iv2 ks2) ≤ T.num (T.mk n16 n17 n18 n19 ks_1) + 1 → needS (z16d at_ ks) (z16a v op im iv at_ v2 op2 im2 iv2 ks ks2 h Q))))) (needS (pureL
 [IV.agg (z16b v op im iv ks)]) (Q (.agg (z16b v op im iv ks)) h))) (brS (how % (9 : Int) == 6) (brS (decide ((↑(z16m ks) : Int) > 0)) ((z16q ks) ∧ brS (Nat.beq (z16m ks) (0 : Nat)) (ldNHS 5 (z16f v op im iv) 4 False fun (i24 o25 l26 : Nat) => ldNHS 5 (z16f v
 op im iv) 4 False fun (i27 o28 l29 : Nat) => needS (decide (0 ≤ at_ % (↑(z16m ks) : Int)) && decide (at_ % (↑(z16m ks) : Int) < (↑l29 : Int))) (hgetS z16p i27 fun r30 => ldIS .i64 r30 (o28 + Int.toNat (z16c at_ ks) * 5) fun n31 => ldIS .i64 r30
 (o28 + Int.toNat (z16c at_ ks) * 5 + (1 : Nat)) fun n32 => ldIS .i64 r30 (o28 + Int.toNat (z16c at_ ks) * 5 + (1 : Nat) + 1) fun n33 => ldIS .i64 r30 (o28 + Int.toNat (z16c at_ ks) * 5 + (1 : Nat) + 1 + (1 : Nat)) fun n34 =>
 ldVS 5 r30 (o28 + Int.toNat (z16c at_ ks) * 5 + (1 : Nat) + 1 + (1 : Nat) + 1) fun (i35 : Option Nat) (e36 l37 : Nat) (c38 : List IV) => ∃ (ks_1 : List T), (l37 = ks_1.length ∧ c38 = cTs ks_1) ∧ (T.ok (T.mk n31 n32 n33 n34 ks_1) ∧ T.num (T.mk n31 n32 n33 n34 ks_1)
 ≤ dd ∧ T.num (T.mk n31 n32 n33 n34 ks_1) ≤ 1000) ∧ (z16g how at_) ∧ ∀ (v2 op2 im2 iv2 : Int) (ks2 : List T), T.ok (T.mk v2 op2 im2 iv2 ks2) → T.num (T.mk v2 op2 im2 iv2 ks2) ≤ T.num (T.mk n31 n32 n33 n34 ks_1) + 1 → needS (decide (0 ≤ at_ % (↑(z16m ks) : Int)) && decide (at_ %
 (↑(z16m ks) : Int) < (↑l26 : Int))) (hgetS z16p i24 fun r39 => needS (Nat.ble (o25 + Int.toNat (z16c at_ ks) * 5 + (5 : Nat)) r39.length) (Q (z16o v op im iv) h)))) (needS (z16l ks) (needS (z16d at_ ks) (ldIS .i64 ([] ++ cTs ks) ((0 : Nat) + Int.toNat (z16c at_ ks) *
 (5 : Nat)) fun n40 => ldIS .i64 ([] ++ cTs ks) ((0 : Nat) + Int.toNat (z16c at_ ks) * 5 + (1 : Nat)) fun n41 => ldIS .i64 ([] ++ cTs ks) ((0 : Nat) + Int.toNat (z16c at_ ks) * 5 + (1 : Nat) + 1) fun n42 => ldIS .i64 ([] ++ cTs ks) ((0
 : Nat) + Int.toNat (z16c at_ ks) * 5 + (1 : Nat) + 1 + (1 : Nat)) fun n43 => ldVS 5 ([] ++ cTs ks) ((0 : Nat) + Int.toNat (z16c at_ ks) * 5 + (1 : Nat) + 1 + (1 : Nat) + 1) fun (i44 : Option Nat) (e45 l46 : Nat) (c47 : List IV) => ∃ (ks_1 : List
 T), (l46 = ks_1.length ∧ c47 = cTs ks_1) ∧ (T.ok (T.mk n40 n41 n42 n43 ks_1) ∧ T.num (T.mk n40 n41 n42 n43 ks_1) ≤ dd ∧ T.num (T.mk n40 n41 n42 n43 ks_1) ≤ 1000) ∧ (z16g how at_) ∧ ∀ (v2 op2 im2 iv2 : Int) (ks2 : List T), T.ok (T.mk v2 op2 im2 iv2 ks2) → T.num (T.mk v2 op2 im2 iv2 ks2) ≤
 T.num (T.mk n40 n41 n42 n43 ks_1) + 1 → needS (z16d at_ ks) (z16a v op im iv at_ v2 op2 im2 iv2 ks ks2 h Q))))) (needS (pureL [IV.agg (z16b v op im iv ks)]) (Q (.agg (z16b v op im iv ks)) h))) (needS (pureL [IV.agg (z16b v op im iv ks)]) (Q (.agg (z16b v op im iv ks)) h)))))))))) := by kernel_rfl
set_option maxHeartbeats 2000000 in
theorem rMut : ∀ d xs h Q, kMut d xs h Q → CallW env 16 xs h Q := by
  intro d
  induction d with
  | zero =>
    intro xs h Q hk
    unfold kMut at hk
    split at hk
    · rename_i v op im iv n1 c1 how at_
      obtain ⟨ks, ⟨rfl, rfl⟩, hb, hw, hk⟩ := hk
      have := num_pos (T.mk v op im iv ks)
      omega
    · exact hk.elim
  | succ dd ih =>
    intro xs h Q hk
    unfold kMut at hk
    split at hk
    · rename_i v op im iv n1 c1 how at_
      obtain ⟨ks, ⟨rfl, rfl⟩, hb, hw, hk⟩ := hk
      refine dF_run (sound_add ih (okLInts)) (vMut dd v op im iv how at_ ks h Q) ?_
      delta z16a z16b z16c z16d z16e z16f z16g z16h z16i z16j z16k z16l z16m z16n z16o z16p z16q z16r z16s
      have tn : ∀ x : Nat, (x : Int).toNat = x := Int.toNat_natCast
      obtain ⟨⟨⟨b0, b1, b2, b3⟩, hoks⟩, hnd, hn⟩ := hb
      have hlen := len_nums ks
      have hnum : (T.mk v op im iv ks).num = nums ks + 1 := rfl
      rw [hnum] at hnd hn hk
      have eta : ∀ t : T, T.mk t.v t.op t.im t.iv t.ks = t := fun t => by cases t; rfl
      have same : ∀ v2 op2 im2 iv2 : Int, i64b v2 → i64b op2 → i64b im2 → i64b iv2 → needS (pureL [IV.agg [IV.int .i64 v2, IV.int .i64 op2, IV.int .i64 im2, IV.int .i64 iv2, IV.vslice none 0 ks.length 5 (cTs ks)]]) (Q (IV.agg [IV.int .i64 v2, IV.int .i64 op2, IV.int .i64 im2, IV.int .i64 iv2, IV.vslice none 0 ks.length 5 (cTs ks)]) h) :=
        fun v2 op2 im2 iv2 c0 c1 c2 c3 => needS_intro (by simp only [pureL, pureB, pureL_cTs, Bool.and_true]) (hk _ _ _ _ ks ⟨⟨c0, c1, c2, c3⟩, hoks⟩ (by rw [T.num]; omega))
      refine needS_intro (by simp only [pureL, pureB, pureL_cTs, Bool.and_true]) ⟨by decide, brS_intro (fun _ => ⟨by decide, same _ _ _ _ (wrap_b _) b1 b2 b3⟩) (fun _ => brS_intro (fun _ => ⟨by decide, same _ _ _ _ b0 (wrap_b _) b2 b3⟩) (fun _ => brS_intro (fun _ => ⟨by decide, same _ _ _ _ b0 b1 (wrap_b _) b3⟩) (fun _ => brS_intro (fun _ => ⟨by decide, same _ _ _ _ b0 b1 b2 (wrap_b _)⟩) (fun _ =>
        brS_intro (fun _ => brS_intro (fun c => ?_) (fun c => ?_)) (fun _ => brS_intro (fun _ => brS_intro (fun c => ?_) (fun _ => same _ _ _ _ b0 b1 b2 b3)) (fun _ => brS_intro (fun _ => brS_intro (fun c => ?_) (fun _ => same _ _ _ _ b0 b1 b2 b3)) (fun _ => same _ _ _ _ b0 b1 b2 b3)))))))⟩
      · exact hk v op im iv [.mk 1 0 0 0 []] ⟨⟨b0, b1, b2, b3⟩, ⟨⟨⟨by decide, by decide, by decide, by decide⟩, trivial⟩, trivial⟩⟩ (by simp only [T.num, nums]; omega)
      · have e : ([] : List IV) ++ cTs ks ++ [IV.int .i64 1, IV.int .i64 0, IV.int .i64 0, IV.int .i64 0, IV.vslice none 0 0 5 []] = cTs (ks ++ [.mk 1 0 0 0 []]) := by rw [cTs_append, List.nil_append]; rfl
        have el : 0 + ks.length + 1 = (ks ++ [T.mk 1 0 0 0 []]).length := by simp
        have hf := hk v op im iv (ks ++ [.mk 1 0 0 0 []]) ⟨⟨b0, b1, b2, b3⟩, (oks_append (a := ks) (b := [T.mk 1 0 0 0 []])).2 ⟨hoks, ⟨⟨⟨by decide, by decide, by decide, by decide⟩, trivial⟩, trivial⟩⟩⟩ (by simp only [T.num, nums_append, nums]; omega)
        rw [e, el]
        exact needS_intro (by rw [Nat.ble_eq]; omega) (needS_intro (by simp; omega) (needS_intro (by simp only [pureL, pureB, pureL_cTs, Bool.and_true]) hf))
      · rw [decide_eq_true_eq] at c
        have hpos : 0 < ks.length := by omega
        have hq0 : 0 ≤ at_ % (ks.length : Int) := Int.emod_nonneg _ (by omega)
        have hq1 : at_ % (ks.length : Int) < ks.length := Int.emod_lt_of_pos _ (by omega)
        refine ⟨⟨by omega, by omega⟩, brS_intro (fun c2 => absurd (Nat.eq_of_beq_eq_true c2) (by omega)) (fun _ => ?_)⟩
        generalize at_ % (ks.length : Int) = q at hq0 hq1 ⊢
        obtain ⟨j, rfl⟩ := Int.eq_ofNat_of_zero_le hq0
        have hj : j < ks.length := by omega
        simp only [List.nil_append, Nat.zero_add, tn]
        have hjo := ok_kid hoks (List.getElem_mem hj)
        have hjn := num_lt (List.getElem_mem hj)
        refine needS_intro (by rw [Nat.ble_eq]; omega) (needS_intro (by simp; omega) (ldT hj rfl ⟨ks[j].ks, ⟨rfl, rfl⟩, ?_, ⟨wrap_b _, wrap_b _⟩, fun v2 op2 im2 iv2 ks2 hok2 hnum2 => ?_⟩))
        · rw [eta]
          exact ⟨hjo, by omega, by omega⟩
        rw [eta] at hnum2
        have hs := nums_set hj (T.mk v2 op2 im2 iv2 ks2)
        have hl : (ks.set j (T.mk v2 op2 im2 iv2 ks2)).length = ks.length := List.length_set
        have hcl : (cTs (ks.set j (T.mk v2 op2 im2 iv2 ks2))).length = ks.length * 5 := by rw [cTs_len, hl]
        rw [cTs_set hj, List.drop_zero, List.take_of_length_le (Nat.le_of_eq hcl)]
        have hf := hk v op im iv (ks.set j (T.mk v2 op2 im2 iv2 ks2)) ⟨⟨b0, b1, b2, b3⟩, oks_set hoks _ hok2⟩ (by rw [T.num]; omega)
        rw [hl] at hf
        exact needS_intro (by simp; omega) (needS_intro (by rw [Nat.ble_eq, cTs_len]; omega) (needS_intro (by rw [Bool.true_and, Nat.ble_eq, hcl]; exact Nat.le_refl _) (needS_intro (by simp only [pureL, pureB, pureL_cTs, Bool.and_true]) hf)))
      · rw [decide_eq_true_eq] at c
        have hpos : 0 < ks.length := by omega
        have hq0 : 0 ≤ at_ % (ks.length : Int) := Int.emod_nonneg _ (by omega)
        have hq1 : at_ % (ks.length : Int) < ks.length := Int.emod_lt_of_pos _ (by omega)
        refine ⟨⟨by omega, by omega⟩, brS_intro (fun c2 => absurd (Nat.eq_of_beq_eq_true c2) (by omega)) (fun _ => ?_)⟩
        generalize at_ % (ks.length : Int) = q at hq0 hq1 ⊢
        obtain ⟨j, rfl⟩ := Int.eq_ofNat_of_zero_le hq0
        have hj : j < ks.length := by omega
        simp only [List.nil_append, Nat.zero_add, tn]
        have hjo := ok_kid hoks (List.getElem_mem hj)
        have hjn := num_lt (List.getElem_mem hj)
        refine needS_intro (by rw [Nat.ble_eq]; omega) (needS_intro (by simp; omega) (ldT hj rfl ⟨ks[j].ks, ⟨rfl, rfl⟩, ?_, ⟨wrap_b _, wrap_b _⟩, fun v2 op2 im2 iv2 ks2 hok2 hnum2 => ?_⟩))
        · rw [eta]
          exact ⟨hjo, by omega, by omega⟩
        rw [eta] at hnum2
        have hs := nums_set hj (T.mk v2 op2 im2 iv2 ks2)
        have hl : (ks.set j (T.mk v2 op2 im2 iv2 ks2)).length = ks.length := List.length_set
        have hcl : (cTs (ks.set j (T.mk v2 op2 im2 iv2 ks2))).length = ks.length * 5 := by rw [cTs_len, hl]
        rw [cTs_set hj, List.drop_zero, List.take_of_length_le (Nat.le_of_eq hcl)]
        have hf := hk v op im iv (ks.set j (T.mk v2 op2 im2 iv2 ks2)) ⟨⟨b0, b1, b2, b3⟩, oks_set hoks _ hok2⟩ (by rw [T.num]; omega)
        rw [hl] at hf
        exact needS_intro (by simp; omega) (needS_intro (by rw [Nat.ble_eq, cTs_len]; omega) (needS_intro (by rw [Bool.true_and, Nat.ble_eq, hcl]; exact Nat.le_refl _) (needS_intro (by simp only [pureL, pureB, pureL_cTs, Bool.and_true]) hf)))
    · exact hk.elim
def cMut := addC 16 (fun xs h K => ∃ d, kMut d xs h K) cLInts
theorem okMut : Sound env cMut := sound_add (fun xs h Q hk => hk.elim fun d hk => rMut d xs h Q hk) (okLInts)

def rnInv (l : List Nd) (v op im iv : Int) (ks : List T) (vars imms : List Int) : Inv' := atX (Nat × Bool × Nat × Heap) (fun x => [(0, .v (.vslice none 0 (l).length 3 ((l).flatMap cN))), (2, .v (.vslice none 0 (vars).length 1 ((vars).map (IV.int .i64)))), (3, .v (.vslice none 0 (imms).length 1 ((imms).map (IV.int .i64)))), (5, .l 5 0), (10, .v (.vslice (some x.2.2.1) ((l).length * 3) (l).length 3 ((l).flatMap cN))), (11, .v (.bool x.2.1)), (12, .v (.int .i64 x.1))]) (fun _ => [(5, [.int .i64 v, .int .i64 op, .int .i64 im, .int .i64 iv, .vslice none 0 ks.length 5 (cTs ks)])]) (fun x => x.2.2.2)
  (fun x => x.1 ≤ vars.length ∧ x.2.2.2.get x.2.2.1 = .tip (l.length * 3) ∧ x.2.2.1 < x.2.2.2.next ∧ x.2.1 = (valB (T.mk v op im iv ks) vars.length imms.length && (vars.take x.1).all fun i => decide (0 ≤ i) && decide (i < (l.length : Int)))) (fun x => vars.length - x.1)
def kRInsta (xs : List IV) (h : Heap) (K : IV → Heap → Prop) : Prop := match xs with
  | [.vslice none 0 n1 3 c1, .agg [.int .i64 v, .int .i64 op, .int .i64 im, .int .i64 iv, .vslice none 0 n2 5 c2], .vslice none 0 n3 1 c3, .vslice none 0 n4 1 c4] => ∃ (l : List Nd) (ks : List T) (vars imms : List Int), (n1 = l.length ∧ c1 = l.flatMap cN) ∧ (n2 = ks.length ∧ c2 = cTs ks) ∧ (n3 = vars.length ∧ c3 = vars.map (IV.int .i64)) ∧ (n4 = imms.length ∧ c4 = imms.map (IV.int .i64)) ∧
   ((l ≠ [] ∧ (∀ x ∈ l, okN x) ∧ l.length ≤ 1000000 ∧ KB l) ∧ ((T.mk v op im iv ks).ok ∧ (T.mk v op im iv ks).num ≤ 1000000) ∧ ((∀ x ∈ vars, i64b x) ∧ vars.length ≤ 1000) ∧ (∀ x ∈ imms, i64b x) ∧ imms.length ≤ 1000) ∧
   K (.tuple [.vslice none 0 ((instB l (T.mk v op im iv ks) vars imms).1).length 3 (((instB l (T.mk v op im iv ks) vars imms).1).flatMap cN), .int .i64 (instB l (T.mk v op im iv ks) vars imms).2]) h
  | _ => False
set_option maxRecDepth 100000 in
theorem vRInsta (l : List Nd) (v op im iv : Int) (ks : List T) (vars imms : List Int) (h : Heap) (Q : IV → Heap → Prop) : dF (stdS cMut) env 23 noU (ic1 5 (rnInv l v op im iv ks vars imms)) noI [.vslice none 0 (l).length 3 ((l).flatMap cN), .agg [.int .i64 v, .int .i64 op, .int .i64 im, .int .i64 iv, .vslice none 0 ks.length 5 (cTs ks)], .vslice none 0 (vars).length 1 ((vars).map (IV.int .i64)), .vslice none 0 (imms).length 1 ((imms).map (IV.int .i64))] h Q = (
  needS
 (pureL
 [IV.vslice none 0 l.length 3 (List.flatMap cN l), IV.agg [.int .i64 v, IV.int .i64 op, IV.int .i64 im, IV.int .i64 iv, IV.vslice none 0 ks.length 5 (cTs ks)],
 IV.vslice none 0 vars.length 1 (List.map (IV.int .i64) vars), IV.vslice none 0 imms.length 1 (List.map (IV.int .i64) imms)])
 (brS (Nat.beq l.length (0 : Nat))
 (∃ (ks_1 : List T),
 (ks.length = ks_1.length ∧ cTs ks = cTs ks_1) ∧
 (thins ks_1 ∧ ks_1.length ≤ 1000000000000000) ∧
 (∃ (x : Nat × Bool × Nat × Heap),
 some (TV.v (.vslice none 0 l.length 3 (List.flatMap cN l))) = some (TV.v (.vslice none 0 l.length 3 (List.flatMap cN l))) ∧
 some (TV.v (.vslice none 0 vars.length 1 (List.map (IV.int .i64) vars))) = some (TV.v (.vslice none 0 vars.length 1 (List.map (IV.int .i64) vars))) ∧
 some (TV.v (.vslice none 0 imms.length 1 (List.map (IV.int .i64) imms))) = some (TV.v (.vslice none 0 imms.length 1 (List.map (IV.int .i64) imms))) ∧
 some (TV.l 5 0) = some (TV.l 5 0) ∧
 some (TV.v (.vslice none 1 0 3 [])) = some (TV.v (.vslice (some x.2.2.1) (l.length * 3) l.length 3 (List.flatMap cN l))) ∧
 some (TV.v (.bool (valB (T.mk v op im iv ks_1) (↑vars.length : Int) (↑imms.length : Int)))) = some (TV.v (.bool x.2.1)) ∧
 some (TV.v (.int .i64 0)) = some (TV.v (.int .i64 (↑x.1 : Int))) ∧
 some [IV.int .i64 v, IV.int .i64 op, IV.int .i64 im, IV.int .i64 iv, IV.vslice none 0 ks.length 5 (cTs ks)] =
 some [IV.int .i64 v, IV.int .i64 op, IV.int .i64 im, IV.int .i64 iv, IV.vslice none 0 ks.length 5 (cTs ks)] ∧
 Heap.mk PT.nil 0 = x.2.2.2 ∧
 (x.1 ≤ vars.length ∧
 Heap.get x.2.2.2 x.2.2.1 = IObj.tip (l.length * 3) ∧
 x.2.2.1 < Heap.next x.2.2.2 ∧
 x.2.1 =
 (valB (T.mk v op im iv ks) (↑vars.length : Int) (↑imms.length : Int) &&
 List.all (List.take x.1 vars) fun i => decide (0 ≤ i) && decide (i < (↑l.length : Int)))) ∧
 True) ∧
 ∀ (x : Nat × Bool × Nat × Heap) (b : FF),
 x.1 ≤ vars.length ∧
 Heap.get x.2.2.2 x.2.2.1 = IObj.tip (l.length * 3) ∧
 x.2.2.1 < Heap.next x.2.2.2 ∧
 x.2.1 =
 (valB (T.mk v op im iv ks) (↑vars.length : Int) (↑imms.length : Int) && List.all (List.take x.1 vars) fun i => decide (0 ≤ i) && decide (i < (↑l.length : Int))) →
 brS (decide ((↑x.1 : Int) < (↑vars.length : Int)))
 (brS x.2.1
 (needS (decide (0 ≤ (↑x.1 : Int)) && decide ((↑x.1 : Int) < (↑vars.length : Int)))
 (ldIS .i64 (List.map (IV.int .i64) vars) (Int.toNat (↑x.1 : Int) * 1) fun n0 =>
 brS (decide (n0 ≥ 0))
 (needS (decide (0 ≤ (↑x.1 : Int)) && decide ((↑x.1 : Int) < (↑vars.length : Int)))
 (ldIS .i64 (List.map (IV.int .i64) vars) (Int.toNat (↑x.1 : Int) * 1) fun n1 =>
 ∃ (x_1 : Nat × Bool × Nat × Heap),
 some (TV.v (.vslice none 0 l.length 3 (List.flatMap cN l))) = some (TV.v (.vslice none 0 l.length 3 (List.flatMap cN l))) ∧
 some (TV.v (.vslice none 0 vars.length 1 (List.map (IV.int .i64) vars))) =
 some (TV.v (.vslice none 0 vars.length 1 (List.map (IV.int .i64) vars))) ∧
 some (TV.v (.vslice none 0 imms.length 1 (List.map (IV.int .i64) imms))) =
 some (TV.v (.vslice none 0 imms.length 1 (List.map (IV.int .i64) imms))) ∧
 some (TV.l 5 0) = some (TV.l 5 0) ∧
 some (TV.v (.vslice (some x.2.2.1) (l.length * 3) l.length 3 (List.flatMap cN l))) =
 some (TV.v (.vslice (some x_1.2.2.1) (l.length * 3) l.length 3 (List.flatMap cN l))) ∧
 some (TV.v (.bool (decide (n1 < (↑l.length : Int))))) = some (TV.v (.bool x_1.2.1)) ∧
 some (TV.v (.int .i64 (IntKind.wrap .i64 ((↑x.1 : Int) + 1)))) = some (TV.v (.int .i64 (↑x_1.1 : Int))) ∧
 some [IV.int .i64 v, IV.int .i64 op, IV.int .i64 im, IV.int .i64 iv, IV.vslice none 0 ks.length 5 (cTs ks)] =
 some [IV.int .i64 v, IV.int .i64 op, IV.int .i64 im, IV.int .i64 iv, IV.vslice none 0 ks.length 5 (cTs ks)] ∧
 x.2.2.2 = x_1.2.2.2 ∧
 (x_1.1 ≤ vars.length ∧
 Heap.get x_1.2.2.2 x_1.2.2.1 = IObj.tip (l.length * 3) ∧
 x_1.2.2.1 < Heap.next x_1.2.2.2 ∧
 x_1.2.1 =
 (valB (T.mk v op im iv ks) (↑vars.length : Int) (↑imms.length : Int) &&
 List.all (List.take x_1.1 vars) fun i => decide (0 ≤ i) && decide (i < (↑l.length : Int)))) ∧
 vars.length - x_1.1 < vars.length - x.1))
 (∃ (x_1 : Nat × Bool × Nat × Heap),
 some (TV.v (.vslice none 0 l.length 3 (List.flatMap cN l))) = some (TV.v (.vslice none 0 l.length 3 (List.flatMap cN l))) ∧
 some (TV.v (.vslice none 0 vars.length 1 (List.map (IV.int .i64) vars))) =
 some (TV.v (.vslice none 0 vars.length 1 (List.map (IV.int .i64) vars))) ∧
 some (TV.v (.vslice none 0 imms.length 1 (List.map (IV.int .i64) imms))) =
 some (TV.v (.vslice none 0 imms.length 1 (List.map (IV.int .i64) imms))) ∧
 some (TV.l 5 0) = some (TV.l 5 0) ∧
 some (TV.v (.vslice (some x.2.2.1) (l.length * 3) l.length 3 (List.flatMap cN l))) =
 some (TV.v (.vslice (some x_1.2.2.1) (l.length * 3) l.length 3 (List.flatMap cN l))) ∧
 some (TV.v (.bool false)) = some (TV.v (.bool x_1.2.1)) ∧
 some (TV.v (.int .i64 (IntKind.wrap .i64 ((↑x.1 : Int) + 1)))) = some (TV.v (.int .i64 (↑x_1.1 : Int))) ∧
 some [IV.int .i64 v, IV.int .i64 op, IV.int .i64 im, IV.int .i64 iv, IV.vslice none 0 ks.length 5 (cTs ks)] =
 some [IV.int .i64 v, IV.int .i64 op, IV.int .i64 im, IV.int .i64 iv, IV.vslice none 0 ks.length 5 (cTs ks)] ∧
 x.2.2.2 = x_1.2.2.2 ∧
 (x_1.1 ≤ vars.length ∧
 Heap.get x_1.2.2.2 x_1.2.2.1 = IObj.tip (l.length * 3) ∧
 x_1.2.2.1 < Heap.next x_1.2.2.2 ∧
 x_1.2.1 =
 (valB (T.mk v op im iv ks) (↑vars.length : Int) (↑imms.length : Int) &&
 List.all (List.take x_1.1 vars) fun i => decide (0 ≤ i) && decide (i < (↑l.length : Int)))) ∧
 vars.length - x_1.1 < vars.length - x.1)))
 (∃ (x_1 : Nat × Bool × Nat × Heap),
 some (TV.v (.vslice none 0 l.length 3 (List.flatMap cN l))) = some (TV.v (.vslice none 0 l.length 3 (List.flatMap cN l))) ∧
 some (TV.v (.vslice none 0 vars.length 1 (List.map (IV.int .i64) vars))) = some (TV.v (.vslice none 0 vars.length 1 (List.map (IV.int .i64) vars))) ∧
 some (TV.v (.vslice none 0 imms.length 1 (List.map (IV.int .i64) imms))) = some (TV.v (.vslice none 0 imms.length 1 (List.map (IV.int .i64) imms))) ∧
 some (TV.l 5 0) = some (TV.l 5 0) ∧
 some (TV.v (.vslice (some x.2.2.1) (l.length * 3) l.length 3 (List.flatMap cN l))) =
 some (TV.v (.vslice (some x_1.2.2.1) (l.length * 3) l.length 3 (List.flatMap cN l))) ∧
 some (TV.v (.bool false)) = some (TV.v (.bool x_1.2.1)) ∧
 some (TV.v (.int .i64 (IntKind.wrap .i64 ((↑x.1 : Int) + 1)))) = some (TV.v (.int .i64 (↑x_1.1 : Int))) ∧
 some [IV.int .i64 v, IV.int .i64 op, IV.int .i64 im, IV.int .i64 iv, IV.vslice none 0 ks.length 5 (cTs ks)] =
 some [IV.int .i64 v, IV.int .i64 op, IV.int .i64 im, IV.int .i64 iv, IV.vslice none 0 ks.length 5 (cTs ks)] ∧
 x.2.2.2 = x_1.2.2.2 ∧
 (x_1.1 ≤ vars.length ∧
 Heap.get x_1.2.2.2 x_1.2.2.1 = IObj.tip (l.length * 3) ∧
 x_1.2.2.1 < Heap.next x_1.2.2.2 ∧
 x_1.2.1 =
 (valB (T.mk v op im iv ks) (↑vars.length : Int) (↑imms.length : Int) &&
 List.all (List.take x_1.1 vars) fun i => decide (0 ≤ i) && decide (i < (↑l.length : Int)))) ∧
 vars.length - x_1.1 < vars.length - x.1))
 (brS (!x.2.1)
 (needS (pureL [IV.vslice none 0 l.length 3 (List.flatMap cN l), IV.int .i64 (-1)])
 (Q (.tuple [.vslice none 0 l.length 3 (List.flatMap cN l), IV.int .i64 (-1)]) h))
 (∃ (d : Nat),
 ∃ (l_1 : List Nd),
 ∃ (ks_2 : List T),
 ∃ (vars_1 : List Int),
 ∃ (imms_1 : List Int),
 (l.length * 3 = l_1.length * 3 ∧ l.length = l_1.length ∧ List.flatMap cN l = List.flatMap cN l_1) ∧
 (ks.length = ks_2.length ∧ cTs ks = cTs ks_2) ∧
 (vars.length = vars_1.length ∧ List.map (IV.int .i64) vars = List.map (IV.int .i64) vars_1) ∧
 (imms.length = imms_1.length ∧ List.map (IV.int .i64) imms = List.map (IV.int .i64) imms_1) ∧
 (Heap.get x.2.2.2 x.2.2.1 = IObj.tip (l_1.length * 3) ∧
 x.2.2.1 < Heap.next x.2.2.2) ∧
 (T.num (T.mk v op im iv ks_2) ≤ d ∧ T.wi (T.mk v op im iv ks_2) (↑vars_1.length : Int) (↑imms_1.length : Int) ∧ T.ok (T.mk v op im iv ks_2)) ∧
 ((∀ (x : Int), x ∈ vars_1 → i64b x) ∧
 (∀ (x : Int), x ∈ imms_1 → i64b x) ∧
 (∀ (x : Nd), x ∈ l_1 → okN x) ∧
 l_1.length + T.num (T.mk v op im iv ks_2) ≤ 1000000000 ∧ vars_1.length ≤ 1000 ∧ imms_1.length ≤ 1000 ∧ KB l_1 ∧ nums ks_2 ≤ 1000000) ∧
 ∀ (h2 : Heap),
 Heap.get h2 x.2.2.1 = IObj.tip (List.length (Prod.fst (instA (T.mk v op im iv ks_2) vars_1 imms_1 l_1)) * 3) →
 HF x.2.2.1 x.2.2.2 h2 →
 needS
 (pureL
 [IV.vslice none 0 (List.length (Prod.fst (instA (T.mk v op im iv ks_2) vars_1 imms_1 l_1))) 3
 (List.flatMap cN (Prod.fst (instA (T.mk v op im iv ks_2) vars_1 imms_1 l_1))),
 IV.int .i64 (Prod.snd (instA (T.mk v op im iv ks_2) vars_1 imms_1 l_1))])
 (Q
 (IV.tuple
 [IV.vslice none 0 (List.length (Prod.fst (instA (T.mk v op im iv ks_2) vars_1 imms_1 l_1))) 3
 (List.flatMap cN (Prod.fst (instA (T.mk v op im iv ks_2) vars_1 imms_1 l_1))),
 IV.int .i64 (Prod.snd (instA (T.mk v op im iv ks_2) vars_1 imms_1 l_1))])
 h))))
 (needS (Nat.ble (((0 : Nat) + l.length) * 40) (140737488355328 : Nat))
 (∃ (ks_1 : List T),
 (ks.length = ks_1.length ∧ cTs ks = cTs ks_1) ∧
 (thins ks_1 ∧ ks_1.length ≤ 1000000000000000) ∧
 (∃ (x : Nat × Bool × Nat × Heap),
 some (TV.v (.vslice none 0 l.length 3 (List.flatMap cN l))) = some (TV.v (.vslice none 0 l.length 3 (List.flatMap cN l))) ∧
 some (TV.v (.vslice none 0 vars.length 1 (List.map (IV.int .i64) vars))) = some (TV.v (.vslice none 0 vars.length 1 (List.map (IV.int .i64) vars))) ∧
 some (TV.v (.vslice none 0 imms.length 1 (List.map (IV.int .i64) imms))) = some (TV.v (.vslice none 0 imms.length 1 (List.map (IV.int .i64) imms))) ∧
 some (TV.l 5 0) = some (TV.l 5 0) ∧
 some (TV.v (.vslice (some (0 : Nat)) (((0 : Nat) + l.length) * 3) ((0 : Nat) + l.length) 3 ([] ++ List.flatMap cN l))) =
 some (TV.v (.vslice (some x.2.2.1) (l.length * 3) l.length 3 (List.flatMap cN l))) ∧
 some (TV.v (.bool (valB (T.mk v op im iv ks_1) (↑vars.length : Int) (↑imms.length : Int)))) = some (TV.v (.bool x.2.1)) ∧
 some (TV.v (.int .i64 0)) = some (TV.v (.int .i64 (↑x.1 : Int))) ∧
 some [IV.int .i64 v, IV.int .i64 op, IV.int .i64 im, IV.int .i64 iv, IV.vslice none 0 ks.length 5 (cTs ks)] =
 some [IV.int .i64 v, IV.int .i64 op, IV.int .i64 im, IV.int .i64 iv, IV.vslice none 0 ks.length 5 (cTs ks)] ∧
 Heap.mk (PT.node PT.nil (some (IObj.tip (((0 : Nat) + l.length) * 3))) PT.nil) ((0 : Nat) + 1) = x.2.2.2 ∧
 (x.1 ≤ vars.length ∧
 Heap.get x.2.2.2 x.2.2.1 = IObj.tip (l.length * 3) ∧
 x.2.2.1 < Heap.next x.2.2.2 ∧
 x.2.1 =
 (valB (T.mk v op im iv ks) (↑vars.length : Int) (↑imms.length : Int) &&
 List.all (List.take x.1 vars) fun i => decide (0 ≤ i) && decide (i < (↑l.length : Int)))) ∧
 True) ∧
 ∀ (x : Nat × Bool × Nat × Heap) (b : FF),
 x.1 ≤ vars.length ∧
 Heap.get x.2.2.2 x.2.2.1 = IObj.tip (l.length * 3) ∧
 x.2.2.1 < Heap.next x.2.2.2 ∧
 x.2.1 =
 (valB (T.mk v op im iv ks) (↑vars.length : Int) (↑imms.length : Int) && List.all (List.take x.1 vars) fun i => decide (0 ≤ i) && decide (i < (↑l.length : Int))) →
 brS (decide ((↑x.1 : Int) < (↑vars.length : Int)))
 (brS x.2.1
 (needS (decide (0 ≤ (↑x.1 : Int)) && decide ((↑x.1 : Int) < (↑vars.length : Int)))
 (ldIS .i64 (List.map (IV.int .i64) vars) (Int.toNat (↑x.1 : Int) * 1) fun n2 =>
 brS (decide (n2 ≥ 0))
 (needS (decide (0 ≤ (↑x.1 : Int)) && decide ((↑x.1 : Int) < (↑vars.length : Int)))
 (ldIS .i64 (List.map (IV.int .i64) vars) (Int.toNat (↑x.1 : Int) * 1) fun n3 =>
 ∃ (x_1 : Nat × Bool × Nat × Heap),
 some (TV.v (.vslice none 0 l.length 3 (List.flatMap cN l))) = some (TV.v (.vslice none 0 l.length 3 (List.flatMap cN l))) ∧
 some (TV.v (.vslice none 0 vars.length 1 (List.map (IV.int .i64) vars))) =
 some (TV.v (.vslice none 0 vars.length 1 (List.map (IV.int .i64) vars))) ∧
 some (TV.v (.vslice none 0 imms.length 1 (List.map (IV.int .i64) imms))) =
 some (TV.v (.vslice none 0 imms.length 1 (List.map (IV.int .i64) imms))) ∧
 some (TV.l 5 0) = some (TV.l 5 0) ∧
 some (TV.v (.vslice (some x.2.2.1) (l.length * 3) l.length 3 (List.flatMap cN l))) =
 some (TV.v (.vslice (some x_1.2.2.1) (l.length * 3) l.length 3 (List.flatMap cN l))) ∧
 some (TV.v (.bool (decide (n3 < (↑l.length : Int))))) = some (TV.v (.bool x_1.2.1)) ∧
 some (TV.v (.int .i64 (IntKind.wrap .i64 ((↑x.1 : Int) + 1)))) = some (TV.v (.int .i64 (↑x_1.1 : Int))) ∧
 some [IV.int .i64 v, IV.int .i64 op, IV.int .i64 im, IV.int .i64 iv, IV.vslice none 0 ks.length 5 (cTs ks)] =
 some [IV.int .i64 v, IV.int .i64 op, IV.int .i64 im, IV.int .i64 iv, IV.vslice none 0 ks.length 5 (cTs ks)] ∧
 x.2.2.2 = x_1.2.2.2 ∧
 (x_1.1 ≤ vars.length ∧
 Heap.get x_1.2.2.2 x_1.2.2.1 = IObj.tip (l.length * 3) ∧
 x_1.2.2.1 < Heap.next x_1.2.2.2 ∧
 x_1.2.1 =
 (valB (T.mk v op im iv ks) (↑vars.length : Int) (↑imms.length : Int) &&
 List.all (List.take x_1.1 vars) fun i => decide (0 ≤ i) && decide (i < (↑l.length : Int)))) ∧
 vars.length - x_1.1 < vars.length - x.1))
 (∃ (x_1 : Nat × Bool × Nat × Heap),
 some (TV.v (.vslice none 0 l.length 3 (List.flatMap cN l))) = some (TV.v (.vslice none 0 l.length 3 (List.flatMap cN l))) ∧
 some (TV.v (.vslice none 0 vars.length 1 (List.map (IV.int .i64) vars))) =
 some (TV.v (.vslice none 0 vars.length 1 (List.map (IV.int .i64) vars))) ∧
 some (TV.v (.vslice none 0 imms.length 1 (List.map (IV.int .i64) imms))) =
 some (TV.v (.vslice none 0 imms.length 1 (List.map (IV.int .i64) imms))) ∧
 some (TV.l 5 0) = some (TV.l 5 0) ∧
 some (TV.v (.vslice (some x.2.2.1) (l.length * 3) l.length 3 (List.flatMap cN l))) =
 some (TV.v (.vslice (some x_1.2.2.1) (l.length * 3) l.length 3 (List.flatMap cN l))) ∧
 some (TV.v (.bool false)) = some (TV.v (.bool x_1.2.1)) ∧
 some (TV.v (.int .i64 (IntKind.wrap .i64 ((↑x.1 : Int) + 1)))) = some (TV.v (.int .i64 (↑x_1.1 : Int))) ∧
 some [IV.int .i64 v, IV.int .i64 op, IV.int .i64 im, IV.int .i64 iv, IV.vslice none 0 ks.length 5 (cTs ks)] =
 some [IV.int .i64 v, IV.int .i64 op, IV.int .i64 im, IV.int .i64 iv, IV.vslice none 0 ks.length 5 (cTs ks)] ∧
 x.2.2.2 = x_1.2.2.2 ∧
 (x_1.1 ≤ vars.length ∧
 Heap.get x_1.2.2.2 x_1.2.2.1 = IObj.tip (l.length * 3) ∧
 x_1.2.2.1 < Heap.next x_1.2.2.2 ∧
 x_1.2.1 =
 (valB (T.mk v op im iv ks) (↑vars.length : Int) (↑imms.length : Int) &&
 List.all (List.take x_1.1 vars) fun i => decide (0 ≤ i) && decide (i < (↑l.length : Int)))) ∧
 vars.length - x_1.1 < vars.length - x.1)))
 (∃ (x_1 : Nat × Bool × Nat × Heap),
 some (TV.v (.vslice none 0 l.length 3 (List.flatMap cN l))) = some (TV.v (.vslice none 0 l.length 3 (List.flatMap cN l))) ∧
 some (TV.v (.vslice none 0 vars.length 1 (List.map (IV.int .i64) vars))) = some (TV.v (.vslice none 0 vars.length 1 (List.map (IV.int .i64) vars))) ∧
 some (TV.v (.vslice none 0 imms.length 1 (List.map (IV.int .i64) imms))) =
 some (TV.v (.vslice none 0 imms.length 1 (List.map (IV.int .i64) imms))) ∧
 some (TV.l 5 0) = some (TV.l 5 0) ∧
 some (TV.v (.vslice (some x.2.2.1) (l.length * 3) l.length 3 (List.flatMap cN l))) =
 some (TV.v (.vslice (some x_1.2.2.1) (l.length * 3) l.length 3 (List.flatMap cN l))) ∧
 some (TV.v (.bool false)) = some (TV.v (.bool x_1.2.1)) ∧
 some (TV.v (.int .i64 (IntKind.wrap .i64 ((↑x.1 : Int) + 1)))) = some (TV.v (.int .i64 (↑x_1.1 : Int))) ∧
 some [IV.int .i64 v, IV.int .i64 op, IV.int .i64 im, IV.int .i64 iv, IV.vslice none 0 ks.length 5 (cTs ks)] =
 some [IV.int .i64 v, IV.int .i64 op, IV.int .i64 im, IV.int .i64 iv, IV.vslice none 0 ks.length 5 (cTs ks)] ∧
 x.2.2.2 = x_1.2.2.2 ∧
 (x_1.1 ≤ vars.length ∧
 Heap.get x_1.2.2.2 x_1.2.2.1 = IObj.tip (l.length * 3) ∧
 x_1.2.2.1 < Heap.next x_1.2.2.2 ∧
 x_1.2.1 =
 (valB (T.mk v op im iv ks) (↑vars.length : Int) (↑imms.length : Int) &&
 List.all (List.take x_1.1 vars) fun i => decide (0 ≤ i) && decide (i < (↑l.length : Int)))) ∧
 vars.length - x_1.1 < vars.length - x.1))
 (brS (!x.2.1)
 (needS (pureL [IV.vslice none 0 l.length 3 (List.flatMap cN l), IV.int .i64 (-1)])
 (Q (.tuple [.vslice none 0 l.length 3 (List.flatMap cN l), IV.int .i64 (-1)]) h))
 (∃ (d : Nat),
 ∃ (l_1 : List Nd),
 ∃ (ks_2 : List T),
 ∃ (vars_1 : List Int),
 ∃ (imms_1 : List Int),
 (l.length * 3 = l_1.length * 3 ∧ l.length = l_1.length ∧ List.flatMap cN l = List.flatMap cN l_1) ∧
 (ks.length = ks_2.length ∧ cTs ks = cTs ks_2) ∧
 (vars.length = vars_1.length ∧ List.map (IV.int .i64) vars = List.map (IV.int .i64) vars_1) ∧
 (imms.length = imms_1.length ∧ List.map (IV.int .i64) imms = List.map (IV.int .i64) imms_1) ∧
 (Heap.get x.2.2.2 x.2.2.1 = IObj.tip (l_1.length * 3) ∧
 x.2.2.1 < Heap.next x.2.2.2) ∧
 (T.num (T.mk v op im iv ks_2) ≤ d ∧ T.wi (T.mk v op im iv ks_2) (↑vars_1.length : Int) (↑imms_1.length : Int) ∧ T.ok (T.mk v op im iv ks_2)) ∧
 ((∀ (x : Int), x ∈ vars_1 → i64b x) ∧
 (∀ (x : Int), x ∈ imms_1 → i64b x) ∧
 (∀ (x : Nd), x ∈ l_1 → okN x) ∧
 l_1.length + T.num (T.mk v op im iv ks_2) ≤ 1000000000 ∧ vars_1.length ≤ 1000 ∧ imms_1.length ≤ 1000 ∧ KB l_1 ∧ nums ks_2 ≤ 1000000) ∧
 ∀ (h2 : Heap),
 Heap.get h2 x.2.2.1 = IObj.tip (List.length (Prod.fst (instA (T.mk v op im iv ks_2) vars_1 imms_1 l_1)) * 3) →
 HF x.2.2.1 x.2.2.2 h2 →
 needS
 (pureL
 [IV.vslice none 0 (List.length (Prod.fst (instA (T.mk v op im iv ks_2) vars_1 imms_1 l_1))) 3
 (List.flatMap cN (Prod.fst (instA (T.mk v op im iv ks_2) vars_1 imms_1 l_1))),
 IV.int .i64 (Prod.snd (instA (T.mk v op im iv ks_2) vars_1 imms_1 l_1))])
 (Q
 (IV.tuple
 [IV.vslice none 0 (List.length (Prod.fst (instA (T.mk v op im iv ks_2) vars_1 imms_1 l_1))) 3
 (List.flatMap cN (Prod.fst (instA (T.mk v op im iv ks_2) vars_1 imms_1 l_1))),
 IV.int .i64 (Prod.snd (instA (T.mk v op im iv ks_2) vars_1 imms_1 l_1))])
 h))))))) := by kernel_rfl
set_option maxHeartbeats 2000000 in
theorem sRInsta : ∀ xs h Q, kRInsta xs h Q → CallW env 23 xs h Q := by
  intro xs h Q hk
  unfold kRInsta at hk
  split at hk
  · rename_i n1 c1 v op im iv n2 c2 n3 c3 n4 c4
    obtain ⟨l, ks, vars, imms, ⟨rfl, rfl⟩, ⟨rfl, rfl⟩, ⟨rfl, rfl⟩, ⟨rfl, rfl⟩, hb, hk⟩ := hk
    refine dF_run (okMut) (vRInsta l v op im iv ks vars imms h Q) ?_
    have tn : ∀ x : Nat, (x : Int).toNat = x := Int.toNat_natCast
    obtain ⟨⟨hl0, hlo, hll, hkb⟩, ⟨hok, hnum⟩, ⟨hv, hvl⟩, him, hil⟩ := hb
    have hn1 : (T.mk v op im iv ks).num = nums ks + 1 := rfl
    have hlen := len_nums ks
    have hth : thins ks ∧ ks.length ≤ 1000000000000000 := ⟨thins_nums ks (by omega), by omega⟩
    refine needS_intro (by simp only [pureL, pureB, pureL_cN, pureL_cTs, pureL_ints, Bool.and_true]) (brS_intro (fun c => absurd (List.eq_nil_of_length_eq_zero (Nat.eq_of_beq_eq_true c)) hl0) (fun _ => needS_intro (by rw [Nat.ble_eq]; omega) ⟨ks, ⟨rfl, rfl⟩, hth, ⟨(0, valB (T.mk v op im iv ks) vars.length imms.length, 0, ⟨.node .nil (some (.tip ((0 + l.length) * 3))) .nil, 0 + 1⟩), rfl, rfl, rfl, rfl, (by simp), rfl, rfl, rfl, rfl, ⟨Nat.zero_le _, (by rw [Nat.zero_add]; rfl), Nat.zero_lt_one, (by simp)⟩, trivial⟩, ?_⟩))
    rintro ⟨i, b, iL, g⟩ _ ⟨hi, hg, hgn, hb⟩
    dsimp only at hi hg hgn hb ⊢
    subst hb
    refine brS_intro (fun c => ?_) (fun c => ?_)
    · rw [decide_eq_true_eq] at c
      have hlt : i < vars.length := by omega
      simp only [tn]
      have hw : IntKind.i64.wrap ((i : Int) + 1) = ((i + 1 : Nat) : Int) := by rw [IntWalk.i64_in _ (by omega)]; rfl
      rw [hw]
      have htk : ∀ f : Int → Bool, (vars.take (i + 1)).all f = ((vars.take i).all f && f vars[i]) := fun f => by rw [List.take_succ_eq_append_getElem hlt, List.all_append]; simp
      refine brS_intro (fun c1 => needS_intro (by simp; omega) (ldIo hlt (Nat.mul_one _) (brS_intro (fun c2 => needS_intro (by simp; omega) (ldIo hlt (Nat.mul_one _) ⟨(i + 1, decide (vars[i] < (l.length : Int)), iL, g), (by first | rfl | exact True.intro), (by first | rfl | exact True.intro), (by first | rfl | exact True.intro), (by first | rfl | exact True.intro), (by first | rfl | exact True.intro), (by first | rfl | exact True.intro), (by first | rfl | exact True.intro), (by first | rfl | exact True.intro), (by first | rfl | exact True.intro), ⟨hlt, hg, hgn, ?_⟩, by dsimp only; omega⟩))
        (fun c2 => ⟨(i + 1, false, iL, g), (by first | rfl | exact True.intro), (by first | rfl | exact True.intro), (by first | rfl | exact True.intro), (by first | rfl | exact True.intro), (by first | rfl | exact True.intro), (by first | rfl | exact True.intro), (by first | rfl | exact True.intro), (by first | rfl | exact True.intro), (by first | rfl | exact True.intro), ⟨hlt, hg, hgn, ?_⟩, by dsimp only; omega⟩)))) (fun c1 => ⟨(i + 1, false, iL, g), (by first | rfl | exact True.intro), (by first | rfl | exact True.intro), (by first | rfl | exact True.intro), (by first | rfl | exact True.intro), (by first | rfl | exact True.intro), (by first | rfl | exact True.intro), (by first | rfl | exact True.intro), (by first | rfl | exact True.intro), (by first | rfl | exact True.intro), ⟨hlt, hg, hgn, ?_⟩, by dsimp only; omega⟩)
      · dsimp only
        rw [htk, ← Bool.and_assoc, c1, Bool.true_and, show decide (0 ≤ vars[i]) = true from c2, Bool.true_and]
      · dsimp only
        rw [htk, show decide (0 ≤ vars[i]) = false from c2]
        simp
      · dsimp only
        rw [htk, ← Bool.and_assoc, c1, Bool.false_and]
    · rw [decide_eq_false_iff_not] at c
      have hi2 : i = vars.length := by omega
      subst hi2
      rw [List.take_length] at *
      refine brS_intro (fun c1 => ?_) (fun c1 => ?_)
      · have hno : ¬ (valB (T.mk v op im iv ks) vars.length imms.length = true ∧ vars.all (fun i => decide (0 ≤ i) && decide (i < (l.length : Int))) = true) := by
          rintro ⟨q1, q2⟩
          rw [q1, q2] at c1
          cases c1
        unfold instB at hk
        rw [if_neg hno] at hk
        exact needS_intro (by simp only [pureL, pureB, pureL_cN, Bool.and_true]) hk
      · rw [Bool.not_eq_false', Bool.and_eq_true] at c1
        have hw := valB_wi c1.1
        unfold instB at hk
        rw [if_pos c1] at hk
        exact ⟨(T.mk v op im iv ks).num, l, ks, vars, imms, ⟨rfl, rfl, rfl⟩, ⟨rfl, rfl⟩, ⟨rfl, rfl⟩, ⟨rfl, rfl⟩, ⟨hg, hgn⟩, ⟨Nat.le_refl _, hw.1, hok⟩, ⟨hv, him, hlo, by omega, hvl, hil, hkb, by omega⟩, fun h2 _ _ => needS_intro (by simp only [pureL, pureB, pureL_cN, Bool.and_true]) hk⟩
  · exact hk.elim
def cRInsta := addC 23 kRInsta cMut
theorem okRInsta : Sound env cRInsta := sound_add sRInsta (okMut)

def plA (how vars imms : Int) (hh k : List Int) : Inv' := atX (Nat × List T × List Nd × Heap) (fun x => [(3, .v (.int .i64 how)), (5, .v (.int .i64 vars)), (6, .v (.int .i64 imms)), (7, .v (.vslice none 0 (hh).length 1 ((hh).map (IV.int .i64)))), (8, .v (.vslice none 0 (k).length 1 ((k).map (IV.int .i64)))), (19, .v (.vslice none 0 (x.2.2.1).length 3 ((x.2.2.1).flatMap cN))), (44, .v (.vslice none 1 3 5 (cTs x.2.1))), (45, .v (.int .i64 3)), (46, .v (.int .i64 (x.1 : Int)))]) (fun _ => []) (fun x => x.2.2.2) (fun x => (x.2.1.length = 3 ∧ (∀ t ∈ x.2.1, t.ok ∧ t.num ≤ 600000) ∧ NW 14 x.2.2.1 ∧ x.1 ≤ 3)) (fun x => 3 - x.1)
def plB (how vars imms : Int) (hh k : List Int) : Inv' := atX (Nat × List T × List Nd × Heap × Nat × T) (fun x => [(3, .v (.int .i64 how)), (5, .v (.int .i64 vars)), (6, .v (.int .i64 imms)), (7, .v (.vslice none 0 (hh).length 1 ((hh).map (IV.int .i64)))), (8, .v (.vslice none 0 (k).length 1 ((k).map (IV.int .i64)))), (19, .v (.vslice none 0 (x.2.2.1).length 3 ((x.2.2.1).flatMap cN))), (44, .v (.vslice none 1 3 5 (cTs x.2.1))), (45, .v (.int .i64 3)), (46, .v (.int .i64 (x.1 : Int))), (21, .l 21 0), (59, .v (.vslice none 1 3 2 [.int .i64 vars, .int .i64 imms, .int .i64 (vars % 8), .int .i64 (imms % 8), .int .i64 4, .int .i64 2])), (60, .v (.int .i64 3)), (61, .v (.int .i64 (x.2.2.2.2.1 : Int)))]) (fun x => [(21, [.int .i64 x.2.2.2.2.2.v, .int .i64 x.2.2.2.2.2.op, .int .i64 x.2.2.2.2.2.im, .int .i64 x.2.2.2.2.2.iv, .vslice none 0 x.2.2.2.2.2.ks.length 5 (cTs x.2.2.2.2.2.ks)])]) (fun x => x.2.2.2.1)
  (fun x => (x.2.1.length = 3 ∧ (∀ t ∈ x.2.1, t.ok ∧ t.num ≤ 600000) ∧ NW 14 x.2.2.1 ∧ x.1 < 3) ∧ (x.2.2.2.2.2.ok ∧ x.2.2.2.2.2.num ≤ 600000) ∧ x.2.2.2.2.1 ≤ 3) (fun x => (3 - x.1) * 1000 + (3 - x.2.2.2.2.1))
def plC (how vars imms : Int) (hh k : List Int) : Inv' := .or
  (atX (Nat × List T × List Nd × Heap × T) (fun x => [(3, .v (.int .i64 how)), (5, .v (.int .i64 vars)), (6, .v (.int .i64 imms)), (7, .v (.vslice none 0 (hh).length 1 ((hh).map (IV.int .i64)))), (8, .v (.vslice none 0 (k).length 1 ((k).map (IV.int .i64)))), (19, .v (.vslice none 0 (x.2.2.1).length 3 ((x.2.2.1).flatMap cN))), (44, .v (.vslice none 1 3 5 (cTs x.2.1))), (45, .v (.int .i64 3)), (46, .v (.int .i64 (x.1 : Int))), (21, .l 21 0), (28, .v .nilslice), (29, .v (.int .i64 0))]) (fun x => [(21, [.int .i64 x.2.2.2.2.v, .int .i64 x.2.2.2.2.op, .int .i64 x.2.2.2.2.im, .int .i64 x.2.2.2.2.iv, .vslice none 0 x.2.2.2.2.ks.length 5 (cTs x.2.2.2.2.ks)])]) (fun x => x.2.2.2.1)
  (fun x => (x.2.1.length = 3 ∧ (∀ t ∈ x.2.1, t.ok ∧ t.num ≤ 600000) ∧ NW 14 x.2.2.1 ∧ x.1 < 3) ∧ (x.2.2.2.2.ok ∧ x.2.2.2.2.num ≤ 600000)) (fun x => (3 - x.1) * 1000 + 6))
  (atX (Nat × List T × List Nd × Heap × T × List Int × Nat) (fun x => [(3, .v (.int .i64 how)), (5, .v (.int .i64 vars)), (6, .v (.int .i64 imms)), (7, .v (.vslice none 0 (hh).length 1 ((hh).map (IV.int .i64)))), (8, .v (.vslice none 0 (k).length 1 ((k).map (IV.int .i64)))), (19, .v (.vslice none 0 (x.2.2.1).length 3 ((x.2.2.1).flatMap cN))), (44, .v (.vslice none 1 3 5 (cTs x.2.1))), (45, .v (.int .i64 3)), (46, .v (.int .i64 (x.1 : Int))), (21, .l 21 0), (28, .v (.vslice (some x.2.2.2.2.2.2) x.2.2.2.2.2.1.length x.2.2.2.2.2.1.length 1 (x.2.2.2.2.2.1.map (IV.int .i64)))), (29, .v (.int .i64 (x.2.2.2.2.2.1.length : Int)))]) (fun x => [(21, [.int .i64 x.2.2.2.2.1.v, .int .i64 x.2.2.2.2.1.op, .int .i64 x.2.2.2.2.1.im, .int .i64 x.2.2.2.2.1.iv, .vslice none 0 x.2.2.2.2.1.ks.length 5 (cTs x.2.2.2.2.1.ks)])]) (fun x => x.2.2.2.1)
  (fun x => (x.2.1.length = 3 ∧ (∀ t ∈ x.2.1, t.ok ∧ t.num ≤ 600000) ∧ NW 14 x.2.2.1 ∧ x.1 < 3) ∧ (x.2.2.2.2.1.ok ∧ x.2.2.2.2.1.num ≤ 600000) ∧ x.2.2.2.1.get x.2.2.2.2.2.2 = .tip x.2.2.2.2.2.1.length ∧ x.2.2.2.2.2.1.length ≤ 6 ∧ ∀ q ∈ x.2.2.2.2.2.1, i64b q) (fun x => (3 - x.1) * 1000 + (6 - x.2.2.2.2.2.1.length)))
def kRefL (xs : List IV) (h : Heap) (K : IV → Heap → Prop) : Prop := match xs with
  | [.agg [.int .i64 v, .int .i64 op, .int .i64 im, .int .i64 iv, .vslice none 0 n1 5 c1], .vslice none 0 n2 1 c2, .vslice none 0 n3 1 c3, .int .i64 how, .int .i64 at_, .int .i64 vars, .int .i64 imms, .vslice none 0 n4 1 c4, .vslice none 0 n5 1 c5] => ∃ (ks : List T) (l m hh k : List Int), (n1 = ks.length ∧ c1 = cTs ks) ∧ (n2 = l.length ∧ c2 = l.map (IV.int .i64)) ∧ (n3 = m.length ∧ c3 = m.map (IV.int .i64)) ∧ (n4 = hh.length ∧ c4 = hh.map (IV.int .i64)) ∧ (n5 = k.length ∧ c5 = k.map (IV.int .i64)) ∧ ((T.mk v op im iv ks).ok ∧ (T.mk v op im iv ks).num ≤ 600000) ∧ ((i64b how ∧ i64b at_) ∧ i64b vars ∧ i64b imms) ∧ (((∀ x ∈ l, i64b x) ∧ l.length ≤ 9223372036854775807) ∧ ((∀ x ∈ m, i64b x) ∧ m.length ≤ 9223372036854775807) ∧ ((∀ x ∈ hh, i64b x) ∧ hh.length ≤ 9223372036854775807) ∧ (∀ x ∈ k, i64b x) ∧ k.length ≤ 9223372036854775807) ∧ K (.bool true) h
  | _ => False
noncomputable def z6g  := IV.int .i64
noncomputable def z6a (hh : List Int) := TV.v (.vslice none 0 hh.length 1 (List.map z6g hh))
noncomputable def z6b (k : List Int) := TV.v (.vslice none 0 k.length 1 (List.map z6g k))
noncomputable def z6c (k : List Int) := if 6 < (↑k.length : Int) then (6 : Int) else (↑k.length : Int)
noncomputable def z6d  := TV.v (.int .i64 3)
noncomputable def z6e (vars imms : Int) := [IV.int .i64 vars, IV.int .i64 imms, IV.int .i64 (vars % (8 : Int)), IV.int .i64 (imms % (8 : Int)), IV.int .i64 4, IV.int .i64 2]
noncomputable def z6f (k : List Int) := true && (decide (0 ≤ if 6 < (↑k.length : Int) then (6 : Int) else (↑k.length : Int)) && decide ((z6c k) ≤ (↑k.length : Int)))
noncomputable def z6h (how : Int) := TV.v (.int .i64 how)
noncomputable def z6i (vars : Int) := TV.v (.int .i64 vars)
noncomputable def z6j (imms : Int) := TV.v (.int .i64 imms)
noncomputable abbrev z6k (x_3 : Nat × List T × List Nd × Heap) := x_3.2.1.length = 3 ∧ (∀ (t : T), t ∈ x_3.2.1 → T.ok t ∧ T.num t ≤ 600000) ∧ NW (14 : Nat) x_3.2.2.1 ∧ x_3.1 ≤ 3
noncomputable def z6l  := TV.l 21 0
noncomputable abbrev z6m (k imms_1 : List Int) := Int.toNat (z6c k) - 0 = imms_1.length ∧ List.take ((Int.toNat (z6c k) - 0) * 1) (List.drop 0 (List.map z6g k)) = List.map z6g imms_1
noncomputable abbrev z6n (k imms_2 : List Int) := Int.toNat (z6c k) - 0 = imms_2.length ∧ List.take ((Int.toNat (z6c k) - 0) * 1) (List.drop 0 (List.map z6g k)) = List.map z6g imms_2
noncomputable def z6o (x_3 : Nat × List T × List Nd × Heap) := TV.v (.vslice none 0 x_3.2.2.1.length 3 (List.flatMap cN x_3.2.2.1))
noncomputable def z6p  := TV.v (.int .i64 0)
noncomputable abbrev z6q (l_5 : List Nd) := (∀ (x : Nd), x ∈ l_5 → List.length (Nd.ks x) ≤ 1000000000) ∧ l_5.length ≤ 1000000000
noncomputable abbrev z6r (l_4 : List Nd) := l_4 ≠ [] ∧ (∀ (x : Nd), x ∈ l_4 → okN x) ∧ l_4.length ≤ 1000000 ∧ KB l_4
noncomputable def z6s (vars imms : Int) := TV.v (.vslice none 1 3 2 (z6e vars imms))
noncomputable abbrev z6t (vars_1 : List Int) := (∀ (x : Int), x ∈ vars_1 → i64b x) ∧ vars_1.length ≤ 1000
noncomputable abbrev z6u (vars_2 : List Int) := (∀ (x : Int), x ∈ vars_2 → i64b x) ∧ vars_2.length ≤ 1000
noncomputable def z6v (x_3 : Nat × List T × List Nd × Heap) := TV.v (.vslice none 1 3 5 (cTs x_3.2.1))
noncomputable def z6w  := IV.bool false
noncomputable abbrev z6x  := (0 : Int) < 8 ∧ (8 : Int) < 4611686018427387904
noncomputable abbrev z6y  := (0 : Int) < 2 ∧ (2 : Int) < 4611686018427387904
noncomputable def z6z  := TV.v IV.nilslice
set_option maxRecDepth 100000 in
theorem vRefL (v op im iv how at_ vars imms : Int) (ks : List T) (l m hh k : List Int) (h : Heap) (Q : IV → Heap → Prop) : dF (stdS cRInsta) env 6 noU (icA 4 (plA how vars imms hh k) (icA 1000007 (plB how vars imms hh k) (ic1 1000018 (plC how vars imms hh k)))) noI [.agg [.int .i64 v, .int .i64 op, .int .i64 im, .int .i64 iv, .vslice none 0 ks.length 5 (cTs ks)], .vslice none 0 (l).length 1 ((l).map (IV.int .i64)), .vslice none 0 (m).length 1 ((m).map (IV.int .i64)), .int .i64 how, .int .i64 at_, .int .i64 vars, .int .i64 imms, .vslice none 0 (hh).length 1 ((hh).map (IV.int .i64)), .vslice none 0 (k).length 1 ((k).map (IV.int .i64))] h Q = (
  needS (pureL [IV.agg [.int .i64 v, IV.int .i64 op, IV.int .i64 im, IV.int .i64 iv, IV.vslice none 0 ks.length 5 (cTs ks)], IV.vslice none 0 l.length 1 (List.map z6g l), IV.vslice none 0 m.length 1 (List.map
 z6g m), IV.int .i64 how, IV.int .i64 at_, IV.int .i64 vars, IV.int .i64 imms, IV.vslice none 0 hh.length 1 (List.map z6g hh), IV.vslice none 0 k.length 1 (List.map z6g k)]) (∃ (l_1 : List Int), (m.length = l_1.length
 ∧ List.map z6g m = List.map z6g l_1) ∧ ((∀ (x : Int), x ∈ l_1 → i64b x) ∧ l_1.length ≤ 9223372036854775807) ∧ ∀ (x : List Nd), NW (14 : Nat) x → ∃ (l_2 : List Int), (l.length = l_2.length ∧ List.map z6g l = List.map z6g l_2) ∧ ((∀ (x : Int), x ∈ l_2 → i64b x) ∧ l_2.length
 ≤ (9223372036854775807 : Nat)) ∧ ∀ (v_1 op_1 im_1 iv_1 : Int) (ks_1 : List T), T.ok (T.mk v_1 op_1 im_1 iv_1 ks_1) → T.num (T.mk v_1 op_1 im_1 iv_1 ks_1) ≤ 40 → ∃ (l_3 : List Int), (l.length = l_3.length ∧ List.map z6g l = List.map z6g l_3) ∧ ((∀ (x : Int), x ∈ l_3 → i64b x) ∧ List.length
 l_3 ≤ 9223372036854775807) ∧ ∀ (v_2 op_2 im_2 iv_2 : Int) (ks_2 : List T), T.ok (T.mk v_2 op_2 im_2 iv_2 ks_2) → T.num (T.mk v_2 op_2 im_2 iv_2 ks_2) ≤ 40 → ∃ (d : Nat), ∃ (ks_3 : List T), (ks_2.length = ks_3.length ∧ cTs ks_2 = cTs ks_3) ∧ (T.ok (T.mk v_2 op_2 im_2 iv_2 ks_3)
 ∧ T.num (T.mk v_2 op_2 im_2 iv_2 ks_3) ≤ d ∧ T.num (T.mk v_2 op_2 im_2 iv_2 ks_3) ≤ 1000) ∧ (i64b how ∧ i64b at_) ∧ ∀ (v2 op2 im2 iv2 : Int) (ks2 : List T), T.ok (T.mk v2 op2 im2 iv2 ks2) → T.num (T.mk v2 op2 im2 iv2 ks2) ≤ T.num (T.mk v_2 op_2 im_2 iv_2 ks_3) + 1 → (∃ (x_1 : Nat × List
 T × List Nd × Heap), some (z6h how) = some (z6h how) ∧ some (z6i vars) = some (z6i vars) ∧ some (z6j imms) = some (z6j imms) ∧ some (z6a hh) = some (z6a hh) ∧ some (z6b k) = some (z6b k) ∧ some (TV.v (.vslice none 0 x.length 3 (List.flatMap cN x))) = some (TV.v (.vslice none
 0 x_1.2.2.1.length 3 (List.flatMap cN x_1.2.2.1))) ∧ some (TV.v (.vslice none 1 3 5 [IV.int .i64 v, IV.int .i64 op, IV.int .i64 im, IV.int .i64 iv, IV.vslice none 0
 ks.length 5 (cTs ks), IV.int .i64 v_1, IV.int .i64 op_1, IV.int .i64 im_1, IV.int .i64 iv_1, IV.vslice none 0 ks_1.length 5 (cTs ks_1), IV.int .i64 v2, IV.int .i64 op2, IV.int .i64 im2, IV.int .i64 iv2, IV.vslice
 none (0 : Nat) ks2.length (5 : Nat) (cTs ks2)])) = some (TV.v (.vslice none 1 3 5 (cTs x_1.2.1))) ∧ some z6d = some z6d ∧ some z6p = some (TV.v (.int .i64 (↑x_1.1 : Int))) ∧ Heap.mk PT.nil 0 = x_1.2.2.2
 ∧ (x_1.2.1.length = 3 ∧ (∀ (t : T), t ∈ x_1.2.1 → T.ok t ∧ T.num t ≤ 600000) ∧ NW (14 : Nat) x_1.2.2.1 ∧ x_1.1 ≤ 3) ∧ True) ∧ ∀ (x : Nat × List T × List Nd × Heap) (b : FF), List.length (Prod.fst (Prod.snd
 x)) = 3 ∧ (∀ (t : T), t ∈ x.2.1 → T.ok t ∧ T.num t ≤ 600000) ∧ NW (14 : Nat) x.2.2.1 ∧ x.1 ≤ 3 → brS (decide ((↑x.1 : Int) < 3)) (needS (decide (0 ≤ (↑x.1 : Int)) && decide ((↑x.1 : Int)
 < (3 : Int))) (ldIS .i64 (cTs x.2.1) (Int.toNat (↑x.1 : Int) * 5) fun n0 => ldIS .i64 (cTs x.2.1) (Int.toNat (↑x.1 : Int) * 5 + (1 : Nat)) fun n1 => ldIS .i64 (cTs x.2.1) (Int.toNat
 (↑x.1 : Int) * 5 + (1 : Nat) + 1) fun n2 => ldIS .i64 (cTs x.2.1) (Int.toNat (↑x.1 : Int) * 5 + (1 : Nat) + 1 + (1 : Nat)) fun n3 => ldVS 5 (cTs x.2.1) (Int.toNat (↑x.1 : Int)
 * (5 : Nat) + 1 + (1 : Nat) + 1 + (1 : Nat)) fun (i4 : Option Nat) (e5 l6 : Nat) (c7 : List IV) => z6x ∧ z6x ∧ ∃ (M : Nat), (∃ (x_1 : Nat × List T × List Nd × Heap × Nat × T), some (z6h how) = some (z6h how) ∧ some (z6i vars) = some (z6i vars) ∧ some (z6j imms) = some (z6j imms) ∧ some
 (z6a hh) = some (z6a hh) ∧ some (z6b k) = some (z6b k) ∧ some (TV.v (.vslice none 0 x.2.2.1.length 3 (List.flatMap cN x.2.2.1))) = some (TV.v (.vslice none 0 x_1.2.2.1.length (3
 : Nat) (List.flatMap cN x_1.2.2.1))) ∧ some (TV.v (.vslice none 1 3 5 (cTs x.2.1))) = some (TV.v (.vslice none 1 3 5 (cTs x_1.2.1))) ∧ some z6d = some z6d ∧ some (TV.v (.int .i64
 (↑x.1 : Int))) = some (TV.v (.int .i64 (↑x_1.1 : Int))) ∧ some z6l = some z6l ∧ some (z6s vars imms) = some (z6s vars imms) ∧ some z6d = some z6d ∧ some z6p = some (TV.v (.int .i64 (↑x_1.2.2.2.2.1 : Int))) ∧ some [IV.int
 .i64 n0, IV.int .i64 n1, IV.int .i64 n2, IV.int .i64 n3, IV.vslice i4 e5 l6 5 c7] = some [IV.int .i64 (T.v x_1.2.2.2.2.2), IV.int .i64 (T.op x_1.2.2.2.2.2), IV.int
 .i64 (T.im x_1.2.2.2.2.2), IV.int .i64 (T.iv x_1.2.2.2.2.2), IV.vslice none 0 (List.length (T.ks x_1.2.2.2.2.2)) 5 (cTs (T.ks (Prod.snd
 x_1.2.2.2.2)))] ∧ x.2.2.2 = x_1.2.2.2.1 ∧ ((x_1.2.1.length = 3 ∧ (∀ (t : T), t ∈ x_1.2.1 → T.ok t ∧ T.num t ≤ 600000) ∧ NW (14 : Nat) (Prod.fst (Prod.snd
 x_1.2)) ∧ x_1.1 < 3) ∧ (T.ok x_1.2.2.2.2.2 ∧ T.num x_1.2.2.2.2.2 ≤ 600000) ∧ x_1.2.2.2.2.1 ≤ 3) ∧ ((3 : Nat) - x_1.1) * (1000
 : Nat) + ((3 : Nat) - x_1.2.2.2.2.1) ≤ M) ∧ ∀ (x_1 : Nat × List T × List Nd × Heap × Nat × T) (b : FF), (x_1.2.1.length = 3 ∧ (∀ (t : T), t ∈ x_1.2.1 → T.ok t ∧ T.num t ≤ 600000) ∧ NW (14 : Nat) (Prod.fst
 x_1.2.2) ∧ x_1.1 < 3) ∧ (T.ok x_1.2.2.2.2.2 ∧ T.num x_1.2.2.2.2.2 ≤ 600000) ∧ x_1.2.2.2.2.1 ≤ 3 → ((3 : Nat) - Prod.fst
 x_1) * 1000 + ((3 : Nat) - x_1.2.2.2.2.1) ≤ M → brS (decide ((↑x_1.2.2.2.2.1 : Int) < 3)) (needS (decide (0 ≤ (↑x_1.2.2.2.2.1 : Int)) && decide
 ((↑x_1.2.2.2.2.1 : Int) < 3)) (ldIS .i64 (z6e vars imms) (Int.toNat (↑x_1.2.2.2.2.1 : Int) * 2) fun n8 => ldIS .i64 (z6e vars imms) (Int.toNat (↑(Prod.fst (Prod.snd (Prod.snd
 x_1.2.2))) : Int) * 2 + (1 : Nat)) fun n9 => ∃ (ks : List T), (List.length (T.ks x_1.2.2.2.2.2) = ks.length ∧ cTs (T.ks x_1.2.2.2.2.2) = cTs ks) ∧ (thins ks ∧ ks.length
 ≤ (1000000000000000 : Nat)) ∧ ∃ (ks_4 : List T), (List.length (T.ks x_1.2.2.2.2.2) = ks_4.length ∧ cTs (T.ks x_1.2.2.2.2.2) = cTs ks_4) ∧ (thins ks_4 ∧ ks_4.length ≤ 1000000000000000) ∧ brS (!valB
 (T.mk (T.v x_1.2.2.2.2.2) (T.op x_1.2.2.2.2.2) (T.im x_1.2.2.2.2.2) (T.iv x_1.2.2.2.2.2) ks) n8 n9 == valB (T.mk (T.v (Prod.snd
 x_1.2.2.2.2)) (T.op x_1.2.2.2.2.2) (T.im x_1.2.2.2.2.2) (T.iv x_1.2.2.2.2.2) ks_4) n8 n9) (Q z6w h) (∃ (x : Nat × List T × List Nd
 × Heap × Nat × T), some (z6h how) = some (z6h how) ∧ some (z6i vars) = some (z6i vars) ∧ some (z6j imms) = some (z6j imms) ∧ some (z6a hh) = some (z6a hh) ∧ some (z6b k) = some (z6b k) ∧ some (TV.v (.vslice none 0 x_1.2.2.1.length 3 (List.flatMap cN
 x_1.2.2.1))) = some (TV.v (.vslice none 0 x.2.2.1.length 3 (List.flatMap cN x.2.2.1))) ∧ some (TV.v (.vslice none 1 3 5 (cTs x_1.2.1))) = some (TV.v (.vslice
 none (1 : Nat) (3 : Nat) (5 : Nat) (cTs x.2.1))) ∧ some z6d = some z6d ∧ some (TV.v (.int .i64 (↑x_1.1 : Int))) = some (TV.v (.int .i64 (↑x.1 : Int))) ∧ some z6l = some z6l ∧ some (z6s vars imms) = some (z6s vars imms) ∧ some z6d = some z6d ∧ some
 (TV.v (.int .i64 (IntKind.wrap .i64 ((↑x_1.2.2.2.2.1 : Int) + 1)))) = some (TV.v (.int .i64 (↑x.2.2.2.2.1 : Int))) ∧ some [IV.int .i64 (T.v (Prod.snd (Prod.snd (Prod.snd (Prod.snd
 x_1.2))))), IV.int .i64 (T.op x_1.2.2.2.2.2), IV.int .i64 (T.im x_1.2.2.2.2.2), IV.int .i64 (T.iv x_1.2.2.2.2.2), IV.vslice none 0
 (List.length (T.ks x_1.2.2.2.2.2)) 5 (cTs (T.ks x_1.2.2.2.2.2))] = some [IV.int .i64 (T.v x.2.2.2.2.2), IV.int .i64 (T.op (Prod.snd (Prod.snd (Prod.snd
 x.2.2)))), IV.int .i64 (T.im x.2.2.2.2.2), IV.int .i64 (T.iv x.2.2.2.2.2), IV.vslice none 0 (List.length (T.ks x.2.2.2.2.2)) (5
 : Nat) (cTs (T.ks x.2.2.2.2.2))] ∧ x_1.2.2.2.1 = x.2.2.2.1 ∧ ((x.2.1.length = 3 ∧ (∀ (t : T), t ∈ x.2.1 → T.ok t ∧ T.num t ≤ 600000)
 ∧ NW (14 : Nat) x.2.2.1 ∧ x.1 < 3) ∧ (T.ok x.2.2.2.2.2 ∧ T.num x.2.2.2.2.2 ≤ 600000) ∧ x.2.2.2.2.1 ≤ 3) ∧ ((3
 : Nat) - x.1) * 1000 + ((3 : Nat) - x.2.2.2.2.1) < ((3 : Nat) - x_1.1) * 1000 + ((3 : Nat) - x_1.2.2.2.2.1)))) (∃ (ks : List T), (List.length (T.ks (Prod.snd (Prod.snd (Prod.snd (Prod.snd
 x_1.2))))) = ks.length ∧ cTs (T.ks x_1.2.2.2.2.2) = cTs ks) ∧ T.num (T.mk (T.v x_1.2.2.2.2.2) (T.op x_1.2.2.2.2.2) (T.im (Prod.snd (Prod.snd (Prod.snd (Prod.snd
 x_1.2))))) (T.iv x_1.2.2.2.2.2) ks) ≤ 1000000 ∧ ∃ (ks_4 : List T), (List.length (T.ks x_1.2.2.2.2.2) = ks_4.length ∧ cTs (T.ks x_1.2.2.2.2.2) =
 cTs ks_4) ∧ T.num (T.mk (T.v x_1.2.2.2.2.2) (T.op x_1.2.2.2.2.2) (T.im x_1.2.2.2.2.2) (T.iv x_1.2.2.2.2.2) ks_4) ≤ (1000000
 : Nat) ∧ ∃ (l : List Ins), (List.length (Prod.fst (compB (T.mk (T.v x_1.2.2.2.2.2) (T.op x_1.2.2.2.2.2) (T.im x_1.2.2.2.2.2) (T.iv (Prod.snd (Prod.snd (Prod.snd (Prod.snd
 x_1.2))))) ks))) = l.length ∧ List.flatMap cI (Prod.fst (compB (T.mk (T.v x_1.2.2.2.2.2) (T.op x_1.2.2.2.2.2) (T.im x_1.2.2.2.2.2) (T.iv (Prod.snd (Prod.snd
 x_1.2.2.2))) ks))) = List.flatMap cI l) ∧ (List.length (Prod.fst (compB (T.mk (T.v x_1.2.2.2.2.2) (T.op x_1.2.2.2.2.2) (T.im x_1.2.2.2.2.2)
 (T.iv x_1.2.2.2.2.2) ks_4))) = l.length ∧ List.flatMap cI (Prod.fst (compB (T.mk (T.v x_1.2.2.2.2.2) (T.op x_1.2.2.2.2.2) (T.im (Prod.snd (Prod.snd (Prod.snd (Prod.snd
 x_1.2))))) (T.iv x_1.2.2.2.2.2) ks_4))) = List.flatMap cI l) ∧ l.length ≤ 1000000 ∧ ∃ (l : List Int), (List.length (Prod.snd (compB (T.mk (T.v x_1.2.2.2.2.2) (T.op (Prod.snd (Prod.snd (Prod.snd
 x_1.2.2)))) (T.im x_1.2.2.2.2.2) (T.iv x_1.2.2.2.2.2) ks))) = l.length ∧ List.map z6g (Prod.snd (compB (T.mk (T.v x_1.2.2.2.2.2) (T.op (Prod.snd
 x_1.2.2.2.2)) (T.im x_1.2.2.2.2.2) (T.iv x_1.2.2.2.2.2) ks))) = List.map z6g l) ∧ (List.length (Prod.snd (compB (T.mk (T.v x_1.2.2.2.2.2)
 (T.op x_1.2.2.2.2.2) (T.im x_1.2.2.2.2.2) (T.iv x_1.2.2.2.2.2) ks_4))) = l.length ∧ List.map z6g (Prod.snd (compB (T.mk (T.v (Prod.snd (Prod.snd (Prod.snd (Prod.snd
 x_1.2))))) (T.op x_1.2.2.2.2.2) (T.im x_1.2.2.2.2.2) (T.iv x_1.2.2.2.2.2) ks_4))) = List.map z6g l) ∧ l.length ≤ 1000000 ∧ ∃ (d : Nat), ∃ (ks :
 List T), (List.length (T.ks x_1.2.2.2.2.2) = ks.length ∧ cTs (T.ks x_1.2.2.2.2.2) = cTs ks) ∧ (nums ks < d ∧ thins ks ∧ ks.length ≤ 1000000000000000) ∧ ∃ (d : Nat), ∃ (ks_5 : List T), (List.length
 (T.ks x_1.2.2.2.2.2) = ks_5.length ∧ cTs (T.ks x_1.2.2.2.2.2) = cTs ks_5) ∧ (nums ks_5 < d ∧ thins ks_5 ∧ ks_5.length ≤ 1000000000000000) ∧ brS (sizes (1 : Int) ks != sizes (1 : Int) ks_5) (Q z6w
 h) (∃ (M : Nat), ((∃ (x : Nat × List T × List Nd × Heap × T), some (z6h how) = some (z6h how) ∧ some (z6i vars) = some (z6i vars) ∧ some (z6j imms) = some (z6j imms) ∧ some (z6a hh) = some (z6a hh) ∧ some (z6b k) = some (z6b k) ∧ some (TV.v (.vslice none 0 (List.length (Prod.fst (Prod.snd (Prod.snd
 x_1)))) 3 (List.flatMap cN x_1.2.2.1))) = some (TV.v (.vslice none 0 x.2.2.1.length 3 (List.flatMap cN x.2.2.1))) ∧ some (TV.v (.vslice none 1 3 5 (cTs (Prod.fst
 x_1.2)))) = some (TV.v (.vslice none 1 3 5 (cTs x.2.1))) ∧ some z6d = some z6d ∧ some (TV.v (.int .i64 (↑x_1.1 : Int))) = some (TV.v (.int .i64 (↑x.1 : Int))) ∧ some z6l = some z6l ∧ some z6z = some z6z ∧ some z6p
 = some z6p ∧ some [IV.int .i64 (T.v x_1.2.2.2.2.2), IV.int .i64 (T.op x_1.2.2.2.2.2), IV.int .i64 (T.im x_1.2.2.2.2.2), IV.int .i64 (T.iv
 x_1.2.2.2.2.2), IV.vslice none 0 (List.length (T.ks x_1.2.2.2.2.2)) 5 (cTs (T.ks x_1.2.2.2.2.2))] = some [IV.int .i64 (T.v (Prod.snd (Prod.snd
 x.2.2))), IV.int .i64 (T.op x.2.2.2.2), IV.int .i64 (T.im x.2.2.2.2), IV.int .i64 (T.iv x.2.2.2.2), IV.vslice none 0 (List.length (T.ks (Prod.snd
 x.2.2.2))) 5 (cTs (T.ks x.2.2.2.2))] ∧ x_1.2.2.2.1 = x.2.2.2.1 ∧ ((x.2.1.length = 3 ∧ (∀ (t : T), t ∈ x.2.1 → T.ok
 t ∧ T.num t ≤ 600000) ∧ NW (14 : Nat) x.2.2.1 ∧ x.1 < 3) ∧ T.ok x.2.2.2.2 ∧ T.num x.2.2.2.2 ≤ 600000) ∧ ((3 : Nat) - x.1) * 1000 + (6 : Nat) ≤ M) ∨ ∃ (x : Nat
 × List T × List Nd × Heap × T × List Int × Nat), some (z6h how) = some (z6h how) ∧ some (z6i vars) = some (z6i vars) ∧ some (z6j imms) = some (z6j imms) ∧ some (z6a hh) = some (z6a hh) ∧ some (z6b k) = some (z6b k) ∧ some (TV.v (.vslice none 0 x_1.2.2.1.length
 3 (List.flatMap cN x_1.2.2.1))) = some (TV.v (.vslice none 0 x.2.2.1.length 3 (List.flatMap cN x.2.2.1))) ∧ some (TV.v (.vslice none 1 3 5 (cTs (Prod.fst (Prod.snd
 x_1))))) = some (TV.v (.vslice none 1 3 5 (cTs x.2.1))) ∧ some z6d = some z6d ∧ some (TV.v (.int .i64 (↑x_1.1 : Int))) = some (TV.v (.int .i64 (↑x.1 : Int))) ∧ some z6l = some z6l ∧ some z6z = some (TV.v (.vslice (some
 x.2.2.2.2.2.2) x.2.2.2.2.2.1.length x.2.2.2.2.2.1.length 1 (List.map z6g (Prod.fst (Prod.snd (Prod.snd (Prod.snd (Prod.snd
 x.2)))))))) ∧ some z6p = some (TV.v (.int .i64 (↑x.2.2.2.2.2.1.length : Int))) ∧ some [IV.int .i64 (T.v x_1.2.2.2.2.2), IV.int .i64 (T.op (Prod.snd (Prod.snd (Prod.snd
 x_1.2.2)))), IV.int .i64 (T.im x_1.2.2.2.2.2), IV.int .i64 (T.iv x_1.2.2.2.2.2), IV.vslice none 0 (List.length (T.ks x_1.2.2.2.2.2))
 5 (cTs (T.ks x_1.2.2.2.2.2))] = some [IV.int .i64 (T.v x.2.2.2.2.1), IV.int .i64 (T.op x.2.2.2.2.1), IV.int .i64 (T.im (Prod.fst (Prod.snd
 x.2.2.2))), IV.int .i64 (T.iv x.2.2.2.2.1), IV.vslice none 0 (List.length (T.ks x.2.2.2.2.1)) 5 (cTs (T.ks x.2.2.2.2.1))]
 ∧ x_1.2.2.2.1 = x.2.2.2.1 ∧ ((x.2.1.length = 3 ∧ (∀ (t : T), t ∈ x.2.1 → T.ok t ∧ T.num t ≤ 600000) ∧ NW (14 : Nat) x.2.2.1 ∧ x.1 < 3) ∧
 (T.ok x.2.2.2.2.1 ∧ T.num x.2.2.2.2.1 ≤ 600000) ∧ Heap.get x.2.2.2.1 x.2.2.2.2.2.2 = IObj.tip (List.length (Prod.fst
 x.2.2.2.2.2)) ∧ x.2.2.2.2.2.1.length ≤ 6 ∧ ∀ (q : Int), q ∈ x.2.2.2.2.2.1 → i64b q) ∧ ((3 : Nat) - x.1) * 1000 + ((6 : Nat)
 - x.2.2.2.2.2.1.length) ≤ M) ∧ (∀ (x_2 : Nat × List T × List Nd × Heap × T) (b : FF), (x_2.2.1.length = 3 ∧ (∀ (t : T), t ∈ x_2.2.1 → T.ok t ∧ T.num t ≤ 600000) ∧ NW (14 : Nat) (Prod.fst
 x_2.2.2) ∧ x_2.1 < 3) ∧ T.ok x_2.2.2.2.2 ∧ T.num x_2.2.2.2.2 ≤ 600000 → ((3 : Nat) - x_2.1) * 1000 + (6 : Nat) ≤ M → brS (decide (0 < (↑hh.length : Int))) (needS
 (true && decide (0 < (↑hh.length : Int))) (ldIS .i64 (List.map z6g hh) 0 fun n10 => (0 < IntKind.wrap .i64 ((↑x_2.2.2.1.length : Int) + 1) ∧ IntKind.wrap .i64 ((↑(List.length (Prod.fst (Prod.snd (Prod.snd
 x_2)))) : Int) + 1) < 4611686018427387904) ∧ z6y ∧ ((∃ (x : Nat × List T × List Nd × Heap × T), some (z6h how) = some (z6h how) ∧ some (z6i vars) = some (z6i vars) ∧ some (z6j imms) = some (z6j imms) ∧ some (z6a hh) = some (z6a hh) ∧ some (z6b k) = some (z6b k) ∧ some (TV.v (.vslice
 none (0 : Nat) x_2.2.2.1.length (3 : Nat) (List.flatMap cN x_2.2.2.1))) = some (TV.v (.vslice none 0 x.2.2.1.length 3 (List.flatMap cN x.2.2.1))) ∧ some (TV.v (.vslice
 none (1 : Nat) (3 : Nat) (5 : Nat) (cTs x_2.2.1))) = some (TV.v (.vslice none 1 3 5 (cTs x.2.1))) ∧ some z6d = some z6d ∧ some (TV.v (.int .i64 (↑x_2.1 : Int))) = some (TV.v (.int .i64 (↑x.1 : Int))) ∧ some
 z6l = some z6l ∧ some (TV.v (.vslice (some (Heap.next x_2.2.2.2.1)) 1 1 1 [IV.int .i64 (IntKind.wrap .i64 (n10 % IntKind.wrap .i64 ((↑x_2.2.2.1.length : Int) + 1) - how % (2 :
 Int)))])) = some z6z ∧ some (TV.v (.int .i64 1)) = some z6p ∧ some [IV.int .i64 (T.v x_2.2.2.2.2), IV.int .i64 (T.op x_2.2.2.2.2), IV.int .i64 (T.im x_2.2.2.2.2),
 IV.int .i64 (T.iv x_2.2.2.2.2), IV.vslice none 0 (List.length (T.ks x_2.2.2.2.2)) 5 (cTs (T.ks x_2.2.2.2.2))] = some [IV.int .i64 (T.v (Prod.snd (Prod.snd (Prod.snd
 x.2)))), IV.int .i64 (T.op x.2.2.2.2), IV.int .i64 (T.im x.2.2.2.2), IV.int .i64 (T.iv x.2.2.2.2), IV.vslice none 0 (List.length (T.ks (Prod.snd (Prod.snd
 x.2.2)))) 5 (cTs (T.ks x.2.2.2.2))] ∧ Heap.push x_2.2.2.2.1 (IObj.tip (1 : Nat)) = x.2.2.2.1 ∧ ((x.2.1.length = 3 ∧ (∀ (t : T), t ∈ Prod.fst
 x.2 → T.ok t ∧ T.num t ≤ 600000) ∧ NW (14 : Nat) x.2.2.1 ∧ x.1 < 3) ∧ T.ok x.2.2.2.2 ∧ T.num x.2.2.2.2 ≤ 600000) ∧ ((3 : Nat) - x.1) * 1000 + (6 :
 Nat) < ((3 : Nat) - x_2.1) * 1000 + (6 : Nat)) ∨ ∃ (x : Nat × List T × List Nd × Heap × T × List Int × Nat), some (z6h how) = some (z6h how) ∧ some (z6i vars) = some (z6i vars) ∧ some (z6j imms) = some (z6j imms) ∧ some (z6a hh) = some (z6a hh) ∧ some (z6b k) = some (z6b k) ∧ some (TV.v
 (IV.vslice none 0 x_2.2.2.1.length 3 (List.flatMap cN x_2.2.2.1))) = some (TV.v (.vslice none 0 x.2.2.1.length 3 (List.flatMap cN x.2.2.1))) ∧ some
 (TV.v (.vslice none 1 3 5 (cTs x_2.2.1))) = some (TV.v (.vslice none 1 3 5 (cTs x.2.1))) ∧ some z6d = some z6d ∧ some (TV.v (.int .i64 (↑x_2.1 : Int))) = some (TV.v (.int .i64 (↑(Prod.fst
 x) : Int))) ∧ some z6l = some z6l ∧ some (TV.v (.vslice (some (Heap.next x_2.2.2.2.1)) 1 1 1 [IV.int .i64 (IntKind.wrap .i64 (n10 % IntKind.wrap .i64 ((↑x_2.2.2.1.length : Int) + (1 :
 Int)) - how % (2 : Int)))])) = some (TV.v (.vslice (some x.2.2.2.2.2.2) x.2.2.2.2.2.1.length x.2.2.2.2.2.1.length 1
 (List.map z6g x.2.2.2.2.2.1))) ∧ some (TV.v (.int .i64 1)) = some (TV.v (.int .i64 (↑x.2.2.2.2.2.1.length : Int))) ∧ some [IV.int .i64 (T.v (Prod.snd (Prod.snd
 x_2.2.2))), IV.int .i64 (T.op x_2.2.2.2.2), IV.int .i64 (T.im x_2.2.2.2.2), IV.int .i64 (T.iv x_2.2.2.2.2), IV.vslice none 0 (List.length (T.ks (Prod.snd
 x_2.2.2.2))) 5 (cTs (T.ks x_2.2.2.2.2))] = some [IV.int .i64 (T.v x.2.2.2.2.1), IV.int .i64 (T.op x.2.2.2.2.1), IV.int .i64
 (T.im x.2.2.2.2.1), IV.int .i64 (T.iv x.2.2.2.2.1), IV.vslice none 0 (List.length (T.ks x.2.2.2.2.1)) 5 (cTs (T.ks (Prod.fst (Prod.snd (Prod.snd
 x.2.2)))))] ∧ Heap.push x_2.2.2.2.1 (IObj.tip (1 : Nat)) = x.2.2.2.1 ∧ ((x.2.1.length = 3 ∧ (∀ (t : T), t ∈ x.2.1 → T.ok t ∧ T.num t ≤ 600000) ∧ NW (14 : Nat)
 x.2.2.1 ∧ x.1 < 3) ∧ (T.ok x.2.2.2.2.1 ∧ T.num x.2.2.2.2.1 ≤ 600000) ∧ Heap.get x.2.2.2.1 (Prod.snd (Prod.snd (Prod.snd (Prod.snd
 x.2.2)))) = IObj.tip x.2.2.2.2.2.1.length ∧ x.2.2.2.2.2.1.length ≤ 6 ∧ ∀ (q : Int), q ∈ x.2.2.2.2.2.1 →
 i64b q) ∧ ((3 : Nat) - x.1) * 1000 + ((6 : Nat) - x.2.2.2.2.2.1.length) < ((3 : Nat) - x_2.1) * 1000 + (6 : Nat)))) (needS (z6f k) (∃ (l : List Nd), ∃ (ks : List T), ∃ (vars_1 imms_1 : List Int),
 (x_2.2.2.1.length = l.length ∧ List.flatMap cN x_2.2.2.1 = List.flatMap cN l) ∧ (List.length (T.ks x_2.2.2.2.2) = ks.length ∧ cTs (T.ks x_2.2.2.2.2) = cTs ks) ∧
 ((0 : Nat) = vars_1.length ∧ [] = List.map z6g vars_1) ∧ (z6m k imms_1) ∧ ((l ≠ [] ∧ (∀ (x : Nd), x ∈ l → okN x) ∧ l.length ≤ 1000000 ∧ ∀ (x : Nd), x ∈ l → List.length (Nd.ks x) ≤ 1000000) ∧ (T.ok (T.mk (T.v x_2.2.2.2.2) (T.op (Prod.snd (Prod.snd
 x_2.2.2))) (T.im x_2.2.2.2.2) (T.iv x_2.2.2.2.2) ks) ∧ T.num (T.mk (T.v x_2.2.2.2.2) (T.op x_2.2.2.2.2) (T.im (Prod.snd (Prod.snd (Prod.snd
 x_2.2)))) (T.iv x_2.2.2.2.2) ks) ≤ 1000000) ∧ (z6t vars_1) ∧ (∀ (x : Int), x ∈ imms_1 → i64b x) ∧ imms_1.length ≤ 1000) ∧ needS (z6f k) (∃ (l_4 : List Nd), ∃ (ks_6 : List T), ∃ (vars_2 imms_2 : List Int), (List.length (Prod.fst
 x_2.2.2) = l_4.length ∧ List.flatMap cN x_2.2.2.1 = List.flatMap cN l_4) ∧ (List.length (T.ks x_2.2.2.2.2) = ks_6.length ∧ cTs (T.ks x_2.2.2.2.2) = cTs ks_6) ∧ ((0 : Nat) = List.length
 vars_2 ∧ [] = List.map z6g vars_2) ∧ (z6n k imms_2) ∧ ((z6r l_4) ∧ (T.ok (T.mk (T.v x_2.2.2.2.2) (T.op x_2.2.2.2.2) (T.im x_2.2.2.2.2) (T.iv x_2.2.2.2.2) ks_6)
 ∧ T.num (T.mk (T.v x_2.2.2.2.2) (T.op x_2.2.2.2.2) (T.im x_2.2.2.2.2) (T.iv x_2.2.2.2.2) ks_6) ≤ 1000000) ∧ (z6u vars_2) ∧ (∀ (x : Int), x ∈ imms_2 →
 i64b x) ∧ imms_2.length ≤ 1000) ∧ brS (Prod.snd (instB l (T.mk (T.v x_2.2.2.2.2) (T.op x_2.2.2.2.2) (T.im x_2.2.2.2.2) (T.iv x_2.2.2.2.2) ks) vars_1
 imms_1) != Prod.snd (instB l_4 (T.mk (T.v x_2.2.2.2.2) (T.op x_2.2.2.2.2) (T.im x_2.2.2.2.2) (T.iv x_2.2.2.2.2) ks_6) vars_2 imms_2)) (Q z6w h) (∃ (l_5 : List
 Nd), ∃ (m : List Nd), (List.length (Prod.fst (instB l (T.mk (T.v x_2.2.2.2.2) (T.op x_2.2.2.2.2) (T.im x_2.2.2.2.2) (T.iv x_2.2.2.2.2) ks) vars_1 imms_1)) =
 l_5.length ∧ List.flatMap cN (Prod.fst (instB l (T.mk (T.v x_2.2.2.2.2) (T.op x_2.2.2.2.2) (T.im x_2.2.2.2.2) (T.iv x_2.2.2.2.2) ks) vars_1 imms_1)) = List.flatMap
 cN l_5) ∧ (List.length (Prod.fst (instB l_4 (T.mk (T.v x_2.2.2.2.2) (T.op x_2.2.2.2.2) (T.im x_2.2.2.2.2) (T.iv x_2.2.2.2.2) ks_6) vars_2 imms_2)) = List.length
 m ∧ List.flatMap cN (Prod.fst (instB l_4 (T.mk (T.v x_2.2.2.2.2) (T.op x_2.2.2.2.2) (T.im x_2.2.2.2.2) (T.iv x_2.2.2.2.2) ks_6) vars_2 imms_2)) = List.flatMap
 cN m) ∧ (z6q l_5) ∧ brS (!decide (l_5 = m)) (Q z6w h) (∃ (x_3 : Nat × List T × List Nd × Heap), some (z6h how) = some (z6h how) ∧ some (z6i vars) = some (z6i vars) ∧ some (z6j imms) = some (z6j imms) ∧ some (z6a hh) = some (z6a hh) ∧ some (z6b k) = some (z6b k) ∧ some (TV.v (.vslice none 0
 x_2.2.2.1.length 3 (List.flatMap cN x_2.2.2.1))) = some (z6o x_3) ∧ some (TV.v (.vslice none 1 3 5 (cTs x_2.2.1))) = some (z6v x_3) ∧ some z6d = some z6d ∧ some (TV.v (.int .i64 (IntKind.wrap
 .i64 ((↑x_2.1 : Int) + 1)))) = some (TV.v (.int .i64 (↑x_3.1 : Int))) ∧ x_2.2.2.2.1 = x_3.2.2.2 ∧ (z6k x_3) ∧ (3 : Nat) - x_3.1 < 3 - x.1)))))) ∧ ∀ (x_2 : Nat × List T × List Nd
 × Heap × T × List Int × Nat) (b : FF), ((x_2.2.1.length = 3 ∧ (∀ (t : T), t ∈ x_2.2.1 → T.ok t ∧ T.num t ≤ 600000) ∧ NW (14 : Nat) x_2.2.2.1 ∧ x_2.1 < 3) ∧ (T.ok (Prod.fst (Prod.snd (Prod.snd (Prod.snd (Prod.snd
 x_2))))) ∧ T.num x_2.2.2.2.2.1 ≤ 600000) ∧ Heap.get x_2.2.2.2.1 x_2.2.2.2.2.2.2 = IObj.tip (List.length (Prod.fst (Prod.snd (Prod.snd (Prod.snd (Prod.snd (Prod.snd
 x_2))))))) ∧ x_2.2.2.2.2.2.1.length ≤ 6 ∧ ∀ (q : Int), q ∈ x_2.2.2.2.2.2.1 → i64b q) → ((3 : Nat) - x_2.1) * 1000 + ((6 : Nat) - List.length (Prod.fst (Prod.snd (Prod.snd
 x_2.2.2.2)))) ≤ M → brS (decide ((↑x_2.2.2.2.2.2.1.length : Int) < (↑hh.length : Int))) (brS (decide ((↑x_2.2.2.2.2.2.1.length : Int) < 6))
 (needS (decide (0 ≤ (↑x_2.2.2.2.2.2.1.length : Int)) && decide ((↑x_2.2.2.2.2.2.1.length : Int) < (↑hh.length : Int))) (ldIS .i64 (List.map z6g hh) (Int.toNat
 (↑x_2.2.2.2.2.2.1.length : Int) * 1) fun n11 => (0 < IntKind.wrap .i64 ((↑x_2.2.2.1.length : Int) + 1) ∧ IntKind.wrap .i64 ((↑(List.length (Prod.fst (Prod.snd (Prod.snd
 x_2)))) : Int) + 1) < 4611686018427387904) ∧ z6y ∧ tipS x_2.2.2.2.1 x_2.2.2.2.2.2.2 fun (m12 : Nat) => needS (Nat.beq m12 (List.length (Prod.fst (Prod.snd (Prod.snd (Prod.snd (Prod.snd (Prod.snd
 x_2))))))) && Nat.ble ((x_2.2.2.2.2.2.1.length + 1) * 8) (140737488355328 : Nat)) ((∃ (x : Nat × List T × List Nd × Heap × T), some (z6h how) = some (z6h how) ∧ some (z6i vars) = some (z6i vars) ∧ some (z6j imms) = some (z6j imms)
 ∧ some (z6a hh) = some (z6a hh) ∧ some (z6b k) = some (z6b k) ∧ some (TV.v (.vslice none 0 x_2.2.2.1.length 3 (List.flatMap cN x_2.2.2.1))) = some (TV.v (.vslice none 0 (List.length (Prod.fst (Prod.snd (Prod.snd
 x)))) 3 (List.flatMap cN x.2.2.1))) ∧ some (TV.v (.vslice none 1 3 5 (cTs x_2.2.1))) = some (TV.v (.vslice none 1 3 5 (cTs x.2.1))) ∧ some z6d = some z6d ∧ some (TV.v (.int .i64
 (↑x_2.1 : Int))) = some (TV.v (.int .i64 (↑x.1 : Int))) ∧ some z6l = some z6l ∧ some (TV.v (.vslice (some x_2.2.2.2.2.2.2) (x_2.2.2.2.2.2.1.length + 1)
 (x_2.2.2.2.2.2.1.length + 1) 1 (List.map z6g x_2.2.2.2.2.2.1 ++ [IV.int .i64 (IntKind.wrap .i64 (n11 % IntKind.wrap .i64 ((↑(List.length (Prod.fst (Prod.snd
 x_2.2))) : Int) + 1) - how % (2 : Int)))]))) = some z6z ∧ some (TV.v (.int .i64 (IntKind.wrap .i64 ((↑x_2.2.2.2.2.2.1.length : Int) + 1)))) = some z6p ∧ some [IV.int .i64 (T.v (Prod.fst (Prod.snd
 x_2.2.2.2))), IV.int .i64 (T.op x_2.2.2.2.2.1), IV.int .i64 (T.im x_2.2.2.2.2.1), IV.int .i64 (T.iv x_2.2.2.2.2.1), IV.vslice
 none (0 : Nat) (List.length (T.ks x_2.2.2.2.2.1)) (5 : Nat) (cTs (T.ks x_2.2.2.2.2.1))] = some [IV.int .i64 (T.v x.2.2.2.2), IV.int .i64 (T.op (Prod.snd (Prod.snd
 x.2.2))), IV.int .i64 (T.im x.2.2.2.2), IV.int .i64 (T.iv x.2.2.2.2), IV.vslice none 0 (List.length (T.ks x.2.2.2.2)) 5 (cTs (T.ks (Prod.snd (Prod.snd
 x.2.2))))] ∧ Heap.set x_2.2.2.2.1 x_2.2.2.2.2.2.2 (IObj.tip (x_2.2.2.2.2.2.1.length + 1)) = Prod.fst (Prod.snd (Prod.snd (Prod.snd
 x))) ∧ ((x.2.1.length = 3 ∧ (∀ (t : T), t ∈ x.2.1 → T.ok t ∧ T.num t ≤ 600000) ∧ NW (14 : Nat) x.2.2.1 ∧ x.1 < 3) ∧ T.ok x.2.2.2.2 ∧ T.num (Prod.snd (Prod.snd (Prod.snd
 x.2))) ≤ 600000) ∧ ((3 : Nat) - x.1) * 1000 + (6 : Nat) < ((3 : Nat) - x_2.1) * 1000 + ((6 : Nat) - x_2.2.2.2.2.2.1.length)) ∨ ∃ (x : Nat × List T × List Nd × Heap × T × List Int × Nat), some (z6h
 how) = some (z6h how) ∧ some (z6i vars) = some (z6i vars) ∧ some (z6j imms) = some (z6j imms) ∧ some (z6a hh) = some (z6a hh) ∧ some (z6b k) = some (z6b k) ∧ some (TV.v (.vslice none 0 x_2.2.2.1.length 3 (List.flatMap cN (Prod.fst (Prod.snd (Prod.snd
 x_2)))))) = some (TV.v (.vslice none 0 x.2.2.1.length 3 (List.flatMap cN x.2.2.1))) ∧ some (TV.v (.vslice none 1 3 5 (cTs x_2.2.1))) = some (TV.v (.vslice none 1 3
 5 (cTs x.2.1))) ∧ some z6d = some z6d ∧ some (TV.v (.int .i64 (↑x_2.1 : Int))) = some (TV.v (.int .i64 (↑x.1 : Int))) ∧ some z6l = some z6l ∧ some (TV.v (.vslice (some x_2.2.2.2.2.2.2)
 (x_2.2.2.2.2.2.1.length + 1) (x_2.2.2.2.2.2.1.length + 1) 1 (List.map z6g x_2.2.2.2.2.2.1 ++ [IV.int .i64
 (IntKind.wrap .i64 (n11 % IntKind.wrap .i64 ((↑x_2.2.2.1.length : Int) + 1) - how % (2 : Int)))]))) = some (TV.v (.vslice (some x.2.2.2.2.2.2) (List.length (Prod.fst (Prod.snd (Prod.snd (Prod.snd
 x.2.2))))) x.2.2.2.2.2.1.length 1 (List.map z6g x.2.2.2.2.2.1))) ∧ some (TV.v (.int .i64 (IntKind.wrap .i64 ((↑(List.length (Prod.fst (Prod.snd
 x_2.2.2.2.2))) : Int) + 1)))) = some (TV.v (.int .i64 (↑x.2.2.2.2.2.1.length : Int))) ∧ some [IV.int .i64 (T.v x_2.2.2.2.2.1), IV.int .i64
 (T.op x_2.2.2.2.2.1), IV.int .i64 (T.im x_2.2.2.2.2.1), IV.int .i64 (T.iv x_2.2.2.2.2.1), IV.vslice none 0 (List.length (T.ks (Prod.fst (Prod.snd
 x_2.2.2.2)))) 5 (cTs (T.ks x_2.2.2.2.2.1))] = some [IV.int .i64 (T.v x.2.2.2.2.1), IV.int .i64 (T.op x.2.2.2.2.1), IV.int
 .i64 (T.im x.2.2.2.2.1), IV.int .i64 (T.iv x.2.2.2.2.1), IV.vslice none 0 (List.length (T.ks x.2.2.2.2.1)) 5 (cTs (T.ks (Prod.fst (Prod.snd
 x.2.2.2))))] ∧ Heap.set x_2.2.2.2.1 x_2.2.2.2.2.2.2 (IObj.tip (x_2.2.2.2.2.2.1.length + 1)) = Prod.fst (Prod.snd (Prod.snd
 x.2)) ∧ ((x.2.1.length = 3 ∧ (∀ (t : T), t ∈ x.2.1 → T.ok t ∧ T.num t ≤ 600000) ∧ NW (14 : Nat) x.2.2.1 ∧ x.1 < 3) ∧ (T.ok x.2.2.2.2.1 ∧ T.num (Prod.fst
 x.2.2.2.2) ≤ 600000) ∧ Heap.get x.2.2.2.1 x.2.2.2.2.2.2 = IObj.tip x.2.2.2.2.2.1.length ∧ List.length (Prod.fst
 x.2.2.2.2.2) ≤ 6 ∧ ∀ (q : Int), q ∈ x.2.2.2.2.2.1 → i64b q) ∧ ((3 : Nat) - x.1) * 1000 + ((6 : Nat) - x.2.2.2.2.2.1.length)
 < ((3 : Nat) - x_2.1) * 1000 + ((6 : Nat) - x_2.2.2.2.2.2.1.length)))) (needS (z6f k) (∃ (l : List Nd), ∃ (ks : List T), ∃ (vars_1 imms_1 : List Int), (x_2.2.2.1.length = List.length
 l ∧ List.flatMap cN x_2.2.2.1 = List.flatMap cN l) ∧ (List.length (T.ks x_2.2.2.2.2.1) = ks.length ∧ cTs (T.ks x_2.2.2.2.2.1) = cTs ks) ∧ (List.length (Prod.fst (Prod.snd (Prod.snd
 x_2.2.2.2))) = vars_1.length ∧ List.map z6g x_2.2.2.2.2.2.1 = List.map z6g vars_1) ∧ (z6m k imms_1) ∧ ((l ≠ [] ∧ (∀ (x : Nd), x ∈ l → okN x) ∧ l.length ≤ 1000000 ∧ ∀ (x : Nd), x ∈ l → List.length (Nd.ks
 x) ≤ 1000000) ∧ (T.ok (T.mk (T.v x_2.2.2.2.2.1) (T.op x_2.2.2.2.2.1) (T.im x_2.2.2.2.2.1) (T.iv x_2.2.2.2.2.1) ks)
 ∧ T.num (T.mk (T.v x_2.2.2.2.2.1) (T.op x_2.2.2.2.2.1) (T.im x_2.2.2.2.2.1) (T.iv x_2.2.2.2.2.1) ks) ≤ 1000000) ∧
 (z6t vars_1) ∧ (∀ (x : Int), x ∈ imms_1 → i64b x) ∧ imms_1.length ≤ 1000) ∧ needS (z6f k) (∃ (l_4 : List Nd), ∃ (ks_6 : List T), ∃ (vars_2 imms_2 : List Int), (x_2.2.2.1.length = l_4.length ∧ List.flatMap cN (Prod.fst (Prod.snd (Prod.snd
 x_2))) = List.flatMap cN l_4) ∧ (List.length (T.ks x_2.2.2.2.2.1) = ks_6.length ∧ cTs (T.ks x_2.2.2.2.2.1) = cTs ks_6) ∧ (x_2.2.2.2.2.2.1.length =
 vars_2.length ∧ List.map z6g x_2.2.2.2.2.2.1 = List.map z6g vars_2) ∧ (z6n k imms_2) ∧ ((z6r l_4) ∧ (T.ok (T.mk (T.v x_2.2.2.2.2.1) (T.op x_2.2.2.2.2.1)
 (T.im x_2.2.2.2.2.1) (T.iv x_2.2.2.2.2.1) ks_6) ∧ T.num (T.mk (T.v x_2.2.2.2.2.1) (T.op x_2.2.2.2.2.1) (T.im (Prod.fst (Prod.snd
 x_2.2.2.2))) (T.iv x_2.2.2.2.2.1) ks_6) ≤ 1000000) ∧ (z6u vars_2) ∧ (∀ (x : Int), x ∈ imms_2 → i64b x) ∧ imms_2.length ≤ 1000) ∧ brS (Prod.snd (instB l (T.mk (T.v (Prod.fst (Prod.snd (Prod.snd (Prod.snd (Prod.snd
 x_2)))))) (T.op x_2.2.2.2.2.1) (T.im x_2.2.2.2.2.1) (T.iv x_2.2.2.2.2.1) ks) vars_1 imms_1) != Prod.snd (instB l_4 (T.mk (T.v (Prod.fst (Prod.snd (Prod.snd (Prod.snd
 x_2.2))))) (T.op x_2.2.2.2.2.1) (T.im x_2.2.2.2.2.1) (T.iv x_2.2.2.2.2.1) ks_6) vars_2 imms_2)) (Q z6w h) (∃ (l_5 m : List Nd), (List.length (Prod.fst
 (instB l (T.mk (T.v x_2.2.2.2.2.1) (T.op x_2.2.2.2.2.1) (T.im x_2.2.2.2.2.1) (T.iv x_2.2.2.2.2.1) ks) vars_1 imms_1)) = List.length
 l_5 ∧ List.flatMap cN (Prod.fst (instB l (T.mk (T.v x_2.2.2.2.2.1) (T.op x_2.2.2.2.2.1) (T.im x_2.2.2.2.2.1) (T.iv x_2.2.2.2.2.1)
 ks) vars_1 imms_1)) = List.flatMap cN l_5) ∧ (List.length (Prod.fst (instB l_4 (T.mk (T.v x_2.2.2.2.2.1) (T.op x_2.2.2.2.2.1) (T.im x_2.2.2.2.2.1) (T.iv (Prod.fst (Prod.snd
 x_2.2.2.2))) ks_6) vars_2 imms_2)) = m.length ∧ List.flatMap cN (Prod.fst (instB l_4 (T.mk (T.v x_2.2.2.2.2.1) (T.op x_2.2.2.2.2.1) (T.im (Prod.fst (Prod.snd (Prod.snd (Prod.snd (Prod.snd
 x_2)))))) (T.iv x_2.2.2.2.2.1) ks_6) vars_2 imms_2)) = List.flatMap cN m) ∧ (z6q l_5) ∧ brS (!decide (l_5 = m)) (Q z6w h) (∃ (x_3 : Nat × List T × List Nd × Heap), some (z6h how) = some (z6h how) ∧ some (z6i vars) = some (z6i vars) ∧ some (z6j imms) = some
 (z6j imms) ∧ some (z6a hh) = some (z6a hh) ∧ some (z6b k) = some (z6b k) ∧ some (TV.v (.vslice none 0 x_2.2.2.1.length 3 (List.flatMap cN x_2.2.2.1))) = some (z6o x_3) ∧ some (TV.v (.vslice none 1 3 (5 :
 Nat) (cTs x_2.2.1))) = some (z6v x_3) ∧ some z6d = some z6d ∧ some (TV.v (.int .i64 (IntKind.wrap .i64 ((↑x_2.1 : Int) + 1)))) = some (TV.v (.int .i64 (↑x_3.1 : Int))) ∧ x_2.2.2.2.1 = Prod.snd (Prod.snd
 x_3.2) ∧ (z6k x_3) ∧ (3 : Nat) - x_3.1 < 3 - x.1)))))) (needS (z6f k) (∃ (l : List Nd), ∃ (ks : List T), ∃ (vars_1 imms_1 : List Int), (x_2.2.2.1.length = l.length ∧ List.flatMap cN x_2.2.2.1
 = List.flatMap cN l) ∧ (List.length (T.ks x_2.2.2.2.2.1) = ks.length ∧ cTs (T.ks x_2.2.2.2.2.1) = cTs ks) ∧ (x_2.2.2.2.2.2.1.length = vars_1.length
 ∧ List.map z6g x_2.2.2.2.2.2.1 = List.map z6g vars_1) ∧ (z6m k imms_1) ∧ ((l ≠ [] ∧ (∀ (x : Nd), x ∈ l → okN x) ∧ l.length ≤ 1000000 ∧ ∀ (x : Nd), x ∈ l → List.length (Nd.ks x) ≤ 1000000) ∧ (T.ok (T.mk (T.v (Prod.fst (Prod.snd
 x_2.2.2.2))) (T.op x_2.2.2.2.2.1) (T.im x_2.2.2.2.2.1) (T.iv x_2.2.2.2.2.1) ks) ∧ T.num (T.mk (T.v (Prod.fst (Prod.snd (Prod.snd (Prod.snd
 x_2.2))))) (T.op x_2.2.2.2.2.1) (T.im x_2.2.2.2.2.1) (T.iv x_2.2.2.2.2.1) ks) ≤ 1000000) ∧ (z6t vars_1) ∧ (∀ (x : Int), x ∈ imms_1 → i64b x) ∧ List.length
 imms_1 ≤ 1000) ∧ needS (z6f k) (∃ (l_4 : List Nd), ∃ (ks_6 : List T), ∃ (vars_2 imms_2 : List Int), (x_2.2.2.1.length = l_4.length ∧ List.flatMap cN x_2.2.2.1 = List.flatMap cN l_4) ∧ (List.length (T.ks (Prod.fst
 x_2.2.2.2.2)) = ks_6.length ∧ cTs (T.ks x_2.2.2.2.2.1) = cTs ks_6) ∧ (x_2.2.2.2.2.2.1.length = vars_2.length ∧ List.map z6g (Prod.fst (Prod.snd (Prod.snd
 x_2.2.2.2))) = List.map z6g vars_2) ∧ (z6n k imms_2) ∧ ((z6r l_4) ∧ (T.ok (T.mk (T.v x_2.2.2.2.2.1) (T.op x_2.2.2.2.2.1) (T.im x_2.2.2.2.2.1)
 (T.iv x_2.2.2.2.2.1) ks_6) ∧ T.num (T.mk (T.v x_2.2.2.2.2.1) (T.op x_2.2.2.2.2.1) (T.im x_2.2.2.2.2.1) (T.iv (Prod.fst (Prod.snd
 x_2.2.2.2))) ks_6) ≤ 1000000) ∧ (z6u vars_2) ∧ (∀ (x : Int), x ∈ imms_2 → i64b x) ∧ imms_2.length ≤ 1000) ∧ brS (Prod.snd (instB l (T.mk (T.v x_2.2.2.2.2.1) (T.op (Prod.fst (Prod.snd (Prod.snd (Prod.snd (Prod.snd
 x_2)))))) (T.im x_2.2.2.2.2.1) (T.iv x_2.2.2.2.2.1) ks) vars_1 imms_1) != Prod.snd (instB l_4 (T.mk (T.v x_2.2.2.2.2.1) (T.op (Prod.fst (Prod.snd (Prod.snd (Prod.snd
 x_2.2))))) (T.im x_2.2.2.2.2.1) (T.iv x_2.2.2.2.2.1) ks_6) vars_2 imms_2)) (Q z6w h) (∃ (l_5 m : List Nd), (List.length (Prod.fst (instB l (T.mk (T.v (Prod.fst (Prod.snd (Prod.snd (Prod.snd
 x_2.2))))) (T.op x_2.2.2.2.2.1) (T.im x_2.2.2.2.2.1) (T.iv x_2.2.2.2.2.1) ks) vars_1 imms_1)) = l_5.length ∧ List.flatMap cN (Prod.fst (instB l (T.mk (T.v
 x_2.2.2.2.2.1) (T.op x_2.2.2.2.2.1) (T.im x_2.2.2.2.2.1) (T.iv x_2.2.2.2.2.1) ks) vars_1 imms_1)) = List.flatMap cN l_5)
 ∧ (List.length (Prod.fst (instB l_4 (T.mk (T.v x_2.2.2.2.2.1) (T.op x_2.2.2.2.2.1) (T.im x_2.2.2.2.2.1) (T.iv x_2.2.2.2.2.1)
 ks_6) vars_2 imms_2)) = m.length ∧ List.flatMap cN (Prod.fst (instB l_4 (T.mk (T.v x_2.2.2.2.2.1) (T.op x_2.2.2.2.2.1) (T.im x_2.2.2.2.2.1) (T.iv (Prod.fst (Prod.snd
 x_2.2.2.2))) ks_6) vars_2 imms_2)) = List.flatMap cN m) ∧ (z6q l_5) ∧ brS (!decide (l_5 = m)) (Q z6w h) (∃ (x_3 : Nat × List T × List Nd × Heap), some (z6h how) = some (z6h how) ∧ some (z6i vars) = some (z6i vars) ∧ some (z6j imms) = some (z6j imms) ∧ some (z6a hh) = some (z6a
 hh) ∧ some (z6b k) = some (z6b k) ∧ some (TV.v (.vslice none 0 x_2.2.2.1.length 3 (List.flatMap cN x_2.2.2.1))) = some (z6o x_3) ∧ some (TV.v (.vslice none 1 3 5 (cTs x_2.2.1)))
 = some (z6v x_3) ∧ some z6d = some z6d ∧ some (TV.v (.int .i64 (IntKind.wrap .i64 ((↑x_2.1 : Int) + 1)))) = some (TV.v (.int .i64 (↑x_3.1 : Int))) ∧ x_2.2.2.2.1 = x_3.2.2.2 ∧ (z6k x_3) ∧ (3 :
 Nat) - x_3.1 < 3 - x.1))))))))) (Q (.bool true) h))) := by kernel_rfl
set_option maxHeartbeats 4000000 in
theorem sRefL : ∀ xs h Q, kRefL xs h Q → CallW env 6 xs h Q := by
  intro xs h Q hk
  unfold kRefL at hk
  split at hk
  · rename_i v op im iv n1 c1 n2 c2 n3 c3 how at_ vars imms n4 c4 n5 c5
    obtain ⟨ks, l, m, hh, k, ⟨rfl, rfl⟩, ⟨rfl, rfl⟩, ⟨rfl, rfl⟩, ⟨rfl, rfl⟩, ⟨rfl, rfl⟩, ⟨hok, hnum⟩, hw, ⟨hl, hm, hhh, hkk⟩, hk⟩ := hk
    refine dF_run (okRInsta) (vRefL v op im iv how at_ vars imms ks l m hh k h Q) ?_
    delta z6a z6b z6c z6d z6e z6f z6g z6h z6i z6j z6k z6l z6m z6n z6o z6p z6q z6r z6s z6t z6u z6v z6w z6x z6y z6z
    have tn : ∀ x : Nat, (x : Int).toNat = x := Int.toNat_natCast
    refine needS_intro (by simp only [pureL, pureB, pureL_cTs, pureL_ints, Bool.and_true]) ⟨m, ⟨rfl, rfl⟩, hm, fun x hx => ⟨l, ⟨rfl, rfl⟩, hl, fun v1 op1 im1 iv1 ks1 hok1 hn1 => ⟨l, ⟨rfl, rfl⟩, hl, fun v2 op2 im2 iv2 ks2 hok2 hn2 => ⟨(T.mk v2 op2 im2 iv2 ks2).num, ks2, ⟨rfl, rfl⟩, ⟨hok2, Nat.le_refl _, by omega⟩, hw.1, fun v3 op3 im3 iv3 ks3 hok3 hn3 => ⟨⟨(0, [T.mk v op im iv ks, T.mk v1 op1 im1 iv1 ks1, T.mk v3 op3 im3 iv3 ks3], x, ⟨.nil, 0⟩), (by first | rfl | exact True.intro), (by first | rfl | exact True.intro), (by first | rfl | exact True.intro), (by first | rfl | exact True.intro), (by first | rfl | exact True.intro), (by first | rfl | exact True.intro), (by first | rfl | exact True.intro), (by first | rfl | exact True.intro), (by first | rfl | exact True.intro), (by first | rfl | exact True.intro), ⟨rfl, ?_, hx, Nat.zero_le _⟩, trivial⟩, ?_⟩⟩⟩⟩⟩
    · intro t ht
      simp only [List.mem_cons, List.not_mem_nil, or_false] at ht
      rcases ht with rfl | rfl | rfl
      · exact ⟨hok, hnum⟩
      · exact ⟨hok1, by omega⟩
      · exact ⟨hok3, by omega⟩
    clear hx x
    obtain ⟨hhb, hhl⟩ := hhh
    obtain ⟨hkb, hkl⟩ := hkk
    have hk1 : (if 6 < (k.length : Int) then 6 else (k.length : Int)).toNat - 0 = (k.take (if 6 < (k.length : Int) then 6 else (k.length : Int)).toNat).length := by
      rw [List.length_take]
      split <;> omega
    have hk2 : ((k.map (IV.int .i64)).drop 0).take (((if 6 < (k.length : Int) then 6 else (k.length : Int)).toNat - 0) * 1) = (k.take (if 6 < (k.length : Int) then 6 else (k.length : Int)).toNat).map (IV.int .i64) := by
      rw [List.drop_zero, Nat.sub_zero, Nat.mul_one, List.map_take]
    have hk3 : ∀ y ∈ k.take (if 6 < (k.length : Int) then 6 else (k.length : Int)).toNat, i64b y := fun y hy => hkb y (List.mem_of_mem_take hy)
    have hk4 : (k.take (if 6 < (k.length : Int) then 6 else (k.length : Int)).toNat).length ≤ 1000 := by
      rw [List.length_take]
      split <;> omega
    rintro ⟨i0, ps, x, g⟩ _ ⟨hps, hpt, hx, hi0⟩
    dsimp only at hps hpt hx hi0 ⊢
    refine brS_intro (fun c => ?_) (fun _ => hk)
    rw [decide_eq_true_eq] at c
    have hip : i0 < ps.length := by omega
    have hpi := hpt _ (List.getElem_mem hip)
    refine needS_intro (by simp; omega) (ldT hip (by rw [tn]) ⟨⟨by decide, by decide⟩, ⟨by decide, by decide⟩, (3 - i0) * 1000 + 3, ⟨(i0, ps, x, g, 0, ps[i0]), (by first | rfl | exact True.intro), (by first | rfl | exact True.intro), (by first | rfl | exact True.intro), (by first | rfl | exact True.intro), (by first | rfl | exact True.intro), (by first | rfl | exact True.intro), (by first | rfl | exact True.intro), (by first | rfl | exact True.intro), (by first | rfl | exact True.intro), (by first | rfl | exact True.intro), (by first | rfl | exact True.intro), (by first | rfl | exact True.intro), (by first | rfl | exact True.intro), (by first | rfl | exact True.intro), (by first | rfl | exact True.intro), ⟨⟨hps, hpt, hx, by dsimp only; omega⟩, hpi, Nat.zero_le _⟩, by dsimp only; omega⟩, ?_⟩)
    clear hip hpi hps hpt hx hi0
    rintro ⟨i1, ps, x, g, i2, ⟨pv, pop, pim, piv, pks⟩⟩ _ ⟨⟨hps, hpt, hx, hi⟩, ⟨hpo, hpn⟩, hi2⟩ hM
    dsimp only [T.v, T.op, T.im, T.iv, T.ks] at hps hpt hx hi hpo hpn hi2 hM ⊢
    have hpn1 : (T.mk pv pop pim piv pks).num = nums pks + 1 := rfl
    have hlen := len_nums pks
    have hth : thins pks ∧ pks.length ≤ 1000000000000000 := ⟨thins_nums pks (by omega), by omega⟩
    refine brS_intro (fun c2 => ?_) (fun c2 => ?_)
    · rw [decide_eq_true_eq] at c2
      have h3 : i2 = 0 ∨ i2 = 1 ∨ i2 = 2 := by omega
      refine needS_intro (by simp; omega) ?_
      rcases h3 with rfl | rfl | rfl
      · refine ldI_at (n := vars) rfl (ldI_at (n := imms) rfl ⟨pks, ⟨rfl, rfl⟩, hth, pks, ⟨rfl, rfl⟩, hth, brS_intro (fun c => by simp at c) (fun _ => ⟨(i1, ps, x, g, 1, T.mk pv pop pim piv pks), (by first | rfl | exact True.intro), (by first | rfl | exact True.intro), (by first | rfl | exact True.intro), (by first | rfl | exact True.intro), (by first | rfl | exact True.intro), (by first | rfl | exact True.intro), (by first | rfl | exact True.intro), (by first | rfl | exact True.intro), (by first | rfl | exact True.intro), (by first | rfl | exact True.intro), (by first | rfl | exact True.intro), (by first | rfl | exact True.intro), (by first | rfl | exact True.intro), (by first | rfl | exact True.intro), (by first | rfl | exact True.intro), ⟨⟨hps, hpt, hx, hi⟩, ⟨hpo, hpn⟩, by dsimp only; omega⟩, by dsimp only; omega⟩)⟩)
      · refine ldI_at (n := vars % 8) rfl (ldI_at (n := imms % 8) rfl ⟨pks, ⟨rfl, rfl⟩, hth, pks, ⟨rfl, rfl⟩, hth, brS_intro (fun c => by simp at c) (fun _ => ⟨(i1, ps, x, g, 2, T.mk pv pop pim piv pks), (by first | rfl | exact True.intro), (by first | rfl | exact True.intro), (by first | rfl | exact True.intro), (by first | rfl | exact True.intro), (by first | rfl | exact True.intro), (by first | rfl | exact True.intro), (by first | rfl | exact True.intro), (by first | rfl | exact True.intro), (by first | rfl | exact True.intro), (by first | rfl | exact True.intro), (by first | rfl | exact True.intro), (by first | rfl | exact True.intro), (by first | rfl | exact True.intro), (by first | rfl | exact True.intro), (by first | rfl | exact True.intro), ⟨⟨hps, hpt, hx, hi⟩, ⟨hpo, hpn⟩, by dsimp only; omega⟩, by dsimp only; omega⟩)⟩)
      · refine ldI_at (n := 4) rfl (ldI_at (n := 2) rfl ⟨pks, ⟨rfl, rfl⟩, hth, pks, ⟨rfl, rfl⟩, hth, brS_intro (fun c => by simp at c) (fun _ => ⟨(i1, ps, x, g, 3, T.mk pv pop pim piv pks), (by first | rfl | exact True.intro), (by first | rfl | exact True.intro), (by first | rfl | exact True.intro), (by first | rfl | exact True.intro), (by first | rfl | exact True.intro), (by first | rfl | exact True.intro), (by first | rfl | exact True.intro), (by first | rfl | exact True.intro), (by first | rfl | exact True.intro), (by first | rfl | exact True.intro), (by first | rfl | exact True.intro), (by first | rfl | exact True.intro), (by first | rfl | exact True.intro), (by first | rfl | exact True.intro), (by first | rfl | exact True.intro), ⟨⟨hps, hpt, hx, hi⟩, ⟨hpo, hpn⟩, by dsimp only; omega⟩, by dsimp only; omega⟩)⟩)
    rw [decide_eq_false_iff_not] at c2
    obtain ⟨hc1, hc2⟩ := compB_len (t := T.mk pv pop pim piv pks) hpn
    refine ⟨pks, ⟨rfl, rfl⟩, by omega, pks, ⟨rfl, rfl⟩, by omega, _, ⟨rfl, rfl⟩, ⟨rfl, rfl⟩, hc1, _, ⟨rfl, rfl⟩, ⟨rfl, rfl⟩, hc2, nums pks + 1, pks, ⟨rfl, rfl⟩, ⟨Nat.lt_succ_self _, hth⟩, nums pks + 1, pks, ⟨rfl, rfl⟩, ⟨Nat.lt_succ_self _, hth⟩, brS_intro (fun c => by simp at c) (fun _ => ⟨(3 - i1) * 1000 + 6, .inl ⟨(i1, ps, x, g, T.mk pv pop pim piv pks), (by first | rfl | exact True.intro), (by first | rfl | exact True.intro), (by first | rfl | exact True.intro), (by first | rfl | exact True.intro), (by first | rfl | exact True.intro), (by first | rfl | exact True.intro), (by first | rfl | exact True.intro), (by first | rfl | exact True.intro), (by first | rfl | exact True.intro), (by first | rfl | exact True.intro), (by first | rfl | exact True.intro), (by first | rfl | exact True.intro), (by first | rfl | exact True.intro), (by first | rfl | exact True.intro), ⟨⟨hps, hpt, hx, hi⟩, hpo, hpn⟩, by dsimp only; omega⟩, ?_, ?_⟩)⟩
    · clear hps hpt hx hpo hpn hpn1 hlen hth hc1 hc2
      rintro ⟨i, ps, x, g, ⟨pv, pop, pim, piv, pks⟩⟩ _ ⟨⟨hps, hpt, hx, hi2'⟩, hpo, hpn⟩ hM2
      dsimp only [T.v, T.op, T.im, T.iv, T.ks] at hps hpt hx hi2' hpo hpn hM2 ⊢
      have hpn1 : (T.mk pv pop pim piv pks).num = nums pks + 1 := rfl
      have hx0 : x ≠ [] := fun e => by have := hx.1.1; rw [e] at this; simp at this
      have hxl : x.length ≤ 17 := hx.1.2
      have hxo : ∀ y ∈ x, okN y := fun y hy => (hx.2.1 y hy).1
      have hxk : ∀ y ∈ x, y.ks.length ≤ 3 := fun y hy => (hx.2.1 y hy).2.1
      have hxK : ∀ y ∈ x, y.ks.length ≤ 1000000 := fun y hy => Nat.le_trans (hxk y hy) (by decide)
      have hwx : IntKind.i64.wrap ((x.length : Int) + 1) = (x.length : Int) + 1 := IntWalk.i64_in _ (by omega)
      refine brS_intro (fun c => ?_) (fun c => ?_)
      · rw [decide_eq_true_eq] at c
        have h0 : 0 < hh.length := by omega
        refine needS_intro (by simp; omega) (ldIo h0 rfl ⟨⟨by rw [hwx]; omega, by rw [hwx]; omega⟩, ⟨by decide, by decide⟩, .inr ⟨(i, ps, x, g.push (.tip 1), T.mk pv pop pim piv pks, [IntKind.i64.wrap (hh[0] % IntKind.i64.wrap ((x.length : Int) + 1) - how % 2)], g.next), (by first | rfl | exact True.intro), (by first | rfl | exact True.intro), (by first | rfl | exact True.intro), (by first | rfl | exact True.intro), (by first | rfl | exact True.intro), (by first | rfl | exact True.intro), (by first | rfl | exact True.intro), (by first | rfl | exact True.intro), (by first | rfl | exact True.intro), (by first | rfl | exact True.intro), (by first | rfl | exact True.intro), (by first | rfl | exact True.intro), (by first | rfl | exact True.intro), (by first | rfl | exact True.intro), ⟨⟨hps, hpt, hx, hi2'⟩, ⟨hpo, hpn⟩, (by dsimp only; rw [get_push_eq]; rfl), (by dsimp only; simp), fun q hq => by rw [List.mem_singleton.1 hq]; exact wrap_b _⟩, by dsimp only; simp⟩⟩)
      · refine needS_intro (by simp; omega) ⟨x, pks, ([] : List Int), k.take (if 6 < (k.length : Int) then 6 else (k.length : Int)).toNat, ⟨rfl, rfl⟩, ⟨rfl, rfl⟩, ⟨rfl, rfl⟩, ⟨hk1, hk2⟩, ⟨⟨hx0, hxo, by omega, hxK⟩, ⟨hpo, by omega⟩, ⟨fun q hq => (List.not_mem_nil hq).elim, Nat.zero_le _⟩, hk3, hk4⟩, needS_intro (by simp; omega) ⟨x, pks, ([] : List Int), k.take (if 6 < (k.length : Int) then 6 else (k.length : Int)).toNat, ⟨rfl, rfl⟩, ⟨rfl, rfl⟩, ⟨rfl, rfl⟩, ⟨hk1, hk2⟩, ⟨⟨hx0, hxo, by omega, hxK⟩, ⟨hpo, by omega⟩, ⟨fun q hq => (List.not_mem_nil hq).elim, Nat.zero_le _⟩, hk3, hk4⟩,
          brS_intro (fun c => by simp at c) (fun _ => ?_)⟩⟩
        obtain ⟨hy1, hy2⟩ := inst_len (T.mk pv pop pim piv pks) ([] : List Int) (k.take (if 6 < (k.length : Int) then 6 else (k.length : Int)).toNat) x hpn hxl hxk
        refine ⟨_, _, ⟨rfl, rfl⟩, ⟨rfl, rfl⟩, ⟨hy1, hy2⟩, brS_intro (fun c => by simp at c) (fun _ => ⟨(i + 1, ps, x, g), (by first | rfl | exact True.intro), (by first | rfl | exact True.intro), (by first | rfl | exact True.intro), (by first | rfl | exact True.intro), (by first | rfl | exact True.intro), (by first | rfl | exact True.intro), (by first | rfl | exact True.intro), (by first | rfl | exact True.intro), (by rw [IntWalk.i64_in _ (by omega)]; rfl), (by first | rfl | exact True.intro), ⟨hps, hpt, hx, by dsimp only; omega⟩, by dsimp only at hM hM2 ⊢; omega⟩)⟩
    · clear hps hpt hx hpo hpn hpn1 hlen hth hc1 hc2
      rintro ⟨i, ps, x, g, ⟨pv, pop, pim, piv, pks⟩, ins, id⟩ _ ⟨⟨hps, hpt, hx, hi2'⟩, ⟨hpo, hpn⟩, hg, hil, hib⟩ hM2
      dsimp only [T.v, T.op, T.im, T.iv, T.ks] at hps hpt hx hi2' hpo hpn hg hil hib hM2 ⊢
      have hpn1 : (T.mk pv pop pim piv pks).num = nums pks + 1 := rfl
      have hx0 : x ≠ [] := fun e => by have := hx.1.1; rw [e] at this; simp at this
      have hxl : x.length ≤ 17 := hx.1.2
      have hxo : ∀ y ∈ x, okN y := fun y hy => (hx.2.1 y hy).1
      have hxk : ∀ y ∈ x, y.ks.length ≤ 3 := fun y hy => (hx.2.1 y hy).2.1
      have hxK : ∀ y ∈ x, y.ks.length ≤ 1000000 := fun y hy => Nat.le_trans (hxk y hy) (by decide)
      have hwx : IntKind.i64.wrap ((x.length : Int) + 1) = (x.length : Int) + 1 := IntWalk.i64_in _ (by omega)
      refine brS_intro (fun c => brS_intro (fun c' => ?_) (fun c' => ?_)) (fun c => ?_)
      · rw [decide_eq_true_eq] at c c'
        have h0 : ins.length < hh.length := by omega
        have hil2 : ins.length < 6 := by omega
        refine needS_intro (by simp; omega) (ldIo h0 (by rw [tn, Nat.mul_one]) ⟨⟨by rw [hwx]; omega, by rw [hwx]; omega⟩, ⟨by decide, by decide⟩, tip_intro hg (needS_intro (by simp only [Bool.and_eq_true, nbeq_t, Nat.ble_eq, true_and]; omega) (.inr ⟨(i, ps, x, g.set id (.tip (ins.length + 1)), T.mk pv pop pim piv pks, ins ++ [IntKind.i64.wrap (hh[ins.length] % IntKind.i64.wrap ((x.length : Int) + 1) - how % 2)], id), (by first | rfl | exact True.intro), (by first | rfl | exact True.intro), (by first | rfl | exact True.intro), (by first | rfl | exact True.intro), (by first | rfl | exact True.intro), (by first | rfl | exact True.intro), (by first | rfl | exact True.intro), (by first | rfl | exact True.intro), (by first | rfl | exact True.intro), (by first | rfl | exact True.intro), (by simp), (by rw [IntWalk.i64_in _ (by omega)]; simp), (by first | rfl | exact True.intro), (by first | rfl | exact True.intro), ⟨⟨hps, hpt, hx, hi2'⟩, ⟨hpo, hpn⟩, (by dsimp only; rw [get_set_eq]; simp), (by dsimp only; simp; omega), fun q hq => ?_⟩, by dsimp only; simp; omega⟩))⟩)
        rcases List.mem_append.1 hq with hq | hq
        · exact hib q hq
        · rw [List.mem_singleton.1 hq]
          exact wrap_b _
      · refine needS_intro (by simp; omega) ⟨x, pks, ins, k.take (if 6 < (k.length : Int) then 6 else (k.length : Int)).toNat, ⟨rfl, rfl⟩, ⟨rfl, rfl⟩, ⟨rfl, rfl⟩, ⟨hk1, hk2⟩, ⟨⟨hx0, hxo, by omega, hxK⟩, ⟨hpo, by omega⟩, ⟨hib, by omega⟩, hk3, hk4⟩, needS_intro (by simp; omega) ⟨x, pks, ins, k.take (if 6 < (k.length : Int) then 6 else (k.length : Int)).toNat, ⟨rfl, rfl⟩, ⟨rfl, rfl⟩, ⟨rfl, rfl⟩, ⟨hk1, hk2⟩, ⟨⟨hx0, hxo, by omega, hxK⟩, ⟨hpo, by omega⟩, ⟨hib, by omega⟩, hk3, hk4⟩,
          brS_intro (fun c => by simp at c) (fun _ => ?_)⟩⟩
        obtain ⟨hy1, hy2⟩ := inst_len (T.mk pv pop pim piv pks) ins (k.take (if 6 < (k.length : Int) then 6 else (k.length : Int)).toNat) x hpn hxl hxk
        refine ⟨_, _, ⟨rfl, rfl⟩, ⟨rfl, rfl⟩, ⟨hy1, hy2⟩, brS_intro (fun c => by simp at c) (fun _ => ⟨(i + 1, ps, x, g), (by first | rfl | exact True.intro), (by first | rfl | exact True.intro), (by first | rfl | exact True.intro), (by first | rfl | exact True.intro), (by first | rfl | exact True.intro), (by first | rfl | exact True.intro), (by first | rfl | exact True.intro), (by first | rfl | exact True.intro), (by rw [IntWalk.i64_in _ (by omega)]; rfl), (by first | rfl | exact True.intro), ⟨hps, hpt, hx, by dsimp only; omega⟩, by dsimp only at hM hM2 ⊢; omega⟩)⟩
      · refine needS_intro (by simp; omega) ⟨x, pks, ins, k.take (if 6 < (k.length : Int) then 6 else (k.length : Int)).toNat, ⟨rfl, rfl⟩, ⟨rfl, rfl⟩, ⟨rfl, rfl⟩, ⟨hk1, hk2⟩, ⟨⟨hx0, hxo, by omega, hxK⟩, ⟨hpo, by omega⟩, ⟨hib, by omega⟩, hk3, hk4⟩, needS_intro (by simp; omega) ⟨x, pks, ins, k.take (if 6 < (k.length : Int) then 6 else (k.length : Int)).toNat, ⟨rfl, rfl⟩, ⟨rfl, rfl⟩, ⟨rfl, rfl⟩, ⟨hk1, hk2⟩, ⟨⟨hx0, hxo, by omega, hxK⟩, ⟨hpo, by omega⟩, ⟨hib, by omega⟩, hk3, hk4⟩,
          brS_intro (fun c => by simp at c) (fun _ => ?_)⟩⟩
        obtain ⟨hy1, hy2⟩ := inst_len (T.mk pv pop pim piv pks) ins (k.take (if 6 < (k.length : Int) then 6 else (k.length : Int)).toNat) x hpn hxl hxk
        refine ⟨_, _, ⟨rfl, rfl⟩, ⟨rfl, rfl⟩, ⟨hy1, hy2⟩, brS_intro (fun c => by simp at c) (fun _ => ⟨(i + 1, ps, x, g), (by first | rfl | exact True.intro), (by first | rfl | exact True.intro), (by first | rfl | exact True.intro), (by first | rfl | exact True.intro), (by first | rfl | exact True.intro), (by first | rfl | exact True.intro), (by first | rfl | exact True.intro), (by first | rfl | exact True.intro), (by rw [IntWalk.i64_in _ (by omega)]; rfl), (by first | rfl | exact True.intro), ⟨hps, hpt, hx, by dsimp only; omega⟩, by dsimp only at hM hM2 ⊢; omega⟩)⟩
  · exact hk.elim
def cRefL := addC 6 kRefL cRInsta
theorem okRefL : Sound env cRefL := sound_add sRefL (okRInsta)

end Go.Proofs.Ytmfnadojephcpaa
