import Derived.Test.YtgfllfgdojiioaaGreatA10b
import Derived.Test.YtgfllfgdojiioaaGreatS10
import Derived.KernelRfl
set_option linter.unusedVariables false
set_option linter.unusedSimpArgs false
namespace Go.Proofs.YtgfllfgdojiioaaGreat
open Go.Pv Go.M15 Go.M10
def kIArity (xs : List IV) (h : Heap) (K : IV -> Heap -> Prop) : Prop := match xs with
 | [.int .i64 op] => K (.tuple [.int .i64 (ar op), .bool (arOk op)]) h
 | _ => False
noncomputable def z141a  := IV.tuple [.int .i64 0, IV.bool true]
noncomputable def z141b  := IV.tuple [.int .i64 1, IV.bool true]
noncomputable def z141c  := IV.tuple [.int .i64 2, IV.bool true]
set_option maxRecDepth 100000 in
theorem vIArity (op : Int) (h : Heap) (Q : IV -> Heap -> Prop) : dF (stdS cNodes) env 141 noU noI noI [.int .i64 op] h Q = (
 brS (op == 1) (Q z141a h) (brS (op == 2) (Q z141a h) (brS (op == 3) (Q z141a h) (brS (op == 26) (Q z141a h) (brS (op == 20) (Q z141b h) (brS (op == 21) (Q z141b h) (brS (op == 24) (Q z141b h) (brS (op == 25) (Q z141b h) (brS (op == (23 :
 Int)) (Q z141c h) (brS (op == 27) (Q z141c h) (brS (op == 29) (Q z141c h) (brS (op == 22) (Q (.tuple [.int .i64 3, IV.bool true]) h) (brS (op == 28) (Q (.tuple [.int .i64 3, IV.bool true]) h) (brS (op == 30) (Q (.tuple [.int
 .i64 (-1 : Int), IV.bool true]) h) (brS (op == 31) (Q (.tuple [.int .i64 (-1), IV.bool true]) h) (brS (decide (op >= 4)) (brS (decide (op <= 19)) (Q z141c h) (Q (.tuple [.int .i64 0, IV.bool false]) h)) (Q (.tuple [.int .i64
 (0 : Int), IV.bool false]) h))))))))))))))))) := by kernel_rfl
set_option maxHeartbeats 2000000 in
theorem sIArity : ∀ xs h Q, kIArity xs h Q -> CallW env 141 xs h Q := by
 intro xs h Q hk
 unfold kIArity at hk
 split at hk
 ·rename_i op
  refine dF_run (okNodes) (vIArity op h Q) ?_
  delta z141a z141b z141c
  repeat' (first | refine needS_intro ?_ ?_ | refine brS_intro (fun _ => ?_) (fun _ => ?_) | refine And.intro ?_ ?_)
  all_goals first | assumption | omega | (refine q_eq hk ?_; simp only [IV.agg.injEq, IV.tuple.injEq, IV.int.injEq, IV.bool.injEq, List.cons.injEq, true_and, and_true]; grind [ar, arOk])
 ·exact hk.elim
def cIArity := addC 141 kIArity cNodes
theorem okIArity : Sound env cIArity := sound_add sIArity (okNodes)
def kOpSo (xs : List IV) (h : Heap) (K : IV -> Heap -> Prop) : Prop := match xs with
 | [.int .i64 op] => K (.vslice none 0 (osL op).length 1 ((osL op).map (IV.int .i64))) h
 | _ => False
set_option maxRecDepth 100000 in
theorem vOpSo (op : Int) (h : Heap) (Q : IV -> Heap -> Prop) : dF (stdS cIArity) env 145 noU noI noI [.int .i64 op] h Q = (
 brS (op == 22) (Q (.vslice none 0 3 1 [IV.int .i64 1, IV.int .i64 1, IV.int .i64 1]) h)
 (brS (op == 23) (Q (.vslice none 0 2 1 [IV.int .i64 2, IV.int .i64 1]) h)
 (brS (op == 27) (Q (.vslice none 0 2 1 [IV.int .i64 2, IV.int .i64 1]) h)
 (brS (op == 29) (Q (.vslice none 0 2 1 [IV.int .i64 2, IV.int .i64 1]) h)
 (brS (op == 28) (Q (.vslice none 0 3 1 [IV.int .i64 2, IV.int .i64 1, IV.int .i64 1]) h)
 (brS (op == 24) (Q (.vslice none 0 1 1 [IV.int .i64 2]) h)
 (brS (op == 25) (Q (.vslice none 0 1 1 [IV.int .i64 3]) h) (Q (.vslice none 0 2 1 [IV.int .i64 1, IV.int .i64 1]) h)))))))) := by kernel_rfl
theorem sOpSo : ∀ xs h Q, kOpSo xs h Q -> CallW env 145 xs h Q := by
 intro xs h Q hk
 unfold kOpSo at hk
 split at hk
 ·rename_i op
  refine dF_run (okIArity) (vOpSo op h Q) ?_
  have fin : ∀ w : List Int, osL op = w -> Q (.vslice none 0 (w).length 1 ((w).map (IV.int .i64))) h := by
   rintro _ rfl
   exact hk
  repeat' (refine brS_intro (fun _ => ?_) (fun _ => ?_))
  all_goals simp only [beq_iff_eq, beq_eq_false_iff_ne] at *
  all_goals first | exact fin [1, 1, 1] (by simp [osL, *]) | exact fin [2, 1] (by simp [osL, *]) | exact fin [2, 1, 1] (by simp [osL, *]) | exact fin [2] (by simp [osL, *]) | exact fin [3] (by simp [osL, *]) | exact fin [1, 1] (by simp [osL, *])
 ·exact hk.elim
def cOpSo := addC 145 kOpSo cIArity
theorem okOpSo : Sound env cOpSo := sound_add sOpSo (okIArity)
def mtInv (s w : List Int) : Inv' := atX Nat (fun i => [(0, .v (.vslice none 0 (s).length 1 ((s).map (IV.int .i64)))), (1, .v (.vslice none 0 (w).length 1 ((w).map (IV.int .i64)))), (5, .v (.int .i64 i))]) (fun _ => []) (fun _ => Heap.empty)
 (fun i => i <= s.length /\ ∀ j, j < i -> s[j]? = w[j]?) (fun i => s.length - i)
def kMatch (xs : List IV) (h : Heap) (K : IV -> Heap -> Prop) : Prop := match xs with
 | [.vslice none e1 n1 1 c1, .vslice none e2 n2 1 c2] => ∃ s w : List Int, (n1 = s.length /\ c1 = s.map (IV.int .i64)) /\ (n2 = w.length /\ c2 = w.map (IV.int .i64)) /\ (s.length <= w.length /\ s.length <= 1000000000) /\ K (.bool (decide (s = w.take s.length))) h
 | _ => False
noncomputable def z143a (s : List Int) := TV.v (.vslice none 0 s.length 1 (List.map (IV.int .i64) s))
noncomputable def z143b (w : List Int) := TV.v (.vslice none 0 w.length 1 (List.map (IV.int .i64) w))
set_option maxRecDepth 100000 in
theorem vMatch (s w : List Int) (e1 e2 : Nat) (h : Heap) (Q : IV -> Heap -> Prop) : dF (stdS cOpSo) env 143 noU (ic1 3 (mtInv s w)) noI [.vslice none e1 (s).length 1 ((s).map (IV.int .i64)), .vslice none e2 (w).length 1 ((w).map (IV.int .i64))] h Q = (
 needS (pureL [IV.vslice none 0 s.length 1 (List.map (IV.int .i64) s), IV.vslice none 0 w.length 1 (List.map (IV.int .i64) w)]) ((∃ (x : Nat), some (z143a s) = some (z143a s) /\ some (z143b w) = some (z143b w) /\ some (TV.v (.int .i64
 (0 : Int))) = some (TV.v (.int .i64 (↑x : Int))) /\ Heap.mk PT.nil 0 = Heap.mk PT.nil 0 /\ (x <= s.length /\ ∀ (j : Nat), j < x -> s[j]? = w[j]?) /\ True) /\ ∀ (x : Nat) (b : FF), (x <= s.length /\ ∀ (j : Nat), j < x -> s[j]? = w[j]?) -> brS (decide ((↑x : Int) < (↑(List.length
 s) : Int))) (needS (decide (0 <= (↑x : Int)) && decide ((↑x : Int) < (↑s.length : Int))) (ldIS .i64 (List.map (IV.int .i64) s) (Int.toNat (↑x : Int) * 1) fun n0 => needS (decide (0 <= (↑x : Int)) && decide ((↑x : Int) < (↑w.length : Int))) (ldIS
 .i64 (List.map (IV.int .i64) w) (Int.toNat (↑x : Int) * 1) fun n1 => brS (n0 != n1) (Q (.bool false) h) (∃ (x_1 : Nat), some (z143a s) = some (z143a s) /\ some (z143b w) = some (z143b w) /\ some (TV.v (.int .i64 (IntKind.wrap .i64 ((↑x : Int) + 1))))
 = some (TV.v (.int .i64 (↑x_1 : Int))) /\ Heap.mk PT.nil 0 = Heap.mk PT.nil 0 /\ (x_1 <= s.length /\ ∀ (j : Nat), j < x_1 -> s[j]? = w[j]?) /\ s.length - x_1 < s.length - x)))) (Q (.bool true) h))) := by kernel_rfl
set_option maxHeartbeats 1000000 in
theorem sMatch : ∀ xs h Q, kMatch xs h Q -> CallW env 143 xs h Q := by
 intro xs h Q hk
 unfold kMatch at hk
 split at hk
 ·rename_i e1 n1 c1 e2 n2 c2
  obtain ⟨s, w, ⟨rfl, rfl⟩, ⟨rfl, rfl⟩, hb, hk⟩ := hk
  refine dF_run (okOpSo) (vMatch s w e1 e2 h Q) ?_
  delta z143a z143b
  have tn : ∀ x : Nat, (x : Int).toNat = x := Int.toNat_natCast
  obtain ⟨hl, hb⟩ := hb
  refine needS_intro (by simp only [pureL, pureB, pureL_ints, Bool.and_true]) ⟨⟨0, (by first | rfl | exact True.intro), (by first | rfl | exact True.intro), (by first | rfl | exact True.intro), (by first | rfl | exact True.intro), ⟨Nat.zero_le _, fun j hj => by omega⟩, trivial⟩, ?_⟩
  rintro i _ ⟨hi, ha⟩
  try dsimp only at hi ha ⊢
  refine brS_intro (fun c => ?_) (fun c => ?_)
  ·rw [decide_eq_true_eq] at c
   have hlt : i < s.length := by omega
   have hlt2 : i < w.length := by omega
   simp only [tn]
   rw [Nat.mul_one]
   refine needS_intro (by simp; omega) (ldIS_map hlt (needS_intro (by simp; omega) (ldIS_map hlt2 (brS_intro (fun c1 => ?_) (fun c1 => ⟨i + 1, (by first | rfl | exact True.intro), (by first | rfl | exact True.intro), ?_, (by first | rfl | exact True.intro), ⟨hlt, fun j hj => ?_⟩, by (try dsimp only); omega⟩)))))
   ·rw [decide_eq_false (fun e => ?_)] at hk
    ·exact hk
    ·have : s[i]? = (w.take s.length)[i]? := by rw [<- e]
     rw [List.getElem?_take_of_lt hlt, List.getElem?_eq_getElem hlt, List.getElem?_eq_getElem hlt2, Option.some.injEq] at this
     rw [this] at c1
     simp at c1
   ·rw [IntWalk.i64_in _ (by omega)]; rfl
   ·rcases Nat.lt_or_ge j i with q | q
    ·exact ha j q
    ·obtain rfl : j = i := by omega
     rw [bne_eq_false_iff_eq] at c1
     rw [List.getElem?_eq_getElem hlt, List.getElem?_eq_getElem hlt2, c1]
  ·rw [decide_eq_false_iff_not] at c
   rw [decide_eq_true (List.ext_getElem? fun j => ?_)] at hk
   ·exact hk
   ·rcases Nat.lt_or_ge j s.length with q | q
    ·rw [List.getElem?_take_of_lt q, ha j (by omega)]
    ·rw [List.getElem?_eq_none q, List.getElem?_eq_none (by simp; omega)]
 ·exact hk.elim
def cMatch := addC 143 kMatch cOpSo
theorem okMatch : Sound env cMatch := sound_add sMatch (okOpSo)
def kVImm (xs : List IV) (h : Heap) (K : IV -> Heap -> Prop) : Prop := match xs with
 | [.vslice none e0 n0 3 c0, .agg [.int .i64 op, .int .i64 im, .vslice none e1 n1 1 c1]] => ∃ (l : List Nd) (ks : List Int), (n0 = l.length /\ c0 = l.flatMap cN) /\ (n1 = ks.length /\ c1 = ks.map (IV.int .i64)) /\ op ≠ 25 /\ K (.bool (vImm op im)) h
 | _ => False
noncomputable def z135a (im : Int) := decide (im >= 0)
noncomputable def z135b  := IV.bool false
set_option maxRecDepth 100000 in
theorem vVImm (l : List Nd) (op im : Int) (ks : List Int) (e0 e1 : Nat) (h : Heap) (Q : IV -> Heap -> Prop) : dF (stdS cMatch) env 135 noU noI noI [.vslice none e0 (l).length 3 ((l).flatMap cN), .agg [.int .i64 op, .int .i64 im, .vslice none e1 ks.length 1 (ks.map (IV.int .i64))]] h Q = (
 needS (pureL [IV.vslice none 0 l.length 3 (List.flatMap cN l), IV.agg [.int .i64 op, IV.int .i64 im, IV.vslice none 0 ks.length 1 (List.map (IV.int .i64) ks)]]) (brS (op == 1) (Q (.bool true) h) (brS (op == 2) (brS
 (z135a im) (Q (.bool (decide (im <= 5))) h) (Q z135b h)) (brS (op == 3) (brS (z135a im) (Q (.bool (decide (im <= 255))) h) (Q z135b h)) (brS (op == 23) (brS (z135a im) (Q (.bool (decide (im <= 3))) h) (Q z135b h)) (brS (op == 28) (brS (z135a im) (Q (.bool
 (decide (im <= 3))) h) (Q z135b h)) (brS (op == 27) (brS (decide (im >= 1)) (Q (.bool (decide (im <= 1000016))) h) (Q z135b h)) (brS (op == 30) (brS (z135a im) (Q (.bool (decide (im <= 7))) h) (Q z135b h)) (brS (op == 31) (brS (z135a im) (Q (.bool
 (decide (im <= 15))) h) (Q z135b h)) (brS (op == 25) (needS (true && decide (0 < (↑ks.length : Int))) (ldIS .i64 (List.map (IV.int .i64) ks) 0 fun n0 => needS (decide (0 <= n0) && decide (n0 < (↑l.length : Int))) (ldVS 1
 (List.flatMap cN l) (n0.toNat * 3 + (2 : Nat)) fun (i1 : Option Nat) (e2 l3 : Nat) (c4 : List IV) => False))) (brS (z135a im) (Q (.bool (decide (im <= 0))) h) (Q z135b h)))))))))))) := by kernel_rfl
theorem sVImm : ∀ xs h Q, kVImm xs h Q -> CallW env 135 xs h Q := by
 intro xs h Q hk
 unfold kVImm at hk
 split at hk
 ·rename_i e0 n0 c0 op im e1 n1 c1
  obtain ⟨l, ks, ⟨rfl, rfl⟩, ⟨rfl, rfl⟩, hb, hk⟩ := hk
  refine dF_run (okMatch) (vVImm l op im ks e0 e1 h Q) ?_
  delta z135a z135b
  have fin : ∀ b : Bool, (b = true ↔ vImm op im = true) -> Q (.bool b) h := fun b e => by
   rw [<- Bool.eq_iff_iff] at e
   rw [e]
   exact hk
  have hm : mxI 2 = 5 /\ mxI 3 = 255 /\ mxI 23 = 3 /\ mxI 28 = 3 /\ mxI 27 = 1000016 /\ mxI 30 = 7 /\ mxI 31 = 15 := by decide
  refine needS_intro (by simp only [pureL, pureB, pureL_ints, pureL_cN, Bool.and_true]) ?_
  unfold vImm at fin
  simp only [decide_eq_true_eq] at fin
  refine brS_intro (fun c1 => ?_) (fun c1 => ?_)
  ·exact fin _ (by rw [beq_iff_eq] at c1; simp [c1])
  refine brS_intro (fun c2 => ?_) (fun c2 => ?_)
  ·rw [beq_iff_eq] at c2
   subst c2
   refine brS_intro (fun d => fin _ ?_) (fun d => fin _ ?_)
   ·rw [decide_eq_true_eq] at d ⊢; omega
   ·rw [decide_eq_false_iff_not] at d; simp only [Bool.false_eq_true, false_iff]; omega
  refine brS_intro (fun c2 => ?_) (fun c3 => ?_)
  ·rw [beq_iff_eq] at c2
   subst c2
   refine brS_intro (fun d => fin _ ?_) (fun d => fin _ ?_)
   ·rw [decide_eq_true_eq] at d ⊢; omega
   ·rw [decide_eq_false_iff_not] at d; simp only [Bool.false_eq_true, false_iff]; omega
  refine brS_intro (fun c2 => ?_) (fun c4 => ?_)
  ·rw [beq_iff_eq] at c2
   subst c2
   refine brS_intro (fun d => fin _ ?_) (fun d => fin _ ?_)
   ·rw [decide_eq_true_eq] at d ⊢; omega
   ·rw [decide_eq_false_iff_not] at d; simp only [Bool.false_eq_true, false_iff]; omega
  refine brS_intro (fun c2 => ?_) (fun c5 => ?_)
  ·rw [beq_iff_eq] at c2
   subst c2
   refine brS_intro (fun d => fin _ ?_) (fun d => fin _ ?_)
   ·rw [decide_eq_true_eq] at d ⊢; omega
   ·rw [decide_eq_false_iff_not] at d; simp only [Bool.false_eq_true, false_iff]; omega
  refine brS_intro (fun c2 => ?_) (fun c6 => ?_)
  ·rw [beq_iff_eq] at c2
   subst c2
   refine brS_intro (fun d => fin _ ?_) (fun d => fin _ ?_)
   ·rw [decide_eq_true_eq] at d ⊢; omega
   ·rw [decide_eq_false_iff_not] at d; simp only [Bool.false_eq_true, false_iff]; omega
  refine brS_intro (fun c2 => ?_) (fun c7 => ?_)
  ·rw [beq_iff_eq] at c2
   subst c2
   refine brS_intro (fun d => fin _ ?_) (fun d => fin _ ?_)
   ·rw [decide_eq_true_eq] at d ⊢; omega
   ·rw [decide_eq_false_iff_not] at d; simp only [Bool.false_eq_true, false_iff]; omega
  refine brS_intro (fun c2 => ?_) (fun c8 => ?_)
  ·rw [beq_iff_eq] at c2
   subst c2
   refine brS_intro (fun d => fin _ ?_) (fun d => fin _ ?_)
   ·rw [decide_eq_true_eq] at d ⊢; omega
   ·rw [decide_eq_false_iff_not] at d; simp only [Bool.false_eq_true, false_iff]; omega
  refine brS_intro (fun c9 => absurd (beq_iff_eq.1 c9) hb) (fun c9 => ?_)
  rw [beq_eq_false_iff_ne] at c1 c2 c3 c4 c5 c6 c7 c8 c9
  have hx : mxI op = -1 := by unfold mxI; rw [if_neg (by omega), if_neg (by omega), if_neg (by omega), if_neg (by omega), if_neg (by omega), if_neg (by omega)]
  rw [hx] at fin
  refine brS_intro (fun d => fin _ ?_) (fun d => fin _ ?_)
  ·rw [decide_eq_true_eq] at d ⊢; omega
  ·rw [decide_eq_false_iff_not] at d; simp only [Bool.false_eq_true, false_iff]; omega
 ·exact hk.elim
def cVImm := addC 135 kVImm cMatch
theorem okVImm : Sound env cVImm := sound_add sVImm (okMatch)
def kVOps (xs : List IV) (h : Heap) (K : IV -> Heap -> Prop) : Prop := match xs with
 | [.agg [.int .i64 op, .int .i64 im, .vslice none e1 n1 1 c1], .vslice none e2 n2 1 c2] => ∃ (ks s : List Int), (n1 = ks.length /\ c1 = ks.map (IV.int .i64)) /\ (n2 = s.length /\ c2 = s.map (IV.int .i64)) /\ ((op ≠ 25 /\ op ≠ 30 /\ op ≠ 31) /\ s.length <= 1000000) /\ K (.bool (vOps op s)) h
 | _ => False
noncomputable abbrev z134a (op : Int) (s : List Int) (h : Heap) (Q : IV -> Heap -> Prop) := ∃ (s_1 w : List Int), (s.length = s_1.length /\ List.map (IV.int .i64) s = List.map (IV.int .i64) s_1) /\ (List.length (osL op) = w.length /\ List.map (IV.int .i64) (osL op) = List.map (IV.int .i64) w) /\ (s_1.length <= w.length /\ s_1.length <= 1000000000) /\ Q (.bool (decide (s_1 = List.take s_1.length w))) h
noncomputable def z134b (s : List Int) := List.map (IV.int .i64) s
noncomputable def z134c (s : List Int) := true && decide (0 < (↑s.length : Int))
noncomputable def z134d  := IV.bool false
noncomputable def z134e (s : List Int) := needS (true && (decide (1 <= (↑s.length : Int)) && decide ((↑s.length : Int) <= (↑s.length : Int)))) False
noncomputable def z134f (s : List Int) (h : Heap) (Q : IV -> Heap -> Prop) := brS (decide ((↑s.length : Int) >= 3)) (brS (Int.tmod (↑s.length : Int) (2 : Int) == 1) False (Q z134d h)) (Q z134d h)
set_option maxRecDepth 100000 in
theorem vVOps (op im : Int) (ks s : List Int) (e1 e2 : Nat) (h : Heap) (Q : IV -> Heap -> Prop) : dF (stdS cVImm) env 134 noU noI noI [.agg [.int .i64 op, .int .i64 im, .vslice none e1 ks.length 1 (ks.map (IV.int .i64))], .vslice none e2 (s).length 1 ((s).map (IV.int .i64))] h Q = (
 needS (pureL [IV.agg [.int .i64 op, IV.int .i64 im, IV.vslice none 0 ks.length 1 (List.map (IV.int .i64) ks)], IV.vslice none 0 s.length 1 (z134b s)]) (brS (!arOk op) (Q z134d h) (brS (decide (ar op >= 0)) (brS (ar op != (↑(List.length
 s) : Int)) (Q z134d h) (brS (op == 31) (z134f s h Q) (brS (op == 30) (brS (decide ((↑s.length : Int) < 1)) (Q z134d h) (brS (decide ((↑s.length : Int) > 7)) (Q z134d h) (needS (z134c s) (ldIS .i64 (z134b s) 0 fun n0 => brS (n0 != (2
 : Int)) (Q z134d h) (z134e s))))) (brS (op == 22) (needS (true && decide (1 < (↑s.length : Int))) (ldIS .i64 (z134b s) 1 fun n1 => brS (n1 == 2) (needS (z134c s) (ldIS .i64 (z134b s) 0 fun n2 => brS (n2 == 1) (needS
 (true && decide (2 < (↑s.length : Int))) (ldIS .i64 (z134b s) 2 fun n3 => Q (.bool (n3 == 2)) h)) (Q z134d h))) (z134a op s h Q))) (z134a op s h Q))))) (brS (op == 31) (z134f s h Q) (brS (op == 30) (brS (decide ((↑s.length : Int)
 < (1 : Int))) (Q z134d h) (brS (decide ((↑s.length : Int) > 7)) (Q z134d h) (needS (z134c s) (ldIS .i64 (z134b s) 0 fun n4 => brS (n4 != 2) (Q z134d h) (z134e s))))) (brS (op == 22) (needS (true && decide (1 < (↑s.length : Int))) (ldIS
 .i64 (z134b s) 1 fun n5 => brS (n5 == 2) (needS (z134c s) (ldIS .i64 (z134b s) 0 fun n6 => brS (n6 == 1) (needS (true && decide (2 < (↑s.length : Int))) (ldIS .i64 (z134b s) 2 fun n7 => Q (.bool (n7
 == (2 : Int))) h)) (Q z134d h))) (z134a op s h Q))) (z134a op s h Q))))))) := by kernel_rfl
theorem sVOps : ∀ xs h Q, kVOps xs h Q -> CallW env 134 xs h Q := by
 intro xs h Q hk
 unfold kVOps at hk
 split at hk
 ·rename_i op im e1 n1 c1 e2 n2 c2
  obtain ⟨ks, s, ⟨rfl, rfl⟩, ⟨rfl, rfl⟩, hb, hk⟩ := hk
  refine dF_run (okVImm) (vVOps op im ks s e1 e2 h Q) ?_
  delta z134a z134b z134c z134d z134e z134f
  obtain ⟨h3, hl⟩ := hb
  refine needS_intro (by simp only [pureL, pureB, pureL_ints, Bool.and_true]) (brS_intro (fun c => ?_) (fun c => ?_))
  ·have e : vOps op s = false := by unfold vOps; simp at c; simp [c]
   rw [e] at hk
   exact hk
  rw [Bool.not_eq_false'] at c
  have ha := osL_ar c h3
  refine brS_intro (fun _ => ?_) (fun d => by rw [decide_eq_false_iff_not] at d; omega)
  refine brS_intro (fun c1 => ?_) (fun c1 => ?_)
  ·have e : vOps op s = false := by unfold vOps; rw [bne_iff_ne] at c1; simp [Ne.symm c1]
   rw [e] at hk
   exact hk
  rw [bne_eq_false_iff_eq] at c1
  have hv : vOps op s = (if op = 22 /\ s.getD 1 0 = 2 then decide (s = [1, 2, 2]) else decide (s = (osL op).take s.length)) := by
   unfold vOps
   rw [c, decide_eq_true c1.symm]
   rfl
  rw [hv] at hk
  refine brS_intro (fun d => absurd (beq_iff_eq.1 d) h3.2.2) (fun _ => brS_intro (fun d => absurd (beq_iff_eq.1 d) h3.2.1) (fun _ => brS_intro (fun d => ?_) (fun d => ?_)))
  ·rw [beq_iff_eq] at d
   subst d
   obtain ⟨a, b, e, rfl⟩ := len3 (c1.symm.trans (by decide))
   refine needS_intro (by simp) (ldIS_map (l := [a, b, e]) (i := 1) (by simp) (brS_intro (fun f => needS_intro (by simp) (ldIS_map (l := [a, b, e]) (i := 0) (by simp) (brS_intro (fun f1 => needS_intro (by simp) (ldIS_map (l := [a, b, e]) (i := 2) (by simp) ?_)) (fun f1 => ?_)))) (fun f => ⟨[a, b, e], osL 22, ⟨rfl, rfl⟩, ⟨rfl, rfl⟩, ⟨by show 3 <= (osL 22).length; decide, by simp⟩, ?_⟩)))
   ·simp at f f1
    subst f f1
    simp at hk
    simp only [List.getElem_cons_succ, List.getElem_cons_zero]
    have e2 : (e == 2) = decide (e = 2) := rfl
    rw [e2]
    exact hk
   ·simp at f f1
    subst f
    simp [f1] at hk
    exact hk
   ·simp at f
    rw [if_neg (by simp [f])] at hk
    exact hk
  ·rw [beq_eq_false_iff_ne] at d
   rw [if_neg (fun q => d q.1)] at hk
   exact ⟨s, osL op, ⟨rfl, rfl⟩, ⟨rfl, rfl⟩, ⟨by omega, by omega⟩, hk⟩
 ·exact hk.elim
def cVOps := addC 134 kVOps cVImm
theorem okVOps : Sound env cVOps := sound_add sVOps (okVImm)
def sfInv (l : List Nd) (i e0 id : Nat) (k0 : List Int) (h : Heap) : Inv' := .or
 (atX (Nat × Nd) (fun x => [(0, .v (.vslice none e0 (l).length 3 ((l).flatMap cN))), (1, .v (.int .i64 i)), (2, .v (.hslice id 0 k0.length 1)), (7, .l 7 0), (16, .v (.vslice none 0 (x.2.ks).length 1 ((x.2.ks).map (IV.int .i64)))), (17, .v (.int .i64 x.2.ks.length)), (18, .v (.int .i64 x.1)), (8, .v .nilslice)]) (fun x => [(7, [.int .i64 x.2.op, .int .i64 x.2.im, .vslice none 0 (x.2.ks).length 1 ((x.2.ks).map (IV.int .i64))])]) (fun _ => h) (fun x => l[i]? = some x.2 /\ x.1 = 0) (fun x => x.2.ks.length - x.1))
 (atX (Nat × Nd × List Int × Nat × Heap) (fun x => [(0, .v (.vslice none e0 (l).length 3 ((l).flatMap cN))), (1, .v (.int .i64 i)), (2, .v (.hslice id 0 k0.length 1)), (7, .l 7 0), (16, .v (.vslice none 0 (x.2.1.ks).length 1 ((x.2.1.ks).map (IV.int .i64)))), (17, .v (.int .i64 x.2.1.ks.length)), (18, .v (.int .i64 x.1)), (8, .v (.vslice (some x.2.2.2.1) x.2.2.1.length x.2.2.1.length 1 (x.2.2.1.map (IV.int .i64))))]) (fun x => [(7, [.int .i64 x.2.1.op, .int .i64 x.2.1.im, .vslice none 0 (x.2.1.ks).length 1 ((x.2.1.ks).map (IV.int .i64))])]) (fun x => x.2.2.2.2) (fun x => l[i]? = some x.2.1 /\ SI l i x.1 x.2.2.1 /\ (0 < x.1 /\ x.2.2.2.2.get x.2.2.2.1 = .tip x.2.2.1.length /\ x.2.2.2.1 ≠ id) /\ (x.2.2.2.2.get id = h.get id /\ h.next <= x.2.2.2.2.next)) (fun x => x.2.1.ks.length - x.1))
def kSOf (xs : List IV) (h : Heap) (K : IV -> Heap -> Prop) : Prop := match xs with
 | [.vslice none e0 n0 3 c0, .int .i64 q, .hslice id 0 n2 1] => ∃ (l : List Nd) (i : Nat) (k0 : List Int), (n0 = l.length /\ c0 = l.flatMap cN /\ q = (i : Int) /\ n2 = k0.length) /\ SP h id l i k0 /\ ∀ h2 : Heap, h2.get id = h.get id /\ h.next <= h2.next -> K (.int .i64 (sstep (sortsA (l.take i)) (l.getD i default))) h2
 | _ => False
noncomputable def z126a (l : List Nd) (e0 : Nat) := TV.v (.vslice none e0 l.length 3 (List.flatMap cN l))
noncomputable def z126b  := IV.int .i64
noncomputable def z126c (id : Nat) (k0 : List Int) := TV.v (.hslice id 0 k0.length 1)
noncomputable def z126d (i : Nat) := TV.v (.int .i64 (↑i : Int))
noncomputable def z126e  := IV.int .i64 2
noncomputable def z126f  := IV.int .i64 0
noncomputable def z126g  := TV.l 7 0
noncomputable def z126h  := IV.int .i64 1
set_option maxRecDepth 100000 in
theorem vSOf (l : List Nd) (i : Nat) (e0 id : Nat) (k0 : List Int) (h : Heap) (Q : IV -> Heap -> Prop) : dF (stdS cVOps) env 126 noU (ic1 5 (sfInv l i e0 id k0 h)) noI [.vslice none e0 (l).length 3 ((l).flatMap cN), .int .i64 i, .hslice id 0 k0.length 1] h Q = (
 needS (decide (0 <= (↑i : Int)) && decide ((↑i : Int) < (↑l.length : Int))) (ldIS .i64 (List.flatMap cN l) (Int.toNat (↑i : Int) * 3) fun n0 => ldIS .i64 (List.flatMap cN l) (Int.toNat (↑i : Int) * 3 + (1 : Nat)) fun n1 => ldVS 1 (List.flatMap
 cN l) (Int.toNat (↑i : Int) * 3 + (1 : Nat) + 1) fun (i2 : Option Nat) (e3 l4 : Nat) (c5 : List IV) => ((∃ (x : Nat × Nd), some (z126a l e0) = some (z126a l e0) /\ some (z126d i) = some (z126d i) /\ some (z126c id k0) = some (z126c id k0) /\ some z126g = some z126g /\ some (TV.v (.vslice
 i2 e3 l4 (1 : Nat) c5)) = some (TV.v (.vslice none 0 (List.length (Nd.ks x.2)) 1 (List.map z126b (Nd.ks x.2)))) /\ some (TV.v (.int .i64 (↑l4 : Int))) = some (TV.v (.int .i64 (↑(List.length (Nd.ks x.2)) : Int))) /\ some (TV.v z126f) = some
 (TV.v (.int .i64 (↑x.1 : Int))) /\ some (TV.v IV.nilslice) = some (TV.v IV.nilslice) /\ some [IV.int .i64 n0, IV.int .i64 n1, IV.vslice i2 e3 l4 1 c5] = some [IV.int .i64 (Nd.op x.2), IV.int .i64 (Nd.im x.2), IV.vslice none 0
 (List.length (Nd.ks x.2)) 1 (List.map z126b (Nd.ks x.2))] /\ h = h /\ (l[i]? = some x.2 /\ x.1 = 0) /\ True) \/ ∃ (x : Nat × Nd × List Int × Nat × Heap), some (z126a l e0) = some (z126a l e0) /\ some (z126d i) = some (z126d i) /\ some (z126c id k0) = some (z126c
 id k0) /\ some z126g = some z126g /\ some (TV.v (.vslice i2 e3 l4 1 c5)) = some (TV.v (.vslice none 0 (List.length (Nd.ks x.2.1)) 1 (List.map z126b (Nd.ks x.2.1)))) /\ some (TV.v (.int .i64 (↑l4 : Int))) = some (TV.v (.int .i64
 (↑(List.length (Nd.ks x.2.1)) : Int))) /\ some (TV.v z126f) = some (TV.v (.int .i64 (↑x.1 : Int))) /\ some (TV.v IV.nilslice) = some (TV.v (.vslice (some x.2.2.2.1) x.2.2.1.length (List.length (Prod.fst
 x.2.2)) 1 (List.map z126b x.2.2.1))) /\ some [IV.int .i64 n0, IV.int .i64 n1, IV.vslice i2 e3 l4 1 c5] = some [IV.int .i64 (Nd.op x.2.1), IV.int .i64 (Nd.im x.2.1), IV.vslice none
 0 (List.length (Nd.ks x.2.1)) 1 (List.map z126b (Nd.ks x.2.1))] /\ h = x.2.2.2.2 /\ (l[i]? = some x.2.1 /\ SI l i x.1 x.2.2.1 /\ (0 < x.1 /\ Heap.get (Prod.snd
 x.2.2.2) x.2.2.2.1 = IObj.tip x.2.2.1.length /\ x.2.2.2.1 ≠ id) /\ Heap.get x.2.2.2.2 id = Heap.get h id /\ Heap.next h <= Heap.next (Prod.snd
 x.2.2.2)) /\ True) /\ (∀ (x : Nat × Nd) (b : FF), l[i]? = some x.2 /\ x.1 = 0 -> brS (decide ((↑x.1 : Int) < (↑(List.length (Nd.ks x.2)) : Int))) (needS (decide (0 <= (↑x.1 : Int)) && decide ((↑x.1 : Int) < (↑(List.length
 (Nd.ks x.2)) : Int))) (ldIS .i64 (List.map z126b (Nd.ks x.2)) (Int.toNat (↑x.1 : Int) * 1) fun n6 => brS (decide (n6 < 0)) (Q z126f h) (brS (decide (n6 >= (↑i : Int))) (Q z126f h) (needS (decide (0 <= n6) && decide (n6 < (↑k0.length
 : Int))) (hgetS h id fun r7 => ldIS .i64 r7 ((0 : Nat) + n6.toNat * 1) fun n8 => brS (n8 == 0) (Q z126f h) (needS (decide (0 <= n6) && decide (n6 < (↑k0.length : Int))) (hgetS h id fun r9 => ldIS .i64 r9 ((0 : Nat) + Int.toNat
 n6 * 1) fun n10 => (∃ (x_1 : Nat × Nd), some (z126a l e0) = some (z126a l e0) /\ some (z126d i) = some (z126d i) /\ some (z126c id k0) = some (z126c id k0) /\ some z126g = some z126g /\ some (TV.v (.vslice none 0 (List.length (Nd.ks x.2)) 1 (List.map z126b (Nd.ks
 x.2)))) = some (TV.v (.vslice none 0 (List.length (Nd.ks x_1.2)) 1 (List.map z126b (Nd.ks x_1.2)))) /\ some (TV.v (.int .i64 (↑(List.length (Nd.ks x.2)) : Int))) = some (TV.v (.int .i64 (↑(List.length (Nd.ks x_1.2)) : Int)))
 /\ some (TV.v (.int .i64 (IntKind.wrap .i64 ((↑x.1 : Int) + 1)))) = some (TV.v (.int .i64 (↑x_1.1 : Int))) /\ some (TV.v (.vslice (some (Heap.next h)) 1 1 1 [IV.int .i64 n10])) = some (TV.v IV.nilslice) /\ some [IV.int .i64
 (Nd.op x.2), IV.int .i64 (Nd.im x.2), IV.vslice none 0 (List.length (Nd.ks x.2)) 1 (List.map z126b (Nd.ks x.2))] = some [IV.int .i64 (Nd.op x_1.2), IV.int .i64 (Nd.im x_1.2), IV.vslice none 0 (List.length
 (Nd.ks x_1.2)) 1 (List.map z126b (Nd.ks x_1.2))] /\ Heap.push h (IObj.tip (1 : Nat)) = h /\ (l[i]? = some x_1.2 /\ x_1.1 = 0) /\ List.length (Nd.ks x_1.2) - x_1.1 < List.length (Nd.ks x.2) - x.1) \/ ∃ (x_1 : Nat × Nd × List
 Int × Nat × Heap), some (z126a l e0) = some (z126a l e0) /\ some (z126d i) = some (z126d i) /\ some (z126c id k0) = some (z126c id k0) /\ some z126g = some z126g /\ some (TV.v (.vslice none 0 (List.length (Nd.ks x.2)) 1 (List.map z126b (Nd.ks x.2)))) = some (TV.v (.vslice
 none (0 : Nat) (List.length (Nd.ks x_1.2.1)) (1 : Nat) (List.map z126b (Nd.ks x_1.2.1)))) /\ some (TV.v (.int .i64 (↑(List.length (Nd.ks x.2)) : Int))) = some (TV.v (.int .i64 (↑(List.length (Nd.ks x_1.2.1)) : Int))) /\ some
 (TV.v (.int .i64 (IntKind.wrap .i64 ((↑x.1 : Int) + 1)))) = some (TV.v (.int .i64 (↑x_1.1 : Int))) /\ some (TV.v (.vslice (some (Heap.next h)) 1 1 1 [IV.int .i64 n10])) = some (TV.v (.vslice (some (Prod.fst (Prod.snd
 x_1.2.2))) x_1.2.2.1.length x_1.2.2.1.length 1 (List.map z126b x_1.2.2.1))) /\ some [IV.int .i64 (Nd.op x.2), IV.int .i64 (Nd.im x.2), IV.vslice none
 0 (List.length (Nd.ks x.2)) 1 (List.map z126b (Nd.ks x.2))] = some [IV.int .i64 (Nd.op x_1.2.1), IV.int .i64 (Nd.im x_1.2.1), IV.vslice none 0 (List.length (Nd.ks x_1.2.1)) 1 (List.map
 z126b (Nd.ks x_1.2.1))] /\ Heap.push h (IObj.tip (1 : Nat)) = x_1.2.2.2.2 /\ (l[i]? = some x_1.2.1 /\ SI l i x_1.1 x_1.2.2.1 /\ (0 < x_1.1 /\ Heap.get (Prod.snd (Prod.snd (Prod.snd (Prod.snd
 x_1)))) x_1.2.2.2.1 = IObj.tip x_1.2.2.1.length /\ x_1.2.2.2.1 ≠ id) /\ Heap.get x_1.2.2.2.2 id = Heap.get h id /\ Heap.next h <= Heap.next (Prod.snd (Prod.snd (Prod.snd
 x_1.2)))) /\ List.length (Nd.ks x_1.2.1) - x_1.1 < List.length (Nd.ks x.2) - x.1))))))) (∃ (ks s : List Int), (List.length (Nd.ks x.2) = ks.length /\ List.map z126b (Nd.ks x.2) = List.map z126b ks) /\ ((0 : Nat) = List.length
 s /\ [] = List.map z126b s) /\ ((Nd.op x.2 ≠ 25 /\ Nd.op x.2 ≠ 30 /\ Nd.op x.2 ≠ 31) /\ s.length <= 1000000) /\ brS (!vOps (Nd.op x.2) s) (Q z126f h) (∃ (l_1 : List Nd), ∃ (ks : List Int), (l.length = l_1.length /\ List.flatMap
 cN l = List.flatMap cN l_1) /\ (List.length (Nd.ks x.2) = ks.length /\ List.map z126b (Nd.ks x.2) = List.map z126b ks) /\ Nd.op x.2 ≠ 25 /\ brS (!vImm (Nd.op x.2) (Nd.im x.2)) (Q z126f h) (brS (Nd.op x.2 == 31) (Q (.int .i64
 (3 : Int)) h) (brS (Nd.op x.2 == 26) (Q z126e h) (brS (Nd.op x.2 == 27) (Q z126e h) (brS (Nd.op x.2 == 28) (Q z126e h) (brS (Nd.op x.2 == 29) (Q z126e h) (brS (Nd.op x.2 == 30) (Q z126e h) (brS (Nd.op x.2 ==
 (22 : Int)) False (brS (Nd.op x.2 == 3) (brS (Int.tmod (Nd.im x.2) (16 : Int) == 0) (Q z126e h) (Q z126h h)) (brS (Nd.op x.2 == 25) (brS (Nd.im x.2 == 0) (Q z126e h) (Q z126h h)) (Q z126h h))))))))))))) /\ ∀ (x : Nat × Nd × List Int ×
 Nat × Heap) (b : FF), l[i]? = some x.2.1 /\ SI l i x.1 x.2.2.1 /\ (0 < x.1 /\ Heap.get x.2.2.2.2 x.2.2.2.1 = IObj.tip x.2.2.1.length
 /\ x.2.2.2.1 ≠ id) /\ Heap.get x.2.2.2.2 id = Heap.get h id /\ Heap.next h <= Heap.next x.2.2.2.2 -> brS (decide ((↑x.1 : Int) < (↑(List.length (Nd.ks x.2.1)) : Int))) (needS
 (decide (0 <= (↑x.1 : Int)) && decide ((↑x.1 : Int) < (↑(List.length (Nd.ks x.2.1)) : Int))) (ldIS .i64 (List.map z126b (Nd.ks x.2.1)) (Int.toNat (↑x.1 : Int) * 1) fun n11 => brS (decide (n11 < 0)) (Q
 z126f x.2.2.2.2) (brS (decide (n11 >= (↑i : Int))) (Q z126f x.2.2.2.2) (needS (decide (0 <= n11) && decide (n11 < (↑k0.length : Int))) (hgetS x.2.2.2.2 id fun r12 => ldIS
 .i64 r12 ((0 : Nat) + n11.toNat * 1) fun n13 => brS (n13 == 0) (Q z126f x.2.2.2.2) (needS (decide (0 <= n11) && decide (n11 < (↑k0.length : Int))) (hgetS x.2.2.2.2 id fun (r14 : List
 IV) => ldIS .i64 r14 ((0 : Nat) + n11.toNat * 1) fun n15 => tipS x.2.2.2.2 x.2.2.2.1 fun (m16 : Nat) => needS (Nat.beq m16 x.2.2.1.length && Nat.ble ((List.length (Prod.fst
 x.2.2) + 1) * 8) (140737488355328 : Nat)) ((∃ (x_1 : Nat × Nd), some (z126a l e0) = some (z126a l e0) /\ some (z126d i) = some (z126d i) /\ some (z126c id k0) = some (z126c id k0) /\ some z126g = some z126g /\ some (TV.v (.vslice none 0 (List.length (Nd.ks (Prod.fst
 x.2))) 1 (List.map z126b (Nd.ks x.2.1)))) = some (TV.v (.vslice none 0 (List.length (Nd.ks x_1.2)) 1 (List.map z126b (Nd.ks x_1.2)))) /\ some (TV.v (.int .i64 (↑(List.length (Nd.ks x.2.1)) : Int))) = some
 (TV.v (.int .i64 (↑(List.length (Nd.ks x_1.2)) : Int))) /\ some (TV.v (.int .i64 (IntKind.wrap .i64 ((↑x.1 : Int) + 1)))) = some (TV.v (.int .i64 (↑x_1.1 : Int))) /\ some (TV.v (.vslice (some (Prod.fst (Prod.snd (Prod.snd (Prod.snd
 x))))) (x.2.2.1.length + 1) (x.2.2.1.length + 1) 1 (List.map z126b x.2.2.1 ++ [IV.int .i64 n15]))) = some (TV.v IV.nilslice) /\ some [IV.int .i64 (Nd.op (Prod.fst (Prod.snd
 x))), IV.int .i64 (Nd.im x.2.1), IV.vslice none 0 (List.length (Nd.ks x.2.1)) 1 (List.map z126b (Nd.ks x.2.1))] = some [IV.int .i64 (Nd.op x_1.2), IV.int .i64 (Nd.im x_1.2), IV.vslice none (0
 : Nat) (List.length (Nd.ks x_1.2)) 1 (List.map z126b (Nd.ks x_1.2))] /\ Heap.set x.2.2.2.2 x.2.2.2.1 (IObj.tip (x.2.2.1.length + 1)) = h /\ (l[i]? = some x_1.2
 /\ x_1.1 = 0) /\ List.length (Nd.ks x_1.2) - x_1.1 < List.length (Nd.ks x.2.1) - x.1) \/ ∃ (x_1 : Nat × Nd × List Int × Nat × Heap), some (z126a l e0) = some (z126a l e0) /\ some (z126d i) = some (z126d i) /\ some (z126c id k0) = some (z126c id k0) /\
 some z126g = some z126g /\ some (TV.v (.vslice none 0 (List.length (Nd.ks x.2.1)) 1 (List.map z126b (Nd.ks x.2.1)))) = some (TV.v (.vslice none 0 (List.length (Nd.ks x_1.2.1)) 1 (List.map z126b (Nd.ks (Prod.fst (Prod.snd
 x_1)))))) /\ some (TV.v (.int .i64 (↑(List.length (Nd.ks x.2.1)) : Int))) = some (TV.v (.int .i64 (↑(List.length (Nd.ks x_1.2.1)) : Int))) /\ some (TV.v (.int .i64 (IntKind.wrap .i64 ((↑x.1 : Int) + 1)))) = some (TV.v
 (IV.int .i64 (↑x_1.1 : Int))) /\ some (TV.v (.vslice (some x.2.2.2.1) (x.2.2.1.length + 1) (x.2.2.1.length + 1) 1 (List.map z126b (Prod.fst (Prod.snd (Prod.snd
 x))) ++ [IV.int .i64 n15]))) = some (TV.v (.vslice (some x_1.2.2.2.1) x_1.2.2.1.length x_1.2.2.1.length 1 (List.map z126b x_1.2.2.1))) /\ some [IV.int .i64
 (Nd.op x.2.1), IV.int .i64 (Nd.im x.2.1), IV.vslice none 0 (List.length (Nd.ks x.2.1)) 1 (List.map z126b (Nd.ks x.2.1))] = some [IV.int .i64 (Nd.op x_1.2.1), IV.int .i64 (Nd.im
 x_1.2.1), IV.vslice none 0 (List.length (Nd.ks x_1.2.1)) 1 (List.map z126b (Nd.ks x_1.2.1))] /\ Heap.set x.2.2.2.2 x.2.2.2.1 (IObj.tip (List.length (Prod.fst (Prod.snd
 x.2)) + 1)) = x_1.2.2.2.2 /\ (l[i]? = some x_1.2.1 /\ SI l i x_1.1 x_1.2.2.1 /\ (0 < x_1.1 /\ Heap.get x_1.2.2.2.2 (Prod.fst (Prod.snd (Prod.snd (Prod.snd
 x_1)))) = IObj.tip x_1.2.2.1.length /\ x_1.2.2.2.1 ≠ id) /\ Heap.get x_1.2.2.2.2 id = Heap.get h id /\ Heap.next h <= Heap.next x_1.2.2.2.2) /\ List.length (Nd.ks (Prod.fst
 x_1.2)) - x_1.1 < List.length (Nd.ks x.2.1) - x.1)))))))) (∃ (ks s : List Int), (List.length (Nd.ks x.2.1) = ks.length /\ List.map z126b (Nd.ks x.2.1) = List.map z126b ks) /\ (List.length (Prod.fst (Prod.snd
 x.2)) = s.length /\ List.map z126b x.2.2.1 = List.map z126b s) /\ ((Nd.op x.2.1 ≠ 25 /\ Nd.op x.2.1 ≠ 30 /\ Nd.op x.2.1 ≠ 31) /\ s.length <= 1000000) /\ brS (!vOps (Nd.op (Prod.fst
 x.2)) s) (Q z126f x.2.2.2.2) (∃ (l_1 : List Nd), ∃ (ks : List Int), (l.length = l_1.length /\ List.flatMap cN l = List.flatMap cN l_1) /\ (List.length (Nd.ks x.2.1) = ks.length /\ List.map z126b (Nd.ks x.2.1)
 = List.map z126b ks) /\ Nd.op x.2.1 ≠ 25 /\ brS (!vImm (Nd.op x.2.1) (Nd.im x.2.1)) (Q z126f x.2.2.2.2) (brS (Nd.op x.2.1 == 31) (Q (.int .i64 3) (Prod.snd (Prod.snd
 x.2.2))) (brS (Nd.op x.2.1 == 26) (Q z126e x.2.2.2.2) (brS (Nd.op x.2.1 == 27) (Q z126e x.2.2.2.2) (brS (Nd.op x.2.1 == 28) (Q z126e
 x.2.2.2.2) (brS (Nd.op x.2.1 == 29) (Q z126e x.2.2.2.2) (brS (Nd.op x.2.1 == 30) (Q z126e x.2.2.2.2) (brS (Nd.op x.2.1 == (22
 : Int)) (needS (true && decide (1 < (↑x.2.2.1.length : Int))) (ldIS .i64 (List.map z126b x.2.2.1) 1 fun n17 => Q (.int .i64 n17) x.2.2.2.2)) (brS (Nd.op (Prod.fst (Prod.snd
 x)) == 3) (brS (Int.tmod (Nd.im x.2.1) (16 : Int) == 0) (Q z126e x.2.2.2.2) (Q z126h x.2.2.2.2)) (brS (Nd.op x.2.1 == 25) (brS (Nd.im x.2.1 == 0)
 (Q z126e x.2.2.2.2) (Q z126h x.2.2.2.2)) (Q z126h x.2.2.2.2)))))))))))))) := by kernel_rfl
set_option maxHeartbeats 2000000 in
theorem sSOf : ∀ xs h Q, kSOf xs h Q -> CallW env 126 xs h Q := by
 intro xs h Q hk
 unfold kSOf at hk
 split at hk
 ·rename_i e0 n0 c0 q id n2
  obtain ⟨l, i, k0, ⟨rfl, rfl, rfl, rfl⟩, hb, hk⟩ := hk
  refine dF_run (okVOps) (vSOf l i e0 id k0 h Q) ?_
  delta z126a z126b z126c z126d z126e z126f z126g z126h
  have tn : ∀ x : Nat, (x : Int).toNat = x := Int.toNat_natCast
  obtain ⟨⟨hi, hops, hll⟩, hg, hid, hkl, hkt⟩ := hb
  have hop := (hops _ (List.getElem_mem hi)).2
  have hks := (hops _ (List.getElem_mem hi)).1
  have eD : l.getD i default = l[i] := by rw [List.getD_eq_getElem?_getD, List.getElem?_eq_getElem hi]; rfl
  rw [eD] at hk
  have fin : ∀ (v : Int) (h2 : Heap), v = sstep (sortsA (l.take i)) l[i] -> h2.get id = h.get id /\ h.next <= h2.next -> Q (.int .i64 v) h2 := by
   rintro _ h2 rfl e
   exact hk h2 e
  have hsl : (sortsA (l.take i)).length = i := by rw [sortsA_len, List.length_take]; omega
  have hk0 : ∀ q, (hq : q < i) -> ∃ h2 : q < k0.length, ∃ h3 : q < (sortsA (l.take i)).length, k0[q] = (sortsA (l.take i))[q] := fun q hq => by
   refine ⟨by omega, by omega, ?_⟩
   have e : (k0.take i)[q]? = (sortsA (l.take i))[q]? := by rw [hkt]
   rw [List.getElem?_take_of_lt hq, List.getElem?_eq_getElem (by omega), List.getElem?_eq_getElem (by omega), Option.some.injEq] at e
   exact e
  have tail : ∀ (k : List Int), SI l i l[i].ks.length k -> sstep (sortsA (l.take i)) l[i] = (if vOps l[i].op k = true /\ vImm l[i].op l[i].im = true then svo l[i].op l[i].im k else 0) /\ k.length = l[i].ks.length := fun k h => by
   have e := h.last hi (Nat.le_refl _)
   rw [e.1]
   exact ⟨nsort_vo hop (Go.M10.SI.rng h), e.2⟩
  refine needS_intro (by simp; omega) (ldNd hi (by rw [tn]) ⟨.inl ⟨(0, l[i]), (by first | rfl | exact True.intro), (by first | rfl | exact True.intro), (by first | rfl | exact True.intro), (by first | rfl | exact True.intro), (by first | rfl | exact True.intro), (by first | rfl | exact True.intro), (by first | rfl | exact True.intro), (by first | rfl | exact True.intro), (by first | rfl | exact True.intro), (by first | rfl | exact True.intro), ⟨List.getElem?_eq_getElem hi, rfl⟩, trivial⟩, ?_, ?_⟩)
  ·rintro ⟨j, n⟩ _ ⟨hn, hj⟩
   dsimp only at hn hj ⊢
   obtain rfl : l[i] = n := by rw [List.getElem?_eq_getElem hi] at hn; exact Option.some.inj hn
   subst hj
   refine brS_intro (fun c => ?_) (fun c => ?_)
   ·rw [decide_eq_true_eq] at c
    have hlt : 0 < l[i].ks.length := by omega
    have hm : l[i].ks[0] ∈ l[i].ks := List.getElem_mem hlt
    refine needS_intro (by simp; omega) (ldI1 hlt rfl (brS_intro (fun c2 => ?_) (fun c2 => brS_intro (fun c3 => ?_) (fun c3 => ?_))))
    ·rw [decide_eq_true_eq] at c2
     exact fin _ _ (sstep_bad hm (kidOk_neg c2)).symm ⟨rfl, Nat.le_refl _⟩
    ·rw [decide_eq_true_eq] at c3
     exact fin _ _ (sstep_bad hm (kidOk_big (by omega))).symm ⟨rfl, Nat.le_refl _⟩
    rw [decide_eq_false_iff_not] at c2 c3
    obtain ⟨q1, q2, q3⟩ := hk0 (l[i].ks[0]).toNat (by omega)
    refine needS_intro (by simp; omega) (hget_intro hg (ldI1 q1 (by omega) (brS_intro (fun c4 => ?_) (fun c4 => ?_))))
    ·rw [beq_iff_eq, q3] at c4
     exact fin _ _ (sstep_bad hm (kidOk_zero q2 c4)).symm ⟨rfl, Nat.le_refl _⟩
    rw [beq_eq_false_iff_ne, q3] at c4
    obtain ⟨k1, k2⟩ := kidOk_intro (by omega) q2 c4
    have hs := (SI.zero hi).step hi hlt k1
    rw [k2] at hs
    refine needS_intro (by simp; omega) (hget_intro hg (ldI1 q1 (by omega) (.inr ⟨(1, l[i], [(sortsA (l.take i))[(l[i].ks[0]).toNat]], h.next, h.push (.tip 1)), (by first | rfl | exact True.intro), (by first | rfl | exact True.intro), (by first | rfl | exact True.intro), (by first | rfl | exact True.intro), (by first | rfl | exact True.intro), (by first | rfl | exact True.intro), (by first | rfl | exact True.intro), (by rw [q3]; rfl), (by first | rfl | exact True.intro), (by first | rfl | exact True.intro), ⟨hn, hs, ⟨Nat.one_pos, get_push_eq, Nat.ne_of_gt hid⟩, get_push_lt hid, Nat.le_succ _⟩, by dsimp only; omega⟩)))
   ·rw [decide_eq_false_iff_not] at c
    have hz : l[i].ks.length = 0 := by omega
    obtain ⟨t1, t2⟩ := tail [] (by rw [hz]; exact SI.zero hi)
    refine ⟨l[i].ks, [], ⟨rfl, rfl⟩, ⟨rfl, rfl⟩, ⟨hop, by simp⟩, ?_⟩
    refine brS_intro (fun c1 => fin _ _ ?_ ⟨rfl, Nat.le_refl _⟩) (fun c1 => ⟨l, l[i].ks, ⟨rfl, rfl⟩, ⟨rfl, rfl⟩, hop.1, brS_intro (fun c2 => fin _ _ ?_ ⟨rfl, Nat.le_refl _⟩) (fun c2 => ?_)⟩)
    ·rw [Bool.not_eq_true'] at c1
     rw [t1, if_neg (fun e => by rw [c1] at e; exact Bool.false_ne_true e.1)]
    ·rw [Bool.not_eq_true'] at c2
     rw [t1, if_neg (fun e => by rw [c2] at e; exact Bool.false_ne_true e.2)]
    rw [Bool.not_eq_false'] at c1 c2
    rw [if_pos ⟨c1, c2⟩] at t1
    have rest : ∀ {a o : Int}, (a == o) = false -> ¬ a = o := fun c => by simpa using c
    have sv : ∀ v : Int, svo l[i].op l[i].im [] = v -> Q (.int .i64 v) h := fun v e => fin v _ (by rw [t1, e]) ⟨rfl, Nat.le_refl _⟩
    unfold svo at sv
    refine brS_intro (fun d => absurd (beq_iff_eq.1 d) hop.2.2) (fun d1 => brS_intro (fun d => sv _ (if_pos (.inl (beq_iff_eq.1 d)))) (fun d2 => brS_intro (fun d => sv _ (if_pos (.inr (.inl (beq_iff_eq.1 d))))) (fun d3 => brS_intro (fun d => sv _ (if_pos (.inr (.inr (.inl (beq_iff_eq.1 d)))))) (fun d4 => brS_intro (fun d => sv _ (if_pos (.inr (.inr (.inr (beq_iff_eq.1 d)))))) (fun d5 => brS_intro (fun d => absurd (beq_iff_eq.1 d) hop.2.1) (fun d6 => ?_))))))
    have nn : ¬ (l[i].op = 26 \/ l[i].op = 27 \/ l[i].op = 28 \/ l[i].op = 29) := by
     have := rest d2; have := rest d3; have := rest d4; have := rest d5
     omega
    rw [if_neg nn] at sv
    refine brS_intro (fun d => ?_) (fun d7 => brS_intro (fun d => ?_) (fun d8 => brS_intro (fun d => absurd (beq_iff_eq.1 d) hop.1) (fun _ => sv _ (by rw [if_neg (rest d7), if_neg (rest d8)]))))
    ·rw [beq_iff_eq] at d
     have h3 : vOps 22 [] = false := by decide
     rw [d, h3] at c1
     cases c1
    ·rw [if_neg (rest d7), if_pos (beq_iff_eq.1 d)] at sv
     refine brS_intro (fun e => sv _ (if_pos (beq_iff_eq.1 e))) (fun e => sv _ (if_neg (rest e)))
  ·rintro ⟨j, n, k, idK, g⟩ _ ⟨hn, hsi, ⟨hj0, hgk, hne⟩, hgi⟩
   dsimp only at hn hsi hj0 hgk hne hgi ⊢
   obtain rfl : l[i] = n := by rw [List.getElem?_eq_getElem hi] at hn; exact Option.some.inj hn
   have hkj : k.length = j /\ j <= l[i].ks.length := by
    obtain ⟨n, h1, h2, _⟩ := hsi
    rw [hn] at h1
    cases h1
    exact ⟨h2.2, h2.1⟩
   have hg2 : g.get id = .cells (k0.map (IV.int .i64)) := hgi.1.trans hg
   refine brS_intro (fun c => ?_) (fun c => ?_)
   ·rw [decide_eq_true_eq] at c
    have hlt : j < l[i].ks.length := by omega
    have hm : l[i].ks[j] ∈ l[i].ks := List.getElem_mem hlt
    refine needS_intro (by simp; omega) (ldI1 hlt (by rw [Nat.mul_one, tn]) (brS_intro (fun c2 => ?_) (fun c2 => brS_intro (fun c3 => ?_) (fun c3 => ?_))))
    ·rw [decide_eq_true_eq] at c2
     exact fin _ _ (sstep_bad hm (kidOk_neg c2)).symm hgi
    ·rw [decide_eq_true_eq] at c3
     exact fin _ _ (sstep_bad hm (kidOk_big (by omega))).symm hgi
    rw [decide_eq_false_iff_not] at c2 c3
    obtain ⟨q1, q2, q3⟩ := hk0 (l[i].ks[j]).toNat (by omega)
    refine needS_intro (by simp; omega) (hget_intro hg2 (ldI1 q1 (by omega) (brS_intro (fun c4 => ?_) (fun c4 => ?_))))
    ·rw [beq_iff_eq, q3] at c4
     exact fin _ _ (sstep_bad hm (kidOk_zero q2 c4)).symm hgi
    rw [beq_eq_false_iff_ne, q3] at c4
    obtain ⟨k1, k2⟩ := kidOk_intro (by omega) q2 c4
    have hs := hsi.step hi hlt k1
    rw [k2] at hs
    refine needS_intro (by simp; omega) (hget_intro hg2 (ldI1 q1 (by omega) (tip_intro hgk (needS_intro (by simp only [Bool.and_eq_true, nbeq_t, Nat.ble_eq, true_and]; omega) (.inr ⟨(j + 1, l[i], k ++ [(sortsA (l.take i))[(l[i].ks[j]).toNat]], idK, g.set idK (.tip (k.length + 1))), (by first | rfl | exact True.intro), (by first | rfl | exact True.intro), (by first | rfl | exact True.intro), (by first | rfl | exact True.intro), (by first | rfl | exact True.intro), (by first | rfl | exact True.intro), ?_, ?_, (by first | rfl | exact True.intro), ?_, ⟨hn, hs, ⟨Nat.succ_pos _, by rw [get_set_eq]; simp, hne⟩, by rw [get_set_ne hne.symm]; exact hgi.1, hgi.2⟩, by dsimp only; omega⟩)))))
    ·rw [IntWalk.i64_in _ (by omega)]; rfl
    ·rw [q3]; simp
    ·rfl
   ·rw [decide_eq_false_iff_not] at c
    obtain rfl : j = l[i].ks.length := by omega
    obtain ⟨t1, t2⟩ := tail k hsi
    refine ⟨l[i].ks, k, ⟨rfl, rfl⟩, ⟨rfl, rfl⟩, ⟨hop, by omega⟩, ?_⟩
    refine brS_intro (fun c1 => fin _ _ ?_ hgi) (fun c1 => ⟨l, l[i].ks, ⟨rfl, rfl⟩, ⟨rfl, rfl⟩, hop.1, brS_intro (fun c2 => fin _ _ ?_ hgi) (fun c2 => ?_)⟩)
    ·rw [Bool.not_eq_true'] at c1
     rw [t1, if_neg (fun e => by rw [c1] at e; exact Bool.false_ne_true e.1)]
    ·rw [Bool.not_eq_true'] at c2
     rw [t1, if_neg (fun e => by rw [c2] at e; exact Bool.false_ne_true e.2)]
    rw [Bool.not_eq_false'] at c1 c2
    rw [if_pos ⟨c1, c2⟩] at t1
    have rest : ∀ {a o : Int}, (a == o) = false -> ¬ a = o := fun c => by simpa using c
    have sv : ∀ v : Int, svo l[i].op l[i].im k = v -> Q (.int .i64 v) g := fun v e => fin v _ (by rw [t1, e]) hgi
    unfold svo at sv
    refine brS_intro (fun d => absurd (beq_iff_eq.1 d) hop.2.2) (fun d1 => brS_intro (fun d => sv _ (if_pos (.inl (beq_iff_eq.1 d)))) (fun d2 => brS_intro (fun d => sv _ (if_pos (.inr (.inl (beq_iff_eq.1 d))))) (fun d3 => brS_intro (fun d => sv _ (if_pos (.inr (.inr (.inl (beq_iff_eq.1 d)))))) (fun d4 => brS_intro (fun d => sv _ (if_pos (.inr (.inr (.inr (beq_iff_eq.1 d)))))) (fun d5 => brS_intro (fun d => absurd (beq_iff_eq.1 d) hop.2.1) (fun d6 => ?_))))))
    have nn : ¬ (l[i].op = 26 \/ l[i].op = 27 \/ l[i].op = 28 \/ l[i].op = 29) := by
     have := rest d2; have := rest d3; have := rest d4; have := rest d5
     omega
    rw [if_neg nn] at sv
    refine brS_intro (fun d => ?_) (fun d7 => brS_intro (fun d => ?_) (fun d8 => brS_intro (fun d => absurd (beq_iff_eq.1 d) hop.1) (fun _ => sv _ (by rw [if_neg (rest d7), if_neg (rest d8)]))))
    ·rw [beq_iff_eq] at d
     rw [if_pos d] at sv
     have hlen : (k.length : Int) = ar l[i].op := by
      unfold vOps at c1
      simp only [Bool.and_eq_true, decide_eq_true_eq] at c1
      exact c1.2.1
     have h22 : ar 22 = 3 := by decide
     rw [d, h22] at hlen
     have hlt : 1 < k.length := by omega
     refine needS_intro (by simp; omega) (ldI1 hlt (by omega) (sv _ ?_))
     rw [List.getD_eq_getElem?_getD, List.getElem?_eq_getElem hlt]
     rfl
    ·rw [if_neg (rest d7), if_pos (beq_iff_eq.1 d)] at sv
     refine brS_intro (fun e => sv _ (if_pos (beq_iff_eq.1 e))) (fun e => sv _ (if_neg (rest e)))
 ·exact hk.elim
def cSOf := addC 126 kSOf cVOps
theorem okSOf : Sound env cSOf := sound_add sSOf (okVOps)
def isInv (l : List Nd) (e1 : Nat) : Inv' := atX (Nat × Nat × Heap × List Int) (fun x => [(0, .v (.vslice none e1 (l).length 3 ((l).flatMap cN))), (3, .v (.hslice x.2.1 0 l.length 1)), (9, .v (.int .i64 l.length)), (10, .v (.int .i64 x.1))]) (fun _ => []) (fun x => x.2.2.1)
 (fun x => x.1 <= l.length /\ x.2.2.1.get x.2.1 = .cells (x.2.2.2.map (IV.int .i64)) /\ x.2.2.2.length = l.length /\ x.2.1 < x.2.2.1.next /\ x.2.2.2.take x.1 = sortsA (l.take x.1)) (fun x => l.length - x.1)
def kISorts (xs : List IV) (h : Heap) (K : IV -> Heap -> Prop) : Prop := match xs with
 | [.vslice none e1 n1 3 c1] => ∃ l : List Nd, (n1 = l.length /\ c1 = l.flatMap cN) /\ ((∀ x ∈ l, x.ks.length <= 1000000 /\ x.op ≠ 25 /\ x.op ≠ 30 /\ x.op ≠ 31) /\ l.length <= 1000000) /\ ∀ (h2 : Heap) (id : Nat), h2.get id = .cells ((sortsA l).map (IV.int .i64)) -> K (.hslice id 0 l.length 1) h2
 | _ => False
noncomputable def z104a (l : List Nd) (e1 : Nat) := TV.v (.vslice none e1 l.length 3 (List.flatMap cN l))
noncomputable def z104b (x : Nat × Nat × Heap × List Int) := x.2.2
noncomputable def z104c (l : List Nd) := TV.v (.int .i64 (↑l.length : Int))
noncomputable def z104d (x : Nat × Nat × Heap × List Int) := x.2.1
set_option maxRecDepth 100000 in
theorem vISorts (l : List Nd) (e1 : Nat) (h : Heap) (Q : IV -> Heap -> Prop) : dF (stdS cSOf) env 104 noU (ic1 4 (isInv l e1)) noI [.vslice none e1 (l).length 3 ((l).flatMap cN)] h Q = (
 needS (decide (0 <= (↑l.length : Int)) && (decide ((↑l.length : Int) <= (↑l.length : Int)) && (decide ((↑l.length : Int) <= 9223372036854775807) && decide ((8 : Int) * (↑l.length : Int) <= 140737488355328)))) ((∃ (x : Nat × Nat × Heap × List Int),
 some (z104a l e1) = some (z104a l e1) /\ some (TV.v (.hslice (Heap.next h) 0 (Int.toNat (↑l.length : Int)) 1)) = some (TV.v (.hslice (z104d x) 0 l.length 1)) /\ some (z104c l) = some (z104c l) /\ some (TV.v (.int .i64 0)) = some (TV.v (.int
 .i64 (↑x.1 : Int))) /\ Heap.push h (IObj.cells (repl (Int.toNat (↑l.length : Int)) [IV.int .i64 0])) = Prod.fst (z104b x) /\ (x.1 <= l.length /\ Heap.get (Prod.fst (z104b x)) (z104d x) = IObj.cells (List.map (IV.int .i64) (Prod.snd (z104b x))) /\ List.length
 (Prod.snd (z104b x)) = l.length /\ x.2.1 < Heap.next (Prod.fst (z104b x)) /\ List.take x.1 (Prod.snd (z104b x)) = sortsA (List.take x.1 l)) /\ True) /\ ∀ (x : Nat × Nat × Heap × List Int) (b : FF), x.1 <= l.length /\ Heap.get (Prod.fst (z104b x)) (z104d x)
 = IObj.cells (List.map (IV.int .i64) (Prod.snd (z104b x))) /\ List.length (Prod.snd (z104b x)) = l.length /\ x.2.1 < Heap.next (Prod.fst (z104b x)) /\ List.take x.1 (Prod.snd (z104b x)) = sortsA (List.take x.1 l) -> brS (decide ((↑x.1 : Int) < (↑(List.length
 l) : Int))) (∃ (l_1 : List Nd), ∃ (i : Nat), ∃ (k0 : List Int), (l.length = l_1.length /\ List.flatMap cN l = List.flatMap cN l_1 /\ (↑x.1 : Int) = (↑i : Int) /\ l.length = k0.length) /\ SP (Prod.fst (z104b x)) (z104d x) l_1 i k0 /\ ∀ (h2 : Heap), Heap.get h2 (z104d x) = Heap.get
 (Prod.fst (z104b x)) (z104d x) /\ Heap.next (Prod.fst (z104b x)) <= Heap.next h2 -> needS (decide (0 <= (↑x.1 : Int)) && decide ((↑x.1 : Int) < (↑l.length : Int))) (hgetS h2 (z104d x) fun r0 => needS (Nat.ble ((0 : Nat) + Int.toNat (↑x.1 : Int) * (1 :
 Nat) + 1) r0.length) (∃ (x_1 : Nat × Nat × Heap × List Int), some (z104a l e1) = some (z104a l e1) /\ some (TV.v (.hslice (z104d x) 0 l.length 1)) = some (TV.v (.hslice x_1.2.1 0 l.length 1)) /\ some (z104c l) = some (z104c
 l) /\ some (TV.v (.int .i64 (IntKind.wrap .i64 ((↑x.1 : Int) + 1)))) = some (TV.v (.int .i64 (↑x_1.1 : Int))) /\ Heap.set h2 (z104d x) (IObj.cells (List.take ((0 : Nat) + Int.toNat (↑x.1 : Int) * 1) r0 ++ [IV.int .i64 (sstep (sortsA
 (List.take i l_1)) (List.getD l_1 i default))] ++ List.drop ((0 : Nat) + Int.toNat (↑x.1 : Int) * 1 + (1 : Nat)) r0)) = x_1.2.2.1 /\ (x_1.1 <= l.length /\ Heap.get x_1.2.2.1 x_1.2.1 = IObj.cells (List.map
 (IV.int .i64) x_1.2.2.2) /\ x_1.2.2.2.length = l.length /\ x_1.2.1 < Heap.next x_1.2.2.1 /\ List.take x_1.1 x_1.2.2.2 = sortsA (List.take x_1.1 l))
 /\ l.length - x_1.1 < l.length - x.1))) (Q (.hslice (z104d x) 0 l.length 1) (Prod.fst (z104b x))))) := by kernel_rfl
set_option maxHeartbeats 2000000 in
theorem sISorts : ∀ xs h Q, kISorts xs h Q -> CallW env 104 xs h Q := by
 intro xs h Q hk
 unfold kISorts at hk
 split at hk
 ·rename_i e1 n1 c1
  obtain ⟨l, ⟨rfl, rfl⟩, hb, hk⟩ := hk
  refine dF_run (okSOf) (vISorts l e1 h Q) ?_
  delta z104a z104b z104c z104d
  have tn : ∀ x : Nat, (x : Int).toNat = x := Int.toNat_natCast
  obtain ⟨hops, hll⟩ := hb
  refine needS_intro (by simp; omega) ⟨⟨(0, h.next, h.push (.cells (repl (l.length : Int).toNat [.int .i64 0])), List.replicate l.length 0), (by first | rfl | exact True.intro), (by rw [tn]), (by first | rfl | exact True.intro), (by first | rfl | exact True.intro), (by first | rfl | exact True.intro), ⟨Nat.zero_le _, (by rw [get_push_eq, tn, repl_zero]), by simp, Nat.lt_succ_self _, rfl⟩, trivial⟩, ?_⟩
  rintro ⟨i, id, g, k0⟩ _ ⟨hi, hg, hkl, hid, hkt⟩
  dsimp only at hi hg hkl hid hkt ⊢
  refine brS_intro (fun c => ?_) (fun c => ?_)
  ·rw [decide_eq_true_eq] at c
   have hlt : i < l.length := by omega
   refine ⟨l, i, k0, ⟨rfl, rfl, rfl, hkl.symm⟩, ⟨⟨hlt, hops, hll⟩, hg, hid, hkl, hkt⟩, fun h2 ⟨e2, n2⟩ => needS_intro (by simp; omega) (hget_intro (e2.trans hg) (needS_intro (by rw [Nat.ble_eq]; simp; omega) ?_))⟩
   have eD : l.getD i default = l[i] := by rw [List.getD_eq_getElem?_getD, List.getElem?_eq_getElem hlt]; rfl
   rw [eD]
   have hv : (k0.map (IV.int .i64)).take (0 + (i : Int).toNat * 1) ++ [.int .i64 (sstep (sortsA (l.take i)) l[i])] ++ (k0.map (IV.int .i64)).drop (0 + (i : Int).toNat * 1 + 1) = (k0.take i ++ [sstep (sortsA (l.take i)) l[i]] ++ k0.drop (i + 1)).map (IV.int .i64) := by
    rw [tn, Nat.zero_add, Nat.mul_one]
    simp
   have h1 : (k0.take i).length = i := by rw [List.length_take]; omega
   refine ⟨(i + 1, id, h2.set id (.cells ((k0.take i ++ [sstep (sortsA (l.take i)) l[i]] ++ k0.drop (i + 1)).map (IV.int .i64))), k0.take i ++ [sstep (sortsA (l.take i)) l[i]] ++ k0.drop (i + 1)), (by first | rfl | exact True.intro), (by first | rfl | exact True.intro), (by first | rfl | exact True.intro), ?_, ?_, ⟨hlt, get_set_eq, ?_, Nat.lt_of_lt_of_le hid n2, ?_⟩, by dsimp only; omega⟩
   ·rw [IntWalk.i64_in _ (by omega)]; rfl
   ·rw [hv]
   ·simp; omega
   ·rw [sortsA_step hlt, <- hkt]
    dsimp only
    rw [List.take_append_of_le_length (by simp; omega), List.take_of_length_le (by simp; omega)]
  ·rw [decide_eq_false_iff_not] at c
   obtain rfl : i = l.length := by omega
   rw [List.take_of_length_le (by omega), List.take_length] at hkt
   subst hkt
   exact hk g id hg
 ·exact hk.elim
def cISorts := addC 104 kISorts cSOf
theorem okISorts : Sound env cISorts := sound_add sISorts (okSOf)
def kISort (xs : List IV) (h : Heap) (K : IV -> Heap -> Prop) : Prop := match xs with
 | [.vslice none e1 n1 3 c1, .int .i64 i] => ∃ l : List Nd, (n1 = l.length /\ c1 = l.flatMap cN) /\ ((∀ x ∈ l, x.ks.length <= 1000000 /\ x.op ≠ 25 /\ x.op ≠ 30 /\ x.op ≠ 31) /\ l.length <= 1000000 /\ 0 <= i /\ i < l.length) /\ K (.int .i64 ((sortsA l).getD i.toNat 0)) h
 | _ => False
set_option maxRecDepth 100000 in
theorem vISort (l : List Nd) (i : Int) (e1 : Nat) (h : Heap) (Q : IV -> Heap -> Prop) : dF (stdS cISorts) env 63 noU noI noI [.vslice none e1 (l).length 3 ((l).flatMap cN), .int .i64 i] h Q = (
 needS (pureL [IV.vslice none 0 l.length 3 (List.flatMap cN l), IV.int .i64 i])
 (brS (decide (i < 0)) (Q (.int .i64 0) h)
 (brS (decide (i >= (↑l.length : Int))) (Q (.int .i64 0) h)
 (needS (true && (decide (0 <= IntKind.wrap .i64 (i + 1)) && decide (IntKind.wrap .i64 (i + 1) <= (↑l.length : Int))))
 (∃ (l_1 : List Nd),
 (Int.toNat (IntKind.wrap .i64 (i + 1)) - 0 = l_1.length /\
 List.take ((Int.toNat (IntKind.wrap .i64 (i + 1)) - 0) * 3) (List.drop 0 (List.flatMap cN l)) = List.flatMap cN l_1) /\
 ((∀ (x : Nd), x ∈ l_1 -> List.length (Nd.ks x) <= 1000000 /\ Nd.op x ≠ 25 /\ Nd.op x ≠ 30 /\ Nd.op x ≠ 31) /\ l_1.length <= 1000000) /\
 ∀ (h2 : Heap) (id : Nat),
 Heap.get h2 id = IObj.cells (List.map (IV.int .i64) (sortsA l_1)) ->
 needS (decide (0 <= i) && decide (i < (↑l_1.length : Int))) (hgetS h2 id fun r0 => ldIS .i64 r0 ((0 : Nat) + i.toNat * 1) fun n1 => Q (.int .i64 n1) h)))))) := by kernel_rfl
set_option maxHeartbeats 1000000 in
theorem sISort : ∀ xs h Q, kISort xs h Q -> CallW env 63 xs h Q := by
 intro xs h Q hk
 unfold kISort at hk
 split at hk
 ·rename_i e1 n1 c1 i
  obtain ⟨l, ⟨rfl, rfl⟩, hb, hk⟩ := hk
  refine dF_run (okISorts) (vISort l i e1 h Q) ?_
  have tn : ∀ x : Nat, (x : Int).toNat = x := Int.toNat_natCast
  obtain ⟨hb1, hbl, hi0, hi1⟩ := hb
  have hw : IntKind.i64.wrap (i + 1) = i + 1 := IntWalk.i64_in _ (by omega)
  rw [hw]
  have hlt : i.toNat < l.length := by omega
  have e3 : (i + 1).toNat - 0 = i.toNat + 1 := by omega
  refine needS_intro (by simp only [pureL, pureB, pureL_cN, Bool.and_true]) (brS_intro (fun c => absurd (of_decide_eq_true c) (by omega)) (fun _ => brS_intro (fun c => absurd (of_decide_eq_true c) (by omega)) (fun _ => needS_intro (by simp; omega) ⟨l.take (i.toNat + 1), ⟨by rw [e3, List.length_take]; omega, by rw [e3, List.drop_zero, cN_take]⟩, ⟨fun x hx => hb1 x (List.mem_of_mem_take hx), by rw [List.length_take]; omega⟩, fun h2 id hg => ?_⟩)))
  have hq : i.toNat < (sortsA (l.take (i.toNat + 1))).length := by rw [sortsA_len, List.length_take]; omega
  refine needS_intro (by simp; omega) (hget_intro hg (ldI1 hq (by omega) (q_eq hk ?_)))
  congr 1
  rw [pre_getD (sortsA_pre (List.take_prefix (i.toNat + 1) l)) hq, List.getD_eq_getElem?_getD, List.getElem?_eq_getElem hq]
  rfl
 ·exact hk.elim
def cISort := addC 63 kISort cISorts
theorem okISort : Sound env cISort := sound_add sISort (okISorts)
end Go.Proofs.YtgfllfgdojiioaaGreat
