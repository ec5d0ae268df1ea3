import Derived.Test.YtlenjfbmpekabaaDoorR31
import Derived.Test.YtlenjfbmpekabaaDoorNP31
import Derived.KernelRfl
set_option linter.unusedVariables false
set_option linter.unusedSimpArgs false
namespace Go.Proofs.YtlenjfbmpekabaaDoor
open Go.Pv Go.M29 Go.M30 Go.M31 Go.M13
def kCCell (xs : List IV) (h : Heap) (K : IV -> Heap -> Prop) : Prop := match xs with
 | [.ptr id 0, .int .i64 a, .int .i64 x] => ∃ (B : Bi) (s : CS) (L : Ly), Rep B s L id h /\ (0 <= a /\ a < B.a.length) /\ (∀ row, s.cells[a.toNat]? = some row -> (0 <= x /\ x < row.length -> ∀ j, L.arr[a.toNat]? = some j -> K (.ptr j x.toNat) h) /\ (¬ (0 <= x /\ x < row.length) -> K .nilptr h))
 | _ => False
set_option maxRecDepth 100000 in
theorem vCCell (id : Nat) (a x : Int) (h : Heap) (Q : IV -> Heap -> Prop) : dF (stdS cCReg) env 72 noU noI noI [.ptr id 0, .int .i64 a, .int .i64 x] h Q = (
 hgetS h id fun r0 =>
 ldVS 1 r0 4 fun (i1 : Option Nat) (e2 l3 : Nat) (c4 : List IV) =>
 needS (decide (0 <= a) && decide (a < (↑l3 : Int)))
 (ldNHS 1 c4 (a.toNat * 1) False fun (i5 o6 l7 : Nat) =>
 brS (decide (x < 0)) (Q IV.nilptr h) (brS (decide (x >= (↑l7 : Int))) (Q IV.nilptr h) (needS (decide (0 <= x) && decide (x < (↑l7 : Int))) (Q (.ptr i5 (o6 + x.toNat * 1)) h))))) := by kernel_rfl
theorem sCCell : ∀ xs h Q, kCCell xs h Q -> CallW env 72 xs h Q := by
 intro xs h Q hk
 unfold kCCell at hk
 split at hk
 ·rename_i id a x
  obtain ⟨B, s, L, hr, hk⟩ := hk
  refine dF_run (okCReg) (vCCell id a x h Q) ?_
  obtain ⟨ha, hk⟩ := hk
  have hne : B.a ≠ [] := fun z => by rw [z] at ha; simp at ha; omega
  obtain ⟨j, row, e1, e2, e3, e4, e5, e6⟩ := arr_at hr (j := a.toNat) (by omega)
  obtain ⟨k1, k2⟩ := hk row e2
  refine hget_i hr.cpu (ldV_i (cpu_arr hne) (needS_intro (by simp; omega) ?_))
  rw [Nat.mul_one]
  refine ldNH_i e3 (brS_intro (fun c => ?_) (fun c1 => brS_intro (fun c => ?_) (fun c2 => ?_)))
  ·rw [decide_eq_true_eq] at c
   exact k2 (by omega)
  ·rw [decide_eq_true_eq] at c
   exact k2 (by omega)
  ·rw [decide_eq_false_iff_not] at c1 c2
   refine needS_intro (by simp; omega) ?_
   rw [Nat.mul_one, Nat.zero_add]
   exact k1 (by omega) j e1
 ·exact hk.elim
def cCCell := addC 72 kCCell cCReg
theorem okCCell : Sound env cCCell := sound_add sCCell (okCReg)
def kFGet (xs : List IV) (h : Heap) (K : IV -> Heap -> Prop) : Prop := match xs with
 | [.ptr id o, .int .i64 n] => o = 0 /\ ∃ (f : FL) (G : Fm), h.get id = .cells (frC f G) /\ (f.sl ≠ [] -> h.get f.sid = .cells (ints f.sl)) /\ (f.sl.length <= G.sl.length /\ G.sl = f.sl ++ List.replicate (G.sl.length - f.sl.length) 0) /\ (0 <= n /\ n <= 2999 /\ G.sl.length <= 3000) /\ K (.int .i64 (getF G n)) h
 | _ => False
set_option maxRecDepth 100000 in
theorem vFGet (id : Nat) (n : Int) (h : Heap) (Q : IV -> Heap -> Prop) : dF (stdS cCCell) env 74 noU noI noI [.ptr id 0, .int .i64 n] h Q = (
 brS (decide (n < 0)) (Q (.int .i64 0) h)
 (hgetS h id fun r0 =>
 ldIS .i64 r0 1 fun n1 =>
 brS (decide (n >= n1)) (Q (.int .i64 0) h)
 (hgetS h id fun r2 =>
 ldNHS 1 r2 0
 (brS (decide (n >= 0)) (Q (.int .i64 0) h)
 (hgetS h id fun r3 =>
 ldNHS 1 r3 0 False fun (i4 o5 l6 : Nat) =>
 needS (decide (0 <= n) && decide (n < (↑l6 : Int))) (hgetS h i4 fun r7 => ldIS .i64 r7 (o5 + n.toNat * 1) fun n8 => Q (.int .i64 n8) h)))
 fun (i9 o10 l11 : Nat) =>
 brS (decide (n >= (↑l11 : Int))) (Q (.int .i64 0) h)
 (hgetS h id fun r12 =>
 ldNHS 1 r12 0 False fun (i13 o14 l15 : Nat) =>
 needS (decide (0 <= n) && decide (n < (↑l15 : Int))) (hgetS h i13 fun r16 => ldIS .i64 r16 (o14 + n.toNat * 1) fun n17 => Q (.int .i64 n17) h))))) := by kernel_rfl
theorem sFGet : ∀ xs h Q, kFGet xs h Q -> CallW env 74 xs h Q := by
 intro xs h Q hk
 unfold kFGet at hk
 split at hk
 ·rename_i id o n
  obtain ⟨rfl, f, G, hf, hs, hq, hn, hk⟩ := hk
  refine dF_run (okCCell) (vFGet id n h Q) ?_
  refine brS_intro (fun c => ?_) (fun c1 => hget_i hf (ldI_i rfl (brS_intro (fun c => ?_) (fun c2 => hget_i hf ?_))))
  ·rw [decide_eq_true_eq] at c; omega
  ·rw [decide_eq_true_eq] at c
   rw [getF_ge hq (by omega)] at hk
   exact hk
  ·rw [decide_eq_false_iff_not] at c1 c2
   by_cases he : f.sl = []
   ·refine ldNH_n (by simp [frC, slotC, he]) (brS_intro (fun c => ?_) (fun c => ?_))
    ·rw [getF_ge hq (by rw [he]; simp)] at hk
     exact hk
    ·rw [decide_eq_false_iff_not] at c; omega
   ·have e : ∀ A, (frC f A)[0]? = some (.hslice f.sid 0 f.sl.length 1) := fun A => by simp [frC, slotC, he]
    refine ldNH_i (e G) (brS_intro (fun c => ?_) (fun c3 => hget_i hf (ldNH_i (e G) (needS_intro ?_ (hget_i (hs he) ?_)))))
    ·rw [decide_eq_true_eq] at c
     rw [getF_ge hq (by omega)] at hk
     exact hk
    ·rw [decide_eq_false_iff_not] at c3; simp; omega
    ·rw [decide_eq_false_iff_not] at c3
     rw [Nat.mul_one, Nat.zero_add]
     exact ldI_i (getF_lt hq (by omega)) hk
 ·exact hk.elim
def cFGet := addC 74 kFGet cCCell
theorem okFGet : Sound env cFGet := sound_add sFGet (okCCell)
def fsInv (f : FL) (G : Fm) (id : Nat) (n x : Int) (h : Heap) : Inv' := atX (Heap × FL) (fun _ => [(0, .v (.ptr id 0)), (1, .v (.int .i64 n)), (2, .v (.int .i64 x))]) (fun _ => []) (fun x => x.1) (fun x => FsOk f G id h x.1 x.2) (fun x => (n + 1).toNat - x.2.sl.length)
def kFSet (xs : List IV) (h : Heap) (K : IV -> Heap -> Prop) : Prop := match xs with
 | [.ptr id o, .int .i64 n, .int .i64 x] => o = 0 /\ ∃ (f : FL) (G : Fm), h.get id = .cells (frC f G) /\ (f.sl ≠ [] -> h.get f.sid = .cells (ints f.sl)) /\ (f.sl.length <= G.sl.length /\ G.sl = f.sl ++ List.replicate (G.sl.length - f.sl.length) 0) /\ (0 <= n /\ n <= 2999 /\ G.sl.length <= 3000) /\ (f.id = id /\ id < h.next /\ (f.sl ≠ [] -> f.sid < h.next /\ f.sid ≠ id)) /\ ∀ (f' : FL) (h' : Heap), f'.id = id -> h'.get id = .cells (frC f' (setF G n x)) -> (f'.sl ≠ [] -> h'.get f'.sid = .cells (ints f'.sl) /\ f'.sid < h'.next /\ (h.next <= f'.sid \/ f.sl ≠ [] /\ f'.sid = f.sid)) -> (f'.sl.length <= (setF G n x).sl.length /\ (setF G n x).sl = f'.sl ++ List.replicate ((setF G n x).sl.length - f'.sl.length) 0) -> (∀ k, k < h.next -> k ≠ id -> (f.sl ≠ [] -> k ≠ f.sid) -> h'.get k = h.get k) -> h.next <= h'.next -> K (.tuple []) h'
 | _ => False
noncomputable def z75a  := [IV.int .i64 0]
noncomputable def z75b (n : Int) := TV.v (.int .i64 n)
noncomputable def z75c (x : Int) := TV.v (.int .i64 x)
noncomputable def z75d (id : Nat) := TV.v (.ptr id 0)
noncomputable def z75e (x_1 : Heap × FL) := Heap.push x_1.1 (IObj.cells z75a)
set_option maxRecDepth 100000 in
theorem vFSet (f : FL) (G : Fm) (id : Nat) (n x : Int) (h : Heap) (Q : IV -> Heap -> Prop) : dF (stdS cFGet) env 75 noU (ic1 2 (fsInv f G id n x h)) noI [.ptr id 0, .int .i64 n, .int .i64 x] h Q = (
 brS (decide (n < 0)) (Q (.tuple []) h) (hgetS h id fun r0 => ldIS .i64 r0 1 fun n1 => brS (decide (n >= n1)) (Q (.tuple []) h) ((∃ (x_1 : Heap × FL), some (z75d id) = some (z75d id) /\ some (z75b n) = some (z75b n) /\ some (z75c x) = some (z75c x) /\ h = Prod.fst
 x_1 /\ FsOk f G id h x_1.1 x_1.2 /\ True) /\ ∀ (x_1 : Heap × FL) (b : FF), FsOk f G id h x_1.1 x_1.2 -> hgetS x_1.1 id fun r2 => ldNHS 1 r2 0 (brS (decide (0 <= n)) (hgetS x_1.1 id fun r3 => ldNHS 1
 r3 0 (hgetS (z75e x_1) id fun r4 => needS (Nat.ble 1 r4.length) (∃ (x_2 : Heap × FL), some (z75d id) = some (z75d id) /\ some (z75b n) = some (z75b n) /\ some (z75c x) = some (z75c x) /\ Heap.set (z75e x_1) id (IObj.cells (IV.hslice (Heap.next x_1.1) 0
 1 1 :: List.drop 1 r4)) = x_2.1 /\ FsOk f G id h x_2.1 x_2.2 /\ Int.toNat (n + 1) - List.length (FL.sl x_2.2) < Int.toNat (n + 1) - List.length (FL.sl x_1.2))) fun (i5 o6 l7 : Nat) => hgetS x_1.1 i5 fun (r8 : List
 IV) => needS (Nat.beq o6 (0 : Nat) && (Nat.ble (l7 * 1) r8.length && Nat.ble ((l7 + 1) * 8) (140737488355328 : Nat))) (hgetS (Heap.push (Heap.set x_1.1 i5 IObj.dead) (IObj.cells (List.take (l7 * 1) r8 ++ z75a))) id fun r9 => needS (Nat.ble (1
 : Nat) r9.length) (∃ (x_2 : Heap × FL), some (z75d id) = some (z75d id) /\ some (z75b n) = some (z75b n) /\ some (z75c x) = some (z75c x) /\ Heap.set (Heap.push (Heap.set x_1.1 i5 IObj.dead) (IObj.cells (List.take (l7 * 1) r8 ++ z75a))) id (IObj.cells (IV.hslice (Heap.next (Prod.fst
 x_1)) 0 (l7 + 1) 1 :: List.drop 1 r9)) = x_2.1 /\ FsOk f G id h x_2.1 x_2.2 /\ Int.toNat (n + 1) - List.length (FL.sl x_2.2) < Int.toNat (n + 1) - List.length (FL.sl x_1.2)))) (hgetS x_1.1 id fun (r10 :
 List IV) => ldNHS 1 r10 0 False fun (i11 o12 l13 : Nat) => needS (decide (0 <= n) && decide (n < (↑l13 : Int))) (hgetS x_1.1 i11 fun r14 => needS (Nat.ble (o12 + n.toNat * 1 + (1 : Nat)) r14.length) (Q (.tuple []) (Heap.set x_1.1
 i11 (IObj.cells (List.take (o12 + n.toNat * 1) r14 ++ [IV.int .i64 x] ++ List.drop (o12 + n.toNat * 1 + (1 : Nat)) r14))))))) fun (i15 o16 l17 : Nat) => brS (decide ((↑l17 : Int) <= n)) (hgetS x_1.1 id fun r18 => ldNHS 1 r18 0 (hgetS
 (z75e x_1) id fun r19 => needS (Nat.ble 1 r19.length) (∃ (x_2 : Heap × FL), some (z75d id) = some (z75d id) /\ some (z75b n) = some (z75b n) /\ some (z75c x) = some (z75c x) /\ Heap.set (z75e x_1) id (IObj.cells (IV.hslice (Heap.next x_1.1) 0 1 1
 :: List.drop 1 r19)) = x_2.1 /\ FsOk f G id h x_2.1 x_2.2 /\ Int.toNat (n + 1) - List.length (FL.sl x_2.2) < Int.toNat (n + 1) - List.length (FL.sl x_1.2))) fun (i20 o21 l22 : Nat) => hgetS x_1.1 i20 fun r23 => needS
 (Nat.beq o21 (0 : Nat) && (Nat.ble (l22 * 1) r23.length && Nat.ble ((l22 + 1) * 8) (140737488355328 : Nat))) (hgetS (Heap.push (Heap.set x_1.1 i20 IObj.dead) (IObj.cells (List.take (l22 * 1) r23 ++ z75a))) id fun r24 => needS (Nat.ble 1
 r24.length) (∃ (x_2 : Heap × FL), some (z75d id) = some (z75d id) /\ some (z75b n) = some (z75b n) /\ some (z75c x) = some (z75c x) /\ Heap.set (Heap.push (Heap.set x_1.1 i20 IObj.dead) (IObj.cells (List.take (l22 * 1) r23 ++ z75a))) id (IObj.cells (IV.hslice (Heap.next (Prod.fst
 x_1)) 0 (l22 + 1) 1 :: List.drop 1 r24)) = x_2.1 /\ FsOk f G id h x_2.1 x_2.2 /\ Int.toNat (n + 1) - List.length (FL.sl x_2.2) < Int.toNat (n + 1) - List.length (FL.sl x_1.2)))) (hgetS x_1.1 id fun (r25
 : List IV) => ldNHS 1 r25 0 False fun (i26 o27 l28 : Nat) => needS (decide (0 <= n) && decide (n < (↑l28 : Int))) (hgetS x_1.1 i26 fun r29 => needS (Nat.ble (o27 + n.toNat * 1 + (1 : Nat)) r29.length) (Q (.tuple []) (Heap.set (Prod.fst
 x_1) i26 (IObj.cells (List.take (o27 + n.toNat * 1) r29 ++ [IV.int .i64 x] ++ List.drop (o27 + n.toNat * 1 + (1 : Nat)) r29))))))))) := by kernel_rfl
set_option maxHeartbeats 4000000 in
theorem sFSet : ∀ xs h Q, kFSet xs h Q -> CallW env 75 xs h Q := by
 intro xs h Q hk
 unfold kFSet at hk
 split at hk
 ·rename_i id o n x
  obtain ⟨rfl, f, G, hf, hs, hq, hn, ⟨hfi, hid⟩, hk⟩ := hk
  refine dF_run (okFGet) (vFSet f G id n x h Q) ?_
  delta z75a z75b z75c z75d z75e
  have htop : ∀ {A B : Prop}, (¬ (n < 0) -> A) -> brS (decide (n < 0)) B A := fun ha => brS_intro (fun c => by rw [decide_eq_true_eq] at c; omega) (fun c => ha (by simpa using c))
  have gid : ∀ (g : Heap) (y : IObj), (g.set id y).get id = y := fun g y => by rw [get_set, if_pos rfl]
  have e0 : ∀ (f1 : FL) A, f1.sl ≠ [] -> (frC f1 A)[0]? = some (.hslice f1.sid 0 f1.sl.length 1) := fun f1 A he => by simp [frC, slotC, he]
  have en : ∀ (f1 : FL) A, f1.sl = [] -> (frC f1 A)[0]? = some .nilslice := fun f1 A he => by simp [frC, slotC, he]
  refine htop fun hn0 => hget_i hf (ldI_i rfl (brS_intro (fun c => ?_) (fun c1 => ⟨⟨(h, f), (by first | rfl | trivial), (by first | rfl | trivial), (by first | rfl | trivial), (by first | rfl | trivial), ?_, trivial⟩, fun y _ hy => ?_⟩)))
  ·rw [decide_eq_true_eq] at c
   have e : setF G n x = G := by
    unfold setF
    rw [List.set_eq_of_length_le (by omega)]
   rw [e] at hk
   exact hk f h hfi hf (fun z => ⟨hs z, (hid.2 z).1, .inr ⟨z, rfl⟩⟩) hq (fun _ _ _ _ => rfl) (Nat.le_refl _)
  ·exact ⟨hf, fun z => ⟨hs z, (hid.2 z).1, (hid.2 z).2, .inr ⟨z, rfl⟩⟩, hq, fun _ _ _ _ => rfl, Nat.le_refl _, hfi, hid.1⟩
  ·obtain ⟨hp, f1⟩ := y
   rw [decide_eq_false_iff_not] at c1
   have hy1 : FsOk f G id h hp f1 := hy
   have hnl := hy1.nx
   have hil := hy1.idl
   simp only
   refine hget_i hy1.at_ ?_
   by_cases he : f1.sl = []
   ·refine ldNH_n (en f1 G he) (brS_intro (fun c2 => hget_i hy1.at_ (ldNH_n (en f1 G he) (hget_i (by rw [get_push, if_neg (by omega)]; exact hy1.at_) (needS_intro rfl ⟨((hp.push (.cells (ints [0]))).set id (.cells (frC ⟨id, hp.next, [0]⟩ G)), ⟨id, hp.next, [0]⟩), (by first | rfl | trivial), (by first | rfl | trivial), (by first | rfl | trivial), (by first | rfl | trivial), ?_, ?_⟩)))) (fun c2 => ?_))
    ·have hg := grow_q hy1.qq (by rw [he]; simp; omega)
     rw [he] at hg
     exact ⟨gid _ _, fun _ => ⟨by rw [get_set, if_neg (show ¬ hp.next = id by omega)]; simp only [get_push, next_set, if_pos trivial], by simp only [next_set, next_push]; omega, by simp only; omega, .inl hnl⟩, by simpa using hg, fun k k1 k2 k3 => by rw [get_set, if_neg k2, get_push, if_neg (by omega)]; exact hy1.ot k k1 k2 k3, by simp only [next_set, next_push]; omega, rfl, hil⟩
    ·simp [he]; omega
    ·rw [decide_eq_false_iff_not] at c2; omega
   ·obtain ⟨s1, s2, s3, s4⟩ := hy1.sid he
    refine ldNH_i (e0 f1 G he) (brS_intro (fun c2 => ?_) (fun c2 => ?_))
    ·rw [decide_eq_true_eq] at c2
     have hlt : f1.sl.length < G.sl.length := by omega
     refine hget_i hy1.at_ (ldNH_i (e0 f1 G he) (hget_i s1 (needS_intro (by simp [ints_len, nbeq_t]; omega) (hget_i (by rw [get_push, if_neg (by simp only [next_set]; omega), get_set, if_neg (fun z => s3 z.symm)]; exact hy1.at_) (needS_intro rfl ⟨(((hp.set f1.sid .dead).push (.cells (ints (f1.sl ++ [0])))).set id (.cells (frC ⟨id, hp.next, f1.sl ++ [0]⟩ G)), ⟨id, hp.next, f1.sl ++ [0]⟩), (by first | rfl | trivial), (by first | rfl | trivial), (by first | rfl | trivial), ?_, ?_, ?_⟩)))))
     ·rw [Nat.mul_one, List.take_of_length_le (by rw [ints_len]; exact Nat.le_refl _)]
      simp [frC, slotC, ints]
     ·have hg := grow_q hy1.qq hlt
      exact ⟨gid _ _, fun _ => ⟨by rw [get_set, if_neg (show ¬ hp.next = id by omega)]; simp only [get_push, next_set, if_pos trivial], by simp only [next_set, next_push]; omega, by simp only; omega, .inl hnl⟩, by simpa using hg, fun k k1 k2 k3 => by
       rw [get_set, if_neg k2, get_push, if_neg (by simp only [next_set]; omega), get_set, if_neg]
       ·exact hy1.ot k k1 k2 k3
       ·intro z
        rcases s4 with z1 | ⟨z1, z2⟩
        ·omega
        ·exact k3 z1 (by rw [z, z2]), by simp only [next_set, next_push]; omega, rfl, hil⟩
     ·simp; omega
    ·rw [decide_eq_false_iff_not] at c2
     have hlt : n.toNat < f1.sl.length := by omega
     refine hget_i hy1.at_ (ldNH_i (e0 f1 G he) (needS_intro (by simp; omega) (hget_i s1 (needS_intro (by simp [ints_len]; omega) ?_))))
     rw [Nat.mul_one, Nat.zero_add, store_set (by rw [ints_len]; exact hlt)]
     have hq2 := set_q (x := x) hy1.qq hlt
     have hne : f1.sl.set n.toNat x ≠ [] := fun z => he (by have := congrArg List.length z; simpa using this)
     refine hk ⟨id, f1.sid, f1.sl.set n.toNat x⟩ _ rfl ?_ (fun _ => ⟨?_, ?_, s4⟩) ?_ (fun k k1 k2 k3 => ?_) hnl
     ·rw [get_set, if_neg (fun z => s3 z.symm), hy1.at_]
      simp [frC, slotC, he, hne, hq2.1]
      rfl
     ·rw [get_set, if_pos rfl]
      simp [ints, List.map_set]
     ·exact s2
     ·simp only [List.length_set]
      rw [hq2.1]
      exact ⟨hy1.qq.1, hq2.2⟩
     ·rw [get_set, if_neg]
      ·exact hy1.ot k k1 k2 k3
      ·intro z
       rcases s4 with z1 | ⟨z1, z2⟩
       ·omega
       ·exact k3 z1 (by rw [z, z2])
 ·exact hk.elim
def cFSet := addC 75 kFSet cFGet
theorem okFSet : Sound env cFSet := sound_add sFSet (okFGet)
end Go.Proofs.YtlenjfbmpekabaaDoor
