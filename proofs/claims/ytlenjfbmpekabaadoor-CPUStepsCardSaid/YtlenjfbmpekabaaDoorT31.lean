import Derived.Test.YtlenjfbmpekabaaDoorS31
import Derived.Test.YtlenjfbmpekabaaDoorNP31
import Derived.KernelRfl
set_option linter.unusedVariables false
set_option linter.unusedSimpArgs false
namespace Go.Proofs.YtlenjfbmpekabaaDoor
open Go.Pv Go.M29 Go.M30 Go.M31 Go.M13
def kCAcc (xs : List IV) (h : Heap) (K : IV -> Heap -> Prop) : Prop := match xs with
 | [.ptr id 0, .agg [.int .i64 op, .int .i64 a, .int .i64 b, .int .i64 c, .int .i64 n]] => ∃ (B : Bi) (s : CS) (L : Ly), Rep B s L id h /\ (validI op a b c n = true /\ (op = 34 \/ op = 35) /\ n < B.a.length) /\ ∀ (L' : Ly) (h' : Heap), Rep B (accS s ⟨op, a, b, c, n⟩) L' id h' -> Frm L L' h h' -> K (.tuple []) h'
 | _ => False
set_option maxRecDepth 100000 in
theorem vCAcc (id : Nat) (op a b c n : Int) (h : Heap) (Q : IV -> Heap -> Prop) : dF (stdS cFSet) env 57 noU noI noI [.ptr id 0, .agg [.int .i64 op, .int .i64 a, .int .i64 b, .int .i64 c, .int .i64 n]] h Q = (
 needS (decide (0 <= b) && decide (b < 8)) (hgetS h id fun r0 => ldIS .i64 r0 ((5 : Nat) + b.toNat * 1) fun n1 => ∃ (B : Bi), ∃ (s : CS), ∃ (L : Ly), Rep B s L id h /\ (0 <= n /\ n < (↑(List.length (Bi.a B)) : Int)) /\ ∀ (row : List Int), (CS.cells
 s)[n.toNat]? = some row -> (0 <= n1 /\ n1 < (↑row.length : Int) -> ∀ (j : Nat), (Ly.arr L)[n.toNat]? = some j -> brS (op == 34) (hgetS h j fun r2 => ldIS .i64 r2 n1.toNat fun n3 => needS (decide (0 <= a) && decide (a < 8)) (hgetS
 h id fun r4 => needS (Nat.ble ((5 : Nat) + a.toNat * 1 + (1 : Nat)) r4.length) (Q (.tuple []) (Heap.set h id (IObj.cells (List.take ((5 : Nat) + a.toNat * 1) r4 ++ [IV.int .i64 n3] ++ List.drop ((5 : Nat) + a.toNat * 1 + (1 : Nat)) r4))))))
 (needS (decide (0 <= a) && decide (a < 8)) (hgetS h id fun r5 => ldIS .i64 r5 ((5 : Nat) + a.toNat * 1) fun n6 => hgetS h j fun r7 => needS (Nat.ble (n1.toNat + 1) r7.length) (Q (.tuple []) (Heap.set h j (IObj.cells
 (List.take n1.toNat r7 ++ [IV.int .i64 n6] ++ List.drop (n1.toNat + 1) r7))))))) /\ (¬(0 <= n1 /\ n1 < (↑row.length : Int)) -> ∃ (B : Bi), ∃ (s : CS), ∃ (L : Ly), Rep B s L id h /\ Q (.tuple []) (Heap.set h id (IObj.cells (IV.vslice none 0 (List.length (Prod.fst
 (decA (Bi.w B)))) 5 (List.flatMap cIns (Prod.fst (decA (Bi.w B)))) :: IV.hslice (Ly.wi L) 0 (List.length (Bi.w B)) 1 :: IV.vslice (some (Ly.ei L)) (List.length (Bi.e B)) (List.length (Bi.e B)) 1 (ints (Bi.e B)) :: IV.vslice (some (Ly.si L)) (List.length (Bi.s B)) (List.length
 (Bi.s B)) 1 (ints (Bi.s B)) :: arrC B L :: (ints (CS.regs s) ++ [IV.hslice (Ly.fi L) 0 (List.length (CS.frames s)) 1, IV.int .i64 (CS.pc s), IV.int .i64 (CS.fuel s), IV.bool true, IV.int .i64 2, IV.int .i64 2, outC (CS.out s) L, IV.int
 .i64 (0 : Int)]))))))) := by kernel_rfl
set_option maxHeartbeats 4000000 in
theorem sCAcc : ∀ xs h Q, kCAcc xs h Q -> CallW env 57 xs h Q := by
 intro xs h Q hk
 unfold kCAcc at hk
 split at hk
 ·rename_i id op a b c n
  obtain ⟨B, s, L, hr, hk⟩ := hk
  refine dF_run (okFSet) (vCAcc id op a b c n h Q) ?_
  obtain ⟨⟨hv, hop, hn⟩, hk⟩ := hk
  obtain ⟨ho, ha, hb, hc, _⟩ := ok_fields hv
  have hn0 := (okin_np hv).2.1 hop
  refine ldR hr hb ⟨B, s, L, hr, ⟨by omega, hn⟩, fun row hrow => ⟨fun hx j hj => ?_, fun hx => ⟨B, s, L, hr, ?_⟩⟩⟩
  ·obtain ⟨j', row', e1, e2, e3, e4, e5, e6⟩ := arr_at hr (j := n.toNat) (by omega)
   rw [hj] at e1; cases e1
   rw [hrow] at e2; cases e2
   have hgd : s.cells.getD n.toNat [] = row := by rw [List.getD_eq_getElem?_getD, hrow]; rfl
   have hlt : (rg s b).toNat < row.length := by omega
   refine brS_intro (fun z => ?_) (fun z => ?_)
   ·rw [beq_iff_eq] at z
    have e : accS s ⟨op, a, b, c, n⟩ = setR s a (row.getD (rg s b).toNat 0) := by
     unfold accS
     simp only [hgd, if_pos hx, z, if_true]
    rw [e] at hk
    refine hget_i e4 (ldI_i (n := row.getD (rg s b).toNat 0) ?_ (stR hr ha fun h' r f => hk L h' r f))
    simp [ints, List.getD_eq_getElem?_getD, List.getElem?_eq_getElem hlt]
   ·rw [beq_eq_false_iff_ne] at z
    have e : accS s ⟨op, a, b, c, n⟩ = { s with cells := s.cells.set n.toNat (row.set (rg s b).toNat (rg s a)) } := by
     unfold accS
     simp only [hgd, if_pos hx, if_neg z]
    rw [e] at hk
    refine ldR hr ha (hget_i e4 (needS_intro (by simp only [Nat.ble_eq, ints_len]; omega) ?_))
    rw [store_set (by rw [ints_len]; exact hlt)]
    have e7 : (ints row).set (rg s b).toNat (.int .i64 (rg s a)) = ints (row.set (rg s b).toNat (rg s a)) := by simp [ints, List.map_set]
    rw [e7]
    exact hk L _ (hr.seta hj hrow (by simp)) (frm_set (by rw [e5]; simp))
  ·have hgd : s.cells.getD n.toNat [] = row := by rw [List.getD_eq_getElem?_getD, hrow]; rfl
   have e : accS s ⟨op, a, b, c, n⟩ = stopS s 2 2 0 := by
    unfold accS
    simp only [hgd, if_neg hx]
   rw [e] at hk
   exact hk L _ (hr.setc (s' := stopS s 2 2 0) rfl rfl rfl hr.rl) (frm_set (by rw [hr.cpur.1]; simp))
 ·exact hk.elim
def cCAcc := addC 57 kCAcc cFSet
theorem okCAcc : Sound env cCAcc := sound_add sCAcc (okFSet)
def kCComp (xs : List IV) (h : Heap) (K : IV -> Heap -> Prop) : Prop := match xs with
 | [.ptr id 0, .agg [.int .i64 op, .int .i64 a, .int .i64 b, .int .i64 c, .int .i64 n]] => ∃ (B : Bi) (s : CS) (L : Ly), Rep B s L id h /\ (validI op a b c n = true /\ (op = 1 \/ (9 <= op /\ op <= 33) \/ op = 36 \/ op = 37) /\ s.frames ≠ [] /\ (∀ f ∈ s.frames, f.sl.length <= 3000) /\ s.out.length <= 1000000 /\ s.frames.length <= 1000000) /\ ∀ (L' : Ly) (h' : Heap), Rep B (compS s ⟨op, a, b, c, n⟩) L' id h' -> Frm L L' h h' -> K (.tuple []) h'
 | _ => False
noncomputable def z58a (a : Int) := (5 : Nat) + a.toNat * 1 + (1 : Nat)
noncomputable def z58b (a : Int) := decide (0 <= a) && decide (a < 8)
noncomputable abbrev z58c (id : Nat) (h : Heap) (Q : IV -> Heap -> Prop) := ∃ (B : Bi), ∃ (s : CS), ∃ (L : Ly), Rep B s L id h /\ Q (.tuple []) (Heap.set h id (IObj.cells (IV.vslice none 0 (List.length (Prod.fst (decA (Bi.w B)))) 5 (List.flatMap cIns (Prod.fst (decA (Bi.w B)))) :: IV.hslice (Ly.wi L) 0 (List.length (Bi.w B)) 1 :: IV.vslice (some (Ly.ei L)) (List.length (Bi.e B)) (List.length (Bi.e B)) 1 (ints (Bi.e B)) :: IV.vslice (some (Ly.si L)) (List.length (Bi.s B)) (List.length (Bi.s B)) 1 (ints (Bi.s B)) :: arrC B L :: (ints (CS.regs s) ++ [IV.hslice (Ly.fi L) 0 (List.length (CS.frames s)) 1, IV.int .i64 (CS.pc s), IV.int .i64 (CS.fuel s), IV.bool true, IV.int .i64 2, IV.int .i64 1, outC (CS.out s) L, IV.int .i64 0]))))
noncomputable def z58d (a : Int) := (5 : Nat) + a.toNat * 1
noncomputable def z58e (b : Int) := decide (0 <= b) && decide (b < 8)
noncomputable def z58f (b : Int) := (5 : Nat) + b.toNat * 1
noncomputable def z58g (op : Int) := IntKind.wrap .i64 (IntKind.wrap .i64 (op - 17) + 4)
noncomputable abbrev z58h (f : FL) (G : Fm) := List.length (FL.sl f) <= List.length (Fm.sl G) /\ Fm.sl G = FL.sl f ++ List.replicate (List.length (Fm.sl G) - List.length (FL.sl f)) (0 : Int)
noncomputable def z58i (f : FL) (G : Fm) := [slotC f, IV.int .i64 (↑(List.length (Fm.sl G)) : Int), IV.int .i64 (Fm.back G)]
set_option maxRecDepth 100000 in
theorem vCComp (id : Nat) (op a b c n : Int) (h : Heap) (Q : IV -> Heap -> Prop) : dF (stdS cCAcc) env 58 noU noI noI [.ptr id 0, .agg [.int .i64 op, .int .i64 a, .int .i64 b, .int .i64 c, .int .i64 n]] h Q = (
 hgetS h id fun r0 => ldNHS 1 r0 13 False fun (i1 o2 l3 : Nat) => hgetS h id fun r4 => ldNHS 1 r4 13 False fun (i5 o6 l7 : Nat) => needS (decide (0 <= IntKind.wrap .i64 ((↑l7 : Int) - 1)) && decide (IntKind.wrap .i64
 ((↑l7 : Int) - 1) < (↑l3 : Int))) (hgetS h i1 fun r8 => ldPS r8 (o2 + Int.toNat (IntKind.wrap .i64 ((↑l7 : Int) - 1)) * 1) fun (i9 o10 : Nat) => brS (op == 1) (Q (.tuple []) h) (brS (op == 9) (hgetS h id fun r11 => ldNVS 1
 r11 19 (needS (z58b a) (hgetS h id fun r12 => ldIS .i64 r12 (z58d a) fun n13 => hgetS (Heap.push h (IObj.tip (1 : Nat))) id fun r14 => needS (Nat.ble 20 r14.length) (Q (.tuple []) (Heap.set (Heap.push h (IObj.tip (1 : Nat))) id (IObj.cells
 (List.take 19 r14 ++ [IV.vslice (some (Heap.next h)) 1 1 1 [IV.int .i64 n13]] ++ List.drop 20 r14)))))) fun (i15 e16 l17 : Nat) (c18 : List IV) => needS (z58b a) (hgetS h id fun r19 => ldIS .i64 r19 (z58d a) fun n20 => tipS h i15
 fun (m21 : Nat) => needS (Nat.beq m21 e16 && Nat.ble ((l17 + 1) * 8) (140737488355328 : Nat)) (hgetS (Heap.set h i15 (IObj.tip (e16 + 1))) id fun r22 => needS (Nat.ble 20 r22.length) (Q (.tuple []) (Heap.set (Heap.set h i15 (IObj.tip (e16 + 1)))
 id (IObj.cells (List.take 19 r22 ++ [IV.vslice (some i15) (e16 + 1) (l17 + 1) 1 (c18 ++ [IV.int .i64 n20])] ++ List.drop 20 r22))))))) (brS (op == 10) (needS (z58e b) (hgetS h id fun r23 => ldIS .i64 r23 (z58f b) fun (n24 : Int)
 => needS (z58b a) (hgetS h id fun r25 => needS (Nat.ble (z58a a) r25.length) (Q (.tuple []) (Heap.set h id (IObj.cells (List.take (z58d a) r25 ++ [IV.int .i64 n24] ++ List.drop (z58a a) r25))))))) (brS (op == 11) (needS (decide (0 <= c) && decide (c < 8))
 (hgetS h id fun r26 => ldIS .i64 r26 ((5 : Nat) + c.toNat * 1) fun n27 => brS (n27 == 0) (needS (z58e b) (hgetS h id fun r28 => ldIS .i64 r28 (z58f b) fun n29 => needS (z58b a) (hgetS h id fun r30 => needS (Nat.ble
 (z58a a) r30.length) (Q (.tuple []) (Heap.set h id (IObj.cells (List.take (z58d a) r30 ++ [IV.int .i64 n29] ++ List.drop (z58a a) r30))))))) (Q (.tuple []) h))) (brS (op == 12) (needS (decide (0 <= c) && decide (c < 8)) (hgetS h id fun r31 => ldIS
 .i64 r31 ((5 : Nat) + c.toNat * 1) fun n32 => brS (n32 != 0) (needS (z58e b) (hgetS h id fun r33 => ldIS .i64 r33 (z58f b) fun n34 => needS (z58b a) (hgetS h id fun r35 => needS (Nat.ble (z58a a) r35.length) (Q (.tuple
 []) (Heap.set h id (IObj.cells (List.take (z58d a) r35 ++ [IV.int .i64 n34] ++ List.drop (z58a a) r35))))))) (Q (.tuple []) h))) (brS (op == 13) (needS (z58b a) (hgetS h id fun r36 => needS (Nat.ble (z58a a) r36.length) (Q (.tuple []) (Heap.set h id (IObj.cells (List.take
 (z58d a) r36 ++ [IV.int .i64 n] ++ List.drop (z58a a) r36)))))) (brS (op == 14) (needS (z58b a) (hgetS h id fun r37 => needS (Nat.ble (z58a a) r37.length) (Q (.tuple []) (Heap.set h id (IObj.cells (List.take (z58d a) r37 ++ [IV.int .i64 n] ++ List.drop (z58a
 a) r37)))))) (brS (op == 15) (needS (z58b a) (hgetS h id fun r38 => ldIS .i64 r38 (z58d a) fun n39 => needS (z58b a) (hgetS h id fun r40 => needS (Nat.ble (z58a a) r40.length) (Q (.tuple []) (Heap.set h id (IObj.cells (List.take (z58d a) r40 ++
 [IV.int .i64 (wun (20 : Int) n39)] ++ List.drop (z58a a) r40))))))) (brS (op == 16) (needS (z58b a) (hgetS h id fun r41 => ldIS .i64 r41 (z58d a) fun n42 => needS (z58b a) (hgetS h id fun r43 => needS (Nat.ble (z58a a) r43.length) (Q (.tuple
 []) (Heap.set h id (IObj.cells (List.take (z58d a) r43 ++ [IV.int .i64 (wun (21 : Int) n42)] ++ List.drop (z58a a) r43))))))) (brS (op == 33) (needS (z58b a) (hgetS h id fun r44 => ldIS .i64 r44 (z58d a) fun n45 => needS (z58b a) (hgetS h id fun (r46 : List IV)
 => needS (Nat.ble (z58a a) r46.length) (Q (.tuple []) (Heap.set h id (IObj.cells (List.take (z58d a) r46 ++ [IV.int .i64 (IntKind.wrap .i64 (n45 + n))] ++ List.drop (z58a a) r46))))))) (brS (op == 36) (o10 = 0 /\ ∃ (f : FL), ∃ (G : Fm), Heap.get h i9 = IObj.cells
 (z58i f G) /\ (FL.sl f ≠ [] -> Heap.get h (FL.sid f) = IObj.cells (ints (FL.sl f))) /\ (z58h f G) /\ (0 <= n /\ n <= 2999 /\ List.length (Fm.sl G) <= 3000) /\ needS (z58b a) (hgetS h id fun r47 => needS (Nat.ble (z58a a) r47.length) (Q (.tuple []) (Heap.set h id (IObj.cells
 (List.take (z58d a) r47 ++ [IV.int .i64 (getF G n)] ++ List.drop (z58a a) r47)))))) (brS (op == 37) (needS (z58b a) (hgetS h id fun r48 => ldIS .i64 r48 (z58d a) fun n49 => o10 = 0 /\ ∃ (f : FL), ∃ (G : Fm), Heap.get h i9 = IObj.cells (z58i f G) /\ (FL.sl
 f ≠ [] -> Heap.get h (FL.sid f) = IObj.cells (ints (FL.sl f))) /\ (z58h f G) /\ (0 <= n /\ n <= 2999 /\ List.length (Fm.sl G) <= 3000) /\ (FL.id f = i9 /\ i9 < Heap.next h /\ (FL.sl f ≠ [] -> FL.sid f < Heap.next h /\ FL.sid f ≠ i9)) /\ ∀ (f' : FL) (h' : Heap), FL.id f' = i9 -> Heap.get h' i9
 = IObj.cells [slotC f', IV.int .i64 (↑(List.length (List.set (Fm.sl G) n.toNat n49)) : Int), IV.int .i64 (Fm.back G)] -> (FL.sl f' ≠ [] -> Heap.get h' (FL.sid f') = IObj.cells (ints (FL.sl f')) /\ FL.sid f' < Heap.next h' /\ (Heap.next h <= FL.sid f' \/ FL.sl f ≠ [] /\ FL.sid f' = FL.sid
 f)) -> List.length (FL.sl f') <= List.length (List.set (Fm.sl G) n.toNat n49) /\ List.set (Fm.sl G) n.toNat n49 = FL.sl f' ++ List.replicate (List.length (List.set (Fm.sl G) n.toNat n49) - List.length (FL.sl f')) (0 : Int) -> (∀ (k : Nat), k < Heap.next h -> k ≠ i9 -> (FL.sl f ≠ [] -> k ≠
 FL.sid f) -> Heap.get h' k = Heap.get h k) -> Heap.next h <= Heap.next h' -> Q (.tuple []) h')) (brS (op == 20) (needS (z58e b) (hgetS h id fun r50 => ldIS .i64 r50 (z58f b) fun n51 => brS (n51 == 0) (z58c id h Q) (needS (z58b a) (hgetS h id fun (r52 : List IV)
 => ldIS .i64 r52 (z58d a) fun n53 => needS (z58e b) (hgetS h id fun r54 => ldIS .i64 r54 (z58f b) fun n55 => needS (z58b a) (hgetS h id fun r56 => needS (Nat.ble (z58a a) r56.length) (Q (.tuple []) (Heap.set h id (IObj.cells (List.take (z58d
 a) r56 ++ [IV.int .i64 (wbin (z58g op) n53 n55)] ++ List.drop (z58a a) r56)))))))))) (brS (op == 21) (needS (z58e b) (hgetS h id fun r57 => ldIS .i64 r57 (z58f b) fun n58 => brS (n58 == 0) (z58c id h Q) (needS (z58b a) (hgetS h id fun (r59 : List IV)
 => ldIS .i64 r59 (z58d a) fun n60 => needS (z58e b) (hgetS h id fun r61 => ldIS .i64 r61 (z58f b) fun n62 => needS (z58b a) (hgetS h id fun r63 => needS (Nat.ble (z58a a) r63.length) (Q (.tuple []) (Heap.set h id (IObj.cells (List.take (z58d
 a) r63 ++ [IV.int .i64 (wbin (z58g op) n60 n62)] ++ List.drop (z58a a) r63)))))))))) (needS (z58b a) (hgetS h id fun r64 => ldIS .i64 r64 (z58d a) fun n65 => needS (z58e b) (hgetS h id fun r66 => ldIS .i64 r66 (z58f b) fun n67 => needS (z58b
 a) (hgetS h id fun r68 => needS (Nat.ble (z58a a) r68.length) (Q (.tuple []) (Heap.set h id (IObj.cells (List.take (z58d a) r68 ++ [IV.int .i64 (wbin (z58g op) n65 n67)] ++ List.drop (z58a a) r68))))))))))))))))))))))) := by kernel_rfl
set_option maxHeartbeats 8000000 in
set_option maxRecDepth 100000 in
theorem sCComp : ∀ xs h Q, kCComp xs h Q -> CallW env 58 xs h Q := by
 intro xs h Q hk
 unfold kCComp at hk
 split at hk
 ·rename_i id op a b c n
  obtain ⟨B, s, L, hr, hk⟩ := hk
  refine dF_run (okCAcc) (vCComp id op a b c n h Q) ?_
  delta z58a z58b z58c z58d z58e z58f z58g z58h z58i
  have hpre := hk.1
  have hk := hk.2
  have hv := hpre.1
  have hop := hpre.2.1
  have hne := hpre.2.2.1
  have hsz := hpre.2.2.2.1
  have hol := hpre.2.2.2.2.1
  have hfb := hpre.2.2.2.2.2
  obtain ⟨ho, ha, hb, hc, _⟩ := ok_fields hv
  have hnp := okin_np hv
  have hp := List.length_pos_iff.2 hne
  obtain ⟨f, t1, t2, t3, t4, t5, t6, st, t7, t8⟩ := top_at hr hne
  have hw : IntKind.i64.wrap ((s.frames.length : Int) - 1) = ((s.frames.length - 1 : Nat) : Int) := by rw [IntWalk.i64_in _ (by omega)]; omega
  refine hget_i hr.cpu (ldNH_i ((cpu_z hr.rl 0).trans rfl) (hget_i hr.cpu (ldNH_i ((cpu_z hr.rl 0).trans rfl) ?_)))
  rw [hw, Int.toNat_natCast, Nat.mul_one, Nat.zero_add]
  refine needS_intro (by simp; omega) (hget_i t7 (ldP_i t8 ?_))
  have hidn : ¬ id = h.next := by have := hr.cpur.2; omega
  have stopk : (op = 20 \/ op = 21) -> rg s b = 0 -> Q (.tuple []) (h.set id (.cells (cpuC B (stopS s 2 1 0) L))) := fun z z2 => by
   have e : compS s ⟨op, a, b, c, n⟩ = stopS s 2 1 0 := by unfold compS; rcases z with z | z <;> simp [z, z2]
   rw [e] at hk
   exact hk L _ (hr.setc (s' := stopS s 2 1 0) rfl rfl rfl hr.rl) (frm_set (by rw [hr.cpur.1]; simp))
  refine brS_intro (fun z => ?_) (fun z1 => brS_intro (fun z => ?_) (fun z2 => brS_intro (fun z => ?_) (fun z3 => brS_intro (fun z => ?_) (fun z4 => brS_intro (fun z => ?_) (fun z5 => brS_intro (fun z => ?_) (fun z6 => brS_intro (fun z => ?_) (fun z7 => brS_intro (fun z => ?_) (fun z8 => brS_intro (fun z => ?_) (fun z9 => brS_intro (fun z => ?_) (fun z10 => brS_intro (fun z => ?_) (fun z11 => brS_intro (fun z => ?_) (fun z12 => ?_))))))))))))
  all_goals simp only [beq_iff_eq, beq_eq_false_iff_ne, ne_eq] at *
  ·have e : compS s ⟨op, a, b, c, n⟩ = s := by unfold compS; simp [*]
   rw [e] at hk
   exact hk L h hr (Frm.refl L h)
  ·have e : compS s ⟨op, a, b, c, n⟩ = { s with out := s.out ++ [rg s a] } := by unfold compS; simp [z]
   rw [e] at hk
   by_cases ho2 : s.out = []
   ·obtain ⟨L', p1, p2, p3⟩ := hr.out0 ho2 (rg s a)
    refine hget_i hr.cpu (ldNV_n (cpu_out0 hr.rl ho2) (ldR hr ha (hget_i (by rw [get_push, if_neg hidn]; exact hr.cpu) (needS_intro (by simp only [Nat.ble_eq, cpu_len2, hr.rl]; omega) ?_))))
    rw [store_set (by simp only [cpu_len2, hr.rl]; omega), <- p1]
    exact hk L' _ p2 p3
   ·obtain ⟨o1, o2, o3⟩ := hr.out ho2
    obtain ⟨p1, p2, p3⟩ := hr.out1 ho2 (rg s a)
    have hoc : ¬ id = L.oi := fun z => by rw [<- z, hr.cpur.1] at o2; cases o2
    refine hget_i hr.cpu (ldNV_i (cpu_out1 hr.rl ho2) (ldR hr ha (tip_i o1 (needS_intro (by simp [nbeq_t]; omega) (hget_i (by rw [get_set, if_neg hoc]; exact hr.cpu) (needS_intro (by simp only [Nat.ble_eq, cpu_len2, hr.rl]; omega) ?_))))))
    rw [store_set (by simp only [cpu_len2, hr.rl]; omega), <- p1]
    exact hk L _ p2 p3
  ·have e : compS s ⟨op, a, b, c, n⟩ = setR s a (rg s b) := by unfold compS; simp [*]
   rw [e] at hk
   exact ldR hr hb (stR hr ha fun h' r f => hk L h' r f)
  ·refine ldR hr hc (brS_intro (fun y => ?_) (fun y => ?_))
   ·rw [beq_iff_eq] at y
    have e : compS s ⟨op, a, b, c, n⟩ = setR s a (rg s b) := by unfold compS; simp [*]
    rw [e] at hk
    exact ldR hr hb (stR hr ha fun h' r f => hk L h' r f)
   ·rw [beq_eq_false_iff_ne] at y
    have e : compS s ⟨op, a, b, c, n⟩ = s := by unfold compS; simp [*]
    rw [e] at hk
    exact hk L h hr (Frm.refl L h)
  ·refine ldR hr hc (brS_intro (fun y => ?_) (fun y => ?_))
   ·rw [bne_iff_ne] at y
    have e : compS s ⟨op, a, b, c, n⟩ = setR s a (rg s b) := by unfold compS; simp [*]
    rw [e] at hk
    exact ldR hr hb (stR hr ha fun h' r f => hk L h' r f)
   ·rw [bne_eq_false_iff_eq] at y
    have e : compS s ⟨op, a, b, c, n⟩ = s := by unfold compS; simp [*]
    rw [e] at hk
    exact hk L h hr (Frm.refl L h)
  ·have e : compS s ⟨op, a, b, c, n⟩ = setR s a n := by unfold compS; simp [*]
   rw [e] at hk
   exact stR hr ha fun h' r f => hk L h' r f
  ·have e : compS s ⟨op, a, b, c, n⟩ = setR s a n := by unfold compS; simp [*]
   rw [e] at hk
   exact stR hr ha fun h' r f => hk L h' r f
  ·have e : compS s ⟨op, a, b, c, n⟩ = setR s a (wun 20 (rg s a)) := by unfold compS; simp [*]
   rw [e] at hk
   exact ldR hr ha (stR hr ha fun h' r f => hk L h' r f)
  ·have e : compS s ⟨op, a, b, c, n⟩ = setR s a (wun 21 (rg s a)) := by unfold compS; simp [*]
   rw [e] at hk
   exact ldR hr ha (stR hr ha fun h' r f => hk L h' r f)
  ·have e : compS s ⟨op, a, b, c, n⟩ = setR s a (IntKind.i64.wrap (rg s a + n)) := by unfold compS; simp [*]
   rw [e] at hk
   exact ldR hr ha (stR hr ha fun h' r f => hk L h' r f)
  ·have e : compS s ⟨op, a, b, c, n⟩ = setR s a (getF (topF s) n) := by unfold compS; simp [*]
   rw [e] at hk
   exact ⟨(by first | rfl | trivial), f, topF s, t2, fun y => (t5 y).1, t6, ⟨(hnp.2.2 (.inl z)).1, (hnp.2.2 (.inl z)).2, hsz _ (topF_mem hne)⟩, stR hr ha fun h' r f => hk L h' r f⟩
  ·have e : compS s ⟨op, a, b, c, n⟩ = setTop s (setF (topF s) n (rg s a)) := by unfold compS; simp [*]
   rw [e] at hk
   refine ldR hr ha ⟨(by first | rfl | trivial), f, topF s, t2, fun y => (t5 y).1, t6, ⟨(hnp.2.2 (.inr z)).1, (hnp.2.2 (.inr z)).2, hsz _ (topF_mem hne)⟩, ⟨(by first | rfl | trivial), t4, fun y => ⟨(t5 y).2.2, fun y2 => by have := (t5 y).2.1; rw [y2, t3] at this; cases this⟩⟩, fun f' h' g1 g2 g3 g4 g5 g6 => ?_⟩
   obtain ⟨L', r, fm⟩ := hr.setf hne t1 g1 g2 g3 g4 g5 g6
   exact hk L' h' r fm
  ·have hbin : ¬ ((op = 20 \/ op = 21) /\ rg s b = 0) -> compS s ⟨op, a, b, c, n⟩ = setR s a (wbin (IntKind.i64.wrap (IntKind.i64.wrap (op - 17) + 4)) (rg s a) (rg s b)) := fun y => by
    unfold compS
    simp only [z1, z2, z3, z4, z5, z6, z7, z8, z9, z10, z11, z12, if_false, or_self, if_neg y]
   refine brS_intro (fun z => ?_) (fun y1 => brS_intro (fun z => ?_) (fun y2 => ?_))
   ·rw [beq_iff_eq] at z
    refine ldR hr hb (brS_intro (fun y => ?_) (fun y => ?_))
    ·rw [beq_iff_eq] at y
     exact ⟨B, s, L, hr, stopk (.inl z) y⟩
    ·rw [beq_eq_false_iff_ne] at y
     rw [hbin (fun q => y q.2)] at hk
     exact ldR hr ha (ldR hr hb (stR hr ha fun h' r f => hk L h' r f))
   ·rw [beq_iff_eq] at z
    refine ldR hr hb (brS_intro (fun y => ?_) (fun y => ?_))
    ·rw [beq_iff_eq] at y
     exact ⟨B, s, L, hr, stopk (.inr z) y⟩
    ·rw [beq_eq_false_iff_ne] at y
     rw [hbin (fun q => y q.2)] at hk
     exact ldR hr ha (ldR hr hb (stR hr ha fun h' r f => hk L h' r f))
   ·rw [beq_eq_false_iff_ne] at y1 y2
    rw [hbin (fun q => q.1.elim y1 y2)] at hk
    exact ldR hr ha (ldR hr hb (stR hr ha fun h' r f => hk L h' r f))
 ·exact hk.elim
def cCComp := addC 58 kCComp cCAcc
theorem okCComp : Sound env cCComp := sound_add sCComp (okCAcc)
end Go.Proofs.YtlenjfbmpekabaaDoor
