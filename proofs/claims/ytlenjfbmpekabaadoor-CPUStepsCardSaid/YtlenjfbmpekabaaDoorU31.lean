import Derived.Test.YtlenjfbmpekabaaDoorT31
import Derived.Test.YtlenjfbmpekabaaDoorNP31
import Derived.KernelRfl
set_option linter.unusedVariables false
set_option linter.unusedSimpArgs false
namespace Go.Proofs.YtlenjfbmpekabaaDoor
open Go.Pv Go.M29 Go.M30 Go.M31 Go.M13
def cjInv (B : Bi) (s : CS) (L : Ly) (id : Nat) (op a b c n nx : Int) (h : Heap) : Inv' := atX (Nat × Heap) (fun x => [(0, .v (.ptr id 0)), (2, .v (.int .i64 nx)), (7, .v (.ptr id 5)), (4, .l 4 0), (8, .v (.int .i64 x.1))]) (fun _ => [(4, [.int .i64 op, .int .i64 a, .int .i64 b, .int .i64 c, .int .i64 n])]) (fun x => x.2) (fun x => CallOk B s L id a n nx h x.1 x.2) (fun x => 8 - x.1)
def kCJump (xs : List IV) (h : Heap) (K : IV -> Heap -> Prop) : Prop := match xs with
 | [.ptr id 0, .agg [.int .i64 op, .int .i64 a, .int .i64 b, .int .i64 c, .int .i64 n], .int .i64 nx] => ∃ (B : Bi) (s : CS) (L : Ly), Rep B s L id h /\ (validI op a b c n = true /\ (op = 2 \/ op = 6 \/ op = 5 \/ op = 7 \/ op = 8) /\ s.frames ≠ [] /\ s.frames.length <= 1000000 /\ (op = 6 -> n < B.e.length /\ n < B.s.length /\ 0 <= B.s.getD n.toNat 0)) /\ ∀ (L' : Ly) (h' : Heap), Rep B (jumpS B s ⟨op, a, b, c, n⟩ nx).1 L' id h' -> Frm L L' h h' -> K (.int .i64 (jumpS B s ⟨op, a, b, c, n⟩ nx).2) h'
 | _ => False
noncomputable def z55a (i20 o21 l26 : Nat) (r27 : List IV) := IObj.cells (List.take 13 r27 ++ [IV.hslice i20 (o21 + 0) (Int.toNat (IntKind.wrap .i64 ((↑l26 : Int) - 1)) - 0) 1] ++ List.drop 14 r27)
noncomputable def z55b (op a b c n : Int) := [IV.int .i64 op, IV.int .i64 a, IV.int .i64 b, IV.int .i64 c, IV.int .i64 n]
noncomputable def z55c (nx n40 : Int) (h : Heap) := Heap.push h (IObj.cells [IV.nilslice, IV.int .i64 n40, IV.int .i64 nx])
noncomputable def z55d (nx : Int) := IV.int .i64 nx
noncomputable def z55e  := TV.l 4 0
set_option maxRecDepth 100000 in
theorem vCJump (B : Bi) (s : CS) (L : Ly) (id : Nat) (op a b c n nx : Int) (h : Heap) (Q : IV -> Heap -> Prop) : dF (stdS cCComp) env 55 noU (ic1 14 (cjInv B s L id op a b c n nx h)) noI [.ptr id 0, .agg [.int .i64 op, .int .i64 a, .int .i64 b, .int .i64 c, .int .i64 n], .int .i64 nx] h Q = (
 brS (op == 2) (hgetS h id fun r0 => ldNHS 1 r0 13 False fun (i1 o2 l3 : Nat) => brS ((↑l3 : Int) == 1) (hgetS h id fun r4 => ldIS .i64 r4 5 fun n5 => ∃ (B : Bi), ∃ (s : CS), ∃ (L : Ly), Rep B s L id h /\ Q (z55d nx) (Heap.set
 h id (IObj.cells (IV.vslice none 0 (List.length (Prod.fst (decA (Bi.w B)))) 5 (List.flatMap cIns (Prod.fst (decA (Bi.w B)))) :: IV.hslice (Ly.wi L) 0 (List.length (Bi.w B)) 1 :: IV.vslice (some (Ly.ei L)) (List.length (Bi.e B)) (List.length (Bi.e B)) 1 (ints (Bi.e
 B)) :: IV.vslice (some (Ly.si L)) (List.length (Bi.s B)) (List.length (Bi.s B)) 1 (ints (Bi.s B)) :: arrC B L :: (ints (CS.regs s) ++ [IV.hslice (Ly.fi L) 0 (List.length (CS.frames s)) 1, IV.int .i64 (CS.pc s), IV.int .i64 (CS.fuel s), IV.bool true, IV.int .i64
 (1 : Int), IV.int .i64 0, outC (CS.out s) L, IV.int .i64 n5]))))) (hgetS h id fun r6 => ldNHS 1 r6 13 False fun (i7 o8 l9 : Nat) => hgetS h id fun r10 => ldNHS 1 r10 13 False fun (i11 o12 l13 : Nat) => needS (decide ((0 : Int)
 <= IntKind.wrap .i64 ((↑l13 : Int) - 1)) && decide (IntKind.wrap .i64 ((↑l13 : Int) - 1) < (↑l9 : Int))) (hgetS h i7 fun r14 => ldPS r14 (o8 + Int.toNat (IntKind.wrap .i64 ((↑l13 : Int) - 1)) * 1) fun (i15 o16 : Nat) => hgetS h i15 fun (r17
 : List IV) => ldIS .i64 r17 (o16 + 2) fun n18 => hgetS h id fun r19 => ldNHS 1 r19 13 False fun (i20 o21 l22 : Nat) => hgetS h id fun r23 => ldNHS 1 r23 13 False fun (i24 o25 l26 : Nat) => needS (true && (decide ((0 : Int)
 <= IntKind.wrap .i64 ((↑l26 : Int) - 1)) && decide (IntKind.wrap .i64 ((↑l26 : Int) - 1) <= (↑l22 : Int)))) (hgetS h id fun r27 => needS (Nat.ble 14 r27.length) (hgetS (Heap.set h id (z55a i20 o21 l26 r27)) id fun r28 => ldIS .i64
 r28 5 fun n29 => hgetS (Heap.set h id (z55a i20 o21 l26 r27)) id fun r30 => needS (Nat.ble 13 r30.length) (Q (.int .i64 n18) (Heap.set (Heap.set h id (z55a i20 o21 l26 r27)) id (IObj.cells (List.take 5 r30 ++ [IV.int .i64 n29, IV.int
 .i64 (0 : Int), IV.int .i64 0, IV.int .i64 0, IV.int .i64 0, IV.int .i64 0, IV.int .i64 0, IV.int .i64 0] ++ List.drop 13 r30))))))))) (brS (op == 6) (hgetS h id fun r31 => ldNHS
 (1 : Nat) r31 (13 : Nat) False fun (i32 o33 l34 : Nat) => hgetS h id fun r35 => ldVS 1 r35 3 fun (i36 : Option Nat) (e37 l38 : Nat) (c39 : List IV) => needS (decide (0 <= n) && decide (n < (↑l38 : Int))) (ldIS .i64 c39 (n.toNat * 1) fun (n40 : Int)
 => sameAt h (z55c nx n40 h) (some id) /\ hgetS (z55c nx n40 h) i32 fun r41 => needS (Nat.beq o33 (0 : Nat) && (Nat.ble (l34 * 1) r41.length && Nat.ble ((l34 + 1) * 8) (140737488355328 : Nat))) (hgetS (Heap.push (Heap.set (z55c nx n40 h) i32 IObj.dead) (IObj.cells
 (List.take (l34 * 1) r41 ++ [IV.ptr (Heap.next h) 0]))) id fun r42 => needS (Nat.ble 14 r42.length) ((∃ (x : Nat × Heap), some (TV.v (.ptr id 0)) = some (TV.v (.ptr id 0)) /\ some (TV.v (z55d nx)) = some (TV.v (z55d nx)) /\ some (TV.v (.ptr
 id (5 : Nat))) = some (TV.v (.ptr id 5)) /\ some z55e = some z55e /\ some (TV.v (.int .i64 a)) = some (TV.v (.int .i64 (↑x.1 : Int))) /\ some (z55b op a b c n) = some (z55b op a b c n) /\ Heap.set (Heap.push (Heap.set (z55c nx n40 h) i32 IObj.dead) (IObj.cells (List.take
 (l34 * 1) r41 ++ [IV.ptr (Heap.next h) 0]))) id (IObj.cells (List.take 13 r42 ++ [IV.hslice (Heap.next h + 1) 0 (l34 + 1) 1] ++ List.drop 14 r42)) = x.2 /\ CallOk B s L id a n nx h x.1 x.2 /\ True) /\ ∀ (x : Nat × Heap)
 (b_1 : FF), CallOk B s L id a n nx h x.1 x.2 -> brS (decide ((↑x.1 : Int) < 8)) (needS (decide (0 <= (↑x.1 : Int)) && decide ((↑x.1 : Int) < 8)) (hgetS x.2 id fun r43 => needS (Nat.ble ((5 : Nat) + Int.toNat (↑(Prod.fst
 x) : Int) * 1 + (1 : Nat)) r43.length) (∃ (x_1 : Nat × Heap), some (TV.v (.ptr id 0)) = some (TV.v (.ptr id 0)) /\ some (TV.v (z55d nx)) = some (TV.v (z55d nx)) /\ some (TV.v (.ptr id 5)) = some (TV.v (.ptr id 5)) /\ some z55e = some z55e /\ some (TV.v
 (IV.int .i64 (IntKind.wrap .i64 ((↑x.1 : Int) + 1)))) = some (TV.v (.int .i64 (↑x_1.1 : Int))) /\ some (z55b op a b c n) = some (z55b op a b c n) /\ Heap.set x.2 id (IObj.cells (List.take ((5 : Nat) + Int.toNat (↑x.1 : Int) * 1)
 r43 ++ [IV.int .i64 0] ++ List.drop ((5 : Nat) + Int.toNat (↑x.1 : Int) * 1 + (1 : Nat)) r43)) = x_1.2 /\ CallOk B s L id a n nx h x_1.1 x_1.2 /\ (8 : Nat) - x_1.1 < 8 - x.1))) (hgetS x.2 id fun r44 => ldVS
 (1 : Nat) r44 2 fun (i45 : Option Nat) (e46 l47 : Nat) (c48 : List IV) => needS (decide (0 <= n) && decide (n < (↑l47 : Int))) (ldIS .i64 c48 (n.toNat * 1) fun n49 => Q (.int .i64 n49) x.2)))))) (brS (op == 5) (hgetS h id fun (r50 :
 List IV) => ldIS .i64 r50 14 fun n51 => Q (.int .i64 (IntKind.wrap .i64 (n51 + n))) h) (brS (op == 7) (needS (decide (0 <= a) && decide (a < 8)) (hgetS h id fun r52 => ldIS .i64 r52 ((5 : Nat) + a.toNat * 1)
 fun n53 => brS (n53 == 0) (hgetS h id fun r54 => ldIS .i64 r54 14 fun n55 => Q (.int .i64 (IntKind.wrap .i64 (n55 + n))) h) (Q (z55d nx) h))) (brS (op == 8) (needS (decide (0 <= a) && decide (a < 8)) (hgetS h id
 fun r56 => ldIS .i64 r56 ((5 : Nat) + a.toNat * 1) fun n57 => brS (n57 != 0) (hgetS h id fun r58 => ldIS .i64 r58 14 fun n59 => Q (.int .i64 (IntKind.wrap .i64 (n59 + n))) h) (Q (z55d nx) h))) (Q (z55d nx)
 h)))))) := by kernel_rfl
set_option maxHeartbeats 8000000 in
set_option maxRecDepth 100000 in
theorem sCJump : ∀ xs h Q, kCJump xs h Q -> CallW env 55 xs h Q := by
 intro xs h Q hk
 unfold kCJump at hk
 split at hk
 ·rename_i id op a b c n nx
  obtain ⟨B, s, L, hr, hk⟩ := hk
  refine dF_run (okCComp) (vCJump B s L id op a b c n nx h Q) ?_
  delta z55a z55b z55c z55d z55e
  have hpre := hk.1
  have hk := hk.2
  have hv := hpre.1
  have hop := hpre.2.1
  have hne := hpre.2.2.1
  have hfb := hpre.2.2.2.1
  have h6 := hpre.2.2.2.2
  obtain ⟨ho, ha, hb, hc, _⟩ := ok_fields hv
  have hnp := okin_np hv
  have hp := List.length_pos_iff.2 hne
  obtain ⟨f, t1, t2, t3, t4, t5, t6, st, t7, t8⟩ := top_at hr hne
  have tn : ∀ x : Nat, (x : Int).toNat = x := Int.toNat_natCast
  have hw : IntKind.i64.wrap ((s.frames.length : Int) - 1) = ((s.frames.length - 1 : Nat) : Int) := by rw [IntWalk.i64_in _ (by omega)]; omega
  have hZ : (cpuC B s L)[13]? = some (.hslice L.fi 0 s.frames.length 1) := (cpu_z hr.rl 0).trans rfl
  have gid : ∀ (g : Heap) (y : IObj), (g.set id y).get id = y := fun g y => by rw [get_set, if_pos rfl]
  have hcn := hr.cpur.2
  have hidn : ¬ id = h.next := by omega
  refine brS_intro (fun z => ?_) (fun z2 => brS_intro (fun z => ?_) (fun z6 => brS_intro (fun z => ?_) (fun z5 => brS_intro (fun z => ?_) (fun z7 => brS_intro (fun z => ?_) (fun z8 => ?_)))))
  ·rw [beq_iff_eq] at z
   subst z
   refine hget_i hr.cpu (ldNH_i hZ (brS_intro (fun y => ?_) (fun y => ?_)))
   ·rw [beq_iff_eq] at y
    have hl1 : s.frames.length = 1 := by omega
    have e : jumpS B s ⟨2, a, b, c, n⟩ nx = (stopS s 1 0 (rg s 0), nx) := by unfold jumpS; simp [hl1]
    rw [e] at hk
    refine hget_i hr.cpu (ldI_i (cpu_reg hr.rl (a := 0) (by omega)) ⟨B, s, L, hr, ?_⟩)
    exact hk L _ (hr.setc (s' := stopS s 1 0 (rg s 0)) rfl rfl rfl hr.rl) (frm_set (by rw [hr.cpur.1]; simp))
   ·rw [beq_eq_false_iff_ne] at y
    have hl1 : ¬ s.frames.length = 1 := by omega
    have e : jumpS B s ⟨2, a, b, c, n⟩ nx = ({ s with frames := s.frames.dropLast, regs := [rg s 0, 0, 0, 0, 0, 0, 0, 0] }, (topF s).back) := by unfold jumpS; simp [hl1]
    rw [e] at hk
    obtain ⟨p1, p2, p3⟩ := hr.pop hne [rg s 0, 0, 0, 0, 0, 0, 0, 0] rfl
    refine hget_i hr.cpu (ldNH_i hZ (hget_i hr.cpu (ldNH_i hZ ?_)))
    rw [hw, tn, Nat.mul_one, Nat.zero_add]
    refine needS_intro (by simp <;> omega) (hget_i t7 (ldP_i t8 (hget_i t2 (ldI_i (n := (topF s).back) rfl (hget_i hr.cpu (ldNH_i hZ (hget_i hr.cpu (ldNH_i hZ ?_))))))))
    rw [hw]
    refine needS_intro (by simp <;> omega) (hget_i hr.cpu (needS_intro (by simp only [Nat.ble_eq, cpu_len2, hr.rl]; omega) ?_))
    rw [tn, Nat.add_zero, Nat.sub_zero, store_set (by simp only [cpu_len2, hr.rl]; omega), <- p1]
    refine hget_i (gid _ _) (ldI_i (cpu_reg (s := { s with frames := s.frames.dropLast }) hr.rl (a := 0) (by omega)) (hget_i (gid _ _) (needS_intro (by simp only [Nat.ble_eq, cpu_len2, hr.rl]; omega) ?_)))
    have e8 := cpu_regs8 (B := B) (s := { s with frames := s.frames.dropLast }) (L := { L with fl := L.fl.dropLast }) hr.rl [rg s 0, 0, 0, 0, 0, 0, 0, 0]
    have e9 : Q (.int .i64 (topF s).back) ((h.set id (.cells (cpuC B { s with frames := s.frames.dropLast } { L with fl := L.fl.dropLast }))).set id (.cells (cpuC B { s with frames := s.frames.dropLast, regs := [rg s 0, 0, 0, 0, 0, 0, 0, 0] } { L with fl := L.fl.dropLast }))) := by
     rw [Heap.set_set]
     exact hk _ _ p2 p3
    rw [<- e8] at e9
    exact e9
  ·rw [beq_iff_eq] at z
   subst z
   obtain ⟨h6a, h6b, h6c⟩ := h6 rfl
   have hn := (hnp.1 rfl).1
   have hs1 : n.toNat < B.s.length := by omega
   have he1 : n.toNat < B.e.length := by omega
   have hgs : (ints B.s)[n.toNat]? = some (.int .i64 (B.s.getD n.toNat 0)) := by simp [ints, List.getD_eq_getElem?_getD, List.getElem?_eq_getElem hs1]
   have hge : (ints B.e)[n.toNat]? = some (.int .i64 (B.e.getD n.toNat 0)) := by simp [ints, List.getD_eq_getElem?_getD, List.getElem?_eq_getElem he1]
   have e : jumpS B s ⟨6, a, b, c, n⟩ nx = ({ s with frames := s.frames ++ [⟨List.replicate (B.s.getD n.toNat 0).toNat 0, nx⟩], regs := clearR s.regs a }, B.e.getD n.toNat 0) := by unfold jumpS; simp
   rw [e] at hk
   obtain ⟨L1, p1, p2, p3⟩ := hr.push (nx := nx) h6c t7
   have hlen : ((ptrs L.fl ++ st)).length >= s.frames.length := by simp [ptrs, hr.fl]
   have hfn := hr.frr.2
   have hfid : ¬ id = L.fi := fun q => by have := hr.frr.1; rw [<- q, hr.cpur.1] at this; cases this
   refine hget_i hr.cpu (ldNH_i hZ (hget_i hr.cpu (ldV_i ((cpu_a 3 (by omega)).trans rfl) (needS_intro (by simp <;> omega) ?_))))
   rw [Nat.mul_one]
   refine ldI_i hgs ⟨?_, hget_i (by rw [get_push, if_neg (by omega)]; exact t7) (needS_intro (by rw [Bool.and_eq_true, Bool.and_eq_true, nbeq_t, Nat.ble_eq, Nat.ble_eq]; omega) (hget_i (by rw [get_push, if_neg (by simp only [next_set, next_push]; omega), get_set, if_neg hfid, get_push, if_neg hidn]; exact hr.cpu) (needS_intro (by simp only [Nat.ble_eq, cpu_len2, hr.rl]; omega) ?_)))⟩
   ·show (h.push _).get id = h.get id
    rw [get_push, if_neg hidn]
   ·rw [Nat.mul_one, store_set (by simp only [cpu_len2, hr.rl]; omega), <- p1]
    refine ⟨⟨(a.toNat, _), (by first | rfl | trivial), (by first | rfl | trivial), (by first | rfl | trivial), (by first | rfl | trivial), ?_, (by first | rfl | trivial), rfl, ⟨⟨Nat.le_refl _, by simp only; omega⟩, L1, ?_, p3⟩, trivial⟩, fun x _ hx => ?_⟩
    ·simp only; rw [Int.toNat_of_nonneg ha.1]
    ·rw [clr_init (by rw [hr.rl]; omega)]
     exact p2
    ·obtain ⟨k, hp2⟩ := x
     have hx' : CallOk B s L id a n nx h k hp2 := hx
     obtain ⟨⟨k1, k2⟩, L2, r2, f2⟩ := hx'
     simp only [tn, Nat.mul_one]
     refine brS_intro (fun y => ?_) (fun y => ?_)
     ·rw [decide_eq_true_eq] at y
      have hk8 : k < 8 := by omega
      have hcl := clr_len (k := k) hr.rl ⟨k1, k2⟩
      refine needS_intro (by simp <;> omega) (hget_i r2.cpu (needS_intro (by simp only [Nat.ble_eq, cpu_len2, hcl]; omega) ?_))
      rw [store_set (by simp only [cpu_len2, hcl]; omega)]
      have e5 := cpu_setreg (B := B) (L := L2) (s := { s with frames := s.frames ++ [⟨List.replicate (B.s.getD n.toNat 0).toNat 0, nx⟩], regs := clr s.regs a.toNat k }) hcl (a := (k : Int)) (by omega) 0
      rw [tn] at e5
      have e6 : setR { s with frames := s.frames ++ [⟨List.replicate (B.s.getD n.toNat 0).toNat 0, nx⟩], regs := clr s.regs a.toNat k } (k : Int) 0 = { s with frames := s.frames ++ [⟨List.replicate (B.s.getD n.toNat 0).toNat 0, nx⟩], regs := clr s.regs a.toNat (k + 1) } := by
       unfold setR
       simp only [tn]
       rw [clr_step hr.rl ⟨k1, hk8⟩]
      rw [e6] at e5
      rw [e5]
      exact ⟨(k + 1, _), (by first | rfl | trivial), (by first | rfl | trivial), (by first | rfl | trivial), (by first | rfl | trivial), (by simp only; rw [IntWalk.i64_in _ (by omega)]; rfl), (by first | rfl | trivial), rfl, ⟨⟨by omega, by omega⟩, L2, r2.setc rfl rfl rfl (clr_len hr.rl ⟨by omega, by omega⟩), f2.trans (frm_set (by rw [r2.cpur.1]; simp))⟩, by simp only; omega⟩
     ·rw [decide_eq_false_iff_not] at y
      have hk8 : k = 8 := by omega
      subst hk8
      rw [clr_end hr.rl] at r2
      refine hget_i r2.cpu (ldV_i ((cpu_a 2 (by omega)).trans rfl) (needS_intro (by simp <;> omega) (ldI_i hge ?_)))
      exact hk L2 _ r2 f2
  ·rw [beq_iff_eq] at z
   subst z
   have e : jumpS B s ⟨5, a, b, c, n⟩ nx = (s, IntKind.i64.wrap (s.pc + n)) := by unfold jumpS; simp
   rw [e] at hk
   refine hget_i hr.cpu (ldI_i ((cpu_z hr.rl 1).trans rfl) ?_)
   exact hk L h hr (Frm.refl L h)
  ·rw [beq_iff_eq] at z
   subst z
   have e : jumpS B s ⟨7, a, b, c, n⟩ nx = if rg s a = 0 then (s, IntKind.i64.wrap (s.pc + n)) else (s, nx) := by unfold jumpS; simp
   rw [e] at hk
   refine ldR hr ha (brS_intro (fun y => ?_) (fun y => ?_))
   ·rw [beq_iff_eq] at y
    rw [if_pos y] at hk
    refine hget_i hr.cpu (ldI_i ((cpu_z hr.rl 1).trans rfl) ?_)
    exact hk L h hr (Frm.refl L h)
   ·rw [beq_eq_false_iff_ne] at y
    rw [if_neg y] at hk
    exact hk L h hr (Frm.refl L h)
  ·rw [beq_iff_eq] at z
   subst z
   have e : jumpS B s ⟨8, a, b, c, n⟩ nx = if rg s a = 0 then (s, nx) else (s, IntKind.i64.wrap (s.pc + n)) := by unfold jumpS; simp
   rw [e] at hk
   refine ldR hr ha (brS_intro (fun y => ?_) (fun y => ?_))
   ·rw [bne_iff_ne] at y
    rw [if_neg y] at hk
    refine hget_i hr.cpu (ldI_i ((cpu_z hr.rl 1).trans rfl) ?_)
    exact hk L h hr (Frm.refl L h)
   ·rw [bne_eq_false_iff_eq] at y
    rw [if_pos y] at hk
    exact hk L h hr (Frm.refl L h)
  ·simp only [beq_eq_false_iff_ne, ne_eq] at z2 z6 z5 z7 z8
   omega
 ·exact hk.elim
def cCJump := addC 55 kCJump cCComp
theorem okCJump : Sound env cCJump := sound_add sCJump (okCComp)
end Go.Proofs.YtlenjfbmpekabaaDoor
