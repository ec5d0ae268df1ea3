import Derived.Test.YtlenjfbmpekabaaDoorU31
import Derived.Test.YtlenjfbmpekabaaDoorNP31
import Derived.KernelRfl
set_option linter.unusedVariables false
set_option linter.unusedSimpArgs false
namespace Go.Proofs.YtlenjfbmpekabaaDoor
open Go.Pv Go.M29 Go.M30 Go.M31 Go.M13
theorem stF {B : Bi} {s2 : CS} {L2 : Ly} {id : Nat} {h2 : Heap} {nx : Int} {Q : IV -> Heap -> Prop} (hr : Rep B s2 L2 id h2) (hq : ∀ h', Rep B (finS (s2, nx)) L2 id h' -> Frm L2 L2 h2 h' -> Q (.bool true) h') :
  hgetS h2 id fun r => ldBS r 16 fun b => brS (!b) (hgetS h2 id fun r' => needS (Nat.ble 15 r'.length) (Q (.bool true) (h2.set id (.cells (r'.take 14 ++ [.int .i64 nx] ++ r'.drop 15))))) (Q (.bool true) h2) := by
 refine hget_i hr.cpu (ldB_i ((cpu_z hr.rl 3).trans rfl) (brS_intro (fun y => ?_) (fun y => ?_)))
 ·have ho : s2.over = false := by simpa using y
  refine hget_i hr.cpu (needS_intro (by simp only [Nat.ble_eq, cpu_len2, hr.rl]; omega) ?_)
  rw [store_set (by simp only [cpu_len2, hr.rl]; omega), cpu_setz hr.rl 1 (.int .i64 nx) { s2 with pc := nx } L2 rfl rfl rfl]
  have e : finS (s2, nx) = { s2 with pc := nx } := by unfold finS; simp [ho]
  rw [e] at hq
  exact hq _ (hr.setc rfl rfl rfl hr.rl) (frm_set (by rw [hr.cpur.1]; simp))
 ·have ho : s2.over = true := by simpa using y
  have e : finS (s2, nx) = s2 := by unfold finS; simp [ho]
  rw [e] at hq
  exact hq _ hr (Frm.refl _ _)
def kCStep (xs : List IV) (h : Heap) (K : IV -> Heap -> Prop) : Prop := match xs with
 | [.ptr id 0] => ∃ (B : Bi) (s : CS) (L : Ly), Rep B s L id h /\ (VB B /\ (∀ x ∈ B.w, u32b x) /\ WF B s /\ s.out.length <= 1000000 /\ s.frames.length <= 1000000) /\ ∀ (L' : Ly) (h' : Heap), Rep B (stepS B s) L' id h' -> Frm L L' h h' -> K (.bool (!s.over)) h'
 | _ => False
noncomputable def z27a (id : Nat) (h : Heap) (B : Bi) (s : CS) (L : Ly) := Heap.set h id (IObj.cells (IV.vslice none 0 (List.length (Prod.fst (decA (Bi.w B)))) 5 (List.flatMap cIns (Prod.fst (decA (Bi.w B)))) :: IV.hslice (Ly.wi L) 0 (List.length (Bi.w B)) 1 :: IV.vslice (some (Ly.ei L)) (List.length (Bi.e B)) (List.length (Bi.e B)) 1 (ints (Bi.e B)) :: IV.vslice (some (Ly.si L)) (List.length (Bi.s B)) (List.length (Bi.s B)) 1 (ints (Bi.s B)) :: arrC B L :: (ints (CS.regs s) ++ [IV.hslice (Ly.fi L) 0 (List.length (CS.frames s)) 1, IV.int .i64 (CS.pc s), IV.int .i64 (CS.fuel s), IV.bool true, IV.int .i64 3, IV.int .i64 0, outC (CS.out s) L, IV.int .i64 0])))
noncomputable def z27b (id : Nat) (h : Heap) (n19 : Int) (B : Bi) (s : CS) (L : Ly) := Heap.set h id (IObj.cells (IV.vslice none 0 (List.length (Prod.fst (decA (Bi.w B)))) 5 (List.flatMap cIns (Prod.fst (decA (Bi.w B)))) :: IV.hslice (Ly.wi L) 0 (List.length (Bi.w B)) 1 :: IV.vslice (some (Ly.ei L)) (List.length (Bi.e B)) (List.length (Bi.e B)) 1 (ints (Bi.e B)) :: IV.vslice (some (Ly.si L)) (List.length (Bi.s B)) (List.length (Bi.s B)) 1 (ints (Bi.s B)) :: arrC B L :: (ints (CS.regs s) ++ [IV.hslice (Ly.fi L) 0 (List.length (CS.frames s)) 1, IV.int .i64 (CS.pc s), IV.int .i64 (CS.fuel s), IV.bool true, IV.int .i64 2, IV.int .i64 n19, outC (CS.out s) L, IV.int .i64 0])))
noncomputable abbrev z27c (n15 n16 n17 n18 n19 : Int) (B : Bi) (s : CS) := validI n15 n16 n17 n18 n19 = true /\ (n15 = 2 \/ n15 = 6 \/ n15 = 5 \/ n15 = 7 \/ n15 = 8) /\ CS.frames s ≠ [] /\ List.length (CS.frames s) <= 1000000 /\ (n15 = 6 -> n19 < (↑(List.length (Bi.e B)) : Int) /\ n19 < (↑(List.length (Bi.s B)) : Int) /\ 0 <= List.getD (Bi.s B) n19.toNat 0)
noncomputable def z27d (n15 n21 : Int) := IntKind.wrap .i64 (n21 + Row.wd (rowOf n15))
noncomputable def z27e (id : Nat) (h : Heap) (n43 : Int) (r44 : List IV) := Heap.set h id (IObj.cells (List.take 15 r44 ++ [IV.int .i64 (IntKind.wrap .i64 (n43 - 1))] ++ List.drop 16 r44))
noncomputable def z27f  := IV.bool true
noncomputable def z27g (n15 n16 n17 n18 n19 n21 : Int) (B : Bi) (s : CS) := [IV.int .i64 (Prod.snd (jumpS B s (In.mk n15 n16 n17 n18 n19) (z27d n15 n21)))]
noncomputable def z27h (n15 n21 : Int) := [IV.int .i64 (z27d n15 n21)]
set_option maxRecDepth 100000 in
theorem vCStep (id : Nat) (h : Heap) (Q : IV -> Heap -> Prop) : dF (stdS cCJump) env 27 noU noI noI [.ptr id 0] h Q = (
 hgetS h id fun r0 => ldBS r0 16 fun b1 => brS b1 (Q (.bool false) h) (hgetS h id fun r2 => ldVS 5 r2 0 fun (i3 : Option Nat) (e4 l5 : Nat) (c6 : List IV) => hgetS h id fun r7 => ldNHS 1 r7 1 False fun (i8 o9 l10 :
 Nat) => hgetS h id fun r11 => ldIS .i64 r11 14 fun n12 => needS (decide (0 <= n12) && decide (n12 < (↑l10 : Int))) (hgetS h i8 fun r13 => ldIS .i64 r13 (o9 + n12.toNat * 1) fun n14 => needS (decide (0 <= n14) && decide
 (n14 < (↑l5 : Int))) (ldIS .i64 c6 (n14.toNat * 5) fun n15 => ldIS .i64 c6 (n14.toNat * 5 + (1 : Nat)) fun n16 => ldIS .i64 c6 (n14.toNat * 5 + (1 : Nat) + 1) fun n17 => ldIS .i64 c6 (n14.toNat * (5 :
 Nat) + 1 + (1 : Nat) + 1) fun n18 => ldIS .i64 c6 (n14.toNat * 5 + (1 : Nat) + 1 + (1 : Nat) + 1) fun n19 => hgetS h id fun r20 => ldIS .i64 r20 14 fun n21 => brS (n15 == 2) (∃ (B : Bi), ∃ (s
 : CS), ∃ (L : Ly), Rep B s L id h /\ (z27c n15 n16 n17 n18 n19 B s) /\ ∀ (L' : Ly) (h' : Heap), Rep B (Prod.fst (jumpS B s (In.mk n15 n16 n17 n18 n19) (z27d n15 n21))) L' id h' -> Frm L L' h h' -> hgetS h' id fun r22 => ldBS r22 16 fun b23 => brS (!b23) (hgetS h' id fun (r24
 : List IV) => needS (Nat.ble 15 r24.length) (Q z27f (Heap.set h' id (IObj.cells (List.take 14 r24 ++ (z27g n15 n16 n17 n18 n19 n21 B s) ++ List.drop 15 r24))))) (Q z27f h')) (brS (n15 == 6) (∃ (B : Bi), ∃ (s : CS), ∃ (L : Ly), Rep B s L id h /\ (z27c n15 n16 n17
 n18 n19 B s) /\ ∀ (L' : Ly) (h' : Heap), Rep B (Prod.fst (jumpS B s (In.mk n15 n16 n17 n18 n19) (z27d n15 n21))) L' id h' -> Frm L L' h h' -> hgetS h' id fun r25 => ldBS r25 16 fun b26 => brS (!b26) (hgetS h' id fun r27 => needS (Nat.ble 15 r27.length)
 (Q z27f (Heap.set h' id (IObj.cells (List.take 14 r27 ++ (z27g n15 n16 n17 n18 n19 n21 B s) ++ List.drop 15 r27))))) (Q z27f h')) (brS (n15 == 5) (∃ (B : Bi), ∃ (s : CS), ∃ (L : Ly), Rep B s L id h /\ (z27c n15 n16 n17 n18 n19 B s) /\ ∀ (L' : Ly) (h' : Heap), Rep B (Prod.fst (jumpS
 B s (In.mk n15 n16 n17 n18 n19) (z27d n15 n21))) L' id h' -> Frm L L' h h' -> hgetS h' id fun r28 => ldBS r28 16 fun b29 => brS (!b29) (hgetS h' id fun r30 => needS (Nat.ble 15 r30.length) (Q z27f (Heap.set h' id (IObj.cells (List.take 14
 r30 ++ (z27g n15 n16 n17 n18 n19 n21 B s) ++ List.drop 15 r30))))) (Q z27f h')) (brS (n15 == 7) (∃ (B : Bi), ∃ (s : CS), ∃ (L : Ly), Rep B s L id h /\ (z27c n15 n16 n17 n18 n19 B s) /\ ∀ (L' : Ly) (h' : Heap), Rep B (Prod.fst (jumpS B s (In.mk n15 n16 n17 n18 n19) (z27d n15 n21))) L' id
 h' -> Frm L L' h h' -> hgetS h' id fun r31 => ldBS r31 16 fun b32 => brS (!b32) (hgetS h' id fun r33 => needS (Nat.ble 15 r33.length) (Q z27f (Heap.set h' id (IObj.cells (List.take 14 r33 ++ (z27g n15 n16 n17 n18 n19 n21 B s) ++ List.drop
 (15 : Nat) r33))))) (Q z27f h')) (brS (n15 == 8) (∃ (B : Bi), ∃ (s : CS), ∃ (L : Ly), Rep B s L id h /\ (z27c n15 n16 n17 n18 n19 B s) /\ ∀ (L' : Ly) (h' : Heap), Rep B (Prod.fst (jumpS B s (In.mk n15 n16 n17 n18 n19) (z27d n15 n21))) L' id h' -> Frm L L' h h' -> hgetS h' id fun r34 =>
 ldBS r34 16 fun b35 => brS (!b35) (hgetS h' id fun r36 => needS (Nat.ble 15 r36.length) (Q z27f (Heap.set h' id (IObj.cells (List.take 14 r36 ++ (z27g n15 n16 n17 n18 n19 n21 B s) ++ List.drop 15 r36))))) (Q z27f h')) (brS (n15 == 3)
 (hgetS h id fun r37 => ldIS .i64 r37 15 fun n38 => brS (n38 == 0) (∃ (B : Bi), ∃ (s : CS), ∃ (L : Ly), Rep B s L id h /\ hgetS (z27a id h B s L) id fun r39 => ldBS r39 16 fun b40 => brS (!b40) (hgetS (z27a id h B s L) id fun (r41
 : List IV) => needS (Nat.ble 15 r41.length) (Q z27f (Heap.set (z27a id h B s L) id (IObj.cells (List.take 14 r41 ++ (z27h n15 n21) ++ List.drop 15 r41))))) (Q z27f (z27a id h B s L))) (hgetS h id fun r42 => ldIS .i64 r42 15 fun n43 =>
 hgetS h id fun r44 => needS (Nat.ble 16 r44.length) (hgetS (z27e id h n43 r44) id fun r45 => ldBS r45 16 fun b46 => brS (!b46) (hgetS (z27e id h n43 r44) id fun r47 => needS (Nat.ble 15 r47.length) (Q z27f (Heap.set (z27e
 id h n43 r44) id (IObj.cells (List.take 14 r47 ++ (z27h n15 n21) ++ List.drop 15 r47))))) (Q z27f (z27e id h n43 r44))))) (brS (n15 == 4) (∃ (B : Bi), ∃ (s : CS), ∃ (L : Ly), Rep B s L id h /\ hgetS (z27b id h n19 B s L) id fun r48 => ldBS r48 16 fun (b49 :
 Bool) => brS (!b49) (hgetS (z27b id h n19 B s L) id fun r50 => needS (Nat.ble 15 r50.length) (Q z27f (Heap.set (z27b id h n19 B s L) id (IObj.cells (List.take 14 r50 ++ (z27h n15 n21) ++ List.drop 15 r50))))) (Q z27f (z27b id h n19 B s L))) (brS (n15 == (34
 : Int)) (∃ (B : Bi), ∃ (s : CS), ∃ (L : Ly), Rep B s L id h /\ (validI n15 n16 n17 n18 n19 = true /\ (n15 = 34 \/ n15 = 35) /\ n19 < (↑(List.length (Bi.a B)) : Int)) /\ ∀ (L' : Ly) (h' : Heap), Rep B (accS s (In.mk n15 n16 n17 n18 n19)) L' id h' -> Frm L L' h h' -> hgetS h' id fun (r51 : List
 IV) => ldBS r51 16 fun b52 => brS (!b52) (hgetS h' id fun r53 => needS (Nat.ble 15 r53.length) (Q z27f (Heap.set h' id (IObj.cells (List.take 14 r53 ++ (z27h n15 n21) ++ List.drop 15 r53))))) (Q z27f h')) (brS (n15 == 35) (∃ (B : Bi),
 ∃ (s : CS), ∃ (L : Ly), Rep B s L id h /\ (validI n15 n16 n17 n18 n19 = true /\ (n15 = 34 \/ n15 = 35) /\ n19 < (↑(List.length (Bi.a B)) : Int)) /\ ∀ (L' : Ly) (h' : Heap), Rep B (accS s (In.mk n15 n16 n17 n18 n19)) L' id h' -> Frm L L' h h' -> hgetS h' id fun r54 => ldBS r54 (16
 : Nat) fun b55 => brS (!b55) (hgetS h' id fun r56 => needS (Nat.ble 15 r56.length) (Q z27f (Heap.set h' id (IObj.cells (List.take 14 r56 ++ (z27h n15 n21) ++ List.drop 15 r56))))) (Q z27f h')) (∃ (B : Bi), ∃ (s : CS), ∃ (L : Ly), Rep B s L id h /\ (validI
 n15 n16 n17 n18 n19 = true /\ (n15 = 1 \/ 9 <= n15 /\ n15 <= 33 \/ n15 = 36 \/ n15 = 37) /\ CS.frames s ≠ [] /\ (∀ (f : Fm), f ∈ CS.frames s -> List.length (Fm.sl f) <= 3000) /\ List.length (CS.out s) <= 1000000 /\ List.length (CS.frames s) <= 1000000)
 /\ ∀ (L' : Ly) (h' : Heap), Rep B (compS s (In.mk n15 n16 n17 n18 n19)) L' id h' -> Frm L L' h h' -> hgetS h' id fun r57 => ldBS r57 16 fun b58 => brS (!b58) (hgetS h' id fun r59 => needS (Nat.ble 15 r59.length) (Q z27f (Heap.set h' id (IObj.cells
 (List.take 14 r59 ++ (z27h n15 n21) ++ List.drop 15 r59))))) (Q z27f h')))))))))))))) := by kernel_rfl
set_option maxHeartbeats 8000000 in
set_option maxRecDepth 100000 in
theorem sCStep : ∀ xs h Q, kCStep xs h Q -> CallW env 27 xs h Q := by
 intro xs h Q hk
 unfold kCStep at hk
 split at hk
 ·rename_i id
  obtain ⟨B, s, L, hr, hk⟩ := hk
  refine dF_run (okCJump) (vCStep id h Q) ?_
  delta z27a z27b z27c z27d z27e z27f z27g z27h
  have hpre := hk.1
  have hk := hk.2
  have hv := hpre.1
  have hw := hpre.2.1
  have wf := hpre.2.2.1
  have hol := hpre.2.2.2.1
  have hfl := hpre.2.2.2.2
  refine hget_i hr.cpu (ldB_i ((cpu_z hr.rl 3).trans rfl) (brS_intro (fun y => ?_) (fun y => ?_)))
  ·have ho : s.over = true := y
   have e : stepS B s = s := by unfold stepS; simp [ho]
   have := hk L h (by rw [e]; exact hr) (Frm.refl _ _)
   rw [ho] at this
   exact this
  ·have ho : s.over = false := y
   obtain ⟨k, h1, h2, hpc⟩ := st_ins hv hw wf.pc
   obtain ⟨q1, q2, q3⟩ := decA_at hv.2.2.2.2.2.1 k h1 h2
   rw [hpc] at q2
   obtain ⟨i1, i2, i3, i4⟩ := ins_ok hv hw wf.pc
   obtain ⟨wl, w1, w2, w3⟩ := hr.wh
   have w4 := w3 k h2
   rw [hpc] at w4
   have hi : (decA B.w).1[k] = insS B s := q2.symm
   have e : stepS B s = finS (effS B s) := by unfold stepS; simp [ho]
   rw [e, ho] at hk
   have fin : ∀ (s2 : CS) (nx : Int) (L2 : Ly) (h2 : Heap), effS B s = (s2, nx) -> Rep B s2 L2 id h2 -> Frm L L2 h h2 -> hgetS h2 id fun r => ldBS r 16 fun b => brS (!b) (hgetS h2 id fun r' => needS (Nat.ble 15 r'.length) (Q (.bool true) (h2.set id (.cells (r'.take 14 ++ [.int .i64 nx] ++ r'.drop 15))))) (Q (.bool true) h2) := fun s2 nx L2 h2 e2 r2 f2 => by
    rw [e2] at hk
    exact stF r2 fun h' r f => hk L2 h' r (f2.trans f)
   refine hget_i hr.cpu (ldV_i ((cpu_a 0 (by omega)).trans rfl) (hget_i hr.cpu (ldNH_i ((cpu_a 1 (by omega)).trans rfl) (hget_i hr.cpu (ldI_i ((cpu_z hr.rl 1).trans rfl) (needS_intro (by simp; omega) (hget_i w1 ?_)))))))
   rw [Nat.zero_add, Nat.mul_one]
   refine ldI_i (n := (k : Int)) (by simp [ints, w4]) (needS_intro (by simp; omega) (ldIn (i := k) h1 (by rw [Int.toNat_natCast]) ?_))
   rw [hi]
   refine hget_i hr.cpu (ldI_i ((cpu_z hr.rl 1).trans rfl) ?_)
   have hv' : validI (insS B s).op (insS B s).a (insS B s).b (insS B s).c (insS B s).n = true := i1
   have hnp := okin_np hv'
   have hi2 : okJ B (insS B s) s.pc := i2
   have hop := (ok_fields hv').1
   have heff : effS B s = if (insS B s).op = 2 \/ (insS B s).op = 6 \/ (insS B s).op = 5 \/ (insS B s).op = 7 \/ (insS B s).op = 8 then jumpS B s (insS B s) (nxS B s)
     else if (insS B s).op = 3 then (if s.fuel = 0 then (stopS s 3 0 0, nxS B s) else ({ s with fuel := IntKind.i64.wrap (s.fuel - 1) }, nxS B s))
     else if (insS B s).op = 4 then (stopS s 2 (insS B s).n 0, nxS B s)
     else if (insS B s).op = 34 \/ (insS B s).op = 35 then (accS s (insS B s), nxS B s) else (compS s (insS B s), nxS B s) := rfl
   have h6 : (insS B s).op = 6 -> (insS B s).n < B.e.length /\ (insS B s).n < B.s.length /\ 0 <= B.s.getD (insS B s).n.toNat 0 := fun z => by
    obtain ⟨b1, _⟩ := hi2.2.1 z
    have h0 := (hnp.1 z).1
    have hl : (insS B s).n.toNat < B.e.length := by omega
    obtain ⟨x, y, z, e1, e2, e3, e4, e5, e6⟩ := hv.2.2.2.2.2.2.2.1 _ hl
    have hsl : B.s.length = B.e.length := hv.2.2.2.1
    rw [getD_at e3]
    exact ⟨b1, by omega, e6.1⟩
   have hnx : IntKind.i64.wrap (s.pc + (rowOf (insS B s).op).wd) = nxS B s := rfl
   rw [hnx]
   have jmp : ((insS B s).op = 2 \/ (insS B s).op = 6 \/ (insS B s).op = 5 \/ (insS B s).op = 7 \/ (insS B s).op = 8) -> effS B s = jumpS B s (insS B s) (nxS B s) := fun z => by rw [heff, if_pos z]
   refine brS_intro (fun z => ?_) (fun z1 => brS_intro (fun z => ?_) (fun z2 => brS_intro (fun z => ?_) (fun z3 => brS_intro (fun z => ?_) (fun z4 => brS_intro (fun z => ?_) (fun z5 => brS_intro (fun z => ?_) (fun z6 => brS_intro (fun z => ?_) (fun z7 => brS_intro (fun z => ?_) (fun z8 => brS_intro (fun z => ?_) (fun z9 => ?_)))))))))
   ·rw [beq_iff_eq] at z
    exact ⟨B, s, L, hr, ⟨hv', by omega, wf.fr, hfl, h6⟩, fun L' h' r f => fin _ _ L' h' (jmp (by omega)) r f⟩
   ·rw [beq_iff_eq] at z
    exact ⟨B, s, L, hr, ⟨hv', by omega, wf.fr, hfl, h6⟩, fun L' h' r f => fin _ _ L' h' (jmp (by omega)) r f⟩
   ·rw [beq_iff_eq] at z
    exact ⟨B, s, L, hr, ⟨hv', by omega, wf.fr, hfl, h6⟩, fun L' h' r f => fin _ _ L' h' (jmp (by omega)) r f⟩
   ·rw [beq_iff_eq] at z
    exact ⟨B, s, L, hr, ⟨hv', by omega, wf.fr, hfl, h6⟩, fun L' h' r f => fin _ _ L' h' (jmp (by omega)) r f⟩
   ·rw [beq_iff_eq] at z
    exact ⟨B, s, L, hr, ⟨hv', by omega, wf.fr, hfl, h6⟩, fun L' h' r f => fin _ _ L' h' (jmp (by omega)) r f⟩
   ·rw [beq_iff_eq] at z
    have e3 : effS B s = (if s.fuel = 0 then (stopS s 3 0 0, nxS B s) else ({ s with fuel := IntKind.i64.wrap (s.fuel - 1) }, nxS B s)) := by rw [heff, if_neg (by omega), if_pos z]
    refine hget_i hr.cpu (ldI_i ((cpu_z hr.rl 2).trans rfl) (brS_intro (fun y => ?_) (fun y => ?_)))
    ·rw [beq_iff_eq] at y
     rw [if_pos y] at e3
     exact ⟨B, s, L, hr, fin _ _ L _ e3 (hr.setc (s' := stopS s 3 0 0) rfl rfl rfl hr.rl) (frm_set (by rw [hr.cpur.1]; simp))⟩
    ·rw [beq_eq_false_iff_ne] at y
     rw [if_neg y] at e3
     refine hget_i hr.cpu (ldI_i ((cpu_z hr.rl 2).trans rfl) (hget_i hr.cpu (needS_intro (by simp only [Nat.ble_eq, cpu_len2, hr.rl]; omega) ?_)))
     rw [store_set (by simp only [cpu_len2, hr.rl]; omega), cpu_setz hr.rl 2 (.int .i64 (IntKind.i64.wrap (s.fuel - 1))) { s with fuel := IntKind.i64.wrap (s.fuel - 1) } L rfl rfl rfl]
     exact fin _ _ L _ e3 (hr.setc rfl rfl rfl hr.rl) (frm_set (by rw [hr.cpur.1]; simp))
   ·rw [beq_iff_eq] at z
    have e3 : effS B s = (stopS s 2 (insS B s).n 0, nxS B s) := by rw [heff, if_neg (by omega), if_neg (by omega), if_pos z]
    exact ⟨B, s, L, hr, fin _ _ L _ e3 (hr.setc (s' := stopS s 2 (insS B s).n 0) rfl rfl rfl hr.rl) (frm_set (by rw [hr.cpur.1]; simp))⟩
   ·rw [beq_iff_eq] at z
    have e3 : effS B s = (accS s (insS B s), nxS B s) := by rw [heff, if_neg (by omega), if_neg (by omega), if_neg (by omega), if_pos (.inl z)]
    exact ⟨B, s, L, hr, ⟨hv', .inl z, hi2.2.2 (.inl z)⟩, fun L' h' r f => fin _ _ L' h' e3 r f⟩
   ·rw [beq_iff_eq] at z
    have e3 : effS B s = (accS s (insS B s), nxS B s) := by rw [heff, if_neg (by omega), if_neg (by omega), if_neg (by omega), if_pos (.inr z)]
    exact ⟨B, s, L, hr, ⟨hv', .inr z, hi2.2.2 (.inr z)⟩, fun L' h' r f => fin _ _ L' h' e3 r f⟩
   ·rw [beq_eq_false_iff_ne] at z1 z2 z3 z4 z5 z6 z7 z8 z9
    have e3 : effS B s = (compS s (insS B s), nxS B s) := by rw [heff, if_neg (by omega), if_neg (by omega), if_neg (by omega), if_neg (by omega)]
    exact ⟨B, s, L, hr, ⟨hv', by omega, wf.fr, wf.size, hol, hfl⟩, fun L' h' r f => fin _ _ L' h' e3 r f⟩
 ·exact hk.elim
def cCStep := addC 27 kCStep cCJump
theorem okCStep : Sound env cCStep := sound_add sCStep (okCJump)
def kCOut (xs : List IV) (h : Heap) (K : IV -> Heap -> Prop) : Prop := match xs with
 | [.ptr id 0] => ∃ (B : Bi) (s : CS) (L : Ly), Rep B s L id h /\ (s.out.length <= 1000000 /\ (s.over = false -> K (.tuple [.agg [.int .i64 0, .int .i64 0, .nilslice, .int .i64 0], .bool false]) h) /\ (s.over = true -> ∀ (i : Option Nat) (e : Nat) (h' : Heap), (∀ k, k < h.next -> h'.get k = h.get k) -> h.next <= h'.next -> K (.tuple [.agg [.int .i64 s.kind, .int .i64 s.code, .vslice i e s.out.length 1 (ints s.out), .int .i64 s.val], .bool true]) h'))
 | _ => False
noncomputable def z28a (v3 v4 v6 : IV) := [v3, v4, IV.vslice none 1 0 1 [], v6]
noncomputable def z28b (h : Heap) (v3 v4 v6 : IV) (l13 : Nat) (c14 : List IV) := [v3, v4, IV.vslice (some (Heap.next h)) (((0 : Nat) + l13) * 1) ((0 : Nat) + l13) 1 c14, v6]
set_option maxRecDepth 100000 in
theorem vCOut (id : Nat) (h : Heap) (Q : IV -> Heap -> Prop) : dF (stdS cCStep) env 28 noU noI noI [.ptr id 0] h Q = (
 hgetS h id fun r0 => ldBS r0 16 fun b1 => brS (!b1) (Q (.tuple [.agg [.int .i64 0, IV.int .i64 0, IV.nilslice, IV.int .i64 0], IV.bool false]) h) (hgetS h id fun r2 => ldAS r2 17 fun v3 => ldAS
 r2 18 fun v4 => ldAS r2 19 fun v5 => ldAS r2 20 fun v6 => hgetS h id fun r7 => ldNVS 1 r7 19 (ldIS .i64 (z28a v3 v4 v6) 0 fun n8 => ldIS .i64 (z28a v3 v4 v6) 1 fun n9 => ldIS .i64
 (z28a v3 v4 v6) 3 fun n10 => Q (.tuple [.agg [.int .i64 n8, IV.int .i64 n9, IV.vslice none 1 0 1 [], IV.int .i64 n10], IV.bool true]) h) fun (i11 e12 l13 : Nat) (c14 : List IV) => brS (Nat.beq l13 (0 : Nat)) (ldIS .i64 (z28a v3
 v4 v6) 0 fun n15 => ldIS .i64 (z28a v3 v4 v6) 1 fun n16 => ldIS .i64 (z28a v3 v4 v6) 3 fun n17 => Q (.tuple [.agg [.int .i64 n15, IV.int .i64 n16, IV.vslice none 1 0 1 [], IV.int .i64 n17],
 IV.bool true]) h) (needS (Nat.ble (((0 : Nat) + l13) * 8) (140737488355328 : Nat)) (ldIS .i64 (z28b h v3 v4 v6 l13 c14) 0 fun n18 => ldIS .i64 (z28b h v3 v4 v6 l13 c14) 1 fun n19 => ldIS .i64 (z28b h v3 v4 v6 l13 c14) 3 fun (n20 : Int)
 => Q (.tuple [.agg [.int .i64 n18, IV.int .i64 n19, IV.vslice (some (Heap.next h)) (((0 : Nat) + l13) * 1) ((0 : Nat) + l13) 1 c14, IV.int .i64 n20], IV.bool true]) (Heap.push h (IObj.tip (((0 : Nat) + l13) * 1))))))) := by kernel_rfl
set_option maxHeartbeats 4000000 in
theorem sCOut : ∀ xs h Q, kCOut xs h Q -> CallW env 28 xs h Q := by
 intro xs h Q hk
 unfold kCOut at hk
 split at hk
 ·rename_i id
  obtain ⟨B, s, L, hr, hk⟩ := hk
  refine dF_run (okCStep) (vCOut id h Q) ?_
  delta z28a z28b
  obtain ⟨hol, k1, k2⟩ := hk
  refine hget_i hr.cpu (ldB_i ((cpu_z hr.rl 3).trans rfl) (brS_intro (fun y => ?_) (fun y => ?_)))
  ·exact k1 (by simpa using y)
  ·have ho : s.over = true := by simpa using y
   have hk := k2 ho
   refine hget_i hr.cpu (ldA_i ((cpu_z hr.rl 4).trans rfl) (ldA_i ((cpu_z hr.rl 5).trans rfl) (ldA_i ((cpu_z hr.rl 6).trans rfl) (ldA_i ((cpu_z hr.rl 7).trans rfl) (hget_i hr.cpu ?_)))))
   by_cases ho2 : s.out = []
   ·refine ldNV_n (cpu_out0 hr.rl ho2) (ldI_i (n := s.kind) rfl (ldI_i (n := s.code) rfl (ldI_i (n := s.val) rfl ?_)))
    have := hk none 1 h (fun _ _ => rfl) (Nat.le_refl _)
    rw [ho2] at this
    exact this
   ·refine ldNV_i (cpu_out1 hr.rl ho2) (brS_intro (fun z => ?_) (fun _ => needS_intro (by rw [Nat.ble_eq]; omega) (ldI_i (n := s.kind) rfl (ldI_i (n := s.code) rfl (ldI_i (n := s.val) rfl ?_)))))
    ·rw [nbeq_t] at z
     exact absurd (List.eq_nil_of_length_eq_zero z) ho2
    ·rw [Nat.zero_add, Nat.mul_one]
     exact hk _ _ _ (fun k hk => by rw [get_push, if_neg (by omega)]) (by rw [next_push]; omega)
 ·exact hk.elim
def cCOut := addC 28 kCOut cCStep
theorem okCOut : Sound env cCOut := sound_add sCOut (okCStep)
end Go.Proofs.YtlenjfbmpekabaaDoor
