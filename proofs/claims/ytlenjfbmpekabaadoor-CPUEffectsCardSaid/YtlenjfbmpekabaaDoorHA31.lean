/-
  Texts of this proof, one after the other.
  Conditions: none.
-/
import Derived.Test.YtlenjfbmpekabaaDoorCB31
import Derived.Test.YtlenjfbmpekabaaDoorGN31
import Derived.KernelRfl
section
/-
  The simulator of the target machine: runs.
  Conditions: none.
-/
set_option linter.unusedVariables false
set_option linter.unusedSimpArgs false
namespace Go.Proofs.YtlenjfbmpekabaaDoor
open Go.Pv Go.M29 Go.M30 Go.M31 Go.M13
def kKArgs (xs : List IV) (h : Heap) (K : IV → Heap → Prop) : Prop := match xs with
  | [.int .i64 a, .int .i64 b, .int .i64 w] => K (.vslice none 0 2 1 [.int .i64 (Go.M13.word a w), .int .i64 (Go.M13.word b w)]) h
  | _ => False
set_option maxRecDepth 100000 in
theorem vKArgs (a b w : Int) (h : Heap) (Q : IV → Heap → Prop) : dF (stdS cCNew) env 18 noU noI noI [.int .i64 a, .int .i64 b, .int .i64 w] h Q = (
  Q (.vslice none 0 2 1 [IV.int .i64 (word a w), IV.int .i64 (word b w)]) h) := by kernel_rfl
theorem sKArgs : ∀ xs h Q, kKArgs xs h Q → CallW env 18 xs h Q := by
  intro xs h Q hk
  unfold kKArgs at hk
  split at hk
  · rename_i a b w
    refine dF_run (okCNew) (vKArgs a b w h Q) ?_
    exact hk
  · exact hk.elim
def cKArgs := addC 18 kKArgs cCNew
theorem okKArgs : Sound env cKArgs := sound_add sKArgs (okCNew)

def kKFuel (xs : List IV) (h : Heap) (K : IV → Heap → Prop) : Prop := match xs with
  | [.int .i64 n] => K (.int .i64 (n % 12)) h
  | _ => False
set_option maxRecDepth 100000 in
theorem vKFuel (n : Int) (h : Heap) (Q : IV → Heap → Prop) : dF (stdS cKArgs) env 22 noU noI noI [.int .i64 n] h Q = (
  ((0 : Int) < 12 ∧ (12 : Int) < 4611686018427387904) ∧ Q (.int .i64 (n % (12 : Int))) h) := by kernel_rfl
theorem sKFuel : ∀ xs h Q, kKFuel xs h Q → CallW env 22 xs h Q := by
  intro xs h Q hk
  unfold kKFuel at hk
  split at hk
  · rename_i n
    refine dF_run (okKArgs) (vKFuel n h Q) ?_
    exact ⟨⟨by omega, by omega⟩, hk⟩
  · exact hk.elim
def cKFuel := addC 22 kKFuel cKArgs
theorem okKFuel : Sound env cKFuel := sound_add sKFuel (okKArgs)

noncomputable def cSameOut := cKFuel
theorem okSameOut : Sound env cSameOut := okKFuel
def kCEx (xs : List IV) (h : Heap) (K : IV → Heap → Prop) : Prop := match xs with
  | [] => K (.bool true) h
  | _ => False
theorem sCEx : ∀ xs h Q, kCEx xs h Q → CallW env 16 xs h Q := by
  intro xs h Q hk
  unfold kCEx at hk
  split at hk
  · exact ⟨300, .bool true, h, by kernel_rfl, hk⟩
  · exact hk.elim
def cCEx := addC 16 kCEx cSameOut
theorem okCEx : Sound env cCEx := sound_add sCEx (okSameOut)

end Go.Proofs.YtlenjfbmpekabaaDoor

end

section
/-
  The simulator of the target machine: runs.
  Conditions: none.
-/
set_option linter.unusedVariables false
set_option linter.unusedSimpArgs false
namespace Go.Proofs.YtlenjfbmpekabaaDoor
open Go.Pv Go.M29 Go.M30 Go.M31 Go.M13
noncomputable def cCRun := cCEx
theorem okCRun : Sound env cCRun := okCEx
end Go.Proofs.YtlenjfbmpekabaaDoor

end

section
/-
  The simulator of the target machine: the law on effects.
  Conditions: none.
-/
set_option linter.unusedVariables false
set_option linter.unusedSimpArgs false
namespace Go.Proofs.YtlenjfbmpekabaaDoor
open Go.Pv Go.M29 Go.M30 Go.M31 Go.M13
def kCCellV (xs : List IV) (h : Heap) (K : IV → Heap → Prop) : Prop := match xs with
  | [.ptr id 0, .int .i64 a, .int .i64 i] => ∃ (B : Bi) (s : CS) (L : Ly), Rep B s L id h ∧ (0 ≤ a ∧ a < B.a.length) ∧ (0 ≤ i ∧ i < (s.cells.getD a.toNat []).length) ∧ K (.int .i64 (cellV s a i)) h
  | _ => False
set_option maxRecDepth 100000 in
theorem vCCellV (id : Nat) (a i : Int) (h : Heap) (Q : IV → Heap → Prop) : dF (stdS cCEx) env 59 noU noI noI [.ptr id 0, .int .i64 a, .int .i64 i] h Q = (
  brS (decide (a < 0)) (Q (.int .i64 0) h)
 (hgetS h id fun r0 =>
 ldVS 1 r0 4 fun (i1 : Option Nat) (e2 l3 : Nat) (c4 : List IV) =>
 brS (decide (a ≥ (↑l3 : Int))) (Q (.int .i64 0) h)
 (brS (decide (i < 0)) (Q (.int .i64 0) h)
 (hgetS h id fun r5 =>
 ldVS 1 r5 4 fun (i6 : Option Nat) (e7 l8 : Nat) (c9 : List IV) =>
 needS (decide (0 ≤ a) && decide (a < (↑l8 : Int)))
 (ldNHS 1 c9 (a.toNat * 1) False fun (i10 o11 l12 : Nat) =>
 brS (decide (i ≥ (↑l12 : Int))) (Q (.int .i64 0) h)
 (hgetS h id fun r13 =>
 ldVS 1 r13 4 fun (i14 : Option Nat) (e15 l16 : Nat) (c17 : List IV) =>
 needS (decide (0 ≤ a) && decide (a < (↑l16 : Int)))
 (ldNHS 1 c17 (a.toNat * 1) False fun (i18 o19 l20 : Nat) =>
 needS (decide (0 ≤ i) && decide (i < (↑l20 : Int))) (hgetS h i18 fun r21 => ldIS .i64 r21 (o19 + i.toNat * 1) fun n22 => Q (.int .i64 n22) h)))))))) := by kernel_rfl
theorem sCCellV : ∀ xs h Q, kCCellV xs h Q → CallW env 59 xs h Q := by
  intro xs h Q hk
  unfold kCCellV at hk
  split at hk
  · rename_i id a i
    obtain ⟨B, s, L, hr, hk⟩ := hk
    refine dF_run (okCEx) (vCCellV id a i h Q) ?_
    obtain ⟨ha, hi, hk⟩ := hk
    have hne : B.a ≠ [] := fun z => by rw [z] at ha; simp at ha; omega
    obtain ⟨j, row, e1, e2, e3, e4, e5, e6⟩ := arr_at hr (j := a.toNat) (by omega)
    have hgd : s.cells.getD a.toNat [] = row := by rw [List.getD_eq_getElem?_getD, e2]; rfl
    rw [hgd] at hi
    have hcl : s.cells.length = B.a.length := by have := congrArg List.length hr.cl; simpa using this
    have ev : cellV s a i = row.getD i.toNat 0 := by
      unfold cellV
      rw [hgd, if_pos (by omega)]
    rw [ev] at hk
    refine brS_intro (fun c => ?_) (fun _ => hget_i hr.cpu (ldV_i (cpu_arr hne) (brS_intro (fun c => ?_) (fun _ => brS_intro (fun c => ?_) (fun _ => hget_i hr.cpu (ldV_i (cpu_arr hne) (needS_intro (by simp; omega) ?_)))))))
    · rw [decide_eq_true_eq] at c; omega
    · rw [decide_eq_true_eq] at c; omega
    · rw [decide_eq_true_eq] at c; omega
    rw [Nat.mul_one]
    refine ldNH_i e3 (brS_intro (fun c => ?_) (fun _ => hget_i hr.cpu (ldV_i (cpu_arr hne) (needS_intro (by simp; omega) ?_))))
    · rw [decide_eq_true_eq] at c; omega
    refine ldNH_i e3 (needS_intro (by simp; omega) (hget_i e4 ?_))
    rw [Nat.mul_one, Nat.zero_add]
    exact ldI_i (n := row.getD i.toNat 0) (by simp [ints, List.getD_eq_getElem?_getD, List.getElem?_eq_getElem (show i.toNat < row.length by omega)]) hk
  · exact hk.elim
def cCCellV := addC 59 kCCellV cCEx
theorem okCCellV : Sound env cCCellV := sound_add sCCellV (okCEx)

def kMem (xs : List IV) (h : Heap) (K : IV → Heap → Prop) : Prop := match xs with
  | [.ptr id 0, .vslice none e1 n1 1 c1] => ∃ (B : Bi) (s : CS) (L : Ly), (n1 = 2 ∧ c1 = [.int .i64 3, .int .i64 2]) ∧ B.a = [3, 2] ∧ Rep B s L id h ∧ ∀ (i : Option Nat) (e : Nat) (h' : Heap), (∀ k, k < h.next → h'.get k = h.get k) → h.next ≤ h'.next → K (.vslice i e 5 1 (ints (memL s))) h'
  | _ => False
set_option maxRecDepth 100000 in
theorem vMem (id : Nat) (e1 : Nat) (h : Heap) (Q : IV → Heap → Prop) : dF (stdS cCCellV) env 36 (fun k => match Nat.beq k 4 with | true => 3 | false => match Nat.beq k 7 with | true => 4 | false => 0) noI noI [.ptr id 0, .vslice none e1 2 1 [.int .i64 3, .int .i64 2]] h Q = (
  ∃ (B : Bi),
 ∃ (s : CS),
 ∃ (L : Ly),
 Rep B s L id h ∧
 ((0 : Int) ≤ 0 ∧ 0 < (↑(List.length (Bi.a B)) : Int)) ∧
 ((0 : Int) ≤ 0 ∧ 0 < (↑(List.length (List.getD (CS.cells s) 0 [])) : Int)) ∧
 ∃ (B : Bi),
 ∃ (s_1 : CS),
 ∃ (L : Ly),
 Rep B s_1 L id (Heap.push h (IObj.tip (1 : Nat))) ∧
 ((0 : Int) ≤ 0 ∧ 0 < (↑(List.length (Bi.a B)) : Int)) ∧
 ((0 : Int) ≤ 1 ∧ 1 < (↑(List.length (List.getD (CS.cells s_1) 0 [])) : Int)) ∧
 tipS (Heap.push h (IObj.tip (1 : Nat))) (Heap.next h) fun (m0 : Nat) =>
 needS (Nat.beq m0 (1 : Nat) && true)
 (∃ (B : Bi),
 ∃ (s_2 : CS),
 ∃ (L : Ly),
 Rep B s_2 L id (Heap.set (Heap.push h (IObj.tip (1 : Nat))) (Heap.next h) (IObj.tip (2 : Nat))) ∧
 ((0 : Int) ≤ 0 ∧ 0 < (↑(List.length (Bi.a B)) : Int)) ∧
 ((0 : Int) ≤ 2 ∧ 2 < (↑(List.length (List.getD (CS.cells s_2) 0 [])) : Int)) ∧
 tipS (Heap.set (Heap.push h (IObj.tip (1 : Nat))) (Heap.next h) (IObj.tip (2 : Nat))) (Heap.next h) fun (m1 : Nat) =>
 needS (Nat.beq m1 (2 : Nat) && true)
 (∃ (B : Bi),
 ∃ (s_3 : CS),
 ∃ (L : Ly),
 Rep B s_3 L id (Heap.set (Heap.set (Heap.push h (IObj.tip (1 : Nat))) (Heap.next h) (IObj.tip (2 : Nat))) (Heap.next h) (IObj.tip (3 : Nat))) ∧
 ((0 : Int) ≤ 1 ∧ 1 < (↑(List.length (Bi.a B)) : Int)) ∧
 ((0 : Int) ≤ 0 ∧ 0 < (↑(List.length (List.getD (CS.cells s_3) 1 [])) : Int)) ∧
 tipS (Heap.set (Heap.set (Heap.push h (IObj.tip (1 : Nat))) (Heap.next h) (IObj.tip (2 : Nat))) (Heap.next h) (IObj.tip (3 : Nat))) (Heap.next h) fun (m2 : Nat) =>
 needS (Nat.beq m2 (3 : Nat) && true)
 (∃ (B : Bi),
 ∃ (s_4 : CS),
 ∃ (L : Ly),
 Rep B s_4 L id
 (Heap.set (Heap.set (Heap.set (Heap.push h (IObj.tip (1 : Nat))) (Heap.next h) (IObj.tip (2 : Nat))) (Heap.next h) (IObj.tip (3 : Nat))) (Heap.next h)
 (IObj.tip (4 : Nat))) ∧
 ((0 : Int) ≤ 1 ∧ 1 < (↑(List.length (Bi.a B)) : Int)) ∧
 ((0 : Int) ≤ 1 ∧ 1 < (↑(List.length (List.getD (CS.cells s_4) 1 [])) : Int)) ∧
 tipS
 (Heap.set (Heap.set (Heap.set (Heap.push h (IObj.tip (1 : Nat))) (Heap.next h) (IObj.tip (2 : Nat))) (Heap.next h) (IObj.tip (3 : Nat))) (Heap.next h)
 (IObj.tip (4 : Nat)))
 (Heap.next h) fun (m3 : Nat) =>
 needS (Nat.beq m3 (4 : Nat) && true)
 (Q
 (IV.vslice (some (Heap.next h)) 5 5 1
 [IV.int .i64 (cellV s (0 : Int) (0 : Int)), IV.int .i64 (cellV s_1 (0 : Int) (1 : Int)), IV.int .i64 (cellV s_2 (0 : Int) (2 : Int)),
 IV.int .i64 (cellV s_3 (1 : Int) (0 : Int)), IV.int .i64 (cellV s_4 (1 : Int) (1 : Int))])
 (Heap.set
 (Heap.set (Heap.set (Heap.set (Heap.push h (IObj.tip (1 : Nat))) (Heap.next h) (IObj.tip (2 : Nat))) (Heap.next h) (IObj.tip (3 : Nat))) (Heap.next h)
 (IObj.tip (4 : Nat)))
 (Heap.next h) (IObj.tip (5 : Nat)))))))) := by kernel_rfl
set_option maxHeartbeats 4000000 in
theorem sMem : ∀ xs h Q, kMem xs h Q → CallW env 36 xs h Q := by
  intro xs h Q hk
  unfold kMem at hk
  split at hk
  · rename_i id e1 n1 c1
    obtain ⟨B, s, L, ⟨rfl, rfl⟩, hba, hr, hk⟩ := hk
    refine dF_run (okCCellV) (vMem id e1 h Q) ?_
    obtain ⟨x, y, z, u, v, hc⟩ := cells2 (c := s.cells) (by have := hr.cl; rw [hba] at this; exact this)
    have g0 : (s.cells.getD 0 []).length = 3 := by rw [hc]; rfl
    have g1 : (s.cells.getD 1 []).length = 2 := by rw [hc]; rfl
    have hl : B.a.length = 2 := by rw [hba]; rfl
    have t1 := TipH.push h 1
    have t2 := t1.set 2
    have t3 := t2.set 3
    have t4 := t3.set 4
    have t5 := t4.set 5
    exact ⟨B, s, L, hr, ⟨by omega, by omega⟩, ⟨by omega, by omega⟩, B, s, L, t1.rep hr, ⟨by omega, by omega⟩, ⟨by omega, by omega⟩, tip_i t1.tp (needS_intro rfl ⟨B, s, L, t2.rep hr, ⟨by omega, by omega⟩, ⟨by omega, by omega⟩, tip_i t2.tp (needS_intro rfl ⟨B, s, L, t3.rep hr, ⟨by omega, by omega⟩, ⟨by omega, by omega⟩, tip_i t3.tp (needS_intro rfl ⟨B, s, L, t4.rep hr, ⟨by omega, by omega⟩, ⟨by omega, by omega⟩, tip_i t4.tp (needS_intro rfl (hk _ _ _ t5.ot (Nat.le_of_lt t5.nx)))⟩)⟩)⟩)⟩
  · exact hk.elim
def cMem := addC 36 kMem cCCellV
theorem okMem : Sound env cMem := sound_add sMem (okCCellV)

def kWrites2 (xs : List IV) (h : Heap) (K : IV → Heap → Prop) : Prop := match xs with
  | [.agg [.int .i64 op, .int .i64 a, .int .i64 b, .int .i64 c, .int .i64 n]] => K (.vslice none 0 (wrI op a b c n).length 1 ((wrI op a b c n).map (IV.int .i64))) h
  | _ => False
theorem sWrites2 : ∀ xs h Q, kWrites2 xs h Q → CallW env 37 xs h Q := by
  intro xs h Q hk
  unfold kWrites2 at hk
  split at hk
  · exact sWrites _ _ _ hk
  · exact hk.elim
def cWrites2 := addC 37 kWrites2 cMem
theorem okWrites2 : Sound env cWrites2 := sound_add sWrites2 (okMem)

def coI (l : List Int) (n : Int) : Inv' := atX Nat (fun x => [(0, .v (.vslice none 0 l.length 1 (l.map (IV.int .i64)))), (1, .v (.int .i64 n)), (5, .v (.int .i64 x))]) (fun _ => []) (fun _ => Heap.empty) (fun x => x ≤ l.length ∧ ∀ j, j < x → l[j]? ≠ some n) (fun x => l.length - x)
def kCont (xs : List IV) (h : Heap) (K : IV → Heap → Prop) : Prop := match xs with
  | [.vslice none e1 n1 1 c1, .int .i64 n] => ∃ l : List Int, (n1 = l.length ∧ c1 = l.map (IV.int .i64)) ∧ l.length ≤ 1000000 ∧ K (.bool (l.contains n)) h
  | _ => False
set_option maxRecDepth 100000 in
theorem vCont (l : List Int) (n : Int) (e1 : Nat) (h : Heap) (Q : IV → Heap → Prop) : dF (stdS cWrites2) env 38 noU (ic1 3 (coI l n)) noI [.vslice none e1 (l).length 1 ((l).map (IV.int .i64)), .int .i64 n] h Q = (
  needS (pureL [IV.vslice none 0 l.length 1 (List.map (IV.int .i64) l), IV.int .i64 n])
 ((∃ (x : Nat),
 some (TV.v (.vslice none 0 l.length 1 (List.map (IV.int .i64) l))) = some (TV.v (.vslice none 0 l.length 1 (List.map (IV.int .i64) l))) ∧
 some (TV.v (.int .i64 n)) = some (TV.v (.int .i64 n)) ∧
 some (TV.v (.int .i64 0)) = some (TV.v (.int .i64 (↑x : Int))) ∧ Heap.mk PT.nil 0 = Heap.mk PT.nil 0 ∧ (x ≤ l.length ∧ ∀ (j : Nat), j < x → l[j]? ≠ some n) ∧ True) ∧
 ∀ (x : Nat) (b : FF),
 (x ≤ l.length ∧ ∀ (j : Nat), j < x → l[j]? ≠ some n) →
 brS (decide ((↑x : Int) < (↑l.length : Int)))
 (needS (decide (0 ≤ (↑x : Int)) && decide ((↑x : Int) < (↑l.length : Int)))
 (ldIS .i64 (List.map (IV.int .i64) l) (Int.toNat (↑x : Int) * 1) fun n0 =>
 brS (n0 == n) (Q (.bool true) h)
 (∃ (x_1 : Nat),
 some (TV.v (.vslice none 0 l.length 1 (List.map (IV.int .i64) l))) = some (TV.v (.vslice none 0 l.length 1 (List.map (IV.int .i64) l))) ∧
 some (TV.v (.int .i64 n)) = some (TV.v (.int .i64 n)) ∧
 some (TV.v (.int .i64 (IntKind.wrap .i64 ((↑x : Int) + 1)))) = some (TV.v (.int .i64 (↑x_1 : Int))) ∧
 Heap.mk PT.nil 0 = Heap.mk PT.nil 0 ∧ (x_1 ≤ l.length ∧ ∀ (j : Nat), j < x_1 → l[j]? ≠ some n) ∧ l.length - x_1 < l.length - x)))
 (Q (.bool false) h))) := by kernel_rfl
theorem sCont : ∀ xs h Q, kCont xs h Q → CallW env 38 xs h Q := by
  intro xs h Q hk
  unfold kCont at hk
  split at hk
  · rename_i e1 n1 c1 n
    obtain ⟨l, ⟨rfl, rfl⟩, hb, hk⟩ := hk
    refine dF_run (okWrites2) (vCont l n e1 h Q) ?_
    have tn : ∀ x : Nat, (x : Int).toNat = x := Int.toNat_natCast
    refine needS_intro (by simp only [pureL, pureB, pureL_ints, Bool.and_true]) ⟨⟨0, (by first | rfl | trivial), (by first | rfl | trivial), (by first | rfl | trivial), (by first | rfl | trivial), ⟨Nat.zero_le _, fun j hj => absurd hj (Nat.not_lt_zero _)⟩, trivial⟩, fun x _ hx => ?_⟩
    obtain ⟨hx1, hx2⟩ := hx
    refine brS_intro (fun c => ?_) (fun c => ?_)
    · have c : (x : Int) < l.length := by simpa using c
      have hlt : x < l.length := by omega
      refine needS_intro (by simp; omega) ?_
      rw [tn, Nat.mul_one]
      refine ldIS_map hlt (brS_intro (fun q => ?_) (fun q => ?_))
      · rw [beq_iff_eq] at q
        have e : l.contains n = true := by rw [List.contains_iff_mem, ← q]; exact List.getElem_mem hlt
        rw [e] at hk
        exact hk
      · rw [beq_eq_false_iff_ne] at q
        refine ⟨x + 1, (by first | rfl | trivial), (by first | rfl | trivial), (by rw [IntWalk.i64_in _ (by omega)]; rfl), (by first | rfl | trivial), ⟨hlt, fun j hj => ?_⟩, by omega⟩
        rcases Nat.lt_or_ge j x with y | y
        · exact hx2 j y
        · obtain rfl : j = x := by omega
          rw [List.getElem?_eq_getElem hlt]
          exact fun z => q (Option.some.inj z)
    · have c : ¬ (x : Int) < l.length := by simpa using c
      have e : l.contains n = false := by
        rw [Bool.eq_false_iff]
        intro z
        rw [List.contains_iff_mem] at z
        obtain ⟨j, hj, hz⟩ := List.getElem_of_mem z
        exact hx2 j (by omega) (by rw [List.getElem?_eq_getElem hj, hz])
      rw [e] at hk
      exact hk
  · exact hk.elim
def cCont := addC 38 kCont cWrites2
theorem okCont : Sound env cCont := sound_add sCont (okWrites2)

def efA : Inv' := atX (Bi × CS × Nat × Heap × Ly) (fun x => [(13, .l 13 0), (14, .v (.ptr 1 0)), (16, .v (.int .i64 x.2.2.1))]) (fun x => [(13, binC x.1)]) (fun x => x.2.2.2.1) (fun x => VB x.1 ∧ (∀ z ∈ x.1.w, u32b z) ∧ x.1.a = [3, 2] ∧ WF x.1 x.2.1 ∧ x.2.1.frames.length ≤ 1 + x.2.2.1 ∧ x.2.1.out.length ≤ x.2.2.1 ∧ x.2.2.1 ≤ 60 ∧ Rep x.1 x.2.1 x.2.2.2.2 1 x.2.2.2.1) (fun x => 60 - x.2.2.1)
def efB : Inv' := atX (Bi × CS × Nat × Heap × Ly × Option Nat × Nat × Nat) (fun x => [(13, .l 13 0), (14, .v (.ptr 1 0)), (16, .v (.int .i64 x.2.2.1)), (17, .l 17 0), (20, .l 20 0), (22, .v (.vslice x.2.2.2.2.2.1 x.2.2.2.2.2.2.1 5 1 (ints (memL x.2.1)))), (23, .v (wrV x.1 x.2.1)), (24, .v (.int .i64 x.2.2.2.2.2.2.2))]) (fun x => [(13, binC x.1), (17, insC x.1 x.2.1), (20, ints (rgL x.2.1))]) (fun x => x.2.2.2.1) (fun x => VB x.1 ∧ (∀ z ∈ x.1.w, u32b z) ∧ x.1.a = [3, 2] ∧ WF x.1 x.2.1 ∧ x.2.1.frames.length ≤ 1 + x.2.2.1 ∧ x.2.1.out.length ≤ x.2.2.1 ∧ x.2.2.1 < 60 ∧ Rep x.1 (stepS x.1 x.2.1) x.2.2.2.2.1 1 x.2.2.2.1 ∧ x.2.2.2.2.2.2.2 ≤ 8) (fun x => (60 - x.2.2.1) * 20 + (8 - x.2.2.2.2.2.2.2))
def efC : Inv' := atX (Bi × CS × Nat × Heap × Ly × Option Nat × Nat × Option Nat × Nat × Nat) (fun x => [(13, .l 13 0), (14, .v (.ptr 1 0)), (16, .v (.int .i64 x.2.2.1)), (17, .l 17 0), (22, .v (.vslice x.2.2.2.2.2.1 x.2.2.2.2.2.2.1 5 1 (ints (memL x.2.1)))), (25, .v (.vslice x.2.2.2.2.2.2.2.1 x.2.2.2.2.2.2.2.2.1 5 1 (ints (memL (stepS x.1 x.2.1))))), (26, .v (.int .i64 (cntD (memL x.2.1) (memL (stepS x.1 x.2.1)) x.2.2.2.2.2.2.2.2.2))), (27, .v (.int .i64 x.2.2.2.2.2.2.2.2.2))]) (fun x => [(13, binC x.1), (17, insC x.1 x.2.1)]) (fun x => x.2.2.2.1) (fun x => VB x.1 ∧ (∀ z ∈ x.1.w, u32b z) ∧ x.1.a = [3, 2] ∧ WF x.1 x.2.1 ∧ x.2.1.frames.length ≤ 1 + x.2.2.1 ∧ x.2.1.out.length ≤ x.2.2.1 ∧ x.2.2.1 < 60 ∧ Rep x.1 (stepS x.1 x.2.1) x.2.2.2.2.1 1 x.2.2.2.1 ∧ x.2.2.2.2.2.2.2.2.2 ≤ 5) (fun x => (60 - x.2.2.1) * 20 + (5 - x.2.2.2.2.2.2.2.2.2))
def kLEff (xs : List IV) (h : Heap) (K : IV → Heap → Prop) : Prop := match xs with
  | [.vslice none e1 n1 1 c1, .int .i64 f, .int .i64 a, .int .i64 b, .int .i64 w, .int .i64 fuel] => ∃ l : List Int, (n1 = l.length ∧ c1 = l.map (IV.int .i64)) ∧ (l.length < 4611686018427387904 ∧ ∀ a ∈ l, -9223372036854775808 ≤ a ∧ a ≤ 9223372036854775807) ∧ K (.bool true) h
  | _ => False
set_option maxRecDepth 100000 in
theorem vLEff (l : List Int) (e1 : Nat) (f a b w fuel : Int) (h : Heap) (Q : IV → Heap → Prop) : dF (stdS cCont) env 10 (fun k => match Nat.beq k 15 with | true => 9 | false => 0) (icA 8 efA (icA 1000022 efB (ic1 1000029 efC))) noI [.vslice none e1 (l).length 1 ((l).map (IV.int .i64)), .int .i64 f, .int .i64 a, .int .i64 b, .int .i64 w, .int .i64 fuel] h Q = (
  needS (pureL [eArgs l, IV.int .i64 f, IV.int .i64 a, IV.int .i64 b, IV.int .i64 w, IV.int .i64 fuel]) (∃ (l_1 : List Int), (l.length = l_1.length ∧ List.map (IV.int .i64) l = List.map (IV.int .i64) l_1) ∧ (l_1.length < 4611686018427387904 ∧ ∀ (a : Int), a ∈ l_1 → (-9223372036854775808 : Int) ≤ a ∧ a ≤ (9223372036854775807 : 
 Int)) ∧ ∀ (w_1 : List Int) (m : Int), VB (Bi.mk w_1 [(0 : Int), m] [(2 : Int), (1 : Int)] [(5 : Int), (2 : Int)] [(3 : Int), (2 : Int)]) → (∀ (x : Int), x ∈ w_1 → u32b x) → w_1.length ≤ 1000 → ((0 : Int) < 2 ∧ (2 : Int) < 4611686018427387904) ∧ needS (decide (0 ≤ f % (2 : Int)) && decide (f % (2 : Int) < 2)) (ldIS .i64 [IV.int .i64 (2 : 
 Int), IV.int .i64 1] (Int.toNat (f % (2 : Int)) * 1) fun n0 => needS (true && (decide (0 ≤ n0) && decide (n0 ≤ 2))) (∃ (w_2 e : List Int), ∃ (p s : List Int), ∃ (a_4 args : List Int), (w_1.length = w_2.length ∧ List.map (IV.int .u32) w_1 = List.map (IV.int .u32) w_2) ∧ ((2 : Nat) 
 = e.length ∧ [IV.int .i64 0, IV.int .i64 m] = List.map (IV.int .i64) e) ∧ ((2 : Nat) = p.length ∧ [IV.int .i64 2, IV.int .i64 1] = List.map (IV.int .i64) p) ∧ ((2 : Nat) = s.length ∧ [IV.int .i64 5, IV.int .i64 2] = List.map (IV.int .i64) s) ∧ ((2 : Nat) = a_4.length ∧ [IV.int 
 .i64 (3 : Int), IV.int .i64 2] = List.map (IV.int .i64) a_4) ∧ (n0.toNat - 0 = args.length ∧ List.take ((n0.toNat - 0) * 1) [IV.int .i64 (word a w), IV.int .i64 (word b w)] = List.map (IV.int .i64) args) ∧ (∀ (x : Int), x ∈ w_2 → u32b x) ∧ (newErr (Bi.mk w_2 e p s a_4) (f % (2 : Int)) args (fuel % (12 : Int)) ≠ 
 (0 : Int) → brS (newErr (Bi.mk w_2 e p s a_4) (f % (2 : Int)) args (fuel % (12 : Int)) != 0) (Q (.bool false) h) (Q (.bool false) h)) ∧ (newErr (Bi.mk w_2 e p s a_4) (f % (2 : Int)) args (fuel % (12 : Int)) = 0 → ∀ (L : Ly) (h' : Heap), Rep (Bi.mk w_2 e p s a_4) (initS (Bi.mk w_2 e p s a_4) (f % (2 : Int)) args (fuel % (12 : Int))) L ((0 : Nat) + 1) h' → (∀ (k : Nat), k 
 < (0 : Nat) → Heap.get h' k = IObj.dead ∧ Ly.r L k = Role.other) → 0 ≤ Heap.next h' → (∃ (x : Bi × CS × Nat × Heap × Ly), some (TV.l 13 0) = some (TV.l 13 0) ∧ some (TV.v (.ptr ((0 : Nat) + 1) 0)) = some (TV.v (.ptr 1 0)) ∧ some (TV.v (.int .i64 0)) = some (TV.v (.int .i64 (↑(Prod.fst (Prod.snd 
 x.2)) : Int))) ∧ some [eWords w_1, IV.vslice none 0 2 1 [IV.int .i64 0, IV.int .i64 m], IV.vslice none 0 2 1 [IV.int .i64 2, IV.int .i64 1], IV.vslice none 0 2 1 [IV.int .i64 5, IV.int .i64 2], IV.vslice none 0 2 (1 : 
 Nat) [IV.int .i64 3, IV.int .i64 2]] = some [eWords (Bi.w x.1), eArgs (Bi.e x.1), eArgs (Bi.p x.1), eArgs (Bi.s x.1), eArgs (Bi.a x.1)] ∧ h' = x.2.2.2.1 ∧ (VB x.1 ∧ (∀ (z : Int), z ∈ Bi.w x.1 → u32b z) ∧ Bi.a x.1 = [(3 : Int), (2 : Int)] ∧ WF x.1 
 x.2.1 ∧ List.length (CS.frames x.2.1) ≤ 1 + x.2.2.1 ∧ List.length (CS.out x.2.1) ≤ x.2.2.1 ∧ x.2.2.1 ≤ 60 ∧ Rep x.1 x.2.1 x.2.2.2.2 (1 : Nat) x.2.2.2.1) ∧ 
 True) ∧ ∀ (x : Bi × CS × Nat × Heap × Ly) (b : FF), VB x.1 ∧ (∀ (z : Int), z ∈ Bi.w x.1 → u32b z) ∧ Bi.a x.1 = [(3 : Int), (2 : Int)] ∧ WF x.1 x.2.1 ∧ List.length (CS.frames x.2.1) ≤ 1 + x.2.2.1 ∧ List.length (CS.out x.2.1) ≤ x.2.2.1 ∧ Prod.fst 
 x.2.2 ≤ 60 ∧ Rep x.1 x.2.1 x.2.2.2.2 (1 : Nat) x.2.2.2.1 → brS (decide ((↑x.2.2.1 : Int) < 60)) (∃ (B : Bi), ∃ (s : CS), ∃ (L : Ly), Rep B s L (1 : Nat) x.2.2.2.1 ∧ ∃ (w : List Int), (List.length (Bi.w 
 x.1) = w.length ∧ List.map (IV.int .u32) (Bi.w x.1) = List.map (IV.int .u32) w) ∧ ((∀ (x : Int), x ∈ w → u32b x) ∧ (↑w.length : Int) ≤ 4611686018427387904 ∧ (-9223372036854775808 : Int) ≤ CS.pc s) ∧ brS (Prod.snd (Prod.snd (decR w (CS.pc s))) != 0) (Q (.bool false) h) (∃ (B : Bi), ∃ (s_1 : CS), ∃ (L : Ly), Rep B s_1 L (1 : Nat) 
 x.2.2.2.1 ∧ ∃ (B : Bi), ∃ (s_2 : CS), ∃ (L : Ly), Rep B s_2 L (1 : Nat) x.2.2.2.1 ∧ ∃ (B : Bi), ∃ (s_3 : CS), ∃ (L : Ly), Rep B s_3 L (1 : Nat) x.2.2.2.1 ∧ ∃ (B : Bi), ∃ (s_4 : CS), ∃ (L : Ly), Rep B s_4 L (1 : Nat) x.2.2.2.1 ∧ ∃ (B : Bi), ∃ (s_5 : CS), ∃ 
 (L : Ly), Rep B s_5 L (1 : Nat) x.2.2.2.1 ∧ ∃ (B : Bi), ∃ (s_6 : CS), ∃ (L : Ly), Rep B s_6 L (1 : Nat) x.2.2.2.1 ∧ ∃ (B : Bi), ∃ (s_7 : CS), ∃ (L : Ly), Rep B s_7 L (1 : Nat) x.2.2.2.1 ∧ ∃ (B : Bi), ∃ (s_8 : CS), ∃ (L : Ly), Rep B s_8 L (1 : Nat) (Prod.fst (Prod.snd (Prod.snd (Prod.snd 
 x)))) ∧ ∃ (B : Bi), ∃ (s_9 : CS), ∃ (L : Ly), (List.length (Bi.a x.1) = 2 ∧ List.map (IV.int .i64) (Bi.a x.1) = [IV.int .i64 3, IV.int .i64 2]) ∧ Bi.a B = [(3 : Int), (2 : Int)] ∧ Rep B s_9 L (1 : Nat) x.2.2.2.1 ∧ ∀ (i : Option Nat) (e : Nat) (h' : Heap), (∀ (k : Nat), k < Heap.next (Prod.fst 
 x.2.2.2) → Heap.get h' k = Heap.get x.2.2.2.1 k) → Heap.next x.2.2.2.1 ≤ Heap.next h' → ∃ (B : Bi), ∃ (s_10 : CS), ∃ (L : Ly), Rep B s_10 L (1 : Nat) h' ∧ (VB B ∧ (∀ (x : Int), x ∈ Bi.w B → u32b x) ∧ WF B s_10 ∧ List.length (CS.out s_10) ≤ 1000000 ∧ List.length (CS.frames s_10) ≤ (1000000 : 
 Nat)) ∧ ∀ (L' : Ly) (h'_1 : Heap), Rep B (stepS B s_10) L' (1 : Nat) h'_1 → Frm L L' h' h'_1 → ∃ (M : Nat), (∃ (x_1 : Bi × CS × Nat × Heap × Ly × Option Nat × Nat × Nat), some (TV.l 13 0) = some (TV.l 13 0) ∧ some (TV.v (.ptr 1 0)) = some (TV.v (.ptr 1 0)) ∧ some (TV.v (.int .i64 (↑x.2.2.1 : 
 Int))) = some (TV.v (.int .i64 (↑x_1.2.2.1 : Int))) ∧ some (TV.l 17 0) = some (TV.l 17 0) ∧ some (TV.l 20 0) = some (TV.l 20 0) ∧ some (TV.v (.vslice i e 5 1 [IV.int .i64 (cellV s_9 (0 : Int) (0 : Int)), IV.int .i64 (cellV s_9 (0 : Int) (1 : Int)), IV.int .i64 
 (cellV s_9 (0 : Int) (2 : Int)), IV.int .i64 (cellV s_9 (1 : Int) (0 : Int)), IV.int .i64 (cellV s_9 (1 : Int) (1 : Int))])) = some (TV.v (.vslice x_1.2.2.2.2.2.1 x_1.2.2.2.2.2.2.1 5 1 [IV.int .i64 (cellV x_1.2.1 (0 : Int) (0 
 : Int)), IV.int .i64 (cellV x_1.2.1 (0 : Int) (1 : Int)), IV.int .i64 (cellV x_1.2.1 (0 : Int) (2 : Int)), IV.int .i64 (cellV x_1.2.1 (1 : Int) (0 : Int)), IV.int .i64 (cellV x_1.2.1 (1 : Int) (1 : Int))])) ∧ some (TV.v (eArgs (wrI (In.op (Prod.fst (decR w (CS.pc s)))) (In.a (Prod.fst (decR w (CS.pc 
 s)))) (In.b (Prod.fst (decR w (CS.pc s)))) (In.c (Prod.fst (decR w (CS.pc s)))) (In.n (Prod.fst (decR w (CS.pc s))))))) = some (TV.v (eArgs (wrL x_1.1 x_1.2.1))) ∧ some (TV.v (.int .i64 0)) = some (TV.v (.int .i64 (↑x_1.2.2.2.2.2.2.2 : Int))) ∧ some [eWords (Bi.w x.1), eArgs 
 (Bi.e x.1), eArgs (Bi.p x.1), eArgs (Bi.s x.1), eArgs (Bi.a x.1)] = some [eWords (Bi.w x_1.1), eArgs (Bi.e x_1.1), eArgs (Bi.p x_1.1), eArgs (Bi.s x_1.1), eArgs (Bi.a x_1.1)] ∧ some [IV.int .i64 (In.op (Prod.fst (decR w (CS.pc s)))), IV.int .i64 (In.a (Prod.fst (decR w (CS.pc s)))), IV.int .i64 
 (In.b (Prod.fst (decR w (CS.pc s)))), IV.int .i64 (In.c (Prod.fst (decR w (CS.pc s)))), IV.int .i64 (In.n (Prod.fst (decR w (CS.pc s))))] = some [IV.int .i64 (In.op (insS x_1.1 x_1.2.1)), IV.int .i64 (In.a (insS x_1.1 x_1.2.1)), IV.int .i64 (In.b (insS x_1.1 x_1.2.1)), IV.int 
 .i64 (In.c (insS x_1.1 x_1.2.1)), IV.int .i64 (In.n (insS x_1.1 x_1.2.1))] ∧ some [IV.int .i64 (if (0 : Int) ≤ 0 ∧ (0 : Int) ≤ 7 then rg s_1 (0 : Int) else (0 : Int)), IV.int .i64 (if (0 : Int) ≤ 1 ∧ (1 : Int) ≤ 7 then rg s_2 (1 : Int) else (0 : Int)), IV.int .i64 (if (0 : Int) 
 ≤ (2 : Int) ∧ (2 : Int) ≤ 7 then rg s_3 (2 : Int) else (0 : Int)), IV.int .i64 (if (0 : Int) ≤ 3 ∧ (3 : Int) ≤ 7 then rg s_4 (3 : Int) else (0 : Int)), IV.int .i64 (if (0 : Int) ≤ 4 ∧ (4 : Int) ≤ 7 then rg s_5 (4 : Int) else (0 : Int)), IV.int .i64 (if (0 : Int) ≤ 5 ∧ (5 : Int) ≤ 7 then rg s_6 (5 : Int) else (0 : Int)), 
 IV.int .i64 (if (0 : Int) ≤ 6 ∧ (6 : Int) ≤ 7 then rg s_7 (6 : Int) else (0 : Int)), IV.int .i64 (if (0 : Int) ≤ 7 ∧ (7 : Int) ≤ 7 then rg s_8 (7 : Int) else (0 : Int))] = some [IV.int .i64 (rg x_1.2.1 (0 : Int)), IV.int .i64 (rg x_1.2.1 (1 : Int)), IV.int .i64 (rg x_1.2.1 (2 : 
 Int)), IV.int .i64 (rg x_1.2.1 (3 : Int)), IV.int .i64 (rg x_1.2.1 (4 : Int)), IV.int .i64 (rg x_1.2.1 (5 : Int)), IV.int .i64 (rg x_1.2.1 (6 : Int)), IV.int .i64 (rg x_1.2.1 (7 : Int))] ∧ h'_1 = x_1.2.2.2.1 ∧ (VB x_1.1 ∧ (∀ (z : 
 Int), z ∈ Bi.w x_1.1 → u32b z) ∧ Bi.a x_1.1 = [(3 : Int), (2 : Int)] ∧ WF x_1.1 x_1.2.1 ∧ List.length (CS.frames x_1.2.1) ≤ 1 + x_1.2.2.1 ∧ List.length (CS.out x_1.2.1) ≤ x_1.2.2.1 ∧ x_1.2.2.1 < 60 ∧ Rep x_1.1 (stepS 
 x_1.1 x_1.2.1) x_1.2.2.2.2.1 (1 : Nat) x_1.2.2.2.1 ∧ x_1.2.2.2.2.2.2.2 ≤ 8) ∧ ((60 : Nat) - x_1.2.2.1) * 20 + ((8 : Nat) - Prod.snd (Prod.snd (Prod.snd (Prod.snd (Prod.snd (Prod.snd 
 x_1.2)))))) ≤ M) ∧ ∀ (x_1 : Bi × CS × Nat × Heap × Ly × Option Nat × Nat × Nat) (b : FF), VB x_1.1 ∧ (∀ (z : Int), z ∈ Bi.w x_1.1 → u32b z) ∧ Bi.a x_1.1 = [(3 : Int), (2 : Int)] ∧ WF x_1.1 x_1.2.1 ∧ List.length (CS.frames x_1.2.1) ≤ 1 + x_1.2.2.1 ∧ List.length (CS.out (Prod.fst 
 x_1.2)) ≤ x_1.2.2.1 ∧ x_1.2.2.1 < 60 ∧ Rep x_1.1 (stepS x_1.1 x_1.2.1) x_1.2.2.2.2.1 (1 : Nat) x_1.2.2.2.1 ∧ x_1.2.2.2.2.2.2.2 ≤ 8 → ((60 : Nat) - 
 x_1.2.2.1) * 20 + ((8 : Nat) - x_1.2.2.2.2.2.2.2) ≤ M → brS (decide ((↑x_1.2.2.2.2.2.2.2 : Int) < 8)) (brS (In.op (insS x_1.1 x_1.2.1) != 6) (brS (In.op (insS x_1.1 x_1.2.1) 
 != (2 : Int)) (∃ (B : Bi), ∃ (s : CS), ∃ (L : Ly), Rep B s L (1 : Nat) x_1.2.2.2.1 ∧ needS (decide (0 ≤ (↑x_1.2.2.2.2.2.2.2 : Int)) && decide ((↑x_1.2.2.2.2.2.2.2 : Int) < 8)) (ldIS .i64 [IV.int .i64 (rg 
 x_1.2.1 (0 : Int)), IV.int .i64 (rg x_1.2.1 (1 : Int)), IV.int .i64 (rg x_1.2.1 (2 : Int)), IV.int .i64 (rg x_1.2.1 (3 : Int)), IV.int .i64 (rg x_1.2.1 (4 : Int)), IV.int .i64 (rg x_1.2.1 (5 : Int)), IV.int .i64 (rg x_1.2.1 (6 : 
 Int)), IV.int .i64 (rg x_1.2.1 (7 : Int))] ((0 : Nat) + Int.toNat (↑x_1.2.2.2.2.2.2.2 : Int) * 1) fun n1 => brS ((if 0 ≤ (↑x_1.2.2.2.2.2.2.2 : Int) ∧ (↑(Prod.snd (Prod.snd (Prod.snd (Prod.snd (Prod.snd (Prod.snd (Prod.snd 
 x_1))))))) : Int) ≤ 7 then rg s (↑x_1.2.2.2.2.2.2.2 : Int) else (0 : Int)) != n1) (∃ (l : List Int), (List.length (wrL x_1.1 x_1.2.1) = l.length ∧ List.map (IV.int .i64) (wrL x_1.1 x_1.2.1) = List.map (IV.int .i64) l) ∧ l.length ≤ 1000000 ∧ 
 brS (!List.contains l (↑x_1.2.2.2.2.2.2.2 : Int)) (Q (.bool false) h) (∃ (x : Bi × CS × Nat × Heap × Ly × Option Nat × Nat × Nat), some (TV.l 13 0) = some (TV.l 13 0) ∧ some (TV.v (.ptr 1 0)) = some (TV.v (.ptr 1 0)) ∧ some (TV.v (.int .i64 (↑(Prod.fst 
 x_1.2.2) : Int))) = some (TV.v (.int .i64 (↑x.2.2.1 : Int))) ∧ some (TV.l 17 0) = some (TV.l 17 0) ∧ some (TV.l 20 0) = some (TV.l 20 0) ∧ some (TV.v (.vslice x_1.2.2.2.2.2.1 (Prod.fst (Prod.snd (Prod.snd (Prod.snd (Prod.snd 
 x_1.2.2))))) 5 1 [IV.int .i64 (cellV x_1.2.1 (0 : Int) (0 : Int)), IV.int .i64 (cellV x_1.2.1 (0 : Int) (1 : Int)), IV.int .i64 (cellV x_1.2.1 (0 : Int) (2 : Int)), IV.int .i64 (cellV x_1.2.1 (1 : Int) (0 : Int)), IV.int .i64 (cellV x_1.2.1 
 (1 : Int) (1 : Int))])) = some (TV.v (.vslice x.2.2.2.2.2.1 x.2.2.2.2.2.2.1 5 1 [IV.int .i64 (cellV x.2.1 (0 : Int) (0 : Int)), IV.int .i64 (cellV x.2.1 (0 : Int) (1 : Int)), IV.int .i64 (cellV (Prod.fst 
 x.2) (0 : Int) (2 : Int)), IV.int .i64 (cellV x.2.1 (1 : Int) (0 : Int)), IV.int .i64 (cellV x.2.1 (1 : Int) (1 : Int))])) ∧ some (TV.v (eArgs (wrL x_1.1 x_1.2.1))) = some (TV.v (eArgs (wrL x.1 x.2.1))) ∧ some (TV.v (.int .i64 (IntKind.wrap .i64 ((↑(Prod.snd (Prod.snd 
 x_1.2.2.2.2.2)) : Int) + 1)))) = some (TV.v (.int .i64 (↑x.2.2.2.2.2.2.2 : Int))) ∧ some [eWords (Bi.w x_1.1), eArgs (Bi.e x_1.1), eArgs (Bi.p x_1.1), eArgs (Bi.s x_1.1), eArgs (Bi.a x_1.1)] = some [eWords (Bi.w x.1), 
 eArgs (Bi.e x.1), eArgs (Bi.p x.1), eArgs (Bi.s x.1), eArgs (Bi.a x.1)] ∧ some [IV.int .i64 (In.op (insS x_1.1 x_1.2.1)), IV.int .i64 (In.a (insS x_1.1 x_1.2.1)), IV.int .i64 (In.b (insS x_1.1 x_1.2.1)), IV.int .i64 (In.c (insS x_1.1 (Prod.fst 
 x_1.2))), IV.int .i64 (In.n (insS x_1.1 x_1.2.1))] = some [IV.int .i64 (In.op (insS x.1 x.2.1)), IV.int .i64 (In.a (insS x.1 x.2.1)), IV.int .i64 (In.b (insS x.1 x.2.1)), IV.int .i64 (In.c (insS x.1 x.2.1)), IV.int 
 .i64 (In.n (insS x.1 x.2.1))] ∧ some [IV.int .i64 (rg x_1.2.1 (0 : Int)), IV.int .i64 (rg x_1.2.1 (1 : Int)), IV.int .i64 (rg x_1.2.1 (2 : Int)), IV.int .i64 (rg x_1.2.1 (3 : Int)), IV.int .i64 (rg x_1.2.1 (4 : Int)), IV.int .i64 (rg 
 x_1.2.1 (5 : Int)), IV.int .i64 (rg x_1.2.1 (6 : Int)), IV.int .i64 (rg x_1.2.1 (7 : Int))] = some [IV.int .i64 (rg x.2.1 (0 : Int)), IV.int .i64 (rg x.2.1 (1 : Int)), IV.int .i64 (rg x.2.1 (2 : Int)), IV.int .i64 (rg x.2.1 (3 : 
 Int)), IV.int .i64 (rg x.2.1 (4 : Int)), IV.int .i64 (rg x.2.1 (5 : Int)), IV.int .i64 (rg x.2.1 (6 : Int)), IV.int .i64 (rg x.2.1 (7 : Int))] ∧ x_1.2.2.2.1 = x.2.2.2.1 ∧ (VB x.1 ∧ (∀ (z : Int), z ∈ Bi.w x.1 → u32b 
 z) ∧ Bi.a x.1 = [(3 : Int), (2 : Int)] ∧ WF x.1 x.2.1 ∧ List.length (CS.frames x.2.1) ≤ 1 + x.2.2.1 ∧ List.length (CS.out x.2.1) ≤ x.2.2.1 ∧ x.2.2.1 < 60 ∧ Rep x.1 (stepS x.1 x.2.1) (Prod.fst (Prod.snd 
 x.2.2.2)) (1 : Nat) x.2.2.2.1 ∧ x.2.2.2.2.2.2.2 ≤ 8) ∧ ((60 : Nat) - x.2.2.1) * 20 + ((8 : Nat) - x.2.2.2.2.2.2.2) < ((60 : Nat) - x_1.2.2.1) * (20 : 
 Nat) + ((8 : Nat) - x_1.2.2.2.2.2.2.2))) (∃ (x : Bi × CS × Nat × Heap × Ly × Option Nat × Nat × Nat), some (TV.l 13 0) = some (TV.l 13 0) ∧ some (TV.v (.ptr 1 0)) = some (TV.v (.ptr 1 0)) ∧ some (TV.v (.int .i64 (↑x_1.2.2.1 : Int))) = 
 some (TV.v (.int .i64 (↑x.2.2.1 : Int))) ∧ some (TV.l 17 0) = some (TV.l 17 0) ∧ some (TV.l 20 0) = some (TV.l 20 0) ∧ some (TV.v (.vslice x_1.2.2.2.2.2.1 x_1.2.2.2.2.2.2.1 (5 : 
 Nat) 1 [IV.int .i64 (cellV x_1.2.1 (0 : Int) (0 : Int)), IV.int .i64 (cellV x_1.2.1 (0 : Int) (1 : Int)), IV.int .i64 (cellV x_1.2.1 (0 : Int) (2 : Int)), IV.int .i64 (cellV x_1.2.1 (1 : Int) (0 : Int)), IV.int .i64 (cellV x_1.2.1 (1 : Int) (1 : Int))])) = some (TV.v 
 (IV.vslice x.2.2.2.2.2.1 x.2.2.2.2.2.2.1 5 1 [IV.int .i64 (cellV x.2.1 (0 : Int) (0 : Int)), IV.int .i64 (cellV x.2.1 (0 : Int) (1 : Int)), IV.int .i64 (cellV x.2.1 (0 : Int) (2 : Int)), 
 IV.int .i64 (cellV x.2.1 (1 : Int) (0 : Int)), IV.int .i64 (cellV x.2.1 (1 : Int) (1 : Int))])) ∧ some (TV.v (eArgs (wrL x_1.1 x_1.2.1))) = some (TV.v (eArgs (wrL x.1 x.2.1))) ∧ some (TV.v (.int .i64 (IntKind.wrap .i64 ((↑(Prod.snd (Prod.snd (Prod.snd (Prod.snd (Prod.snd 
 x_1.2.2))))) : Int) + 1)))) = some (TV.v (.int .i64 (↑x.2.2.2.2.2.2.2 : Int))) ∧ some [eWords (Bi.w x_1.1), eArgs (Bi.e x_1.1), eArgs (Bi.p x_1.1), eArgs (Bi.s x_1.1), eArgs (Bi.a x_1.1)] = some [eWords (Bi.w x.1), eArgs (Bi.e x.1), eArgs 
 (Bi.p x.1), eArgs (Bi.s x.1), eArgs (Bi.a x.1)] ∧ some [IV.int .i64 (In.op (insS x_1.1 x_1.2.1)), IV.int .i64 (In.a (insS x_1.1 x_1.2.1)), IV.int .i64 (In.b (insS x_1.1 x_1.2.1)), IV.int .i64 (In.c (insS x_1.1 x_1.2.1)), IV.int 
 .i64 (In.n (insS x_1.1 x_1.2.1))] = some [IV.int .i64 (In.op (insS x.1 x.2.1)), IV.int .i64 (In.a (insS x.1 x.2.1)), IV.int .i64 (In.b (insS x.1 x.2.1)), IV.int .i64 (In.c (insS x.1 x.2.1)), IV.int .i64 (In.n (insS 
 x.1 x.2.1))] ∧ some [IV.int .i64 (rg x_1.2.1 (0 : Int)), IV.int .i64 (rg x_1.2.1 (1 : Int)), IV.int .i64 (rg x_1.2.1 (2 : Int)), IV.int .i64 (rg x_1.2.1 (3 : Int)), IV.int .i64 (rg x_1.2.1 (4 : Int)), IV.int .i64 (rg (Prod.fst (Prod.snd 
 x_1)) (5 : Int)), IV.int .i64 (rg x_1.2.1 (6 : Int)), IV.int .i64 (rg x_1.2.1 (7 : Int))] = some [IV.int .i64 (rg x.2.1 (0 : Int)), IV.int .i64 (rg x.2.1 (1 : Int)), IV.int .i64 (rg x.2.1 (2 : Int)), IV.int .i64 (rg x.2.1 (3 : Int)), IV.int 
 .i64 (rg x.2.1 (4 : Int)), IV.int .i64 (rg x.2.1 (5 : Int)), IV.int .i64 (rg x.2.1 (6 : Int)), IV.int .i64 (rg x.2.1 (7 : Int))] ∧ x_1.2.2.2.1 = x.2.2.2.1 ∧ (VB x.1 ∧ (∀ (z : Int), z ∈ Bi.w x.1 → u32b z) ∧ Bi.a 
 x.1 = [(3 : Int), (2 : Int)] ∧ WF x.1 x.2.1 ∧ List.length (CS.frames x.2.1) ≤ 1 + x.2.2.1 ∧ List.length (CS.out x.2.1) ≤ x.2.2.1 ∧ x.2.2.1 < 60 ∧ Rep x.1 (stepS x.1 x.2.1) (Prod.fst (Prod.snd (Prod.snd 
 x.2.2))) (1 : Nat) x.2.2.2.1 ∧ x.2.2.2.2.2.2.2 ≤ 8) ∧ ((60 : Nat) - x.2.2.1) * 20 + ((8 : Nat) - x.2.2.2.2.2.2.2) < ((60 : Nat) - x_1.2.2.1) * 20 + 
 ((8 : Nat) - x_1.2.2.2.2.2.2.2)))) (∃ (x : Bi × CS × Nat × Heap × Ly × Option Nat × Nat × Nat), some (TV.l 13 0) = some (TV.l 13 0) ∧ some (TV.v (.ptr 1 0)) = some (TV.v (.ptr 1 0)) ∧ some (TV.v (.int .i64 (↑x_1.2.2.1 : Int))) = some 
 (TV.v (.int .i64 (↑x.2.2.1 : Int))) ∧ some (TV.l 17 0) = some (TV.l 17 0) ∧ some (TV.l 20 0) = some (TV.l 20 0) ∧ some (TV.v (.vslice x_1.2.2.2.2.2.1 x_1.2.2.2.2.2.2.1 5 (1 
 : Nat) [IV.int .i64 (cellV x_1.2.1 (0 : Int) (0 : Int)), IV.int .i64 (cellV x_1.2.1 (0 : Int) (1 : Int)), IV.int .i64 (cellV x_1.2.1 (0 : Int) (2 : Int)), IV.int .i64 (cellV x_1.2.1 (1 : Int) (0 : Int)), IV.int .i64 (cellV x_1.2.1 (1 : Int) (1 : Int))])) = some (TV.v 
 (IV.vslice x.2.2.2.2.2.1 x.2.2.2.2.2.2.1 5 1 [IV.int .i64 (cellV x.2.1 (0 : Int) (0 : Int)), IV.int .i64 (cellV x.2.1 (0 : Int) (1 : Int)), IV.int .i64 (cellV x.2.1 (0 : Int) (2 : Int)), 
 IV.int .i64 (cellV x.2.1 (1 : Int) (0 : Int)), IV.int .i64 (cellV x.2.1 (1 : Int) (1 : Int))])) ∧ some (TV.v (eArgs (wrL x_1.1 x_1.2.1))) = some (TV.v (eArgs (wrL x.1 x.2.1))) ∧ some (TV.v (.int .i64 (IntKind.wrap .i64 ((↑(Prod.snd (Prod.snd (Prod.snd (Prod.snd (Prod.snd 
 x_1.2.2))))) : Int) + 1)))) = some (TV.v (.int .i64 (↑x.2.2.2.2.2.2.2 : Int))) ∧ some [eWords (Bi.w x_1.1), eArgs (Bi.e x_1.1), eArgs (Bi.p x_1.1), eArgs (Bi.s x_1.1), eArgs (Bi.a x_1.1)] = some [eWords (Bi.w x.1), eArgs (Bi.e x.1), eArgs 
 (Bi.p x.1), eArgs (Bi.s x.1), eArgs (Bi.a x.1)] ∧ some [IV.int .i64 (In.op (insS x_1.1 x_1.2.1)), IV.int .i64 (In.a (insS x_1.1 x_1.2.1)), IV.int .i64 (In.b (insS x_1.1 x_1.2.1)), IV.int .i64 (In.c (insS x_1.1 x_1.2.1)), IV.int 
 .i64 (In.n (insS x_1.1 x_1.2.1))] = some [IV.int .i64 (In.op (insS x.1 x.2.1)), IV.int .i64 (In.a (insS x.1 x.2.1)), IV.int .i64 (In.b (insS x.1 x.2.1)), IV.int .i64 (In.c (insS x.1 x.2.1)), IV.int .i64 (In.n (insS 
 x.1 x.2.1))] ∧ some [IV.int .i64 (rg x_1.2.1 (0 : Int)), IV.int .i64 (rg x_1.2.1 (1 : Int)), IV.int .i64 (rg x_1.2.1 (2 : Int)), IV.int .i64 (rg x_1.2.1 (3 : Int)), IV.int .i64 (rg x_1.2.1 (4 : Int)), IV.int .i64 (rg (Prod.fst (Prod.snd 
 x_1)) (5 : Int)), IV.int .i64 (rg x_1.2.1 (6 : Int)), IV.int .i64 (rg x_1.2.1 (7 : Int))] = some [IV.int .i64 (rg x.2.1 (0 : Int)), IV.int .i64 (rg x.2.1 (1 : Int)), IV.int .i64 (rg x.2.1 (2 : Int)), IV.int .i64 (rg x.2.1 (3 : Int)), IV.int 
 .i64 (rg x.2.1 (4 : Int)), IV.int .i64 (rg x.2.1 (5 : Int)), IV.int .i64 (rg x.2.1 (6 : Int)), IV.int .i64 (rg x.2.1 (7 : Int))] ∧ x_1.2.2.2.1 = x.2.2.2.1 ∧ (VB x.1 ∧ (∀ (z : Int), z ∈ Bi.w x.1 → u32b z) ∧ Bi.a 
 x.1 = [(3 : Int), (2 : Int)] ∧ WF x.1 x.2.1 ∧ List.length (CS.frames x.2.1) ≤ 1 + x.2.2.1 ∧ List.length (CS.out x.2.1) ≤ x.2.2.1 ∧ x.2.2.1 < 60 ∧ Rep x.1 (stepS x.1 x.2.1) (Prod.fst (Prod.snd (Prod.snd 
 x.2.2))) (1 : Nat) x.2.2.2.1 ∧ x.2.2.2.2.2.2.2 ≤ 8) ∧ ((60 : Nat) - x.2.2.1) * 20 + ((8 : Nat) - x.2.2.2.2.2.2.2) < ((60 : Nat) - x_1.2.2.1) * 20 + 
 ((8 : Nat) - x_1.2.2.2.2.2.2.2))) (∃ (x : Bi × CS × Nat × Heap × Ly × Option Nat × Nat × Nat), some (TV.l 13 0) = some (TV.l 13 0) ∧ some (TV.v (.ptr 1 0)) = some (TV.v (.ptr 1 0)) ∧ some (TV.v (.int .i64 (↑x_1.2.2.1 : Int))) = some 
 (TV.v (.int .i64 (↑x.2.2.1 : Int))) ∧ some (TV.l 17 0) = some (TV.l 17 0) ∧ some (TV.l 20 0) = some (TV.l 20 0) ∧ some (TV.v (.vslice x_1.2.2.2.2.2.1 x_1.2.2.2.2.2.2.1 5 (1 
 : Nat) [IV.int .i64 (cellV x_1.2.1 (0 : Int) (0 : Int)), IV.int .i64 (cellV x_1.2.1 (0 : Int) (1 : Int)), IV.int .i64 (cellV x_1.2.1 (0 : Int) (2 : Int)), IV.int .i64 (cellV x_1.2.1 (1 : Int) (0 : Int)), IV.int .i64 (cellV x_1.2.1 (1 : Int) (1 : Int))])) = some (TV.v 
 (IV.vslice x.2.2.2.2.2.1 x.2.2.2.2.2.2.1 5 1 [IV.int .i64 (cellV x.2.1 (0 : Int) (0 : Int)), IV.int .i64 (cellV x.2.1 (0 : Int) (1 : Int)), IV.int .i64 (cellV x.2.1 (0 : Int) (2 : Int)), 
 IV.int .i64 (cellV x.2.1 (1 : Int) (0 : Int)), IV.int .i64 (cellV x.2.1 (1 : Int) (1 : Int))])) ∧ some (TV.v (eArgs (wrL x_1.1 x_1.2.1))) = some (TV.v (eArgs (wrL x.1 x.2.1))) ∧ some (TV.v (.int .i64 (IntKind.wrap .i64 ((↑(Prod.snd (Prod.snd (Prod.snd (Prod.snd (Prod.snd 
 x_1.2.2))))) : Int) + 1)))) = some (TV.v (.int .i64 (↑x.2.2.2.2.2.2.2 : Int))) ∧ some [eWords (Bi.w x_1.1), eArgs (Bi.e x_1.1), eArgs (Bi.p x_1.1), eArgs (Bi.s x_1.1), eArgs (Bi.a x_1.1)] = some [eWords (Bi.w x.1), eArgs (Bi.e x.1), eArgs 
 (Bi.p x.1), eArgs (Bi.s x.1), eArgs (Bi.a x.1)] ∧ some [IV.int .i64 (In.op (insS x_1.1 x_1.2.1)), IV.int .i64 (In.a (insS x_1.1 x_1.2.1)), IV.int .i64 (In.b (insS x_1.1 x_1.2.1)), IV.int .i64 (In.c (insS x_1.1 x_1.2.1)), IV.int 
 .i64 (In.n (insS x_1.1 x_1.2.1))] = some [IV.int .i64 (In.op (insS x.1 x.2.1)), IV.int .i64 (In.a (insS x.1 x.2.1)), IV.int .i64 (In.b (insS x.1 x.2.1)), IV.int .i64 (In.c (insS x.1 x.2.1)), IV.int .i64 (In.n (insS 
 x.1 x.2.1))] ∧ some [IV.int .i64 (rg x_1.2.1 (0 : Int)), IV.int .i64 (rg x_1.2.1 (1 : Int)), IV.int .i64 (rg x_1.2.1 (2 : Int)), IV.int .i64 (rg x_1.2.1 (3 : Int)), IV.int .i64 (rg x_1.2.1 (4 : Int)), IV.int .i64 (rg (Prod.fst (Prod.snd 
 x_1)) (5 : Int)), IV.int .i64 (rg x_1.2.1 (6 : Int)), IV.int .i64 (rg x_1.2.1 (7 : Int))] = some [IV.int .i64 (rg x.2.1 (0 : Int)), IV.int .i64 (rg x.2.1 (1 : Int)), IV.int .i64 (rg x.2.1 (2 : Int)), IV.int .i64 (rg x.2.1 (3 : Int)), IV.int 
 .i64 (rg x.2.1 (4 : Int)), IV.int .i64 (rg x.2.1 (5 : Int)), IV.int .i64 (rg x.2.1 (6 : Int)), IV.int .i64 (rg x.2.1 (7 : Int))] ∧ x_1.2.2.2.1 = x.2.2.2.1 ∧ (VB x.1 ∧ (∀ (z : Int), z ∈ Bi.w x.1 → u32b z) ∧ Bi.a 
 x.1 = [(3 : Int), (2 : Int)] ∧ WF x.1 x.2.1 ∧ List.length (CS.frames x.2.1) ≤ 1 + x.2.2.1 ∧ List.length (CS.out x.2.1) ≤ x.2.2.1 ∧ x.2.2.1 < 60 ∧ Rep x.1 (stepS x.1 x.2.1) (Prod.fst (Prod.snd (Prod.snd 
 x.2.2))) (1 : Nat) x.2.2.2.1 ∧ x.2.2.2.2.2.2.2 ≤ 8) ∧ ((60 : Nat) - x.2.2.1) * 20 + ((8 : Nat) - x.2.2.2.2.2.2.2) < ((60 : Nat) - x_1.2.2.1) * 20 + 
 ((8 : Nat) - x_1.2.2.2.2.2.2.2))) (∃ (B : Bi), ∃ (s : CS), ∃ (L : Ly), (List.length (Bi.a x_1.1) = 2 ∧ List.map (IV.int .i64) (Bi.a x_1.1) = [IV.int .i64 3, IV.int .i64 2]) ∧ Bi.a B = [(3 : Int), (2 : Int)] ∧ Rep B s L (1 : Nat) x_1.2.2.2.1 
 ∧ ∀ (i : Option Nat) (e : Nat) (h' : Heap), (∀ (k : Nat), k < Heap.next x_1.2.2.2.1 → Heap.get h' k = Heap.get x_1.2.2.2.1 k) → Heap.next x_1.2.2.2.1 ≤ Heap.next h' → ∃ (M : Nat), (∃ (x : Bi × CS × Nat × Heap × Ly × Option Nat × Nat × Option Nat × Nat × Nat), some (TV.l 13 0) 
 = some (TV.l 13 0) ∧ some (TV.v (.ptr 1 0)) = some (TV.v (.ptr 1 0)) ∧ some (TV.v (.int .i64 (↑x_1.2.2.1 : Int))) = some (TV.v (.int .i64 (↑x.2.2.1 : Int))) ∧ some (TV.l 17 0) = some (TV.l 17 0) ∧ some (TV.v (.vslice (Prod.fst (Prod.snd 
 x_1.2.2.2.2)) x_1.2.2.2.2.2.2.1 5 1 [IV.int .i64 (cellV x_1.2.1 (0 : Int) (0 : Int)), IV.int .i64 (cellV x_1.2.1 (0 : Int) (1 : Int)), IV.int .i64 (cellV x_1.2.1 (0 : Int) (2 : Int)), IV.int .i64 (cellV 
 x_1.2.1 (1 : Int) (0 : Int)), IV.int .i64 (cellV x_1.2.1 (1 : Int) (1 : Int))])) = some (TV.v (.vslice x.2.2.2.2.2.1 x.2.2.2.2.2.2.1 5 1 [IV.int .i64 (cellV x.2.1 (0 : Int) (0 : Int)), IV.int 
 .i64 (cellV x.2.1 (0 : Int) (1 : Int)), IV.int .i64 (cellV x.2.1 (0 : Int) (2 : Int)), IV.int .i64 (cellV x.2.1 (1 : Int) (0 : Int)), IV.int .i64 (cellV x.2.1 (1 : Int) (1 : Int))])) ∧ some (TV.v (.vslice i e 5 1 [IV.int .i64 (cellV s (0 : Int) (0 : Int)), IV.int .i64 
 (cellV s (0 : Int) (1 : Int)), IV.int .i64 (cellV s (0 : Int) (2 : Int)), IV.int .i64 (cellV s (1 : Int) (0 : Int)), IV.int .i64 (cellV s (1 : Int) (1 : Int))])) = some (TV.v (.vslice x.2.2.2.2.2.2.2.1 x.2.2.2.2.2.2.2.2.1 (5 
 : Nat) 1 [IV.int .i64 (cellV (stepS x.1 x.2.1) (0 : Int) (0 : Int)), IV.int .i64 (cellV (stepS x.1 x.2.1) (0 : Int) (1 : Int)), IV.int .i64 (cellV (stepS x.1 x.2.1) (0 : Int) (2 : Int)), IV.int .i64 (cellV (stepS x.1 x.2.1) (1 : Int) (0 : Int)), IV.int 
 .i64 (cellV (stepS x.1 x.2.1) (1 : Int) (1 : Int))])) ∧ some (TV.v (.int .i64 0)) = some (TV.v (.int .i64 (↑(cntD [cellV x.2.1 (0 : Int) (0 : Int), cellV x.2.1 (0 : Int) (1 : Int), cellV x.2.1 (0 : Int) (2 : Int), cellV x.2.1 (1 : Int) (0 : Int), cellV (Prod.fst 
 x.2) (1 : Int) (1 : Int)] [cellV (stepS x.1 x.2.1) (0 : Int) (0 : Int), cellV (stepS x.1 x.2.1) (0 : Int) (1 : Int), cellV (stepS x.1 x.2.1) (0 : Int) (2 : Int), cellV (stepS x.1 x.2.1) (1 : Int) (0 : Int), cellV (stepS x.1 x.2.1) (1 : Int) (1 : Int)] 
 x.2.2.2.2.2.2.2.2.2) : Int))) ∧ some (TV.v (.int .i64 0)) = some (TV.v (.int .i64 (↑x.2.2.2.2.2.2.2.2.2 : Int))) ∧ some [eWords (Bi.w x_1.1), eArgs (Bi.e x_1.1), eArgs (Bi.p x_1.1), 
 eArgs (Bi.s x_1.1), eArgs (Bi.a x_1.1)] = some [eWords (Bi.w x.1), eArgs (Bi.e x.1), eArgs (Bi.p x.1), eArgs (Bi.s x.1), eArgs (Bi.a x.1)] ∧ some [IV.int .i64 (In.op (insS x_1.1 x_1.2.1)), IV.int .i64 (In.a (insS x_1.1 x_1.2.1)), IV.int .i64 (In.b (insS 
 x_1.1 x_1.2.1)), IV.int .i64 (In.c (insS x_1.1 x_1.2.1)), IV.int .i64 (In.n (insS x_1.1 x_1.2.1))] = some [IV.int .i64 (In.op (insS x.1 x.2.1)), IV.int .i64 (In.a (insS x.1 x.2.1)), IV.int .i64 (In.b (insS x.1 (Prod.fst 
 x.2))), IV.int .i64 (In.c (insS x.1 x.2.1)), IV.int .i64 (In.n (insS x.1 x.2.1))] ∧ h' = x.2.2.2.1 ∧ (VB x.1 ∧ (∀ (z : Int), z ∈ Bi.w x.1 → u32b z) ∧ Bi.a x.1 = [(3 : Int), (2 : Int)] ∧ WF x.1 x.2.1 ∧ List.length (CS.frames (Prod.fst 
 x.2)) ≤ 1 + x.2.2.1 ∧ List.length (CS.out x.2.1) ≤ x.2.2.1 ∧ x.2.2.1 < 60 ∧ Rep x.1 (stepS x.1 x.2.1) x.2.2.2.2.1 (1 : Nat) x.2.2.2.1 ∧ Prod.snd (Prod.snd (Prod.snd 
 x.2.2.2.2.2.2)) ≤ 5) ∧ ((60 : Nat) - x.2.2.1) * 20 + ((5 : Nat) - x.2.2.2.2.2.2.2.2.2) ≤ M) ∧ ∀ (x_2 : Bi × CS × Nat × Heap × Ly × Option Nat × Nat × Option Nat × Nat × Nat) (b : FF), VB x_2.1 ∧ (∀ (z : Int), z ∈ Bi.w 
 x_2.1 → u32b z) ∧ Bi.a x_2.1 = [(3 : Int), (2 : Int)] ∧ WF x_2.1 x_2.2.1 ∧ List.length (CS.frames x_2.2.1) ≤ 1 + x_2.2.2.1 ∧ List.length (CS.out x_2.2.1) ≤ x_2.2.2.1 ∧ x_2.2.2.1 < 60 ∧ Rep x_2.1 (stepS x_2.1 
 x_2.2.1) x_2.2.2.2.2.1 (1 : Nat) x_2.2.2.2.1 ∧ x_2.2.2.2.2.2.2.2.2.2 ≤ 5 → ((60 : Nat) - x_2.2.2.1) * 20 + ((5 : Nat) - Prod.snd (Prod.snd (Prod.snd (Prod.snd (Prod.snd (Prod.snd 
 x_2.2.2.2)))))) ≤ M → brS (decide ((↑x_2.2.2.2.2.2.2.2.2.2 : Int) < 5)) (needS (decide (0 ≤ (↑x_2.2.2.2.2.2.2.2.2.2 : Int)) && decide ((↑(Prod.snd (Prod.snd (Prod.snd (Prod.snd (Prod.snd 
 x_2.2.2.2.2))))) : Int) < 5)) (ldIS .i64 [IV.int .i64 (cellV (stepS x_2.1 x_2.2.1) (0 : Int) (0 : Int)), IV.int .i64 (cellV (stepS x_2.1 x_2.2.1) (0 : Int) (1 : Int)), IV.int .i64 (cellV (stepS x_2.1 x_2.2.1) (0 : Int) (2 : Int)), IV.int 
 .i64 (cellV (stepS x_2.1 x_2.2.1) (1 : Int) (0 : Int)), IV.int .i64 (cellV (stepS x_2.1 x_2.2.1) (1 : Int) (1 : Int))] (Int.toNat (↑x_2.2.2.2.2.2.2.2.2.2 : Int) * 1) fun n2 => needS (decide (0 ≤ (↑(Prod.snd (Prod.snd (Prod.snd 
 x_2.2.2.2.2.2.2))) : Int)) && decide ((↑x_2.2.2.2.2.2.2.2.2.2 : Int) < 5)) (ldIS .i64 [IV.int .i64 (cellV x_2.2.1 (0 : Int) (0 : Int)), IV.int .i64 (cellV x_2.2.1 (0 : Int) (1 : Int)), IV.int 
 .i64 (cellV x_2.2.1 (0 : Int) (2 : Int)), IV.int .i64 (cellV x_2.2.1 (1 : Int) (0 : Int)), IV.int .i64 (cellV x_2.2.1 (1 : Int) (1 : Int))] (Int.toNat (↑x_2.2.2.2.2.2.2.2.2.2 : Int) * 1) fun n3 => brS (n2 != n3) (∃ (x : Bi × CS 
 × Nat × Heap × Ly × Option Nat × Nat × Option Nat × Nat × Nat), some (TV.l 13 0) = some (TV.l 13 0) ∧ some (TV.v (.ptr 1 0)) = some (TV.v (.ptr 1 0)) ∧ some (TV.v (.int .i64 (↑x_2.2.2.1 : Int))) = some (TV.v (.int .i64 (↑x.2.2.1 : Int))) ∧ some (TV.l (17 : 
 Nat) (0 : Nat)) = some (TV.l 17 0) ∧ some (TV.v (.vslice x_2.2.2.2.2.2.1 x_2.2.2.2.2.2.2.1 5 1 [IV.int .i64 (cellV x_2.2.1 (0 : Int) (0 : Int)), IV.int .i64 (cellV x_2.2.1 (0 : Int) (1 : Int)), 
 IV.int .i64 (cellV x_2.2.1 (0 : Int) (2 : Int)), IV.int .i64 (cellV x_2.2.1 (1 : Int) (0 : Int)), IV.int .i64 (cellV x_2.2.1 (1 : Int) (1 : Int))])) = some (TV.v (.vslice x.2.2.2.2.2.1 x.2.2.2.2.2.2.1 (5 : 
 Nat) 1 [IV.int .i64 (cellV x.2.1 (0 : Int) (0 : Int)), IV.int .i64 (cellV x.2.1 (0 : Int) (1 : Int)), IV.int .i64 (cellV x.2.1 (0 : Int) (2 : Int)), IV.int .i64 (cellV x.2.1 (1 : Int) (0 : Int)), IV.int .i64 (cellV x.2.1 (1 : Int) (1 : Int))])) ∧ some (TV.v 
 (IV.vslice x_2.2.2.2.2.2.2.2.1 x_2.2.2.2.2.2.2.2.2.1 5 1 [IV.int .i64 (cellV (stepS x_2.1 x_2.2.1) (0 : Int) (0 : Int)), IV.int .i64 (cellV (stepS x_2.1 x_2.2.1) 
 (0 : Int) (1 : Int)), IV.int .i64 (cellV (stepS x_2.1 x_2.2.1) (0 : Int) (2 : Int)), IV.int .i64 (cellV (stepS x_2.1 x_2.2.1) (1 : Int) (0 : Int)), IV.int .i64 (cellV (stepS x_2.1 x_2.2.1) (1 : Int) (1 : Int))])) = some (TV.v (.vslice (Prod.fst (Prod.snd (Prod.snd (Prod.snd (Prod.snd (Prod.snd 
 x.2.2)))))) x.2.2.2.2.2.2.2.2.1 5 1 [IV.int .i64 (cellV (stepS x.1 x.2.1) (0 : Int) (0 : Int)), IV.int .i64 (cellV (stepS x.1 x.2.1) (0 : Int) (1 : Int)), IV.int .i64 (cellV (stepS x.1 (Prod.fst 
 x.2)) (0 : Int) (2 : Int)), IV.int .i64 (cellV (stepS x.1 x.2.1) (1 : Int) (0 : Int)), IV.int .i64 (cellV (stepS x.1 x.2.1) (1 : Int) (1 : Int))])) ∧ some (TV.v (.int .i64 (IntKind.wrap .i64 ((↑(cntD [cellV x_2.2.1 (0 : Int) (0 : Int), cellV x_2.2.1 (0 : Int) (1 : Int), 
 cellV x_2.2.1 (0 : Int) (2 : Int), cellV x_2.2.1 (1 : Int) (0 : Int), cellV x_2.2.1 (1 : Int) (1 : Int)] [cellV (stepS x_2.1 x_2.2.1) (0 : Int) (0 : Int), cellV (stepS x_2.1 x_2.2.1) (0 : Int) (1 : Int), cellV (stepS x_2.1 x_2.2.1) (0 : Int) (2 : Int), cellV (stepS 
 x_2.1 x_2.2.1) (1 : Int) (0 : Int), cellV (stepS x_2.1 x_2.2.1) (1 : Int) (1 : Int)] x_2.2.2.2.2.2.2.2.2.2) : Int) + 1)))) = some (TV.v (.int .i64 (↑(cntD [cellV x.2.1 (0 : Int) (0 : Int), cellV x.2.1 (0 : Int) 
 (1 : Int), cellV x.2.1 (0 : Int) (2 : Int), cellV x.2.1 (1 : Int) (0 : Int), cellV x.2.1 (1 : Int) (1 : Int)] [cellV (stepS x.1 x.2.1) (0 : Int) (0 : Int), cellV (stepS x.1 x.2.1) (0 : Int) (1 : Int), cellV (stepS x.1 x.2.1) (0 : Int) (2 : Int), cellV (stepS 
 x.1 x.2.1) (1 : Int) (0 : Int), cellV (stepS x.1 x.2.1) (1 : Int) (1 : Int)] x.2.2.2.2.2.2.2.2.2) : Int))) ∧ some (TV.v (.int .i64 (IntKind.wrap .i64 ((↑(Prod.snd (Prod.snd (Prod.snd (Prod.snd (Prod.snd (Prod.snd (Prod.snd (Prod.snd (Prod.snd 
 x_2))))))))) : Int) + 1)))) = some (TV.v (.int .i64 (↑x.2.2.2.2.2.2.2.2.2 : Int))) ∧ some [eWords (Bi.w x_2.1), eArgs (Bi.e x_2.1), eArgs (Bi.p x_2.1), eArgs (Bi.s x_2.1), eArgs (Bi.a x_2.1)] = some [eWords (Bi.w x.1), eArgs (Bi.e x.1), 
 eArgs (Bi.p x.1), eArgs (Bi.s x.1), eArgs (Bi.a x.1)] ∧ some [IV.int .i64 (In.op (insS x_2.1 x_2.2.1)), IV.int .i64 (In.a (insS x_2.1 x_2.2.1)), IV.int .i64 (In.b (insS x_2.1 x_2.2.1)), IV.int .i64 (In.c (insS x_2.1 x_2.2.1)), IV.int 
 .i64 (In.n (insS x_2.1 x_2.2.1))] = some [IV.int .i64 (In.op (insS x.1 x.2.1)), IV.int .i64 (In.a (insS x.1 x.2.1)), IV.int .i64 (In.b (insS x.1 x.2.1)), IV.int .i64 (In.c (insS x.1 x.2.1)), IV.int .i64 (In.n (insS 
 x.1 x.2.1))] ∧ x_2.2.2.2.1 = x.2.2.2.1 ∧ (VB x.1 ∧ (∀ (z : Int), z ∈ Bi.w x.1 → u32b z) ∧ Bi.a x.1 = [(3 : Int), (2 : Int)] ∧ WF x.1 x.2.1 ∧ List.length (CS.frames x.2.1) ≤ 1 + x.2.2.1 ∧ List.length 
 (CS.out x.2.1) ≤ x.2.2.1 ∧ x.2.2.1 < 60 ∧ Rep x.1 (stepS x.1 x.2.1) x.2.2.2.2.1 (1 : Nat) x.2.2.2.1 ∧ x.2.2.2.2.2.2.2.2.2 ≤ (5 : 
 Nat)) ∧ ((60 : Nat) - x.2.2.1) * 20 + ((5 : Nat) - x.2.2.2.2.2.2.2.2.2) < ((60 : Nat) - x_2.2.2.1) * 20 + ((5 : Nat) - x_2.2.2.2.2.2.2.2.2.2)) (∃ (x : Bi × CS × Nat × Heap × Ly 
 × Option Nat × Nat × Option Nat × Nat × Nat), some (TV.l 13 0) = some (TV.l 13 0) ∧ some (TV.v (.ptr 1 0)) = some (TV.v (.ptr 1 0)) ∧ some (TV.v (.int .i64 (↑x_2.2.2.1 : Int))) = some (TV.v (.int .i64 (↑x.2.2.1 : Int))) ∧ some (TV.l 17 0) = 
 some (TV.l 17 0) ∧ some (TV.v (.vslice x_2.2.2.2.2.2.1 x_2.2.2.2.2.2.2.1 5 1 [IV.int .i64 (cellV x_2.2.1 (0 : Int) (0 : Int)), IV.int .i64 (cellV x_2.2.1 (0 : Int) (1 : Int)), IV.int .i64 
 (cellV x_2.2.1 (0 : Int) (2 : Int)), IV.int .i64 (cellV x_2.2.1 (1 : Int) (0 : Int)), IV.int .i64 (cellV x_2.2.1 (1 : Int) (1 : Int))])) = some (TV.v (.vslice x.2.2.2.2.2.1 x.2.2.2.2.2.2.1 5 1 
 [IV.int .i64 (cellV x.2.1 (0 : Int) (0 : Int)), IV.int .i64 (cellV x.2.1 (0 : Int) (1 : Int)), IV.int .i64 (cellV x.2.1 (0 : Int) (2 : Int)), IV.int .i64 (cellV x.2.1 (1 : Int) (0 : Int)), IV.int .i64 (cellV x.2.1 (1 : Int) (1 : Int))])) ∧ some (TV.v (.vslice (Prod.fst 
 x_2.2.2.2.2.2.2.2) x_2.2.2.2.2.2.2.2.2.1 5 1 [IV.int .i64 (cellV (stepS x_2.1 x_2.2.1) (0 : Int) (0 : Int)), IV.int .i64 (cellV (stepS x_2.1 x_2.2.1) (0 : Int) (1 : Int)), 
 IV.int .i64 (cellV (stepS x_2.1 x_2.2.1) (0 : Int) (2 : Int)), IV.int .i64 (cellV (stepS x_2.1 x_2.2.1) (1 : Int) (0 : Int)), IV.int .i64 (cellV (stepS x_2.1 x_2.2.1) (1 : Int) (1 : Int))])) = some (TV.v (.vslice (Prod.fst (Prod.snd (Prod.snd (Prod.snd (Prod.snd (Prod.snd (Prod.snd (Prod.snd 
 x)))))))) x.2.2.2.2.2.2.2.2.1 5 1 [IV.int .i64 (cellV (stepS x.1 x.2.1) (0 : Int) (0 : Int)), IV.int .i64 (cellV (stepS x.1 x.2.1) (0 : Int) (1 : Int)), IV.int .i64 (cellV (stepS x.1 x.2.1) (0 : Int) 
 (2 : Int)), IV.int .i64 (cellV (stepS x.1 x.2.1) (1 : Int) (0 : Int)), IV.int .i64 (cellV (stepS x.1 x.2.1) (1 : Int) (1 : Int))])) ∧ some (TV.v (.int .i64 (↑(cntD [cellV x_2.2.1 (0 : Int) (0 : Int), cellV x_2.2.1 (0 : Int) (1 : Int), cellV x_2.2.1 (0 : Int) (2 : Int), 
 cellV x_2.2.1 (1 : Int) (0 : Int), cellV x_2.2.1 (1 : Int) (1 : Int)] [cellV (stepS x_2.1 x_2.2.1) (0 : Int) (0 : Int), cellV (stepS x_2.1 x_2.2.1) (0 : Int) (1 : Int), cellV (stepS x_2.1 x_2.2.1) (0 : Int) (2 : Int), cellV (stepS x_2.1 x_2.2.1) (1 : Int) 
 (0 : Int), cellV (stepS x_2.1 x_2.2.1) (1 : Int) (1 : Int)] x_2.2.2.2.2.2.2.2.2.2) : Int))) = some (TV.v (.int .i64 (↑(cntD [cellV x.2.1 (0 : Int) (0 : Int), cellV x.2.1 (0 : Int) (1 : Int), cellV x.2.1 (0 : Int) (2 : Int), cellV 
 x.2.1 (1 : Int) (0 : Int), cellV x.2.1 (1 : Int) (1 : Int)] [cellV (stepS x.1 x.2.1) (0 : Int) (0 : Int), cellV (stepS x.1 x.2.1) (0 : Int) (1 : Int), cellV (stepS x.1 x.2.1) (0 : Int) (2 : Int), cellV (stepS x.1 x.2.1) (1 : Int) (0 : Int), cellV (stepS 
 x.1 x.2.1) (1 : Int) (1 : Int)] x.2.2.2.2.2.2.2.2.2) : Int))) ∧ some (TV.v (.int .i64 (IntKind.wrap .i64 ((↑x_2.2.2.2.2.2.2.2.2.2 : Int) + 1)))) = some (TV.v (.int .i64 
 (↑x.2.2.2.2.2.2.2.2.2 : Int))) ∧ some [eWords (Bi.w x_2.1), eArgs (Bi.e x_2.1), eArgs (Bi.p x_2.1), eArgs (Bi.s x_2.1), eArgs (Bi.a x_2.1)] = some [eWords (Bi.w x.1), eArgs (Bi.e x.1), eArgs (Bi.p x.1), eArgs (Bi.s x.1), eArgs (Bi.a 
 x.1)] ∧ some [IV.int .i64 (In.op (insS x_2.1 x_2.2.1)), IV.int .i64 (In.a (insS x_2.1 x_2.2.1)), IV.int .i64 (In.b (insS x_2.1 x_2.2.1)), IV.int .i64 (In.c (insS x_2.1 x_2.2.1)), IV.int .i64 (In.n (insS x_2.1 x_2.2.1))] = 
 some [IV.int .i64 (In.op (insS x.1 x.2.1)), IV.int .i64 (In.a (insS x.1 x.2.1)), IV.int .i64 (In.b (insS x.1 x.2.1)), IV.int .i64 (In.c (insS x.1 x.2.1)), IV.int .i64 (In.n (insS x.1 x.2.1))] ∧ Prod.fst (Prod.snd (Prod.snd 
 x_2.2)) = x.2.2.2.1 ∧ (VB x.1 ∧ (∀ (z : Int), z ∈ Bi.w x.1 → u32b z) ∧ Bi.a x.1 = [(3 : Int), (2 : Int)] ∧ WF x.1 x.2.1 ∧ List.length (CS.frames x.2.1) ≤ 1 + x.2.2.1 ∧ List.length (CS.out x.2.1) ≤ x.2.2.1 ∧ 
 x.2.2.1 < 60 ∧ Rep x.1 (stepS x.1 x.2.1) x.2.2.2.2.1 (1 : Nat) x.2.2.2.1 ∧ x.2.2.2.2.2.2.2.2.2 ≤ 5) ∧ ((60 : Nat) - x.2.2.1) * 20 
 + ((5 : Nat) - x.2.2.2.2.2.2.2.2.2) < ((60 : Nat) - x_2.2.2.1) * 20 + ((5 : Nat) - x_2.2.2.2.2.2.2.2.2.2))))) (brS (decide ((↑(cntD [cellV x_2.2.1 (0 : Int) (0 : Int), cellV (Prod.fst 
 x_2.2) (0 : Int) (1 : Int), cellV x_2.2.1 (0 : Int) (2 : Int), cellV x_2.2.1 (1 : Int) (0 : Int), cellV x_2.2.1 (1 : Int) (1 : Int)] [cellV (stepS x_2.1 x_2.2.1) (0 : Int) (0 : Int), cellV (stepS x_2.1 x_2.2.1) (0 : Int) (1 : Int), cellV (stepS x_2.1 (Prod.fst (Prod.snd 
 x_2))) (0 : Int) (2 : Int), cellV (stepS x_2.1 x_2.2.1) (1 : Int) (0 : Int), cellV (stepS x_2.1 x_2.2.1) (1 : Int) (1 : Int)] x_2.2.2.2.2.2.2.2.2.2) : Int) > 1)) (Q (.bool false) h) (brS ((↑(cntD [cellV x_2.2.1 (0 : Int) (0 : Int), cellV 
 x_2.2.1 (0 : Int) (1 : Int), cellV x_2.2.1 (0 : Int) (2 : Int), cellV x_2.2.1 (1 : Int) (0 : Int), cellV x_2.2.1 (1 : Int) (1 : Int)] [cellV (stepS x_2.1 x_2.2.1) (0 : Int) (0 : Int), cellV (stepS x_2.1 x_2.2.1) (0 : Int) (1 : Int), cellV (stepS x_2.1 (Prod.fst 
 x_2.2)) (0 : Int) (2 : Int), cellV (stepS x_2.1 x_2.2.1) (1 : Int) (0 : Int), cellV (stepS x_2.1 x_2.2.1) (1 : Int) (1 : Int)] x_2.2.2.2.2.2.2.2.2.2) : Int) == 1) (brS (In.op (insS x_2.1 x_2.2.1) != 35) (Q 
 (IV.bool false) h) (∃ (x_3 : Bi × CS × Nat × Heap × Ly), some (TV.l 13 0) = some (TV.l 13 0) ∧ some (TV.v (.ptr 1 0)) = some (TV.v (.ptr 1 0)) ∧ some (TV.v (.int .i64 (IntKind.wrap .i64 ((↑x_2.2.2.1 : Int) + 1)))) = some (TV.v (.int .i64 (↑(Prod.fst (Prod.snd (Prod.snd 
 x_3))) : Int))) ∧ some [eWords (Bi.w x_2.1), eArgs (Bi.e x_2.1), eArgs (Bi.p x_2.1), eArgs (Bi.s x_2.1), eArgs (Bi.a x_2.1)] = some [eWords (Bi.w x_3.1), eArgs (Bi.e x_3.1), eArgs (Bi.p x_3.1), eArgs (Bi.s x_3.1), eArgs (Bi.a x_3.1)] ∧ x_2.2.2.2.1 = Prod.fst (Prod.snd 
 x_3.2.2) ∧ (VB x_3.1 ∧ (∀ (z : Int), z ∈ Bi.w x_3.1 → u32b z) ∧ Bi.a x_3.1 = [(3 : Int), (2 : Int)] ∧ WF x_3.1 x_3.2.1 ∧ List.length (CS.frames x_3.2.1) ≤ 1 + x_3.2.2.1 ∧ List.length (CS.out x_3.2.1) ≤ x_3.2.2.1 ∧ Prod.fst (Prod.snd 
 x_3.2) ≤ 60 ∧ Rep x_3.1 x_3.2.1 x_3.2.2.2.2 (1 : Nat) x_3.2.2.2.1) ∧ (60 : Nat) - x_3.2.2.1 < 60 - x.2.2.1)) (∃ (x_3 : Bi × CS × Nat × Heap × Ly), some (TV.l 13 0) = some (TV.l 13 0) ∧ some 
 (TV.v (.ptr 1 0)) = some (TV.v (.ptr 1 0)) ∧ some (TV.v (.int .i64 (IntKind.wrap .i64 ((↑x_2.2.2.1 : Int) + 1)))) = some (TV.v (.int .i64 (↑x_3.2.2.1 : Int))) ∧ some [eWords (Bi.w x_2.1), eArgs (Bi.e x_2.1), eArgs (Bi.p x_2.1), eArgs (Bi.s (Prod.fst 
 x_2)), eArgs (Bi.a x_2.1)] = some [eWords (Bi.w x_3.1), eArgs (Bi.e x_3.1), eArgs (Bi.p x_3.1), eArgs (Bi.s x_3.1), eArgs (Bi.a x_3.1)] ∧ x_2.2.2.2.1 = x_3.2.2.2.1 ∧ (VB x_3.1 ∧ (∀ (z : Int), z ∈ Bi.w x_3.1 → u32b z) ∧ Bi.a x_3.1 = [(3 : Int), (2 : 
 Int)] ∧ WF x_3.1 x_3.2.1 ∧ List.length (CS.frames x_3.2.1) ≤ 1 + x_3.2.2.1 ∧ List.length (CS.out x_3.2.1) ≤ x_3.2.2.1 ∧ x_3.2.2.1 ≤ 60 ∧ Rep x_3.1 x_3.2.1 x_3.2.2.2.2 (1 : Nat) 
 x_3.2.2.2.1) ∧ (60 : Nat) - x_3.2.2.1 < 60 - x.2.2.1)))))) (Q (.bool true) h)))))) := by kernel_rfl
set_option maxHeartbeats 8000000 in
set_option maxRecDepth 100000 in
theorem sLEff : ∀ xs h Q, kLEff xs h Q → CallW env 10 xs h Q := by
  intro xs h Q hk
  unfold kLEff at hk
  split at hk
  · rename_i e1 n1 c1 f a b w fuel
    obtain ⟨l, ⟨rfl, rfl⟩, hl, hk⟩ := hk
    refine dF_run (okCont) (vLEff l e1 f a b w fuel h Q) ?_
    obtain ⟨hl1, hl2⟩ := hl
    refine needS_intro (by simp only [eWords, eArgs, pureL, pureB, pureL_ints, Bool.and_true]) ⟨l, ⟨rfl, rfl⟩, ⟨hl1, hl2⟩, fun w1 m hv hw hwl => ⟨by omega, arg2 (x := word a w) (y := word b w) (f01 f) fun n0 hn ht => ?_⟩⟩
    have mk : ∀ (f' x y fuel : Int), (f' = 0 ∨ f' = 1) → (0 ≤ fuel ∧ fuel ≤ 1000) → newErr ⟨w1, [0, m], [2, 1], [5, 2], [3, 2]⟩ f' (aL f' x y) fuel = 0 := fun f' x y fuel h1 h2 => err2 hv h1 h2
    refine ⟨w1, [0, m], [2, 1], [5, 2], [3, 2], aL (f % 2) (word a w) (word b w), ⟨rfl, rfl⟩, ⟨rfl, rfl⟩, ⟨rfl, rfl⟩, ⟨rfl, rfl⟩, ⟨rfl, rfl⟩, ⟨hn, ht⟩, hw, fun he => absurd (mk _ _ _ _ (f01 f) (by omega)) he, fun he L0 h0 hr0 _ _ => ?_⟩
    have ok := err_ok he
    have wf0 := wf_init hv ok.2.1 ok.2.2.2.2 (fuel % 12)
    refine ⟨⟨(⟨w1, [0, m], [2, 1], [5, 2], [3, 2]⟩, initS ⟨w1, [0, m], [2, 1], [5, 2], [3, 2]⟩ (f % 2) (aL (f % 2) (word a w) (word b w)) (fuel % 12), 0, h0, L0), (by first | rfl | trivial | (simp; done)), (by first | rfl | trivial | (simp; done)), (by first | rfl | trivial | (simp; done)), (by first | rfl | trivial | (simp; done)), (by first | rfl | trivial | (simp; done)), ⟨hv, hw, rfl, wf0, Nat.le_refl _, Nat.le_refl _, Nat.zero_le _, hr0⟩, trivial⟩, fun x _ hx => ?_⟩
    clear hv hw wf0 ok hr0 he mk hwl hn ht
    obtain ⟨B, s, n, hp, L⟩ := x
    obtain ⟨hv, hw, ha, wf, hfl, hol, hn, hr⟩ := hx
    simp only at hv hw ha wf hfl hol hn hr
    refine brS_intro (fun y => ?_) (fun _ => hk)
    have hn60 : n < 60 := by have y : (n : Int) < 60 := by simpa using y
                             omega
    obtain ⟨k0, q1, q2, hpc⟩ := st_ins hv hw wf.pc
    obtain ⟨a1, _, _⟩ := decA_at hv.2.2.2.2.2.1 k0 q1 q2
    rw [hpc] at a1
    obtain ⟨i1, i2, i3, i4⟩ := ins_ok hv hw wf.pc
    have hwl : B.w.length ≤ 60000 := hv.1.2
    refine ⟨B, s, L, hr, B.w, ⟨rfl, rfl⟩, ⟨hw, by omega, by omega⟩, brS_intro (fun z => absurd z (by rw [a1]; simp)) (fun _ => ⟨B, s, L, hr, B, s, L, hr, B, s, L, hr, B, s, L, hr, B, s, L, hr, B, s, L, hr, B, s, L, hr, B, s, L, hr, B, s, L, ⟨by rw [ha]; rfl, by rw [ha]; rfl⟩, ha, hr, fun io e h1 ho1 hn1 => ⟨B, s, L, hr.same ho1 hn1, ⟨hv, hw, wf, by omega, by omega⟩, fun L2 h2 hr2 _ => ⟨(60 - n) * 20 + 8, ⟨(B, s, n, h2, L2, io, e, 0), (by first | rfl | trivial | (simp; done)), (by first | rfl | trivial | (simp; done)), (by first | rfl | trivial | (simp; done)), (by first | rfl | trivial | (simp; done)), (by first | rfl | trivial | (simp; done)), (by first | rfl | trivial | (simp; done)), (by first | rfl | trivial | (simp; done)), (by first | rfl | trivial | (simp; done)), (by first | rfl | trivial | (simp; done)), (by first | rfl | trivial | (simp; done)), (by first | rfl | trivial | (simp; done)), (by first | rfl | trivial | (simp; done)), ⟨hv, hw, ha, wf, hfl, hol, hn60, hr2, Nat.zero_le _⟩, (by simp only; omega)⟩, fun x2 _ hx2 hM2 => ?_⟩⟩⟩)⟩
    obtain ⟨B, s, n2, hp, L, io, e, k⟩ := x2
    obtain ⟨hv, hw, ha, wf, hfl, hol, hn2, hr, hk8⟩ := hx2
    simp only at hv hw ha wf hfl hol hn2 hr hk8 hM2
    obtain ⟨i1, i2, i3, i4⟩ := ins_ok hv hw wf.pc
    have i1 : okIn (insS B s) = true := i1
    have iop := (ok_fields (show validI (insS B s).op (insS B s).a (insS B s).b (insS B s).c (insS B s).n = true from i1)).1
    refine brS_intro (fun y => ?_) (fun _ => ?_)
    · have hk8 : k < 8 := by have y : (k : Int) < 8 := by simpa using y
                             omega
      have hwr : IntKind.i64.wrap ((k : Int) + 1) = ((k + 1 : Nat) : Int) := by rw [IntWalk.i64_in _ (by omega)]; rfl
      have ee : (if 0 ≤ (k : Int) ∧ (k : Int) ≤ 7 then rg (stepS B s) k else 0) = rg (stepS B s) k := if_pos (by omega)
      refine brS_intro (fun c6 => brS_intro (fun c2 => ⟨B, stepS B s, L, hr, needS_intro (by simp; omega) (ldI_i (rgL_at s hk8) (brS_intro (fun d => ⟨wrL B s, ⟨rfl, rfl⟩, (by have := wrI_len (insS B s).op (insS B s).a (insS B s).b (insS B s).c (insS B s).n; unfold wrL; omega), brS_intro (fun z => absurd z ?_) (fun _ => ⟨(B, s, n2, hp, L, io, e, k + 1), (by first | rfl | trivial | (simp; done)), (by first | rfl | trivial | (simp; done)), (by first | rfl | trivial | (simp; done)), (by first | rfl | trivial | (simp; done)), (by first | rfl | trivial | (simp; done)), (by first | rfl | trivial | (simp; done)), (by first | rfl | trivial | (simp; done)), (by simp only; rw [hwr]), (by first | rfl | trivial | (simp; done)), (by first | rfl | trivial | (simp; done)), (by first | rfl | trivial | (simp; done)), (by first | rfl | trivial | (simp; done)), ⟨hv, hw, ha, wf, hfl, hol, hn2, hr, (by simp only; omega)⟩, (by simp only; omega)⟩)⟩) (fun _ => ⟨(B, s, n2, hp, L, io, e, k + 1), (by first | rfl | trivial | (simp; done)), (by first | rfl | trivial | (simp; done)), (by first | rfl | trivial | (simp; done)), (by first | rfl | trivial | (simp; done)), (by first | rfl | trivial | (simp; done)), (by first | rfl | trivial | (simp; done)), (by first | rfl | trivial | (simp; done)), (by simp only; rw [hwr]), (by first | rfl | trivial | (simp; done)), (by first | rfl | trivial | (simp; done)), (by first | rfl | trivial | (simp; done)), (by first | rfl | trivial | (simp; done)), ⟨hv, hw, ha, wf, hfl, hol, hn2, hr, (by simp only; omega)⟩, (by simp only; omega)⟩)))⟩) (fun _ => ⟨(B, s, n2, hp, L, io, e, k + 1), (by first | rfl | trivial | (simp; done)), (by first | rfl | trivial | (simp; done)), (by first | rfl | trivial | (simp; done)), (by first | rfl | trivial | (simp; done)), (by first | rfl | trivial | (simp; done)), (by first | rfl | trivial | (simp; done)), (by first | rfl | trivial | (simp; done)), (by simp only; rw [hwr]), (by first | rfl | trivial | (simp; done)), (by first | rfl | trivial | (simp; done)), (by first | rfl | trivial | (simp; done)), (by first | rfl | trivial | (simp; done)), ⟨hv, hw, ha, wf, hfl, hol, hn2, hr, (by simp only; omega)⟩, (by simp only; omega)⟩)) (fun _ => ⟨(B, s, n2, hp, L, io, e, k + 1), (by first | rfl | trivial | (simp; done)), (by first | rfl | trivial | (simp; done)), (by first | rfl | trivial | (simp; done)), (by first | rfl | trivial | (simp; done)), (by first | rfl | trivial | (simp; done)), (by first | rfl | trivial | (simp; done)), (by first | rfl | trivial | (simp; done)), (by simp only; rw [hwr]), (by first | rfl | trivial | (simp; done)), (by first | rfl | trivial | (simp; done)), (by first | rfl | trivial | (simp; done)), (by first | rfl | trivial | (simp; done)), ⟨hv, hw, ha, wf, hfl, hol, hn2, hr, (by simp only; omega)⟩, (by simp only; omega)⟩)
      rw [ee, bne_iff_ne] at d
      rw [bne_iff_ne] at c6 c2
      have := step_writes i1 c2 c6 hk8 d
      unfold wrL
      rw [this]
      simp
    · refine ⟨B, stepS B s, L, ⟨by rw [ha]; rfl, by rw [ha]; rfl⟩, ha, hr, fun io2 e2 h1 ho1 hn1 => ⟨(60 - n2) * 20 + 5, ⟨(B, s, n2, h1, L, io, e, io2, e2, 0), (by first | rfl | trivial | (simp; done)), (by first | rfl | trivial | (simp; done)), (by first | rfl | trivial | (simp; done)), (by first | rfl | trivial | (simp; done)), (by first | rfl | trivial | (simp; done)), (by first | rfl | trivial | (simp; done)), (by first | rfl | trivial | (simp; done)), (by first | rfl | trivial | (simp; done)), (by first | rfl | trivial | (simp; done)), (by first | rfl | trivial | (simp; done)), (by first | rfl | trivial | (simp; done)), ⟨hv, hw, ha, wf, hfl, hol, hn2, hr.same ho1 hn1, Nat.zero_le _⟩, (by simp only; omega)⟩, fun x3 _ hx3 hM3 => ?_⟩⟩
      obtain ⟨B, s, n3, hp, L, io, e, io2, e2, k⟩ := x3
      obtain ⟨hv, hw, ha, wf, hfl, hol, hn3, hr, hk5⟩ := hx3
      simp only at hv hw ha wf hfl hol hn3 hr hk5 hM3
      obtain ⟨i1, i2, i3, i4⟩ := ins_ok hv hw wf.pc
      have i1 : okIn (insS B s) = true := i1
      have iop := (ok_fields (show validI (insS B s).op (insS B s).a (insS B s).b (insS B s).c (insS B s).n = true from i1)).1
      have cle := cntD_le (memL s) (memL (stepS B s)) k
      refine brS_intro (fun y => ?_) (fun y => ?_)
      · have hk5 : k < 5 := by have y : (k : Int) < 5 := by simpa using y
                               omega
        have hwr : IntKind.i64.wrap ((k : Int) + 1) = ((k + 1 : Nat) : Int) := by rw [IntWalk.i64_in _ (by omega)]; rfl
        have hcs : cntD (memL s) (memL (stepS B s)) (k + 1) = cntD (memL s) (memL (stepS B s)) k + if (memL (stepS B s)).getD k 0 = (memL s).getD k 0 then 0 else 1 := rfl
        refine needS_intro (by simp; omega) (ldI_i (memL_at (stepS B s) hk5) (needS_intro (by simp; omega) (ldI_i (memL_at s hk5) (brS_intro (fun d => ?_) (fun d => ?_)))))
        · rw [bne_iff_ne] at d
          rw [if_neg d] at hcs
          refine ⟨(B, s, n3, hp, L, io, e, io2, e2, k + 1), (by first | rfl | trivial | (simp; done)), (by first | rfl | trivial | (simp; done)), (by first | rfl | trivial | (simp; done)), (by first | rfl | trivial | (simp; done)), (by first | rfl | trivial | (simp; done)), (by first | rfl | trivial | (simp; done)), ?_, (by simp only; rw [hwr]), (by first | rfl | trivial | (simp; done)), (by first | rfl | trivial | (simp; done)), (by first | rfl | trivial | (simp; done)), ⟨hv, hw, ha, wf, hfl, hol, hn3, hr, (by simp only; omega)⟩, (by simp only; omega)⟩
          show some (TV.v (IV.int .i64 (IntKind.i64.wrap ((cntD (memL s) (memL (stepS B s)) k : Int) + 1)))) = some (TV.v (IV.int .i64 (cntD (memL s) (memL (stepS B s)) (k + 1) : Int)))
          rw [hcs, IntWalk.i64_in _ (by omega)]
          rfl
        · rw [bne_eq_false_iff_eq] at d
          rw [if_pos d] at hcs
          refine ⟨(B, s, n3, hp, L, io, e, io2, e2, k + 1), (by first | rfl | trivial | (simp; done)), (by first | rfl | trivial | (simp; done)), (by first | rfl | trivial | (simp; done)), (by first | rfl | trivial | (simp; done)), (by first | rfl | trivial | (simp; done)), (by first | rfl | trivial | (simp; done)), ?_, (by simp only; rw [hwr]), (by first | rfl | trivial | (simp; done)), (by first | rfl | trivial | (simp; done)), (by first | rfl | trivial | (simp; done)), ⟨hv, hw, ha, wf, hfl, hol, hn3, hr, (by simp only; omega)⟩, (by simp only; omega)⟩
          show some (TV.v (IV.int .i64 (cntD (memL s) (memL (stepS B s)) k : Int))) = some (TV.v (IV.int .i64 (cntD (memL s) (memL (stepS B s)) (k + 1) : Int)))
          rw [hcs]
          rfl
      · have y : ¬ (k : Int) < 5 := by simpa using y
        obtain rfl : k = 5 := by omega
        obtain ⟨m1, m2⟩ := step_mem ha wf iop
        have ls := lens_step B s
        have wf1 := wf_step hv hw wf
        have hwr : IntKind.i64.wrap ((n3 : Int) + 1) = ((n3 + 1 : Nat) : Int) := by rw [IntWalk.i64_in _ (by omega)]; rfl
        refine brS_intro (fun c => ?_) (fun _ => brS_intro (fun c => brS_intro (fun d => ?_) (fun _ => ⟨(B, stepS B s, n3 + 1, hp, L), (by first | rfl | trivial | (simp; done)), (by first | rfl | trivial | (simp; done)), (by simp only; rw [hwr]), (by first | rfl | trivial | (simp; done)), (by first | rfl | trivial | (simp; done)), ⟨hv, hw, ha, wf1, (by simp only; omega), (by simp only; omega), (by simp only; omega), hr⟩, (by simp only; omega)⟩)) (fun _ => ⟨(B, stepS B s, n3 + 1, hp, L), (by first | rfl | trivial | (simp; done)), (by first | rfl | trivial | (simp; done)), (by simp only; rw [hwr]), (by first | rfl | trivial | (simp; done)), (by first | rfl | trivial | (simp; done)), ⟨hv, hw, ha, wf1, (by simp only; omega), (by simp only; omega), (by simp only; omega), hr⟩, (by simp only; omega)⟩))
        · rw [decide_eq_true_eq] at c
          have c : (cntD (memL s) (memL (stepS B s)) 5 : Int) > 1 := c
          omega
        · rw [beq_iff_eq] at c
          have c : (cntD (memL s) (memL (stepS B s)) 5 : Int) = 1 := c
          rw [bne_iff_ne] at d
          exact absurd (m2 (by omega)) d
  · exact hk.elim
def cLEff := addC 10 kLEff cCont
theorem okLEff : Sound env cLEff := sound_add sLEff (okCont)

end Go.Proofs.YtlenjfbmpekabaaDoor

end
