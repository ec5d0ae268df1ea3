import Derived.Test.YtlenjfbmpekabaaDoorCB31
import Derived.Test.YtlenjfbmpekabaaDoorNP31
import Derived.KernelRfl
section
set_option linter.unusedVariables false
set_option linter.unusedSimpArgs false
namespace Go.Proofs.YtlenjfbmpekabaaDoor
open Go.Pv Go.M29 Go.M30 Go.M31 Go.M13
def kKArgs (xs : List IV) (h : Heap) (K : IV -> Heap -> Prop) : Prop := match xs with
 | [.int .i64 a, .int .i64 b, .int .i64 w] => K (.vslice none 0 2 1 [.int .i64 (Go.M13.word a w), .int .i64 (Go.M13.word b w)]) h
 | _ => False
set_option maxRecDepth 100000 in
theorem vKArgs (a b w : Int) (h : Heap) (Q : IV -> Heap -> Prop) : dF (stdS cCNew) env 18 noU noI noI [.int .i64 a, .int .i64 b, .int .i64 w] h Q = (
 Q (.vslice none 0 2 1 [IV.int .i64 (word a w), IV.int .i64 (word b w)]) h) := by kernel_rfl
theorem sKArgs : ∀ xs h Q, kKArgs xs h Q -> CallW env 18 xs h Q := by
 intro xs h Q hk
 unfold kKArgs at hk
 split at hk
 ·rename_i a b w
  refine dF_run (okCNew) (vKArgs a b w h Q) ?_
  exact hk
 ·exact hk.elim
def cKArgs := addC 18 kKArgs cCNew
theorem okKArgs : Sound env cKArgs := sound_add sKArgs (okCNew)
def kKFuel (xs : List IV) (h : Heap) (K : IV -> Heap -> Prop) : Prop := match xs with
 | [.int .i64 n] => K (.int .i64 (n % 12)) h
 | _ => False
set_option maxRecDepth 100000 in
theorem vKFuel (n : Int) (h : Heap) (Q : IV -> Heap -> Prop) : dF (stdS cKArgs) env 22 noU noI noI [.int .i64 n] h Q = (
 ((0 : Int) < 12 /\ (12 : Int) < 4611686018427387904) /\ Q (.int .i64 (n % (12 : Int))) h) := by kernel_rfl
theorem sKFuel : ∀ xs h Q, kKFuel xs h Q -> CallW env 22 xs h Q := by
 intro xs h Q hk
 unfold kKFuel at hk
 split at hk
 ·rename_i n
  refine dF_run (okKArgs) (vKFuel n h Q) ?_
  exact ⟨⟨by omega, by omega⟩, hk⟩
 ·exact hk.elim
def cKFuel := addC 22 kKFuel cKArgs
theorem okKFuel : Sound env cKFuel := sound_add sKFuel (okKArgs)
def soInv (k c v k' c' v' : Int) (o o' : List Int) : Inv' := atX Nat (fun x => [(2, .l 2 0), (3, .l 3 0), (5, .v (.int .i64 x))]) (fun _ => [(2, [.int .i64 k, .int .i64 c, .vslice none 0 o.length 1 (ints o), .int .i64 v]), (3, [.int .i64 k', .int .i64 c', .vslice none 0 o'.length 1 (ints o'), .int .i64 v'])]) (fun _ => Heap.empty) (fun x => x <= o.length /\ ∀ j, j < x -> o[j]? = o'[j]?) (fun x => o.length - x)
def kSameOut (xs : List IV) (h : Heap) (K : IV -> Heap -> Prop) : Prop := match xs with
 | [.agg [.int .i64 k, .int .i64 c, .vslice none e1 n1 1 d1, .int .i64 v], .agg [.int .i64 k', .int .i64 c', .vslice none e2 n2 1 d2, .int .i64 v']] => ∃ o o' : List Int, (n1 = o.length /\ d1 = ints o) /\ (n2 = o'.length /\ d2 = ints o') /\ o.length <= 4611686018427387904 /\ K (.bool (sameO k c o v k' c' o' v')) h
 | _ => False
noncomputable def z24a (k c v : Int) (o : List Int) := [IV.int .i64 k, IV.int .i64 c, IV.vslice none 0 o.length 1 (ints o), IV.int .i64 v]
noncomputable def z24b (k' c' v' : Int) (o' : List Int) := [IV.int .i64 k', IV.int .i64 c', IV.vslice none 0 o'.length 1 (ints o'), IV.int .i64 v']
noncomputable def z24c  := TV.l 2 0
noncomputable def z24d  := TV.l 3 0
set_option maxRecDepth 100000 in
theorem vSameOut (k c v k' c' v' : Int) (o o' : List Int) (e1 e2 : Nat) (h : Heap) (Q : IV -> Heap -> Prop) : dF (stdS cKFuel) env 24 noU (ic1 5 (soInv k c v k' c' v' o o')) noI [.agg [.int .i64 (k), .int .i64 (c), .vslice none e1 (o).length 1 (ints (o)), .int .i64 (v)], .agg [.int .i64 (k'), .int .i64 (c'), .vslice none e2 (o').length 1 (ints (o')), .int .i64 (v')]] h Q = (
 needS (pureL [IV.agg (z24a k c v o), IV.agg (z24b k' c' v' o')]) (brS (k != k') (Q (.bool false) h) (brS (c != c') (Q (.bool false) h) (brS (v != v') (Q (.bool false) h) (brS ((↑o.length : Int) != (↑o'.length : Int)) (Q (.bool false) h) ((∃ (x : Nat), some z24c = some z24c /\ some
 z24d = some z24d /\ some (TV.v (.int .i64 0)) = some (TV.v (.int .i64 (↑x : Int))) /\ some (z24a k c v o) = some (z24a k c v o) /\ some (z24b k' c' v' o') = some (z24b k' c' v' o') /\ Heap.mk PT.nil 0 = Heap.mk PT.nil 0 /\ (x <= o.length /\ ∀ (j : Nat), j < x ->
 o[j]? = o'[j]?) /\ True) /\ ∀ (x : Nat) (b : FF), (x <= o.length /\ ∀ (j : Nat), j < x -> o[j]? = o'[j]?) -> brS (decide ((↑x : Int) < (↑o.length : Int))) (needS (decide (0 <= (↑x : Int)) && decide ((↑x : Int) < (↑o.length : Int))) (ldIS .i64 (ints o) (Int.toNat (↑x : Int)
 * (1 : Nat)) fun n0 => needS (decide (0 <= (↑x : Int)) && decide ((↑x : Int) < (↑o'.length : Int))) (ldIS .i64 (ints o') (Int.toNat (↑x : Int) * 1) fun n1 => brS (n0 != n1) (Q (.bool false) h) (∃ (x_1 : Nat), some z24c = some z24c /\ some z24d = some z24d
 /\ some (TV.v (.int .i64 (IntKind.wrap .i64 ((↑x : Int) + 1)))) = some (TV.v (.int .i64 (↑x_1 : Int))) /\ some (z24a k c v o) = some (z24a k c v o) /\ some (z24b k' c' v' o') = some (z24b k' c' v' o') /\ Heap.mk PT.nil 0 = Heap.mk PT.nil 0 /\ (x_1 <= List.length
 o /\ ∀ (j : Nat), j < x_1 -> o[j]? = o'[j]?) /\ o.length - x_1 < o.length - x)))) (Q (.bool true) h))))))) := by kernel_rfl
set_option maxHeartbeats 4000000 in
theorem sSameOut : ∀ xs h Q, kSameOut xs h Q -> CallW env 24 xs h Q := by
 intro xs h Q hk
 unfold kSameOut at hk
 split at hk
 ·rename_i k c e1 n1 d1 v k' c' e2 n2 d2 v'
  obtain ⟨o, o', ⟨rfl, rfl⟩, ⟨rfl, rfl⟩, hb, hk⟩ := hk
  refine dF_run (okKFuel) (vSameOut k c v k' c' v' o o' e1 e2 h Q) ?_
  delta z24a z24b z24c z24d
  have tn : ∀ x : Nat, (x : Int).toNat = x := Int.toNat_natCast
  have hF : ¬ (k = k' /\ c = c' /\ v = v' /\ o = o') -> Q (.bool false) h := fun z => by
   rw [show sameO k c o v k' c' o' v' = false from decide_eq_false z] at hk
   exact hk
  refine needS_intro (by simp only [pureL, pureB, ints, pureL_ints, Bool.and_true]) (brS_intro (fun y => hF fun z => ?_) (fun y1 => brS_intro (fun y => hF fun z => ?_) (fun y2 => brS_intro (fun y => hF fun z => ?_) (fun y3 => brS_intro (fun y => hF fun z => ?_) (fun y4 => ?_)))))
  ·rw [bne_iff_ne] at y; exact y z.1
  ·rw [bne_iff_ne] at y; exact y z.2.1
  ·rw [bne_iff_ne] at y; exact y z.2.2.1
  ·rw [bne_iff_ne] at y; exact y (by rw [z.2.2.2])
  ·rw [bne_eq_false_iff_eq] at y1 y2 y3 y4
   have hl : o.length = o'.length := by omega
   refine ⟨⟨0, (by first | rfl | trivial), (by first | rfl | trivial), (by first | rfl | trivial), (by first | rfl | trivial), (by first | rfl | trivial), (by first | rfl | trivial), ⟨Nat.zero_le _, fun j hj => absurd hj (Nat.not_lt_zero _)⟩, trivial⟩, fun x _ hx => ?_⟩
   obtain ⟨hx1, hx2⟩ := hx
   refine brS_intro (fun y => ?_) (fun y => ?_)
   ·rw [decide_eq_true_eq] at y
    have h1 : x < o.length := by omega
    have h2 : x < o'.length := by omega
    simp only [tn, Nat.mul_one]
    refine needS_intro (by simp; omega) (ldIS_map h1 (needS_intro (by simp; omega) (ldIS_map h2 (brS_intro (fun q => hF fun z => ?_) (fun q => ?_)))))
    ·rw [bne_iff_ne] at q
     exact q (by simp [z.2.2.2])
    ·rw [bne_eq_false_iff_eq] at q
     refine ⟨x + 1, (by first | rfl | trivial), (by first | rfl | trivial), (by rw [IntWalk.i64_in _ (by omega)]; rfl), (by first | rfl | trivial), (by first | rfl | trivial), (by first | rfl | trivial), ⟨h1, fun j hj => ?_⟩, by omega⟩
     rcases Nat.lt_or_ge j x with z | z
     ·exact hx2 j z
     ·obtain rfl : j = x := by omega
      rw [List.getElem?_eq_getElem h1, List.getElem?_eq_getElem h2, q]
   ·rw [decide_eq_false_iff_not] at y
    have he : o = o' := List.ext_getElem? fun j => by
     rcases Nat.lt_or_ge j x with q | q
     ·exact hx2 j q
     ·rw [List.getElem?_eq_none (by omega), List.getElem?_eq_none (by omega)]
    rw [show sameO k c o v k' c' o' v' = true from decide_eq_true ⟨y1, y2, y3, he⟩] at hk
    exact hk
 ·exact hk.elim
def cSameOut := addC 24 kSameOut cKFuel
theorem okSameOut : Sound env cSameOut := sound_add sSameOut (okKFuel)
def kCEx (xs : List IV) (h : Heap) (K : IV -> Heap -> Prop) : Prop := match xs with
 | [] => K (.bool true) h
 | _ => False
theorem sCEx : ∀ xs h Q, kCEx xs h Q -> CallW env 16 xs h Q := by
 intro xs h Q hk
 unfold kCEx at hk
 split at hk
 ·exact ⟨300, .bool true, h, by kernel_rfl, hk⟩
 ·exact hk.elim
def cCEx := addC 16 kCEx cSameOut
theorem okCEx : Sound env cCEx := sound_add sCEx (okSameOut)
end Go.Proofs.YtlenjfbmpekabaaDoor
end
section
set_option linter.unusedVariables false
set_option linter.unusedSimpArgs false
namespace Go.Proofs.YtlenjfbmpekabaaDoor
open Go.Pv Go.M29 Go.M30 Go.M31 Go.M13
noncomputable def cCRun := cCEx
theorem okCRun : Sound env cCRun := okCEx
end Go.Proofs.YtlenjfbmpekabaaDoor
end
section
set_option linter.unusedVariables false
set_option linter.unusedSimpArgs false
namespace Go.Proofs.YtlenjfbmpekabaaDoor
open Go.Pv Go.M29 Go.M30 Go.M31 Go.M13
theorem fre_i {h : Heap} {n : Nat} {A : Prop} (e : h.get n = .free) (hk : A) : freS h n A := by
 unfold freS; rw [e]; exact hk
theorem ldRr {B : Bi} {s : CS} {R : RL} {id : Nat} {h : Heap} {a : Int} {K : Int -> Prop} (hr : RRep B s R id h) (ha : 0 <= a /\ a <= 7) (hk : K (rg s a)) : needS (decide (0 <= a) && decide (a < 8)) (hgetS h id fun r => ldIS .i64 r (5 + a.toNat * 1) K) :=
 needS_intro (by simp; omega) (hget_i hr.cpu (ldI_i (by rw [Nat.mul_one]; exact rc_reg hr.rl ha) hk))
theorem stRr {B : Bi} {s : CS} {R : RL} {id : Nat} {h : Heap} {a v : Int} {Q : Heap -> Prop} (hr : RRep B s R id h) (ha : 0 <= a /\ a <= 7) (hq : ∀ h', RRep B (setR s a v) R id h' -> FrmR R.r R.r h h' -> Q h') :
  needS (decide (0 <= a) && decide (a < 8)) (hgetS h id fun r => needS (Nat.ble (5 + a.toNat * 1 + 1) r.length) (Q (h.set id (.cells (r.take (5 + a.toNat * 1) ++ [.int .i64 v] ++ r.drop (5 + a.toNat * 1 + 1)))))) := by
 refine needS_intro (by simp; omega) (hget_i hr.cpu (needS_intro (by simp only [Nat.ble_eq, rc_len2, hr.rl]; omega) ?_))
 rw [Nat.mul_one, store_set (by simp only [rc_len2, hr.rl]; omega), rc_setreg hr.rl ha]
 exact hq _ (hr.setc rfl rfl (by simp [setR, hr.rl])) (frmR_set (by rw [hr.cpur.1]; simp))
theorem pcR {B : Bi} {s : CS} {R : RL} {id : Nat} {h : Heap} {nx : Int} {Q : IV -> Heap -> Prop} (hr : RRep B s R id h) (hq : ∀ h', RRep B { s with pc := nx } R id h' -> FrmR R.r R.r h h' -> Q (.bool true) h') :
  hgetS h id fun r => needS (Nat.ble 16 r.length) (Q (.bool true) (h.set id (.cells (r.take 15 ++ [.int .i64 nx] ++ r.drop 16)))) := by
 refine hget_i hr.cpu (needS_intro (by simp only [Nat.ble_eq, rc_len2, hr.rl]; omega) ?_)
 rw [store_set (by simp only [rc_len2, hr.rl]; omega), rc_setz hr.rl 2 (.int .i64 nx) { s with pc := nx } R rfl rfl]
 exact hq _ (hr.setc rfl rfl hr.rl) (frmR_set (by rw [hr.cpur.1]; simp))
theorem nbf {a b : Nat} (h : a ≠ b) : (!Nat.beq a b) = true := by
 cases e : Nat.beq a b with
 | false => rfl
 | true => exact absurd (Nat.eq_of_beq_eq_true e) h
def kROne (xs : List IV) (h : Heap) (K : IV -> Heap -> Prop) : Prop := match xs with
 | [.bool b] => K (.int .i64 (truth b)) h
 | _ => False
set_option maxRecDepth 100000 in
theorem vROne (b : Bool) (h : Heap) (Q : IV -> Heap -> Prop) : dF (stdS cCRun) env 77 noU noI noI [.bool b] h Q = (
 brS b (Q (.int .i64 1) h) (Q (.int .i64 0) h)) := by kernel_rfl
theorem sROne : ∀ xs h Q, kROne xs h Q -> CallW env 77 xs h Q := by
 intro xs h Q hk
 unfold kROne at hk
 split at hk
 ·rename_i b
  refine dF_run (okCRun) (vROne b h Q) ?_
  repeat' (first | refine needS_intro ?_ ?_ | refine brS_intro (fun _ => ?_) (fun _ => ?_) | refine And.intro ?_ ?_)
  all_goals (refine q_eq hk ?_; simp_all [truth])
 ·exact hk.elim
def cROne := addC 77 kROne cCRun
theorem okROne : Sound env cROne := sound_add sROne (okCRun)
def kRUn (xs : List IV) (h : Heap) (K : IV -> Heap -> Prop) : Prop := match xs with
 | [.int .i64 o, .int .i64 a] => (o = 15 \/ o = 16) /\ K (.int .i64 (wun (o + 5) a)) h
 | _ => False
set_option maxRecDepth 100000 in
theorem vRUn (o a : Int) (h : Heap) (Q : IV -> Heap -> Prop) : dF (stdS cROne) env 61 noU noI noI [.int .i64 o, .int .i64 a] h Q = (
 brS (o == 15) (Q (.int .i64 (IntKind.wrap .i64 ((0 : Int) - a))) h) (Q (.int .i64 (IntKind.wrap .i64 ((-1 : Int) - a))) h)) := by kernel_rfl
theorem sRUn : ∀ xs h Q, kRUn xs h Q -> CallW env 61 xs h Q := by
 intro xs h Q hk
 unfold kRUn at hk
 split at hk
 ·rename_i o a
  refine dF_run (okROne) (vRUn o a h Q) ?_
  obtain ⟨ho, hk⟩ := hk
  refine brS_intro (fun z => ?_) (fun z => ?_)
  ·rw [beq_iff_eq] at z
   subst z
   exact hk
  ·rw [beq_eq_false_iff_ne] at z
   obtain rfl : o = 16 := by omega
   have e : wun (16 + 5) a = IntKind.i64.wrap (-1 - a) := inot_eq a
   rw [e] at hk
   exact hk
 ·exact hk.elim
def cRUn := addC 61 kRUn cROne
theorem okRUn : Sound env cRUn := sound_add sRUn (okROne)
def kRBin (xs : List IV) (h : Heap) (K : IV -> Heap -> Prop) : Prop := match xs with
 | [.int .i64 o, .int .i64 a, .int .i64 b] => ((17 <= o /\ o <= 32) /\ inR a /\ inR b) /\ K (.int .i64 (wbin (o - 13) a b)) h
 | _ => False
noncomputable def z62a (b : Int) := decide (0 <= IntKind.wrap .u64 (bvAnd .i64 b 63))
noncomputable def z62b (b : Int) := Int.toNat (IntKind.wrap .u64 (bvAnd .i64 b 63))
noncomputable def z62c  := IV.int .i64 0
set_option maxRecDepth 100000 in
theorem vRBin (o a b : Int) (h : Heap) (Q : IV -> Heap -> Prop) : dF (stdS cRUn) env 62 noU noI noI [.int .i64 o, .int .i64 a, .int .i64 b] h Q = (
 brS (o == 17) (Q (.int .i64 (IntKind.wrap .i64 (a + b))) h) (brS (o == 18) (Q (.int .i64 (IntKind.wrap .i64 (a - b))) h) (brS (o == 19) (Q (.int .i64 (IntKind.wrap .i64 (a * b))) h) (brS (o == 20) (brS (b == 0) (Q
 z62c h) (brS (b == (-1 : Int)) (Q (.int .i64 (IntKind.wrap .i64 ((0 : Int) - a))) h) (needS (!b == 0) (Q (.int .i64 (IntKind.wrap .i64 (Int.tdiv a b))) h)))) (brS (o == 21) (brS (b == 0) (Q z62c h) (brS (b == (-1 : Int)) (Q z62c h) (needS (!b ==
 (0 : Int)) (Q (.int .i64 (Int.tmod a b)) h)))) (brS (o == 22) (Q (.int .i64 (bvAnd .i64 a b)) h) (brS (o == 23) (Q (.int .i64 (bvOr .i64 a b)) h) (brS (o == 24) (Q (.int .i64 (bvXor .i64 a b)) h) (brS (o == 25) (needS
 (z62a b) (Q (.int .i64 (IntKind.wrap .i64 (IntKind.wrap .u64 (IntKind.wrap .u64 a * (2 : Int) ^ min (z62b b) (64 : Nat))))) h)) (brS (o == 26) (needS (z62a b) (Q (.int .i64 (IntKind.wrap .i64 (Int.fdiv (IntKind.wrap .u64 a) ((2 : Int) ^ min
 (z62b b) (64 : Nat))))) h)) (brS (o == 27) (needS (z62a b) (Q (.int .i64 (Int.fdiv a ((2 : Int) ^ min (z62b b) (64 : Nat)))) h)) (brS (o == 28) (Q (.int .i64 (truth (a == b))) h) (brS (o == 29) (Q (.int .i64 (truth (a != b))) h) (brS (o == 30)
 (Q (.int .i64 (truth (decide (a < b)))) h) (brS (o == 31) (Q (.int .i64 (truth (decide (a <= b)))) h) (Q (.int .i64 (truth (decide (IntKind.wrap .u64 a < IntKind.wrap .u64 b)))) h)))))))))))))))) := by kernel_rfl
set_option maxHeartbeats 2000000 in
theorem sRBin : ∀ xs h Q, kRBin xs h Q -> CallW env 62 xs h Q := by
 intro xs h Q hk
 unfold kRBin at hk
 split at hk
 ·rename_i o a b
  refine dF_run (okRUn) (vRBin o a b h Q) ?_
  delta z62a z62b z62c
  obtain ⟨⟨⟨ho1, ho2⟩, ha, hb⟩, hk⟩ := hk
  have h2 : o = 17 \/ o = 18 \/ o = 19 \/ o = 20 \/ o = 21 \/ o = 22 \/ o = 23 \/ o = 24 \/ o = 25 \/ o = 26 \/ o = 27 \/ o = 28 \/ o = 29 \/ o = 30 \/ o = 31 \/ o = 32 := by omega
  have hsb := shBy_nonneg b
  rcases h2 with rfl | rfl | rfl | rfl | rfl | rfl | rfl | rfl | rfl | rfl | rfl | rfl | rfl | rfl | rfl | rfl
  ·exact hk
  ·exact hk
  ·exact hk
  ·have e : wbin (20 - 13) a b = quot a b := rfl
   rw [e] at hk
   unfold quot at hk
   refine (show brS (b == 0) _ _ from brS_intro (fun z => ?_) (fun z => brS_intro (fun z1 => ?_) (fun z1 => needS_intro ?_ ?_)))
   ·rw [beq_iff_eq] at z
    rw [if_pos z] at hk
    exact hk
   ·rw [beq_eq_false_iff_ne] at z
    rw [beq_iff_eq] at z1
    rw [if_neg z, if_pos z1] at hk
    exact hk
   ·rw [z]; rfl
   ·rw [beq_eq_false_iff_ne] at z z1
    rw [if_neg z, if_neg z1] at hk
    exact hk
  ·have e : wbin (21 - 13) a b = if b = 0 then 0 else IntKind.i64.wrap (a - IntKind.i64.wrap (quot a b * b)) := rfl
   rw [e] at hk
   refine (show brS (b == 0) _ _ from brS_intro (fun z => ?_) (fun z => brS_intro (fun z1 => ?_) (fun z1 => needS_intro ?_ ?_)))
   ·rw [beq_iff_eq] at z
    rw [if_pos z] at hk
    exact hk
   ·rw [beq_eq_false_iff_ne] at z
    rw [beq_iff_eq] at z1
    subst z1
    rw [if_neg z, rem_neg ha] at hk
    exact hk
   ·rw [z]; rfl
   ·rw [beq_eq_false_iff_ne] at z z1
    rw [if_neg z, rem_eq hb z z1] at hk
    exact hk
  ·exact hk
  ·exact hk
  ·exact hk
  ·refine (show needS (decide (0 <= shBy b)) _ from needS_intro (decide_eq_true hsb) ?_)
   have e : wbin (25 - 13) a b = IntKind.i64.wrap (a * 2 ^ min (shBy b).toNat IntKind.i64.bits) := rfl
   rw [e, <- shl_eq] at hk
   exact hk
  ·exact (show needS (decide (0 <= shBy b)) _ from needS_intro (decide_eq_true hsb) hk)
  ·exact (show needS (decide (0 <= shBy b)) _ from needS_intro (decide_eq_true hsb) hk)
  ·exact hk
  ·exact hk
  ·exact hk
  ·exact hk
  ·exact hk
 ·exact hk.elim
def cRBin := addC 62 kRBin cRUn
theorem okRBin : Sound env cRBin := sound_add sRBin (okRUn)
def kRStop (xs : List IV) (h : Heap) (K : IV -> Heap -> Prop) : Prop := match xs with
 | [.ptr id 0, .int .i64 kd, .int .i64 cd, .int .i64 v] => ∃ (B : Bi) (s : CS) (R : RL), RRep B s R id h /\ s.out.length <= 1000000 /\ ∀ (R' : RL) (h' : Heap), RRep B (stopS s kd cd v) R' id h' -> FrmR R.r R'.r h h' -> K (.tuple []) h'
 | _ => False
noncomputable def z60a (id : Nat) (h : Heap) (r0 : List IV) := Heap.set h id (IObj.cells (List.take 18 r0 ++ [IV.bool true] ++ List.drop 19 r0))
set_option maxRecDepth 100000 in
theorem vRStop (id : Nat) (kd cd v : Int) (h : Heap) (Q : IV -> Heap -> Prop) : dF (stdS cRBin) env 60 noU noI noI [.ptr id 0, .int .i64 kd, .int .i64 cd, .int .i64 v] h Q = (
 hgetS h id fun r0 => needS (Nat.ble 19 r0.length) (hgetS (z60a id h r0) id fun r1 => ldNVS 1 r1 17 (hgetS (z60a id h r0) id fun r2 => needS (Nat.ble 23 r2.length) (Q (.tuple []) (Heap.set (z60a id h r0) id (IObj.cells
 (List.take 19 r2 ++ [IV.int .i64 kd, IV.int .i64 cd, IV.nilslice, IV.int .i64 v] ++ List.drop 23 r2))))) fun (i3 e4 l5 : Nat) (c6 : List IV) => brS (Nat.beq l5 (0 : Nat)) (hgetS (z60a id h r0) id fun r7 => needS (Nat.ble 23 r7.length) (Q
 (IV.tuple []) (Heap.set (z60a id h r0) id (IObj.cells (List.take 19 r7 ++ [IV.int .i64 kd, IV.int .i64 cd, IV.nilslice, IV.int .i64 v] ++ List.drop 23 r7))))) (needS (Nat.ble (l5 * 8) (140737488355328 : Nat)) (hgetS (Heap.push (z60a id h r0) (IObj.tip (l5
 * (1 : Nat)))) id fun r8 => needS (Nat.ble 23 r8.length) (Q (.tuple []) (Heap.set (Heap.push (z60a id h r0) (IObj.tip (l5 * 1))) id (IObj.cells (List.take 19 r8 ++ [IV.int .i64 kd, IV.int .i64 cd, IV.vslice (some (Heap.next h)) (l5 * 1)
 l5 1 c6, IV.int .i64 v] ++ List.drop 23 r8)))))))) := by kernel_rfl
set_option maxHeartbeats 2000000 in
theorem sRStop : ∀ xs h Q, kRStop xs h Q -> CallW env 60 xs h Q := by
 intro xs h Q hk
 unfold kRStop at hk
 split at hk
 ·rename_i id kd cd v
  obtain ⟨B, s, R, hr, hk⟩ := hk
  refine dF_run (okRBin) (vRStop id kd cd v h Q) ?_
  delta z60a
  obtain ⟨hol, hk⟩ := hk
  have gid : ∀ (g : Heap) (y : IObj), (g.set id y).get id = y := fun g y => by rw [get_set, if_pos rfl]
  have hidn := hr.cpur.2
  refine hget_i hr.cpu (needS_intro (by simp only [Nat.ble_eq, rc_len2, hr.rl]; omega) ?_)
  rw [store_set (by simp only [rc_len2, hr.rl]; omega)]
  have h17 : ((rcpuC B s R).set 18 (.bool true))[17]? = some (rout s.out R.oi R.oe) := by
   rw [List.getElem?_set_ne (by omega)]
   exact (rc_z hr.rl 4).trans rfl
  refine hget_i (gid _ _) ?_
  by_cases ho : s.out = []
  ·refine ldNV_n (by rw [h17]; simp [rout, ho]) (hget_i (gid _ _) (needS_intro (by simp only [Nat.ble_eq, List.length_set, rc_len2, hr.rl]; omega) ?_))
   have e := rc_stop (B := B) (s := s) (R := R) hr.rl kd cd v 0 0
   rw [show rout s.out 0 0 = .nilslice by simp [rout, ho]] at e
   rw [Heap.set_set, e]
   exact hk _ _ (hr.upd (R' := { R with xi := 0, xe := 0 }) (by rw [get_set, if_pos rfl]) (Nat.le_refl _) (fun _ _ => rfl) (fun k _ hn => by rw [get_set, if_neg hn]) rfl rfl hr.rl rfl rfl) (frmR_set (by rw [hr.cpur.1]; simp))
  ·have hne : 0 < s.out.length := List.length_pos_iff.2 ho
   refine ldNV_i (i := R.oi) (e := R.oe) (l := s.out.length) (c := ints s.out) (by rw [h17]; simp only [rout, if_neg ho]) (brS_intro (fun c => by rw [nbeq_t] at c; omega) (fun _ => needS_intro (by rw [Nat.ble_eq]; omega) (hget_i (by rw [get_push, if_neg (by simp only [next_set]; omega)]; exact gid _ _) (needS_intro (by simp only [Nat.ble_eq, List.length_set, rc_len2, hr.rl]; omega) ?_))))
   have e := rc_stop (B := B) (s := s) (R := R) hr.rl kd cd v h.next (s.out.length * 1)
   rw [show rout s.out h.next (s.out.length * 1) = .vslice (some h.next) (s.out.length * 1) s.out.length 1 (ints s.out) by simp only [rout, if_neg ho]] at e
   rw [e]
   have hs : ∀ (x y z : IObj) k, k < h.next -> k ≠ id -> (((h.set id x).push y).set id z).get k = h.get k := fun x y z k hk hn => by
    rw [get_set, if_neg hn, get_push, if_neg (by simp only [next_set]; omega), get_set, if_neg hn]
   exact hk _ _ (hr.upd (R' := { R with xi := h.next, xe := s.out.length * 1 }) (by rw [get_set, if_pos rfl]) (by simp only [next_set, next_push]; omega) (fun _ _ => rfl) (fun k hk hn => hs _ _ _ k hk hn) rfl rfl hr.rl rfl rfl) (frmR_of (by rw [hr.cpur.1]; simp) (by simp only [next_set, next_push]; omega) (fun k hk hn => hs _ _ _ k hk hn))
 ·exact hk.elim
def cRStop := addC 60 kRStop cRBin
theorem okRStop : Sound env cRStop := sound_add sRStop (okRBin)
def rsInv (B : Bi) (s : CS) (R : RL) (id : Nat) (h : Heap) : Inv' := atX (Nat × Heap) (fun x => [(0, .v (.ptr id 0)), (3, .l 3 0), (8, .v (.int .i64 x.1))]) (fun _ => [(3, rinsC B s)]) (fun x => x.2) (fun x => RCall B s R id h x.1 x.2) (fun x => 8 - x.1)
def kRStep (xs : List IV) (h : Heap) (K : IV -> Heap -> Prop) : Prop := match xs with
 | [.ptr id 0] => ∃ (B : Bi) (s : CS) (R : RL), RRep B s R id h /\ (VB B /\ (∀ x ∈ B.w, u32b x) /\ WF B s /\ RG s /\ s.out.length <= 1000000 /\ s.frames.length <= 1000000) /\ ∀ (R' : RL) (h' : Heap), RRep B (stepS B s) R' id h' -> FrmR R.r R'.r h h' -> K (.bool (!s.over)) h'
 | _ => False
noncomputable def z34e (n8 : Int) (w : List Int) := Prod.fst (decR w n8)
noncomputable def z34a (n8 : Int) (w : List Int) := (5 : Nat) + Int.toNat (In.a (z34e n8 w)) * 1 + (1 : Nat)
noncomputable def z34b (n8 : Int) (w : List Int) := decide (0 <= In.a (z34e n8 w)) && decide (In.a (z34e n8 w) < 8)
noncomputable def z34c (n8 : Int) (w : List Int) := (5 : Nat) + Int.toNat (In.a (z34e n8 w)) * 1
noncomputable def z34d (n8 n10 : Int) (w : List Int) := [IV.int .i64 (IntKind.wrap .i64 (n10 + Prod.fst (Prod.snd (decR w n8))))]
noncomputable def z34f (id e32 l33 l38 : Nat) (h : Heap) (i31 : Option Nat) (c34 r40 : List IV) := Heap.set h id (IObj.cells (List.take 14 r40 ++ [IV.vslice i31 (e32 - (l33 - Int.toNat (IntKind.wrap .i64 ((↑l38 : Int) - 1))) * 2) (Int.toNat (IntKind.wrap .i64 ((↑l38 : Int) - 1)) - 0) 2 (List.take ((Int.toNat (IntKind.wrap .i64 ((↑l38 : Int) - 1)) - 0) * 2) c34)] ++ List.drop 15 r40))
noncomputable def z34g (B : Bi) (s : CS) := [IV.int .i64 (In.op (insS B s)), IV.int .i64 (In.a (insS B s)), IV.int .i64 (In.b (insS B s)), IV.int .i64 (In.c (insS B s)), IV.int .i64 (In.n (insS B s))]
noncomputable def z34m  := IV.bool true
noncomputable abbrev z34h (id : Nat) (h : Heap) (Q : IV -> Heap -> Prop) := ∃ (B : Bi), ∃ (s : CS), ∃ (R : RL), RRep B s R id h /\ List.length (CS.out s) <= 1000000 /\ ∀ (R' : RL) (h' : Heap), RRep B (stopS s (2 : Int) (2 : Int) (0 : Int)) R' id h' -> FrmR (RL.r R) (RL.r R') h h' -> Q z34m h'
noncomputable def z34i (n8 : Int) (w : List Int) := decide (0 <= In.b (z34e n8 w)) && decide (In.b (z34e n8 w) < 8)
noncomputable def z34j (id : Nat) (h : Heap) (n8 : Int) (w : List Int) (r190 : List IV) := Heap.set h id (IObj.cells (List.take (z34c n8 w) r190 ++ [IV.int .i64 0] ++ List.drop (z34a n8 w) r190))
noncomputable def z34ah (h : Heap) := Heap.push h IObj.free
noncomputable def z34k (h : Heap) := Heap.push (z34ah h) IObj.free
noncomputable def z34l (n8 : Int) (w : List Int) := (5 : Nat) + Int.toNat (In.b (z34e n8 w)) * 1
noncomputable def z34n (n42 : Int) (r43 : List IV) := IObj.cells (List.take 5 r43 ++ [IV.int .i64 n42, IV.int .i64 0, IV.int .i64 0, IV.int .i64 0, IV.int .i64 0, IV.int .i64 0, IV.int .i64 0, IV.int .i64 0] ++ List.drop 13 r43)
noncomputable def z34v (h : Heap) := Heap.next h + 1
noncomputable def z34o (h : Heap) (l57 : Nat) (n79 : Int) := Heap.set (Heap.set (z34k h) (Heap.next h) (IObj.tip (l57 * 2))) (z34v h) (IObj.cells (repl n79.toNat [IV.int .i64 0]))
noncomputable def z34p (h : Heap) (l109 : Nat) := Heap.set (Heap.set (z34ah h) (Heap.next h) (IObj.tip (l109 * 1))) (Heap.next h) (IObj.tip (l109 * 1 + (1 : Nat)))
noncomputable def z34q (l19 : Nat) := Int.toNat (IntKind.wrap .i64 ((↑l19 : Int) - 1)) * 2 + (0 : Nat)
noncomputable def z34r (h : Heap) := Heap.push (z34ah h) (IObj.tip (1 : Nat))
noncomputable abbrev z34s (id : Nat) (h : Heap) (Q : IV -> Heap -> Prop) := ∃ (B : Bi), ∃ (s : CS), ∃ (R : RL), RRep B s R id h /\ List.length (CS.out s) <= 1000000 /\ ∀ (R' : RL) (h' : Heap), RRep B (stopS s (2 : Int) (1 : Int) (0 : Int)) R' id h' -> FrmR (RL.r R) (RL.r R') h h' -> Q z34m h'
noncomputable def z34t (n8 : Int) (w : List Int) := [IV.int .i64 (In.op (z34e n8 w)), IV.int .i64 (In.a (z34e n8 w)), IV.int .i64 (In.b (z34e n8 w)), IV.int .i64 (In.c (z34e n8 w)), IV.int .i64 (In.n (z34e n8 w))]
noncomputable def z34u  := TV.l 3 0
noncomputable def z34w (id : Nat) := TV.v (.ptr id 0)
noncomputable def z34x (id : Nat) (h : Heap) (n104 : Int) (r105 : List IV) := Heap.set (z34r h) id (IObj.cells (List.take 17 r105 ++ [IV.vslice (some (z34v h)) 1 1 1 [IV.int .i64 n104]] ++ List.drop 18 r105))
noncomputable def z34y (id : Nat) (h : Heap) (n112 : Int) (r113 : List IV) := Heap.set (z34r h) id (IObj.cells (List.take 17 r113 ++ [IV.vslice (some (z34v h)) 1 1 1 [IV.int .i64 n112]] ++ List.drop 18 r113))
noncomputable def z34z (id l109 : Nat) (h : Heap) (c110 r118 : List IV) (n116 : Int) := Heap.set (z34p h l109) id (IObj.cells (List.take 17 r118 ++ [IV.vslice (some (Heap.next h)) (l109 * 1 + (1 : Nat)) (l109 + 1) 1 (c110 ++ [IV.int .i64 n116])] ++ List.drop 18 r118))
noncomputable abbrev z34aa (n8 : Int) (w : List Int) := 17 <= In.op (z34e n8 w) /\ In.op (z34e n8 w) <= 32
noncomputable def z34ab (h : Heap) (n64 : Int) := Heap.push (Heap.set (z34k h) (z34v h) (IObj.cells (repl n64.toNat [IV.int .i64 0]))) (IObj.tip (2 : Nat))
noncomputable def z34ac (n48 : Int) (r49 : List IV) := IObj.cells (List.take 16 r49 ++ [IV.int .i64 (IntKind.wrap .i64 (n48 - 1))] ++ List.drop 17 r49)
noncomputable def z34ad (n8 n209 : Int) (w : List Int) (o206 : Nat) (r210 : List IV) := IObj.cells (List.take (o206 + Int.toNat (In.n (z34e n8 w)) * 1) r210 ++ [IV.int .i64 n209] ++ List.drop (o206 + Int.toNat (In.n (z34e n8 w)) * 1 + (1 : Nat)) r210)
noncomputable abbrev z34ae (n8 : Int) (w : List Int) := 0 <= In.n (z34e n8 w)
noncomputable def z34af (n8 : Int) (w : List Int) := In.op (z34e n8 w) - 13
noncomputable def z34ag (n8 : Int) (w : List Int) := Int.toNat (In.n (z34e n8 w)) * 1
noncomputable def z34ai (o160 : Nat) (n163 n169 : Int) (r170 : List IV) := IObj.cells (List.take (o160 + n163.toNat * 1) r170 ++ [IV.int .i64 n169] ++ List.drop (o160 + n163.toNat * 1 + (1 : Nat)) r170)
noncomputable def z34aj (o178 : Nat) (n181 n187 : Int) (r188 : List IV) := IObj.cells (List.take (o178 + n181.toNat * 1) r188 ++ [IV.int .i64 n187] ++ List.drop (o178 + n181.toNat * 1 + (1 : Nat)) r188)
noncomputable def z34ak (n8 n151 : Int) (w : List Int) (r152 : List IV) := IObj.cells (List.take (z34c n8 w) r152 ++ [IV.int .i64 (IntKind.wrap .i64 (n151 + In.n (z34e n8 w)))] ++ List.drop (z34a n8 w) r152)
set_option maxRecDepth 100000 in
theorem vRStep (B : Bi) (s : CS) (R : RL) (id : Nat) (h : Heap) (Q : IV -> Heap -> Prop) : dF (stdS cRStop) env 34 noU (ic1 33 (rsInv B s R id h)) noI [.ptr id 0] h Q = (
 hgetS h id fun r0 => ldBS r0 18 fun b1 => brS b1 (Q (.bool false) h) (hgetS h id fun r2 => ldVS 1 r2 0 fun (i3 : Option Nat) (e4 l5 : Nat) (c6 : List IV) => hgetS h id fun r7 => ldIS .i64 r7 15 fun n8 => ∃ (w
 : List Int), (l5 = w.length /\ c6 = List.map (IV.int .u32) w) /\ ((∀ (x : Int), x ∈ w -> u32b x) /\ (↑w.length : Int) <= 4611686018427387904 /\ (-9223372036854775808 : Int) <= n8) /\ hgetS h id fun r9 => ldIS .i64 r9 15 fun n10 => hgetS h id fun (r11
 : List IV) => ldVS 2 r11 14 fun (i12 : Option Nat) (e13 l14 : Nat) (c15 : List IV) => hgetS h id fun r16 => ldVS 2 r16 14 fun (i17 : Option Nat) (e18 l19 : Nat) (c20 : List IV) => needS (decide (0 <= IntKind.wrap .i64 ((↑l19 : Int) - 1))
 && decide (IntKind.wrap .i64 ((↑l19 : Int) - 1) < (↑l14 : Int))) (brS (In.op (z34e n8 w) == 1) (hgetS h id fun r21 => needS (Nat.ble 16 r21.length) (Q z34m (Heap.set h id (IObj.cells (List.take 15 r21 ++ (z34d n8 n10 w) ++ List.drop 16
 r21))))) (brS (In.op (z34e n8 w) == 2) (hgetS h id fun r22 => ldVS 2 r22 14 fun (i23 : Option Nat) (e24 l25 : Nat) (c26 : List IV) => brS ((↑l25 : Int) == 1) (hgetS h id fun r27 => ldIS .i64 r27 5 fun n28 => ∃ (B : Bi), ∃
 (s : CS), ∃ (R : RL), RRep B s R id h /\ List.length (CS.out s) <= 1000000 /\ ∀ (R' : RL) (h' : Heap), RRep B (stopS s (1 : Int) (0 : Int) n28) R' id h' -> FrmR (RL.r R) (RL.r R') h h' -> Q z34m h') (ldIS .i64 c15 (Int.toNat (IntKind.wrap .i64 ((↑l19 : Int) - 1)) * 2
 + (1 : Nat)) fun n29 => hgetS h id fun r30 => ldVS 2 r30 14 fun (i31 : Option Nat) (e32 l33 : Nat) (c34 : List IV) => hgetS h id fun r35 => ldVS 2 r35 14 fun (i36 : Option Nat) (e37 l38 : Nat) (c39 : List IV) => needS (true && (decide ((0
 : Int) <= IntKind.wrap .i64 ((↑l38 : Int) - 1)) && decide (IntKind.wrap .i64 ((↑l38 : Int) - 1) <= (↑l33 : Int)))) (hgetS h id fun r40 => needS (Nat.ble 15 r40.length) (hgetS (z34f id e32 l33 l38 h i31 c34 r40) id fun r41 => ldIS .i64
 r41 5 fun n42 => hgetS (z34f id e32 l33 l38 h i31 c34 r40) id fun r43 => needS (Nat.ble 13 r43.length) (hgetS (Heap.set (z34f id e32 l33 l38 h i31 c34 r40) id (z34n n42 r43)) id fun r44 => needS (Nat.ble 16 r44.length) (Q z34m (Heap.set
 (Heap.set (z34f id e32 l33 l38 h i31 c34 r40) id (z34n n42 r43)) id (IObj.cells (List.take 15 r44 ++ [IV.int .i64 n29] ++ List.drop 16 r44))))))))) (brS (In.op (z34e n8 w) == 3) (hgetS h id fun r45 => ldIS .i64 r45 16 fun n46 => brS (n46
 == (0 : Int)) (∃ (B : Bi), ∃ (s : CS), ∃ (R : RL), RRep B s R id h /\ List.length (CS.out s) <= 1000000 /\ ∀ (R' : RL) (h' : Heap), RRep B (stopS s (3 : Int) (0 : Int) (0 : Int)) R' id h' -> FrmR (RL.r R) (RL.r R') h h' -> Q z34m h') (hgetS h id fun r47 => ldIS .i64 r47 16
 fun n48 => hgetS h id fun r49 => needS (Nat.ble 17 r49.length) (hgetS (Heap.set h id (z34ac n48 r49)) id fun r50 => needS (Nat.ble 16 r50.length) (Q z34m (Heap.set (Heap.set h id (z34ac n48 r49)) id (IObj.cells (List.take 15 r50 ++
 (z34d n8 n10 w) ++ List.drop 16 r50))))))) (brS (In.op (z34e n8 w) == 4) (∃ (B : Bi), ∃ (s : CS), ∃ (R : RL), RRep B s R id h /\ List.length (CS.out s) <= 1000000 /\ ∀ (R' : RL) (h' : Heap), RRep B (stopS s (2 : Int) (In.n (z34e n8 w)) (0 : Int)) R' id h' -> FrmR (RL.r R) (RL.r R')
 h h' -> Q z34m h') (brS (In.op (z34e n8 w) == 5) (hgetS h id fun r51 => ldIS .i64 r51 15 fun n52 => hgetS h id fun r53 => needS (Nat.ble 16 r53.length) (Q z34m (Heap.set h id (IObj.cells (List.take 15 r53 ++ [IV.int .i64
 (IntKind.wrap .i64 (n52 + In.n (z34e n8 w)))] ++ List.drop 16 r53))))) (brS (In.op (z34e n8 w) == 6) (hgetS (z34k h) id fun r54 => ldVS 2 r54 14 fun (i55 : Option Nat) (e56 l57 : Nat) (c58 : List IV) => brS (Nat.beq l57 (0 : Nat)) (hgetS (z34k h) id
 fun r59 => ldVS 1 r59 3 fun (i60 : Option Nat) (e61 l62 : Nat) (c63 : List IV) => needS (decide (z34ae n8 w) && decide (In.n (z34e n8 w) < (↑l62 : Int))) (ldIS .i64 c63 (z34ag n8 w) fun n64 => needS (decide (0 <= n64) && (decide (n64 <= n64) && (decide
 (n64 <= 9223372036854775807) && decide ((8 : Int) * n64 <= 140737488355328)))) (freS (z34k h) (z34v h) (hgetS (z34ab h n64) id fun r65 => needS (Nat.ble 15 r65.length) ((∃ (x : Nat × Heap), some (z34w id) = some (z34w id) /\ some z34u = some z34u /\ some (TV.v (.int
 .i64 (In.a (z34e n8 w)))) = some (TV.v (.int .i64 (↑x.1 : Int))) /\ some (z34t n8 w) = some (z34g B s) /\ Heap.set (z34ab h n64) id (IObj.cells (List.take 14 r65 ++ [IV.vslice (some (Heap.next h + 1 + (1 : Nat))) 2 1 2 [IV.hslice (z34v h)
 0 n64.toNat 1, IV.int .i64 (IntKind.wrap .i64 (n10 + Prod.fst (Prod.snd (decR w n8))))]] ++ List.drop 15 r65)) = x.2 /\ RCall B s R id h x.1 x.2 /\ True) /\ ∀ (x : Nat × Heap) (b : FF), RCall B s R id h x.1 x.2 -> brS
 (decide ((↑x.1 : Int) < 8)) (needS (decide (0 <= (↑x.1 : Int)) && decide ((↑x.1 : Int) < 8)) (hgetS x.2 id fun r66 => needS (Nat.ble ((5 : Nat) + Int.toNat (↑x.1 : Int) * 1 + (1 : Nat)) r66.length) (∃ (x_1
 : Nat × Heap), some (z34w id) = some (z34w id) /\ some z34u = some z34u /\ some (TV.v (.int .i64 (IntKind.wrap .i64 ((↑x.1 : Int) + 1)))) = some (TV.v (.int .i64 (↑x_1.1 : Int))) /\ some (z34g B s) = some (z34g B s) /\ Heap.set x.2 id (IObj.cells
 (List.take ((5 : Nat) + Int.toNat (↑x.1 : Int) * 1) r66 ++ [IV.int .i64 0] ++ List.drop ((5 : Nat) + Int.toNat (↑x.1 : Int) * 1 + (1 : Nat)) r66)) = x_1.2 /\ RCall B s R id h x_1.1 x_1.2 /\ (8 : Nat) - x_1.1 < 8 -
 x.1))) (hgetS x.2 id fun r67 => ldVS 1 r67 1 fun (i68 : Option Nat) (e69 l70 : Nat) (c71 : List IV) => needS (decide (0 <= In.n (insS B s)) && decide (In.n (insS B s) < (↑l70 : Int))) (ldIS .i64 c71 (Int.toNat (In.n (insS B s)) * 1) fun
 (n72 : Int) => hgetS x.2 id fun r73 => needS (Nat.ble 16 r73.length) (Q z34m (Heap.set x.2 id (IObj.cells (List.take 15 r73 ++ [IV.int .i64 n72] ++ List.drop 16 r73))))))))))) (needS (Nat.ble (l57 * 32) (140737488355328 : Nat))
 (freS (z34k h) (Heap.next h) (hgetS (Heap.set (z34k h) (Heap.next h) (IObj.tip (l57 * 2))) id fun r74 => ldVS 1 r74 3 fun (i75 : Option Nat) (e76 l77 : Nat) (c78 : List IV) => needS (!Nat.beq (Heap.next h) id) (needS (decide (z34ae n8 w) && decide (In.n (z34e n8 w)
 < (↑l77 : Int))) (ldIS .i64 c78 (z34ag n8 w) fun n79 => needS (decide (0 <= n79) && (decide (n79 <= n79) && (decide (n79 <= 9223372036854775807) && decide ((8 : Int) * n79 <= 140737488355328)))) (freS (Heap.set (z34k h) (Heap.next h) (IObj.tip (l57 * 2))) (z34v
 h) (tipS (z34o h l57 n79) (Heap.next h) fun (m80 : Nat) => needS (Nat.beq m80 (l57 * 2) && Nat.ble ((l57 + 1) * 32) (140737488355328 : Nat)) (hgetS (Heap.set (z34o h l57 n79) (Heap.next h) (IObj.tip (l57 * 2 + (2 : Nat)))) id fun r81 => needS (Nat.ble (15 :
 Nat) r81.length) ((∃ (x : Nat × Heap), some (z34w id) = some (z34w id) /\ some z34u = some z34u /\ some (TV.v (.int .i64 (In.a (z34e n8 w)))) = some (TV.v (.int .i64 (↑x.1 : Int))) /\ some (z34t n8 w) = some (z34g B s) /\ Heap.set (Heap.set (z34o h l57 n79) (Heap.next h)
 (IObj.tip (l57 * 2 + (2 : Nat)))) id (IObj.cells (List.take 14 r81 ++ [IV.vslice (some (Heap.next h)) (l57 * 2 + (2 : Nat)) (l57 + 1) 2 (c58 ++ [IV.hslice (z34v h) 0 n79.toNat 1, IV.int .i64 (IntKind.wrap .i64 (n10 + Prod.fst
 (Prod.snd (decR w n8))))])] ++ List.drop 15 r81)) = x.2 /\ RCall B s R id h x.1 x.2 /\ True) /\ ∀ (x : Nat × Heap) (b : FF), RCall B s R id h x.1 x.2 -> brS (decide ((↑x.1 : Int) < 8)) (needS (decide (0 <= (↑x.1 : Int)) &&
 decide ((↑x.1 : Int) < 8)) (hgetS x.2 id fun r82 => needS (Nat.ble ((5 : Nat) + Int.toNat (↑x.1 : Int) * 1 + (1 : Nat)) r82.length) (∃ (x_1 : Nat × Heap), some (z34w id) = some (z34w id) /\ some z34u = some z34u /\ some (TV.v (.int .i64
 (IntKind.wrap .i64 ((↑x.1 : Int) + 1)))) = some (TV.v (.int .i64 (↑x_1.1 : Int))) /\ some (z34g B s) = some (z34g B s) /\ Heap.set x.2 id (IObj.cells (List.take ((5 : Nat) + Int.toNat (↑x.1 : Int) * 1) r82 ++ [IV.int .i64 0]
 ++ List.drop ((5 : Nat) + Int.toNat (↑x.1 : Int) * 1 + (1 : Nat)) r82)) = x_1.2 /\ RCall B s R id h x_1.1 x_1.2 /\ (8 : Nat) - x_1.1 < 8 - x.1))) (hgetS x.2 id fun r83 => ldVS 1 r83 1 fun (i84 : Option
 Nat) (e85 l86 : Nat) (c87 : List IV) => needS (decide (0 <= In.n (insS B s)) && decide (In.n (insS B s) < (↑l86 : Int))) (ldIS .i64 c87 (Int.toNat (In.n (insS B s)) * 1) fun n88 => hgetS x.2 id fun r89 => needS (Nat.ble 16 r89.length)
 (Q z34m (Heap.set x.2 id (IObj.cells (List.take 15 r89 ++ [IV.int .i64 n88] ++ List.drop 16 r89)))))))))))))))) (brS (In.op (z34e n8 w) == 7) (needS (z34b n8 w) (hgetS h id fun r90 => ldIS .i64 r90 (z34c n8 w) fun n91 => brS (n91 == (0
 : Int)) (hgetS h id fun r92 => ldIS .i64 r92 15 fun n93 => hgetS h id fun r94 => needS (Nat.ble 16 r94.length) (Q z34m (Heap.set h id (IObj.cells (List.take 15 r94 ++ [IV.int .i64 (IntKind.wrap .i64 (n93 + In.n (z34e
 n8 w)))] ++ List.drop 16 r94))))) (hgetS h id fun r95 => needS (Nat.ble 16 r95.length) (Q z34m (Heap.set h id (IObj.cells (List.take 15 r95 ++ (z34d n8 n10 w) ++ List.drop 16 r95))))))) (brS (In.op (z34e n8 w) == 8) (needS (z34b n8 w) (hgetS
 h id fun r96 => ldIS .i64 r96 (z34c n8 w) fun n97 => brS (n97 != 0) (hgetS h id fun r98 => ldIS .i64 r98 15 fun n99 => hgetS h id fun r100 => needS (Nat.ble 16 r100.length) (Q z34m (Heap.set h id (IObj.cells
 (List.take 15 r100 ++ [IV.int .i64 (IntKind.wrap .i64 (n99 + In.n (z34e n8 w)))] ++ List.drop 16 r100))))) (hgetS h id fun r101 => needS (Nat.ble 16 r101.length) (Q z34m (Heap.set h id (IObj.cells (List.take 15 r101 ++ (z34d n8 n10 w) ++
 List.drop 16 r101))))))) (brS (In.op (z34e n8 w) == 9) (hgetS (z34ah h) id fun r102 => ldNVS 1 r102 17 (needS (z34b n8 w) (hgetS (z34ah h) id fun r103 => ldIS .i64 r103 (z34c n8 w) fun n104 => hgetS (z34r h) id fun (r105 : List IV)
 => needS (Nat.ble 18 r105.length) (hgetS (z34x id h n104 r105) id fun r106 => needS (Nat.ble 16 r106.length) (Q z34m (Heap.set (z34x id h n104 r105) id (IObj.cells (List.take 15 r106 ++ (z34d n8 n10 w) ++ List.drop 16 r106))))))) fun (i107 e108
 l109 : Nat) (c110 : List IV) => brS (Nat.beq l109 (0 : Nat)) (needS (z34b n8 w) (hgetS (z34ah h) id fun r111 => ldIS .i64 r111 (z34c n8 w) fun n112 => hgetS (z34r h) id fun r113 => needS (Nat.ble 18 r113.length) (hgetS (z34y id h n112 r113) id fun
 (r114 : List IV) => needS (Nat.ble 16 r114.length) (Q z34m (Heap.set (z34y id h n112 r113) id (IObj.cells (List.take 15 r114 ++ (z34d n8 n10 w) ++ List.drop 16 r114))))))) (needS (Nat.ble (l109 * 8) (140737488355328 : Nat)) (freS (z34ah h) (Heap.next h) (needS (z34b
 n8 w) (hgetS (Heap.set (z34ah h) (Heap.next h) (IObj.tip (l109 * 1))) id fun r115 => ldIS .i64 r115 (z34c n8 w) fun n116 => needS (!Nat.beq (Heap.next h) id) (tipS (Heap.set (z34ah h) (Heap.next h) (IObj.tip (l109 * 1))) (Heap.next h) fun (m117 : Nat) => needS
 (Nat.beq m117 (l109 * 1) && Nat.ble ((l109 + 1) * 8) (140737488355328 : Nat)) (hgetS (z34p h l109) id fun r118 => needS (Nat.ble 18 r118.length) (hgetS (z34z id l109 h c110 r118 n116) id fun r119 => needS (Nat.ble 16 (List.length
 r119)) (Q z34m (Heap.set (z34z id l109 h c110 r118 n116) id (IObj.cells (List.take 15 r119 ++ (z34d n8 n10 w) ++ List.drop 16 r119)))))))))))) (brS (In.op (z34e n8 w) == 10) (needS (z34i n8 w) (hgetS h id fun r120 => ldIS .i64 r120 (z34l n8 w) fun (n121 : Int)
 => needS (z34b n8 w) (hgetS h id fun r122 => needS (Nat.ble (z34a n8 w) r122.length) (hgetS (Heap.set h id (IObj.cells (List.take (z34c n8 w) r122 ++ [IV.int .i64 n121] ++ List.drop (z34a n8 w) r122))) id fun r123 => needS (Nat.ble 16 r123.length)
 (Q z34m (Heap.set (Heap.set h id (IObj.cells (List.take (z34c n8 w) r122 ++ [IV.int .i64 n121] ++ List.drop (z34a n8 w) r122))) id (IObj.cells (List.take 15 r123 ++ (z34d n8 n10 w) ++ List.drop 16 r123)))))))) (brS (In.op (z34e n8 w) == 11) (needS (decide (0 <= In.c
 (z34e n8 w)) && decide (In.c (z34e n8 w) < 8)) (hgetS h id fun r124 => ldIS .i64 r124 ((5 : Nat) + Int.toNat (In.c (z34e n8 w)) * 1) fun n125 => brS (n125 == 0) (needS (z34i n8 w) (hgetS h id fun r126 => ldIS .i64 r126 (z34l n8 w)
 fun n127 => needS (z34b n8 w) (hgetS h id fun r128 => needS (Nat.ble (z34a n8 w) r128.length) (hgetS (Heap.set h id (IObj.cells (List.take (z34c n8 w) r128 ++ [IV.int .i64 n127] ++ List.drop (z34a n8 w) r128))) id fun r129 => needS (Nat.ble 16 (List.length
 r129)) (Q z34m (Heap.set (Heap.set h id (IObj.cells (List.take (z34c n8 w) r128 ++ [IV.int .i64 n127] ++ List.drop (z34a n8 w) r128))) id (IObj.cells (List.take 15 r129 ++ (z34d n8 n10 w) ++ List.drop 16 r129)))))))) (hgetS h id fun r130 => needS (Nat.ble 16
 r130.length) (Q z34m (Heap.set h id (IObj.cells (List.take 15 r130 ++ (z34d n8 n10 w) ++ List.drop 16 r130))))))) (brS (In.op (z34e n8 w) == 12) (needS (decide (0 <= In.c (z34e n8 w)) && decide (In.c (z34e n8 w) < 8)) (hgetS h id fun r131 => ldIS
 .i64 r131 ((5 : Nat) + Int.toNat (In.c (z34e n8 w)) * 1) fun n132 => brS (n132 != 0) (needS (z34i n8 w) (hgetS h id fun r133 => ldIS .i64 r133 (z34l n8 w) fun n134 => needS (z34b n8 w) (hgetS h id fun r135 => needS (Nat.ble (z34a n8
 w) r135.length) (hgetS (Heap.set h id (IObj.cells (List.take (z34c n8 w) r135 ++ [IV.int .i64 n134] ++ List.drop (z34a n8 w) r135))) id fun r136 => needS (Nat.ble 16 r136.length) (Q z34m (Heap.set (Heap.set h id (IObj.cells (List.take (z34c n8 w) r135 ++ [IV.int
 .i64 n134] ++ List.drop (z34a n8 w) r135))) id (IObj.cells (List.take 15 r136 ++ (z34d n8 n10 w) ++ List.drop 16 r136)))))))) (hgetS h id fun r137 => needS (Nat.ble 16 r137.length) (Q z34m (Heap.set h id (IObj.cells (List.take 15 r137 ++ (z34d
 n8 n10 w) ++ List.drop 16 r137))))))) (brS (In.op (z34e n8 w) == 13) (needS (z34b n8 w) (hgetS h id fun r138 => needS (Nat.ble (z34a n8 w) r138.length) (hgetS (Heap.set h id (IObj.cells (List.take (z34c n8 w) r138 ++ [IV.int .i64 (In.n (z34e n8 w))] ++ List.drop
 (z34a n8 w) r138))) id fun r139 => needS (Nat.ble 16 r139.length) (Q z34m (Heap.set (Heap.set h id (IObj.cells (List.take (z34c n8 w) r138 ++ [IV.int .i64 (In.n (z34e n8 w))] ++ List.drop (z34a n8 w) r138))) id (IObj.cells (List.take 15 r139 ++ (z34d n8 n10 w)
 ++ List.drop 16 r139))))))) (brS (In.op (z34e n8 w) == 14) (needS (z34b n8 w) (hgetS h id fun r140 => needS (Nat.ble (z34a n8 w) r140.length) (hgetS (Heap.set h id (IObj.cells (List.take (z34c n8 w) r140 ++ [IV.int .i64 (In.n (z34e n8 w))] ++ List.drop (z34a
 n8 w) r140))) id fun r141 => needS (Nat.ble 16 r141.length) (Q z34m (Heap.set (Heap.set h id (IObj.cells (List.take (z34c n8 w) r140 ++ [IV.int .i64 (In.n (z34e n8 w))] ++ List.drop (z34a n8 w) r140))) id (IObj.cells (List.take 15 r141 ++ (z34d n8 n10 w) ++ List.drop
 (16 : Nat) r141))))))) (brS (In.op (z34e n8 w) == 15) (needS (z34b n8 w) (hgetS h id fun r142 => ldIS .i64 r142 (z34c n8 w) fun n143 => (In.op (z34e n8 w) = 15 \/ In.op (z34e n8 w) = 16) /\ needS (z34b n8 w) (hgetS h id fun r144 => needS (Nat.ble
 (z34a n8 w) r144.length) (hgetS (Heap.set h id (IObj.cells (List.take (z34c n8 w) r144 ++ [IV.int .i64 (wun (In.op (z34e n8 w) + 5) n143)] ++ List.drop (z34a n8 w) r144))) id fun r145 => needS (Nat.ble 16 r145.length) (Q z34m (Heap.set (Heap.set h id (IObj.cells
 (List.take (z34c n8 w) r144 ++ [IV.int .i64 (wun (In.op (z34e n8 w) + 5) n143)] ++ List.drop (z34a n8 w) r144))) id (IObj.cells (List.take 15 r145 ++ (z34d n8 n10 w) ++ List.drop 16 r145)))))))) (brS (In.op (z34e n8 w) == 16) (needS (z34b n8 w) (hgetS h id fun (r146
 : List IV) => ldIS .i64 r146 (z34c n8 w) fun n147 => (In.op (z34e n8 w) = 15 \/ In.op (z34e n8 w) = 16) /\ needS (z34b n8 w) (hgetS h id fun r148 => needS (Nat.ble (z34a n8 w) r148.length) (hgetS (Heap.set h id (IObj.cells (List.take (z34c n8 w) r148 ++
 [IV.int .i64 (wun (In.op (z34e n8 w) + 5) n147)] ++ List.drop (z34a n8 w) r148))) id fun r149 => needS (Nat.ble 16 r149.length) (Q z34m (Heap.set (Heap.set h id (IObj.cells (List.take (z34c n8 w) r148 ++ [IV.int .i64 (wun (In.op (z34e n8 w) + 5)
 n147)] ++ List.drop (z34a n8 w) r148))) id (IObj.cells (List.take 15 r149 ++ (z34d n8 n10 w) ++ List.drop 16 r149)))))))) (brS (In.op (z34e n8 w) == 33) (needS (z34b n8 w) (hgetS h id fun r150 => ldIS .i64 r150 (z34c n8 w) fun n151 => needS (z34b n8
 w) (hgetS h id fun r152 => needS (Nat.ble (z34a n8 w) r152.length) (hgetS (Heap.set h id (z34ak n8 n151 w r152)) id fun r153 => needS (Nat.ble 16 r153.length) (Q z34m (Heap.set (Heap.set h id (z34ak n8 n151 w r152)) id (IObj.cells (List.take 15 r153
 ++ (z34d n8 n10 w) ++ List.drop 16 r153)))))))) (brS (In.op (z34e n8 w) == 34) (hgetS h id fun r154 => ldVS 1 r154 13 fun (i155 : Option Nat) (e156 l157 : Nat) (c158 : List IV) => needS (decide (z34ae n8 w) && decide (In.n (z34e n8 w) < (↑l157 : Int))) (ldNHS
 (1 : Nat) c158 (z34ag n8 w) False fun (i159 o160 l161 : Nat) => needS (z34i n8 w) (hgetS h id fun r162 => ldIS .i64 r162 (z34l n8 w) fun n163 => brS (decide (n163 < 0)) (z34h id h Q) (brS (decide (n163 >= (↑l161 : Int))) (z34h id h Q) (brS (In.op (z34e n8 w) == (34 :
 Int)) (needS (decide (0 <= n163) && decide (n163 < (↑l161 : Int))) (hgetS h i159 fun r164 => ldIS .i64 r164 (o160 + n163.toNat * 1) fun n165 => needS (z34b n8 w) (hgetS h id fun r166 => needS (Nat.ble (z34a n8 w) r166.length) (hgetS (Heap.set
 h id (IObj.cells (List.take (z34c n8 w) r166 ++ [IV.int .i64 n165] ++ List.drop (z34a n8 w) r166))) id fun r167 => needS (Nat.ble 16 r167.length) (Q z34m (Heap.set (Heap.set h id (IObj.cells (List.take (z34c n8 w) r166 ++ [IV.int .i64 n165] ++ List.drop (z34a
 n8 w) r166))) id (IObj.cells (List.take 15 r167 ++ (z34d n8 n10 w) ++ List.drop 16 r167)))))))) (needS (z34b n8 w) (hgetS h id fun r168 => ldIS .i64 r168 (z34c n8 w) fun n169 => needS (decide (0 <= n163) && decide (n163 < (↑l161 : Int))) (hgetS h i159
 fun r170 => needS (Nat.ble (o160 + n163.toNat * 1 + (1 : Nat)) r170.length) (hgetS (Heap.set h i159 (z34ai o160 n163 n169 r170)) id fun r171 => needS (Nat.ble 16 r171.length) (Q z34m (Heap.set (Heap.set h i159 (z34ai o160 n163 n169 r170)) id (IObj.cells
 (List.take 15 r171 ++ (z34d n8 n10 w) ++ List.drop 16 r171))))))))))))) (brS (In.op (z34e n8 w) == 35) (hgetS h id fun r172 => ldVS 1 r172 13 fun (i173 : Option Nat) (e174 l175 : Nat) (c176 : List IV) => needS (decide (z34ae n8 w) && decide (In.n (z34e
 n8 w) < (↑l175 : Int))) (ldNHS 1 c176 (z34ag n8 w) False fun (i177 o178 l179 : Nat) => needS (z34i n8 w) (hgetS h id fun r180 => ldIS .i64 r180 (z34l n8 w) fun n181 => brS (decide (n181 < 0)) (z34h id h Q) (brS (decide (n181 >= (↑l179 : Int))) (z34h id h Q) (brS
 (In.op (z34e n8 w) == 34) (needS (decide (0 <= n181) && decide (n181 < (↑l179 : Int))) (hgetS h i177 fun r182 => ldIS .i64 r182 (o178 + n181.toNat * 1) fun n183 => needS (z34b n8 w) (hgetS h id fun r184 => needS (Nat.ble (z34a n8 w) (List.length
 r184)) (hgetS (Heap.set h id (IObj.cells (List.take (z34c n8 w) r184 ++ [IV.int .i64 n183] ++ List.drop (z34a n8 w) r184))) id fun r185 => needS (Nat.ble 16 r185.length) (Q z34m (Heap.set (Heap.set h id (IObj.cells (List.take (z34c n8 w) r184 ++ [IV.int .i64 n183]
 ++ List.drop (z34a n8 w) r184))) id (IObj.cells (List.take 15 r185 ++ (z34d n8 n10 w) ++ List.drop 16 r185)))))))) (needS (z34b n8 w) (hgetS h id fun r186 => ldIS .i64 r186 (z34c n8 w) fun n187 => needS (decide (0 <= n181) && decide (n181 < (↑l179 : Int)))
 (hgetS h i177 fun r188 => needS (Nat.ble (o178 + n181.toNat * 1 + (1 : Nat)) r188.length) (hgetS (Heap.set h i177 (z34aj o178 n181 n187 r188)) id fun r189 => needS (Nat.ble 16 r189.length) (Q z34m (Heap.set (Heap.set h i177 (z34aj o178 n181 n187
 r188)) id (IObj.cells (List.take 15 r189 ++ (z34d n8 n10 w) ++ List.drop 16 r189))))))))))))) (brS (In.op (z34e n8 w) == 36) (needS (z34b n8 w) (hgetS h id fun r190 => needS (Nat.ble (z34a n8 w) r190.length) (ldNHS 1 c15 (z34q l19) False fun (i191 o192
 l193 : Nat) => brS (decide (In.n (z34e n8 w) < (↑l193 : Int))) (ldNHS 1 c15 (z34q l19) False fun (i194 o195 l196 : Nat) => needS (decide (z34ae n8 w) && decide (In.n (z34e n8 w) < (↑l196 : Int))) (hgetS (z34j id h n8 w r190) i194 fun r197 => ldIS .i64 r197 (o195 + Int.toNat
 (In.n (z34e n8 w)) * 1) fun n198 => needS (z34b n8 w) (hgetS (z34j id h n8 w r190) id fun r199 => needS (Nat.ble (z34a n8 w) r199.length) (hgetS (Heap.set (z34j id h n8 w r190) id (IObj.cells (List.take (z34c n8 w) r199 ++ [IV.int .i64 n198] ++ List.drop (z34a
 n8 w) r199))) id fun r200 => needS (Nat.ble 16 r200.length) (Q z34m (Heap.set (Heap.set (z34j id h n8 w r190) id (IObj.cells (List.take (z34c n8 w) r199 ++ [IV.int .i64 n198] ++ List.drop (z34a n8 w) r199))) id (IObj.cells (List.take 15 r200 ++ (z34d n8 n10 w)
 ++ List.drop 16 r200)))))))) (hgetS (z34j id h n8 w r190) id fun r201 => needS (Nat.ble 16 r201.length) (Q z34m (Heap.set (z34j id h n8 w r190) id (IObj.cells (List.take 15 r201 ++ (z34d n8 n10 w) ++ List.drop 16 r201)))))))) (brS (In.op (z34e n8 w)
 == (37 : Int)) (ldNHS 1 c15 (z34q l19) False fun (i202 o203 l204 : Nat) => brS (decide (In.n (z34e n8 w) < (↑l204 : Int))) (ldNHS 1 c15 (z34q l19) False fun (i205 o206 l207 : Nat) => needS (z34b n8 w) (hgetS h id fun r208 => ldIS .i64 r208 (z34c n8 w) fun (n209 : Int)
 => needS (decide (z34ae n8 w) && decide (In.n (z34e n8 w) < (↑l207 : Int))) (hgetS h i205 fun r210 => needS (Nat.ble (o206 + Int.toNat (In.n (z34e n8 w)) * 1 + (1 : Nat)) r210.length) (hgetS (Heap.set h i205 (z34ad n8 n209 w o206 r210)) id fun r211 => needS (Nat.ble
 (16 : Nat) r211.length) (Q z34m (Heap.set (Heap.set h i205 (z34ad n8 n209 w o206 r210)) id (IObj.cells (List.take 15 r211 ++ (z34d n8 n10 w) ++ List.drop 16 r211)))))))) (hgetS h id fun r212 => needS (Nat.ble 16 r212.length) (Q z34m (Heap.set h id (IObj.cells
 (List.take 15 r212 ++ (z34d n8 n10 w) ++ List.drop 16 r212)))))) (brS (In.op (z34e n8 w) == 20) (needS (z34i n8 w) (hgetS h id fun r213 => ldIS .i64 r213 (z34l n8 w) fun n214 => brS (n214 == 0) (z34s id h Q) (needS (z34b n8 w) (hgetS h id fun
 (r215 : List IV) => ldIS .i64 r215 (z34c n8 w) fun n216 => needS (z34i n8 w) (hgetS h id fun r217 => ldIS .i64 r217 (z34l n8 w) fun n218 => ((z34aa n8 w) /\ inR n216 /\ inR n218) /\ needS (z34b n8 w) (hgetS h id fun r219 => needS (Nat.ble (z34a n8 w)
 r219.length) (hgetS (Heap.set h id (IObj.cells (List.take (z34c n8 w) r219 ++ [IV.int .i64 (wbin (z34af n8 w) n216 n218)] ++ List.drop (z34a n8 w) r219))) id fun r220 => needS (Nat.ble 16 r220.length) (Q z34m (Heap.set (Heap.set h id (IObj.cells (List.take (z34c
 n8 w) r219 ++ [IV.int .i64 (wbin (z34af n8 w) n216 n218)] ++ List.drop (z34a n8 w) r219))) id (IObj.cells (List.take 15 r220 ++ (z34d n8 n10 w) ++ List.drop 16 r220))))))))))) (brS (In.op (z34e n8 w) == 21) (needS (z34i n8 w) (hgetS h id fun r221 => ldIS .i64
 r221 (z34l n8 w) fun n222 => brS (n222 == 0) (z34s id h Q) (needS (z34b n8 w) (hgetS h id fun r223 => ldIS .i64 r223 (z34c n8 w) fun n224 => needS (z34i n8 w) (hgetS h id fun r225 => ldIS .i64 r225 (z34l n8 w) fun n226 => ((z34aa n8
 w) /\ inR n224 /\ inR n226) /\ needS (z34b n8 w) (hgetS h id fun r227 => needS (Nat.ble (z34a n8 w) r227.length) (hgetS (Heap.set h id (IObj.cells (List.take (z34c n8 w) r227 ++ [IV.int .i64 (wbin (z34af n8 w) n224 n226)] ++ List.drop (z34a n8 w) r227))) id fun (r228 : List IV)
 => needS (Nat.ble 16 r228.length) (Q z34m (Heap.set (Heap.set h id (IObj.cells (List.take (z34c n8 w) r227 ++ [IV.int .i64 (wbin (z34af n8 w) n224 n226)] ++ List.drop (z34a n8 w) r227))) id (IObj.cells (List.take 15 r228 ++ (z34d n8 n10 w) ++ List.drop 16 r228)))))))))))
 (needS (z34b n8 w) (hgetS h id fun r229 => ldIS .i64 r229 (z34c n8 w) fun n230 => needS (z34i n8 w) (hgetS h id fun r231 => ldIS .i64 r231 (z34l n8 w) fun n232 => ((z34aa n8 w) /\ inR n230 /\ inR n232) /\ needS (z34b n8 w) (hgetS h id fun (r233 : List
 IV) => needS (Nat.ble (z34a n8 w) r233.length) (hgetS (Heap.set h id (IObj.cells (List.take (z34c n8 w) r233 ++ [IV.int .i64 (wbin (z34af n8 w) n230 n232)] ++ List.drop (z34a n8 w) r233))) id fun r234 => needS (Nat.ble 16 r234.length) (Q z34m (Heap.set (Heap.set
 h id (IObj.cells (List.take (z34c n8 w) r233 ++ [IV.int .i64 (wbin (z34af n8 w) n230 n232)] ++ List.drop (z34a n8 w) r233))) id (IObj.cells (List.take 15 r234 ++ (z34d n8 n10 w) ++ List.drop 16 r234)))))))))))))))))))))))))))))))))) := by kernel_rfl
set_option maxHeartbeats 16000000 in
set_option maxRecDepth 100000 in
theorem sRStep : ∀ xs h Q, kRStep xs h Q -> CallW env 34 xs h Q := by
 intro xs h Q hk
 unfold kRStep at hk
 split at hk
 ·rename_i id
  obtain ⟨B, s, R, hr, hk⟩ := hk
  refine dF_run (okRStop) (vRStep B s R id h Q) ?_
  delta z34a z34b z34c z34d z34e z34f z34g z34h z34i z34j z34k z34l z34m z34n z34o z34p z34q z34r z34s z34t z34u z34v z34w z34x z34y z34z z34aa z34ab z34ac z34ad z34ae z34af z34ag z34ah z34ai z34aj z34ak
  have hpre := hk.1
  have hk := hk.2
  have hv := hpre.1
  have hw := hpre.2.1
  have wf := hpre.2.2.1
  have hg := hpre.2.2.2.1
  have hol := hpre.2.2.2.2.1
  have hfl := hpre.2.2.2.2.2
  refine hget_i hr.cpu (ldB_i ((rc_z hr.rl 5).trans rfl) (brS_intro (fun y => ?_) (fun y => ?_)))
  ·have ho : s.over = true := y
   have e : stepS B s = s := by unfold stepS; simp [ho]
   have := hk R h (by rw [e]; exact hr) (FrmR.refl _ _)
   rw [ho] at this
   exact this
  have ho : s.over = false := y
  obtain ⟨k, h1, h2, hpc⟩ := st_ins hv hw wf.pc
  obtain ⟨q1, q2, q3⟩ := decA_at hv.2.2.2.2.2.1 k h1 h2
  rw [hpc] at q1 q2
  obtain ⟨i1, i2, i3, i4⟩ := ins_ok hv hw wf.pc
  have e : stepS B s = finS (effS B s) := by unfold stepS; simp [ho]
  rw [e, ho] at hk
  obtain ⟨_, _, d3, _, _⟩ := dec_words hw q1
  have hv' : validI (insS B s).op (insS B s).a (insS B s).b (insS B s).c (insS B s).n = true := i1
  have hnp := okin_np hv'
  have hi2 : okJ B (insS B s) s.pc := i2
  obtain ⟨hop, ha, hb, hc, _⟩ := ok_fields hv'
  have hin : inR (insS B s).n := ins_in i1
  have hnx : IntKind.i64.wrap (s.pc + (decR B.w s.pc).2.1) = nxS B s := by
   unfold nxS
   rw [row_wd hop, d3, encW_wlen]
   rfl
  have heff : effS B s = if (insS B s).op = 2 \/ (insS B s).op = 6 \/ (insS B s).op = 5 \/ (insS B s).op = 7 \/ (insS B s).op = 8 then jumpS B s (insS B s) (nxS B s)
    else if (insS B s).op = 3 then (if s.fuel = 0 then (stopS s 3 0 0, nxS B s) else ({ s with fuel := IntKind.i64.wrap (s.fuel - 1) }, nxS B s))
    else if (insS B s).op = 4 then (stopS s 2 (insS B s).n 0, nxS B s)
    else if (insS B s).op = 34 \/ (insS B s).op = 35 then (accS s (insS B s), nxS B s) else (compS s (insS B s), nxS B s) := rfl
  have fin : ∀ (s2 : CS) (nx : Int) (R2 : RL) (h2 : Heap), effS B s = (s2, nx) -> s2.over = false -> RRep B s2 R2 id h2 -> FrmR R.r R2.r h h2 -> hgetS h2 id fun r => needS (Nat.ble 16 r.length) (Q (.bool true) (h2.set id (.cells (r.take 15 ++ [.int .i64 nx] ++ r.drop 16)))) := fun s2 nx R2 h2 e2 o2 r2 f2 =>
   pcR r2 fun h' r f => hk R2 h' (by rw [e2]; unfold finS; rw [if_neg (by simp [o2])]; exact r) (f2.trans f)
  have stp : ∀ (kd cd v : Int), effS B s = (stopS s kd cd v, nxS B s) -> ∃ (B : Bi) (s : CS) (R : RL), RRep B s R id h /\ s.out.length <= 1000000 /\ ∀ (R' : RL) (h' : Heap), RRep B (stopS s kd cd v) R' id h' -> FrmR R.r R'.r h h' -> Q (.bool true) h' := fun kd cd v e2 =>
   ⟨B, s, R, hr, hol, fun R' h' r f => hk R' h' (by rw [e2]; exact r) f⟩
  have ec : ¬ ((insS B s).op = 2 \/ (insS B s).op = 6 \/ (insS B s).op = 5 \/ (insS B s).op = 7 \/ (insS B s).op = 8) -> (insS B s).op ≠ 3 /\ (insS B s).op ≠ 4 -> ¬ ((insS B s).op = 34 \/ (insS B s).op = 35) -> effS B s = (compS s (insS B s), nxS B s) := fun a1 a2 a3 => by
   rw [heff, if_neg a1, if_neg a2.1, if_neg a2.2, if_neg a3]
  have tn : ∀ x : Nat, (x : Int).toNat = x := Int.toNat_natCast
  have hp := List.length_pos_iff.2 wf.fr
  have hw2 : IntKind.i64.wrap ((s.frames.length : Int) - 1) = ((s.frames.length - 1 : Nat) : Int) := by rw [IntWalk.i64_in _ (by omega)]; omega
  have hZ : (rcpuC B s R)[14]? = some (.vslice R.fi R.fe s.frames.length 2 (rfrs R.sl s.frames)) := (rc_z hr.rl 1).trans rfl
  obtain ⟨ti, t1, t2, t3, t4, t5, t6⟩ := rtop_at hr wf.fr
  have gid : ∀ (g : Heap) (y : IObj), (g.set id y).get id = y := fun g y => by rw [get_set, if_pos rfl]
  have hcn := hr.cpur.2
  refine hget_i hr.cpu (ldV_i ((rc_a 0 (by omega)).trans rfl) (hget_i hr.cpu (ldI_i ((rc_z hr.rl 2).trans rfl) ⟨B.w, ⟨rfl, rfl⟩, ⟨hw, by have := hv.1; omega, by omega⟩, hget_i hr.cpu (ldI_i ((rc_z hr.rl 2).trans rfl) (hget_i hr.cpu (ldV_i hZ (hget_i hr.cpu (ldV_i hZ ?_)))))⟩)))
  have hI : (decR B.w s.pc).1 = insS B s := rfl
  rw [hnx]
  simp only [hI, hw2, tn]
  refine needS_intro (by simp <;> omega) ?_
  refine brS_intro (fun z => ?_) (fun z1 => brS_intro (fun z => ?_) (fun z2 => brS_intro (fun z => ?_) (fun z3 => brS_intro (fun z => ?_) (fun z4 => brS_intro (fun z => ?_) (fun z5 => brS_intro (fun z => ?_) (fun z6 => brS_intro (fun z => ?_) (fun z7 => brS_intro (fun z => ?_) (fun z8 => brS_intro (fun z => ?_) (fun z9 => brS_intro (fun z => ?_) (fun z10 => brS_intro (fun z => ?_) (fun z11 => brS_intro (fun z => ?_) (fun z12 => brS_intro (fun z => ?_) (fun z13 => brS_intro (fun z => ?_) (fun z14 => brS_intro (fun z => ?_) (fun z15 => brS_intro (fun z => ?_) (fun z16 => brS_intro (fun z => ?_) (fun z33 => brS_intro (fun z => ?_) (fun z34 => brS_intro (fun z => ?_) (fun z35 => brS_intro (fun z => ?_) (fun z36 => brS_intro (fun z => ?_) (fun z37 => ?_)))))))))))))))))))))
  all_goals simp only [beq_iff_eq, beq_eq_false_iff_ne, ne_eq] at *
  ·exact fin s _ R h (by rw [ec (by omega) (by omega) (by omega)]; congr 1; unfold compS; simp [*]) ho hr (FrmR.refl _ _)
  ·refine hget_i hr.cpu (ldV_i hZ (brS_intro (fun y => ?_) (fun y => ?_)))
   ·rw [beq_iff_eq] at y
    have hl1 : s.frames.length = 1 := by omega
    exact hget_i hr.cpu (ldI_i (rc_reg hr.rl (a := 0) (by omega)) (stp 1 0 (rg s 0) (by rw [heff, if_pos (by omega)]; unfold jumpS; simp [z, hl1])))
   ·rw [beq_eq_false_iff_ne] at y
    have hl1 : ¬ s.frames.length = 1 := by omega
    have e2 : effS B s = ({ s with frames := s.frames.dropLast, regs := [rg s 0, 0, 0, 0, 0, 0, 0, 0] }, (topF s).back) := by rw [heff, if_pos (by omega)]; unfold jumpS; simp [z, hl1]
    refine ldI_i t6 (hget_i hr.cpu (ldV_i hZ (hget_i hr.cpu (ldV_i hZ ?_))))
    simp only [hw2, tn, Nat.sub_zero]
    refine needS_intro (by simp <;> omega) (hget_i hr.cpu (needS_intro (by simp only [Nat.ble_eq, rc_len2, hr.rl]; omega) ?_))
    rw [store_set (by simp only [rc_len2, hr.rl]; omega), rfrs_drop hr.fl wf.fr]
    generalize hfe : R.fe - (s.frames.length - (s.frames.length - 1)) * 2 = fe
    rw [rc_setz hr.rl 1 (.vslice R.fi fe (s.frames.length - 1) 2 (rfrs R.sl.dropLast s.frames.dropLast)) { s with frames := s.frames.dropLast } { R with sl := R.sl.dropLast, fe := fe } rfl (by simp [rZ, rarr])]
    refine hget_i (gid _ _) (ldI_i (rc_reg (s := { s with frames := s.frames.dropLast }) hr.rl (a := 0) (by omega)) (hget_i (gid _ _) (needS_intro (by simp only [Nat.ble_eq, rc_len2, hr.rl]; omega) ?_)))
    have e8 := rc_regs8 (B := B) (s := { s with frames := s.frames.dropLast }) (R := { R with sl := R.sl.dropLast, fe := fe }) hr.rl [rg s 0, 0, 0, 0, 0, 0, 0, 0]
    have e9 := fin _ _ _ _ e2 ho (hr.pop wf.fr [rg s 0, 0, 0, 0, 0, 0, 0, 0] rfl fe) (frmR_set (by rw [hr.cpur.1]; simp))
    rw [<- e8] at e9
    rw [Heap.set_set]
    exact e9
  ·have e3 : effS B s = (if s.fuel = 0 then (stopS s 3 0 0, nxS B s) else ({ s with fuel := IntKind.i64.wrap (s.fuel - 1) }, nxS B s)) := by rw [heff, if_neg (by omega), if_pos z]
   refine hget_i hr.cpu (ldI_i ((rc_z hr.rl 3).trans rfl) (brS_intro (fun y => ?_) (fun y => ?_)))
   ·rw [beq_iff_eq] at y
    rw [if_pos y] at e3
    exact stp 3 0 0 e3
   ·rw [beq_eq_false_iff_ne] at y
    rw [if_neg y] at e3
    refine hget_i hr.cpu (ldI_i ((rc_z hr.rl 3).trans rfl) (hget_i hr.cpu (needS_intro (by simp only [Nat.ble_eq, rc_len2, hr.rl]; omega) ?_)))
    rw [store_set (by simp only [rc_len2, hr.rl]; omega), rc_setz hr.rl 3 (.int .i64 (IntKind.i64.wrap (s.fuel - 1))) { s with fuel := IntKind.i64.wrap (s.fuel - 1) } R rfl rfl]
    exact fin _ _ R _ e3 ho (hr.setc rfl rfl hr.rl) (frmR_set (by rw [hr.cpur.1]; simp))
  ·exact stp 2 _ 0 (by rw [heff, if_neg (by omega), if_neg (by omega), if_pos z])
  ·refine hget_i hr.cpu (ldI_i ((rc_z hr.rl 2).trans rfl) (fin s _ R h (by rw [heff, if_pos (by omega)]; unfold jumpS; simp [z]) ho hr (FrmR.refl _ _)))
  ·obtain ⟨b1, _⟩ := hi2.2.1 z
   have n0 := (hnp.1 z).1
   have he1 : (insS B s).n.toNat < B.e.length := by
    have : (insS B s).n < B.e.length := b1
    omega
   obtain ⟨x1, x2, x3, e1, e2, e3, e4, e5, e6⟩ := hv.2.2.2.2.2.2.2.1 _ he1
   have hsl : B.s.length = B.e.length := hv.2.2.2.1
   have hs1 : (insS B s).n.toNat < B.s.length := by omega
   have hgs : (ints B.s)[(insS B s).n.toNat]? = some (.int .i64 (B.s.getD (insS B s).n.toNat 0)) := by simp [ints, List.getD_eq_getElem?_getD, List.getElem?_eq_getElem hs1]
   have hge : (ints B.e)[(insS B s).n.toNat]? = some (.int .i64 (B.e.getD (insS B s).n.toNat 0)) := by simp [ints, List.getD_eq_getElem?_getD, List.getElem?_eq_getElem he1]
   have hsd : B.s.getD (insS B s).n.toNat 0 = x3 := getD_at e3
   have hb3 : 0 <= B.s.getD (insS B s).n.toNat 0 /\ B.s.getD (insS B s).n.toNat 0 <= 3000 := by rw [hsd]; exact e6
   have e7 : effS B s = ({ s with frames := s.frames ++ [⟨List.replicate (B.s.getD (insS B s).n.toNat 0).toNat 0, nxS B s⟩], regs := clearR s.regs (insS B s).a }, B.e.getD (insS B s).n.toNat 0) := by rw [heff, if_pos (by omega)]; unfold jumpS; simp [z]
   have hd1 : ¬ id = h.next := by omega
   have hd2 : ¬ id = h.next + 1 := by omega
   have g0 : ((h.push .free).push .free).get id = .cells (rcpuC B s R) := by rw [get_push, if_neg (by simp only [next_push]; omega), get_push, if_neg hd1]; exact hr.cpu
   refine hget_i g0 (ldV_i hZ (brS_intro (fun c => by rw [nbeq_t] at c; omega) (fun _ => needS_intro (by rw [Nat.ble_eq]; omega) (fre_i (by rw [get_push, if_neg (by simp only [next_push]; omega), get_push, if_pos rfl]) (hget_i (by rw [get_set, if_neg hd1]; exact g0) (ldV_i ((rc_a 3 (by omega)).trans rfl) (needS_intro (nbf (by omega)) (needS_intro (by simp <;> omega) ?_))))))))
   rw [Nat.mul_one]
   refine ldI_i hgs (needS_intro (by simp only [Bool.and_eq_true, decide_eq_true_eq]; omega) (fre_i (by rw [get_set, if_neg (by omega), get_push, if_pos (by simp only [next_push])]) (tip_i (m := s.frames.length * 2) (by rw [get_set, if_neg (by omega), get_set, if_pos rfl]) (needS_intro (by rw [Bool.and_eq_true, nbeq_t, Nat.ble_eq]; omega) (hget_i (by rw [get_set, if_neg hd1, get_set, if_neg hd2, get_set, if_neg hd1]; exact g0) (needS_intro (by simp only [Nat.ble_eq, rc_len2, hr.rl]; omega) ?_))))))
   rw [store_set (by simp only [rc_len2, hr.rl]; omega), repl_ints,
    rc_setz hr.rl 1 (.vslice (some h.next) (s.frames.length * 2 + 2) (s.frames.length + 1) 2 (rfrs R.sl s.frames ++ ([.hslice (h.next + 1) 0 (B.s.getD (insS B s).n.toNat 0).toNat 1, .int .i64 (nxS B s)] : List IV))) { s with frames := s.frames ++ [⟨List.replicate (B.s.getD (insS B s).n.toNat 0).toNat 0, nxS B s⟩] } { R with sl := R.sl ++ [h.next + 1], fi := some h.next, fe := s.frames.length * 2 + 2, r := updR R.r (h.next + 1) (.sl s.frames.length) } rfl (by simp [rZ, rarr, rfrs_app _ _ hr.fl, rfr1])]
   have hs : ∀ (x y z u : IObj) k, k < h.next -> k ≠ id -> ((((((h.push .free).push .free).set h.next x).set (h.next + 1) y).set h.next z).set id u).get k = h.get k := fun x y z u k hk hn => by
    rw [get_set, if_neg hn, get_set, if_neg (by omega), get_set, if_neg (by omega), get_set, if_neg (by omega), get_push, if_neg (by simp only [next_push]; omega), get_push, if_neg (by omega)]
   obtain ⟨r1, f1⟩ := hr.push (sid := h.next + 1) (fe := s.frames.length * 2 + 2) (fi := some h.next) (sl := List.replicate (B.s.getD (insS B s).n.toNat 0).toNat 0) (nx := nxS B s)
    (h' := (((((h.push .free).push .free).set h.next (.tip (s.frames.length * 2))).set (h.next + 1) (.cells (ints (List.replicate (B.s.getD (insS B s).n.toNat 0).toNat 0)))).set h.next (.tip (s.frames.length * 2 + 2))).set id (.cells (rcpuC B { s with frames := s.frames ++ [⟨List.replicate (B.s.getD (insS B s).n.toNat 0).toNat 0, nxS B s⟩] } { R with sl := R.sl ++ [h.next + 1], fi := some h.next, fe := s.frames.length * 2 + 2, r := updR R.r (h.next + 1) (.sl s.frames.length) })))
    (by rw [get_set, if_pos rfl]) ⟨by rw [get_set, if_neg (fun q => hd2 q.symm), get_set, if_neg (by omega), get_set, if_pos rfl], by omega, by simp only [next_set, next_push]; omega⟩ (fun k hk hn => hs _ _ _ _ k hk hn)
   refine ⟨⟨((insS B s).a.toNat, _), (by first | rfl | trivial), (by first | rfl | trivial), by simp only; rw [Int.toNat_of_nonneg ha.1], (by first | rfl | trivial), rfl, ⟨⟨Nat.le_refl _, by simp only; omega⟩, { R with sl := R.sl ++ [h.next + 1], fi := some h.next, fe := s.frames.length * 2 + 2, r := updR R.r (h.next + 1) (.sl s.frames.length) }, ?_, f1⟩, trivial⟩, fun x _ hx => ?_⟩
   ·rw [clr_init (by rw [hr.rl]; omega)]
    exact r1
   ·obtain ⟨k, hp2⟩ := x
    have hx' : RCall B s R id h k hp2 := hx
    obtain ⟨⟨k1, k2⟩, R2, r2, f2⟩ := hx'
    have hcl := clr_len (k := k) hr.rl ⟨k1, k2⟩
    simp only [tn, Nat.mul_one]
    refine brS_intro (fun y => ?_) (fun y => ?_)
    ·rw [decide_eq_true_eq] at y
     have hk8 : k < 8 := by omega
     refine needS_intro (by simp <;> omega) (hget_i r2.cpu (needS_intro (by simp only [Nat.ble_eq, rc_len2, hcl]; omega) ?_))
     rw [store_set (by simp only [rc_len2, hcl]; omega)]
     have e5 := rc_setreg (B := B) (R := R2) (s := { s with frames := s.frames ++ [⟨List.replicate (B.s.getD (insS B s).n.toNat 0).toNat 0, nxS B s⟩], regs := clr s.regs (insS B s).a.toNat k }) hcl (a := (k : Int)) (by omega) 0
     rw [tn] at e5
     have e6 : setR { s with frames := s.frames ++ [⟨List.replicate (B.s.getD (insS B s).n.toNat 0).toNat 0, nxS B s⟩], regs := clr s.regs (insS B s).a.toNat k } (k : Int) 0 = { s with frames := s.frames ++ [⟨List.replicate (B.s.getD (insS B s).n.toNat 0).toNat 0, nxS B s⟩], regs := clr s.regs (insS B s).a.toNat (k + 1) } := by
      unfold setR
      simp only [tn]
      rw [clr_step hr.rl ⟨k1, hk8⟩]
     rw [e6] at e5
     rw [e5]
     exact ⟨(k + 1, _), (by first | rfl | trivial), (by first | rfl | trivial), (by simp only; rw [IntWalk.i64_in _ (by omega)]; rfl), (by first | rfl | trivial), rfl, ⟨⟨by omega, by omega⟩, R2, r2.setc rfl rfl (clr_len hr.rl ⟨by omega, by omega⟩), f2.trans (frmR_set (by rw [r2.cpur.1]; simp))⟩, by simp only; omega⟩
    ·rw [decide_eq_false_iff_not] at y
     have hk8 : k = 8 := by omega
     subst hk8
     rw [clr_end hr.rl] at r2
     refine hget_i r2.cpu (ldV_i ((rc_a 1 (by omega)).trans rfl) (needS_intro (by simp <;> omega) (ldI_i hge ?_)))
     exact fin _ _ R2 _ e7 ho r2 f2
  ·have e7 : effS B s = if rg s (insS B s).a = 0 then (s, IntKind.i64.wrap (s.pc + (insS B s).n)) else (s, nxS B s) := by rw [heff, if_pos (by omega)]; unfold jumpS; simp [z]
   refine ldRr hr ha (brS_intro (fun y => ?_) (fun y => ?_))
   ·rw [beq_iff_eq] at y
    rw [if_pos y] at e7
    exact hget_i hr.cpu (ldI_i ((rc_z hr.rl 2).trans rfl) (fin s _ R h e7 ho hr (FrmR.refl _ _)))
   ·rw [beq_eq_false_iff_ne] at y
    rw [if_neg y] at e7
    exact fin s _ R h e7 ho hr (FrmR.refl _ _)
  ·have e7 : effS B s = if rg s (insS B s).a = 0 then (s, nxS B s) else (s, IntKind.i64.wrap (s.pc + (insS B s).n)) := by rw [heff, if_pos (by omega)]; unfold jumpS; simp [z]
   refine ldRr hr ha (brS_intro (fun y => ?_) (fun y => ?_))
   ·rw [bne_iff_ne] at y
    rw [if_neg y] at e7
    exact hget_i hr.cpu (ldI_i ((rc_z hr.rl 2).trans rfl) (fin s _ R h e7 ho hr (FrmR.refl _ _)))
   ·rw [bne_eq_false_iff_eq] at y
    rw [if_pos y] at e7
    exact fin s _ R h e7 ho hr (FrmR.refl _ _)
  ·have eo : effS B s = ({ s with out := s.out ++ [rg s (insS B s).a] }, nxS B s) := (by rw [ec (by omega) (by omega) (by omega)]; congr 1; unfold compS; simp [*])
   have hidn : ¬ id = h.next := by omega
   have hc17 : (rcpuC B s R)[17]? = some (rout s.out R.oi R.oe) := (rc_z hr.rl 4).trans rfl
   have hle : 17 < (rcpuC B s R).length := by simp only [rc_len2, hr.rl]; omega
   refine hget_i (by rw [get_push, if_neg hidn]; exact hr.cpu) ?_
   by_cases ho2 : s.out = []
   ·refine ldNV_n (by rw [hc17]; simp [rout, ho2]) (needS_intro (by simp; omega) (hget_i (by rw [get_push, if_neg hidn]; exact hr.cpu) ?_))
    rw [Nat.mul_one]
    refine ldI_i (rc_reg hr.rl ha) (hget_i (by rw [get_push, if_neg (by simp only [next_push]; omega), get_push, if_neg hidn]; exact hr.cpu) (needS_intro (by simp only [Nat.ble_eq, rc_len2, hr.rl]; omega) ?_))
    rw [store_set hle, rc_setz hr.rl 4 (.vslice (some (h.next + 1)) 1 1 1 [.int .i64 (rg s (insS B s).a)]) { s with out := s.out ++ [rg s (insS B s).a] } { R with oi := h.next + 1, oe := 1 } rfl (by simp [rZ, rarr, rout, ho, ho2, ints])]
    have hs : ∀ (x : IObj) k, k < h.next -> k ≠ id -> ((((h.push .free).push (.tip 1)).set id x).get k = h.get k) := fun x k hk hn => by
     rw [get_set, if_neg hn, get_push, if_neg (by simp only [next_push]; omega), get_push, if_neg (by omega)]
    exact fin _ _ { R with oi := h.next + 1, oe := 1 } _ eo ho (hr.upd (by rw [get_set, if_pos rfl]) (by simp only [next_set, next_push]; omega) (fun _ _ => rfl) (fun k hk hn => hs _ k hk hn) rfl rfl hr.rl rfl rfl) (frmR_of (by rw [hr.cpur.1]; simp) (by simp only [next_set, next_push]; omega) (fun k hk hn => hs _ k hk hn))
   ·have hpo := List.length_pos_iff.2 ho2
    refine ldNV_i (i := R.oi) (e := R.oe) (l := s.out.length) (c := ints s.out) (by rw [hc17]; simp only [rout, if_neg ho2]) (brS_intro (fun c => by rw [nbeq_t] at c; omega) (fun _ => needS_intro (by rw [Nat.ble_eq]; omega) (fre_i (by rw [get_push, if_pos rfl]) (needS_intro (by simp; omega) (hget_i (by rw [get_set, if_neg hidn, get_push, if_neg hidn]; exact hr.cpu) ?_)))))
    rw [Nat.mul_one]
    refine ldI_i (rc_reg hr.rl ha) (needS_intro (nbf (by omega)) (tip_i (m := s.out.length * 1) (by rw [get_set, if_pos rfl]) (needS_intro (by rw [Bool.and_eq_true, nbeq_t, Nat.ble_eq]; omega) (hget_i (by rw [get_set, if_neg hidn, get_set, if_neg hidn, get_push, if_neg hidn]; exact hr.cpu) (needS_intro (by simp only [Nat.ble_eq, rc_len2, hr.rl]; omega) ?_)))))
    rw [store_set hle, rc_setz hr.rl 4 (.vslice (some h.next) (s.out.length * 1 + 1) (s.out.length + 1) 1 (ints s.out ++ ([.int .i64 (rg s (insS B s).a)] : List IV))) { s with out := s.out ++ [rg s (insS B s).a] } { R with oi := h.next, oe := s.out.length * 1 + 1 } rfl (by simp [rZ, rarr, rout, ho, ints])]
    have hs : ∀ (x y z : IObj) k, k < h.next -> k ≠ id -> (((((h.push .free).set h.next x).set h.next y).set id z).get k = h.get k) := fun x y z k hk hn => by
     rw [get_set, if_neg hn, get_set, if_neg (by omega), get_set, if_neg (by omega), get_push, if_neg (by omega)]
    exact fin _ _ { R with oi := h.next, oe := s.out.length * 1 + 1 } _ eo ho (hr.upd (by rw [get_set, if_pos rfl]) (by simp only [next_set, next_push]; omega) (fun _ _ => rfl) (fun k hk hn => hs _ _ _ k hk hn) rfl rfl hr.rl rfl rfl) (frmR_of (by rw [hr.cpur.1]; simp) (by simp only [next_set, next_push]; omega) (fun k hk hn => hs _ _ _ k hk hn))
  ·refine ldRr hr hb ?_
   refine needS_intro (by simp; omega) (hget_i hr.cpu (needS_intro (by simp only [Nat.ble_eq, rc_len2, hr.rl]; omega) ?_))
   rw [Nat.mul_one, store_set (by simp only [rc_len2, hr.rl]; omega), rc_setreg hr.rl ha]
   exact fin (setR s _ (rg s (insS B s).b)) _ R _ (by rw [ec (by omega) (by omega) (by omega)]; congr 1; unfold compS; simp [*]) ho (hr.setc rfl rfl (by simp [setR, hr.rl])) (frmR_set (by rw [hr.cpur.1]; simp))
  ·refine ldRr hr hc (brS_intro (fun y => ?_) (fun y => ?_))
   ·rw [beq_iff_eq] at y
    refine ldRr hr hb ?_
    refine needS_intro (by simp; omega) (hget_i hr.cpu (needS_intro (by simp only [Nat.ble_eq, rc_len2, hr.rl]; omega) ?_))
    rw [Nat.mul_one, store_set (by simp only [rc_len2, hr.rl]; omega), rc_setreg hr.rl ha]
    exact fin (setR s _ (rg s (insS B s).b)) _ R _ (by rw [ec (by omega) (by omega) (by omega)]; congr 1; unfold compS; simp [*]) ho (hr.setc rfl rfl (by simp [setR, hr.rl])) (frmR_set (by rw [hr.cpur.1]; simp))
   ·rw [beq_eq_false_iff_ne] at y
    exact fin s _ R h (by rw [ec (by omega) (by omega) (by omega)]; congr 1; unfold compS; simp [*]) ho hr (FrmR.refl _ _)
  ·refine ldRr hr hc (brS_intro (fun y => ?_) (fun y => ?_))
   ·rw [bne_iff_ne] at y
    refine ldRr hr hb ?_
    refine needS_intro (by simp; omega) (hget_i hr.cpu (needS_intro (by simp only [Nat.ble_eq, rc_len2, hr.rl]; omega) ?_))
    rw [Nat.mul_one, store_set (by simp only [rc_len2, hr.rl]; omega), rc_setreg hr.rl ha]
    exact fin (setR s _ (rg s (insS B s).b)) _ R _ (by rw [ec (by omega) (by omega) (by omega)]; congr 1; unfold compS; simp [*]) ho (hr.setc rfl rfl (by simp [setR, hr.rl])) (frmR_set (by rw [hr.cpur.1]; simp))
   ·rw [bne_eq_false_iff_eq] at y
    exact fin s _ R h (by rw [ec (by omega) (by omega) (by omega)]; congr 1; unfold compS; simp [*]) ho hr (FrmR.refl _ _)
  ·refine needS_intro (by simp; omega) (hget_i hr.cpu (needS_intro (by simp only [Nat.ble_eq, rc_len2, hr.rl]; omega) ?_))
   rw [Nat.mul_one, store_set (by simp only [rc_len2, hr.rl]; omega), rc_setreg hr.rl ha]
   exact fin (setR s _ (insS B s).n) _ R _ (by rw [ec (by omega) (by omega) (by omega)]; congr 1; unfold compS; simp [*]) ho (hr.setc rfl rfl (by simp [setR, hr.rl])) (frmR_set (by rw [hr.cpur.1]; simp))
  ·refine needS_intro (by simp; omega) (hget_i hr.cpu (needS_intro (by simp only [Nat.ble_eq, rc_len2, hr.rl]; omega) ?_))
   rw [Nat.mul_one, store_set (by simp only [rc_len2, hr.rl]; omega), rc_setreg hr.rl ha]
   exact fin (setR s _ (insS B s).n) _ R _ (by rw [ec (by omega) (by omega) (by omega)]; congr 1; unfold compS; simp [*]) ho (hr.setc rfl rfl (by simp [setR, hr.rl])) (frmR_set (by rw [hr.cpur.1]; simp))
  ·refine ldRr hr ha ⟨.inl z, ?_⟩
   refine needS_intro (by simp; omega) (hget_i hr.cpu (needS_intro (by simp only [Nat.ble_eq, rc_len2, hr.rl]; omega) ?_))
   rw [Nat.mul_one, store_set (by simp only [rc_len2, hr.rl]; omega), rc_setreg hr.rl ha]
   rw [z]
   exact fin (setR s _ (wun 20 (rg s (insS B s).a))) _ R _ (by rw [ec (by omega) (by omega) (by omega)]; congr 1; unfold compS; simp [*]) ho (hr.setc rfl rfl (by simp [setR, hr.rl])) (frmR_set (by rw [hr.cpur.1]; simp))
  ·refine ldRr hr ha ⟨.inr z, ?_⟩
   refine needS_intro (by simp; omega) (hget_i hr.cpu (needS_intro (by simp only [Nat.ble_eq, rc_len2, hr.rl]; omega) ?_))
   rw [Nat.mul_one, store_set (by simp only [rc_len2, hr.rl]; omega), rc_setreg hr.rl ha]
   rw [z]
   exact fin (setR s _ (wun 21 (rg s (insS B s).a))) _ R _ (by rw [ec (by omega) (by omega) (by omega)]; congr 1; unfold compS; simp [*]) ho (hr.setc rfl rfl (by simp [setR, hr.rl])) (frmR_set (by rw [hr.cpur.1]; simp))
  ·refine ldRr hr ha ?_
   refine needS_intro (by simp; omega) (hget_i hr.cpu (needS_intro (by simp only [Nat.ble_eq, rc_len2, hr.rl]; omega) ?_))
   rw [Nat.mul_one, store_set (by simp only [rc_len2, hr.rl]; omega), rc_setreg hr.rl ha]
   exact fin (setR s _ (IntKind.i64.wrap (rg s (insS B s).a + (insS B s).n))) _ R _ (by rw [ec (by omega) (by omega) (by omega)]; congr 1; unfold compS; simp [*]) ho (hr.setc rfl rfl (by simp [setR, hr.rl])) (frmR_set (by rw [hr.cpur.1]; simp))
  ·have hj : (insS B s).n < B.a.length := hi2.2.2 (by omega)
   have n0 := hnp.2.1 (by omega)
   have hne : B.a ≠ [] := fun q => by rw [q] at hj; simp at hj; omega
   obtain ⟨j, row, e1, e2, e3, e4, e5, e6⟩ := rarr_at hr (j := (insS B s).n.toNat) (by omega)
   have hgd : s.cells.getD (insS B s).n.toNat [] = row := by rw [List.getD_eq_getElem?_getD, e2]; rfl
   have ea : effS B s = (accS s (insS B s), nxS B s) := by rw [heff, if_neg (by omega), if_neg (by omega), if_neg (by omega), if_pos (by omega)]
   refine hget_i hr.cpu (ldV_i (rc_arr hr.rl hne) (needS_intro (by simp; omega) ?_))
   rw [Nat.mul_one]
   refine ldNH_i e3 (ldRr hr hb (brS_intro (fun y => ?_) (fun y1 => brS_intro (fun y => ?_) (fun y2 => ?_))))
   ·rw [decide_eq_true_eq] at y
    exact stp 2 2 0 (by rw [ea]; unfold accS; simp only [hgd]; rw [if_neg (by omega)])
   ·rw [decide_eq_true_eq] at y
    exact stp 2 2 0 (by rw [ea]; unfold accS; simp only [hgd]; rw [if_neg (by omega)])
   ·rw [decide_eq_false_iff_not] at y1 y2
    have hx : 0 <= rg s (insS B s).b /\ rg s (insS B s).b < (row.length : Int) := by omega
    have hlt : (rg s (insS B s).b).toNat < row.length := by omega
    refine brS_intro (fun q => ?_) (fun q => ?_)
    ·rw [beq_iff_eq] at q
     refine needS_intro (by simp; omega) (hget_i e4 ?_)
     rw [Nat.mul_one, Nat.zero_add]
     refine ldI_i (n := row.getD (rg s (insS B s).b).toNat 0) (by simp [ints, List.getD_eq_getElem?_getD, List.getElem?_eq_getElem hlt]) ?_
     refine needS_intro (by simp; omega) (hget_i hr.cpu (needS_intro (by simp only [Nat.ble_eq, rc_len2, hr.rl]; omega) ?_))
     rw [Nat.mul_one, store_set (by simp only [rc_len2, hr.rl]; omega), rc_setreg hr.rl ha]
     exact fin (setR s _ (row.getD (rg s (insS B s).b).toNat 0)) _ R _ (by rw [ea]; congr 1; unfold accS; simp only [hgd, if_pos hx, q, if_true]) ho (hr.setc rfl rfl (by simp [setR, hr.rl])) (frmR_set (by rw [hr.cpur.1]; simp))
    ·rw [beq_eq_false_iff_ne] at q
     refine ldRr hr ha (needS_intro (by simp; omega) (hget_i e4 (needS_intro (by rw [Nat.ble_eq, ints_len]; omega) ?_)))
     rw [Nat.mul_one, Nat.zero_add, store_set (by rw [ints_len]; exact hlt)]
     have e7 : (ints row).set (rg s (insS B s).b).toNat (.int .i64 (rg s (insS B s).a)) = ints (row.set (rg s (insS B s).b).toNat (rg s (insS B s).a)) := by simp [ints, List.map_set]
     rw [e7]
     obtain ⟨r2, f2⟩ := hr.seta (row' := row.set (rg s (insS B s).b).toNat (rg s (insS B s).a)) e1 e2 (by simp)
     exact fin { s with cells := s.cells.set (insS B s).n.toNat (row.set (rg s (insS B s).b).toNat (rg s (insS B s).a)) } _ R _ (by rw [ea]; congr 1; unfold accS; simp only [hgd, if_pos hx, if_neg q]) ho r2 f2
  ·have hj : (insS B s).n < B.a.length := hi2.2.2 (by omega)
   have n0 := hnp.2.1 (by omega)
   have hne : B.a ≠ [] := fun q => by rw [q] at hj; simp at hj; omega
   obtain ⟨j, row, e1, e2, e3, e4, e5, e6⟩ := rarr_at hr (j := (insS B s).n.toNat) (by omega)
   have hgd : s.cells.getD (insS B s).n.toNat [] = row := by rw [List.getD_eq_getElem?_getD, e2]; rfl
   have ea : effS B s = (accS s (insS B s), nxS B s) := by rw [heff, if_neg (by omega), if_neg (by omega), if_neg (by omega), if_pos (by omega)]
   refine hget_i hr.cpu (ldV_i (rc_arr hr.rl hne) (needS_intro (by simp; omega) ?_))
   rw [Nat.mul_one]
   refine ldNH_i e3 (ldRr hr hb (brS_intro (fun y => ?_) (fun y1 => brS_intro (fun y => ?_) (fun y2 => ?_))))
   ·rw [decide_eq_true_eq] at y
    exact stp 2 2 0 (by rw [ea]; unfold accS; simp only [hgd]; rw [if_neg (by omega)])
   ·rw [decide_eq_true_eq] at y
    exact stp 2 2 0 (by rw [ea]; unfold accS; simp only [hgd]; rw [if_neg (by omega)])
   ·rw [decide_eq_false_iff_not] at y1 y2
    have hx : 0 <= rg s (insS B s).b /\ rg s (insS B s).b < (row.length : Int) := by omega
    have hlt : (rg s (insS B s).b).toNat < row.length := by omega
    refine brS_intro (fun q => ?_) (fun q => ?_)
    ·rw [beq_iff_eq] at q
     refine needS_intro (by simp; omega) (hget_i e4 ?_)
     rw [Nat.mul_one, Nat.zero_add]
     refine ldI_i (n := row.getD (rg s (insS B s).b).toNat 0) (by simp [ints, List.getD_eq_getElem?_getD, List.getElem?_eq_getElem hlt]) ?_
     refine needS_intro (by simp; omega) (hget_i hr.cpu (needS_intro (by simp only [Nat.ble_eq, rc_len2, hr.rl]; omega) ?_))
     rw [Nat.mul_one, store_set (by simp only [rc_len2, hr.rl]; omega), rc_setreg hr.rl ha]
     exact fin (setR s _ (row.getD (rg s (insS B s).b).toNat 0)) _ R _ (by rw [ea]; congr 1; unfold accS; simp only [hgd, if_pos hx, q, if_true]) ho (hr.setc rfl rfl (by simp [setR, hr.rl])) (frmR_set (by rw [hr.cpur.1]; simp))
    ·rw [beq_eq_false_iff_ne] at q
     refine ldRr hr ha (needS_intro (by simp; omega) (hget_i e4 (needS_intro (by rw [Nat.ble_eq, ints_len]; omega) ?_)))
     rw [Nat.mul_one, Nat.zero_add, store_set (by rw [ints_len]; exact hlt)]
     have e7 : (ints row).set (rg s (insS B s).b).toNat (.int .i64 (rg s (insS B s).a)) = ints (row.set (rg s (insS B s).b).toNat (rg s (insS B s).a)) := by simp [ints, List.map_set]
     rw [e7]
     obtain ⟨r2, f2⟩ := hr.seta (row' := row.set (rg s (insS B s).b).toNat (rg s (insS B s).a)) e1 e2 (by simp)
     exact fin { s with cells := s.cells.set (insS B s).n.toNat (row.set (rg s (insS B s).b).toNat (rg s (insS B s).a)) } _ R _ (by rw [ea]; congr 1; unfold accS; simp only [hgd, if_pos hx, if_neg q]) ho r2 f2
  ·refine needS_intro (by simp; omega) (hget_i hr.cpu (needS_intro (by simp only [Nat.ble_eq, rc_len2, hr.rl]; omega) ?_))
   rw [Nat.mul_one, store_set (by simp only [rc_len2, hr.rl]; omega), rc_setreg hr.rl ha]
   have n0 := hnp.2.2 (.inl z)
   have hr1 : RRep B (setR s (insS B s).a 0) R id (h.set id (.cells (rcpuC B (setR s (insS B s).a 0) R))) := (hr.setc rfl rfl (by simp [setR, hr.rl]))
   have hne : ti ≠ id := fun q => by rw [q, hr.cpur.1] at t3; cases t3
   refine ldNH_i t5 (brS_intro (fun y => ?_) (fun y => ?_))
   ·rw [decide_eq_true_eq] at y
    refine ldNH_i t5 (needS_intro (by simp; omega) (hget_i (by rw [get_set, if_neg hne]; exact t2) ?_))
    rw [Nat.mul_one, Nat.zero_add]
    refine ldI_i (n := getF (topF s) (insS B s).n) ?_ ?_
    ·have hlt : (insS B s).n.toNat < (topF s).sl.length := by omega
     simp [ints, getF, List.getD_eq_getElem?_getD, List.getElem?_eq_getElem hlt]
    refine needS_intro (by simp; omega) (hget_i hr1.cpu (needS_intro (by simp only [Nat.ble_eq, rc_len2, hr1.rl]; omega) ?_))
    rw [store_set (by simp only [rc_len2, hr1.rl]; omega), rc_setreg hr1.rl ha, Heap.set_set]
    have ess : setR (setR s (insS B s).a 0) (insS B s).a (getF (topF s) (insS B s).n) = setR s (insS B s).a (getF (topF s) (insS B s).n) := by
     unfold setR
     simp
    rw [ess]
    exact fin (setR s _ (getF (topF s) (insS B s).n)) _ R _ (by rw [ec (by omega) (by omega) (by omega)]; congr 1; unfold compS; simp [*]) ho (hr.setc rfl rfl (by simp [setR, hr.rl])) (frmR_set (by rw [hr.cpur.1]; simp))
   ·rw [decide_eq_false_iff_not] at y
    have eg : getF (topF s) (insS B s).n = 0 := by
     unfold getF
     rw [List.getD_eq_getElem?_getD, List.getElem?_eq_none (by omega)]
     rfl
    exact fin (setR s _ 0) _ R _ (by rw [ec (by omega) (by omega) (by omega)]; congr 1; unfold compS; simp [*]) ho (hr.setc rfl rfl (by simp [setR, hr.rl])) (frmR_set (by rw [hr.cpur.1]; simp))
  ·have n0 := hnp.2.2 (.inr z)
   refine ldNH_i t5 (brS_intro (fun y => ?_) (fun y => ?_))
   ·rw [decide_eq_true_eq] at y
    refine ldNH_i t5 (ldRr hr ha (needS_intro (by simp; omega) (hget_i t2 (needS_intro (by rw [Nat.ble_eq, ints_len]; omega) ?_))))
    rw [Nat.mul_one, Nat.zero_add, store_set (by rw [ints_len]; omega)]
    have e7 : (ints (topF s).sl).set (insS B s).n.toNat (.int .i64 (rg s (insS B s).a)) = ints (setF (topF s) (insS B s).n (rg s (insS B s).a)).sl := by simp [ints, setF, List.map_set]
    rw [e7]
    obtain ⟨r2, f2⟩ := hr.sets (n := (insS B s).n) (x := rg s (insS B s).a) wf.fr t1
    exact fin (setTop s (setF (topF s) (insS B s).n (rg s (insS B s).a))) _ R _ (by rw [ec (by omega) (by omega) (by omega)]; congr 1; unfold compS; simp [*]) ho r2 f2
   ·rw [decide_eq_false_iff_not] at y
    have eg : setF (topF s) (insS B s).n (rg s (insS B s).a) = topF s := by
     unfold setF
     rw [List.set_eq_of_length_le (by omega)]
    exact fin s _ R h (by rw [ec (by omega) (by omega) (by omega)]; congr 1; unfold compS; simp [*, setTop_top wf.fr]) ho hr (FrmR.refl _ _)
  ·have hbin : ¬ (((insS B s).op = 20 \/ (insS B s).op = 21) /\ rg s (insS B s).b = 0) -> effS B s = (setR s (insS B s).a (wbin ((insS B s).op - 13) (rg s (insS B s).a) (rg s (insS B s).b)), nxS B s) := fun y => by
    have hwr : IntKind.i64.wrap (IntKind.i64.wrap ((insS B s).op - 17) + 4) = (insS B s).op - 13 := by
     rw [IntWalk.i64_in ((insS B s).op - 17) (by omega), IntWalk.i64_in _ (by omega)]
     omega
    rw [ec (by omega) (by omega) (by omega)]
    congr 1
    unfold compS
    simp only [z1, z9, z10, z11, z12, z13, z14, z15, z16, z33, z36, z37, if_false, or_self, if_neg y, hwr]
   have hstp : ((insS B s).op = 20 \/ (insS B s).op = 21) -> rg s (insS B s).b = 0 -> effS B s = (stopS s 2 1 0, nxS B s) := fun y y2 => by
    rw [ec (by omega) (by omega) (by omega)]
    congr 1
    unfold compS
    simp only [z1, z9, z10, z11, z12, z13, z14, z15, z16, z33, z36, z37, if_false, or_self, if_pos (And.intro y y2)]
   have hbf : 17 <= (insS B s).op /\ (insS B s).op <= 32 := by omega
   refine brS_intro (fun z => ?_) (fun y1 => brS_intro (fun z => ?_) (fun y2 => ?_))
   ·rw [beq_iff_eq] at z
    refine ldRr hr hb (brS_intro (fun y => ?_) (fun y => ?_))
    ·rw [beq_iff_eq] at y
     exact stp 2 1 0 (hstp (.inl z) y)
    ·rw [beq_eq_false_iff_ne] at y
     refine ldRr hr ha (ldRr hr hb ⟨⟨hbf, hg.rg _, hg.rg _⟩, ?_⟩)
     refine needS_intro (by simp; omega) (hget_i hr.cpu (needS_intro (by simp only [Nat.ble_eq, rc_len2, hr.rl]; omega) ?_))
     rw [Nat.mul_one, store_set (by simp only [rc_len2, hr.rl]; omega), rc_setreg hr.rl ha]
     exact fin _ _ R _ (hbin (fun q => y q.2)) ho (hr.setc rfl rfl (by simp [setR, hr.rl])) (frmR_set (by rw [hr.cpur.1]; simp))
   ·rw [beq_iff_eq] at z
    refine ldRr hr hb (brS_intro (fun y => ?_) (fun y => ?_))
    ·rw [beq_iff_eq] at y
     exact stp 2 1 0 (hstp (.inr z) y)
    ·rw [beq_eq_false_iff_ne] at y
     refine ldRr hr ha (ldRr hr hb ⟨⟨hbf, hg.rg _, hg.rg _⟩, ?_⟩)
     refine needS_intro (by simp; omega) (hget_i hr.cpu (needS_intro (by simp only [Nat.ble_eq, rc_len2, hr.rl]; omega) ?_))
     rw [Nat.mul_one, store_set (by simp only [rc_len2, hr.rl]; omega), rc_setreg hr.rl ha]
     exact fin _ _ R _ (hbin (fun q => y q.2)) ho (hr.setc rfl rfl (by simp [setR, hr.rl])) (frmR_set (by rw [hr.cpur.1]; simp))
   ·rw [beq_eq_false_iff_ne] at y1 y2
    refine ldRr hr ha (ldRr hr hb ⟨⟨hbf, hg.rg _, hg.rg _⟩, ?_⟩)
    refine needS_intro (by simp; omega) (hget_i hr.cpu (needS_intro (by simp only [Nat.ble_eq, rc_len2, hr.rl]; omega) ?_))
    rw [Nat.mul_one, store_set (by simp only [rc_len2, hr.rl]; omega), rc_setreg hr.rl ha]
    exact fin _ _ R _ (hbin (fun q => q.1.elim y1 y2)) ho (hr.setc rfl rfl (by simp [setR, hr.rl])) (frmR_set (by rw [hr.cpur.1]; simp))
 ·exact hk.elim
def cRStep := addC 34 kRStep cRStop
theorem okRStep : Sound env cRStep := sound_add sRStep (okRStop)
end Go.Proofs.YtlenjfbmpekabaaDoor
end
section
set_option linter.unusedVariables false
set_option linter.unusedSimpArgs false
namespace Go.Proofs.YtlenjfbmpekabaaDoor
open Go.Pv Go.M29 Go.M30 Go.M31 Go.M13
def rpA (w e p s a args : List Int) (f fuel : Int) (h : Heap) : Inv' := atX (Nat × Heap) (fun x => [(2, .v (.vslice none 0 (args).length 1 ((args).map (IV.int .i64)))), (4, .l 4 0), (10, .v (.ptr (h.next + 1) 0)), (11, .v (.int .i64 x.1))]) (fun _ => [(4, [.vslice none 0 (w).length 1 ((w).map (IV.int .u32)), .vslice none 0 (e).length 1 ((e).map (IV.int .i64)), .vslice none 0 (p).length 1 ((p).map (IV.int .i64)), .vslice none 0 (s).length 1 ((s).map (IV.int .i64)), .vslice none 0 (a).length 1 ((a).map (IV.int .i64))])]) (fun x => x.2) (fun x => newErr ⟨w, e, p, s, a⟩ f args fuel = 0 /\ RN1 ⟨w, e, p, s, a⟩ f fuel args h x.1 x.2) (fun x => args.length - x.1)
def rpB (w e p s a args : List Int) (f fuel : Int) (h : Heap) : Inv' := atX (Nat × Heap) (fun x => [(4, .l 4 0), (10, .v (.ptr (h.next + 1) 0)), (12, .v (.int .i64 x.1))]) (fun _ => [(4, [.vslice none 0 (w).length 1 ((w).map (IV.int .u32)), .vslice none 0 (e).length 1 ((e).map (IV.int .i64)), .vslice none 0 (p).length 1 ((p).map (IV.int .i64)), .vslice none 0 (s).length 1 ((s).map (IV.int .i64)), .vslice none 0 (a).length 1 ((a).map (IV.int .i64))])]) (fun x => x.2) (fun x => newErr ⟨w, e, p, s, a⟩ f args fuel = 0 /\ RN2 ⟨w, e, p, s, a⟩ f fuel args h x.1 x.2) (fun x => a.length - x.1)
def kRNew (xs : List IV) (h : Heap) (K : IV -> Heap -> Prop) : Prop := match xs with
 | [.agg [.vslice none e1 n1 1 c1, .vslice none e2 n2 1 c2, .vslice none e3 n3 1 c3, .vslice none e4 n4 1 c4, .vslice none e5 n5 1 c5], .int .i64 f, .vslice none e6 n6 1 c6, .int .i64 fuel] => ∃ w e p s a args : List Int, (n1 = w.length /\ c1 = w.map (IV.int .u32)) /\ (n2 = e.length /\ c2 = e.map (IV.int .i64)) /\ (n3 = p.length /\ c3 = p.map (IV.int .i64)) /\ (n4 = s.length /\ c4 = s.map (IV.int .i64)) /\ (n5 = a.length /\ c5 = a.map (IV.int .i64)) /\ (n6 = args.length /\ c6 = args.map (IV.int .i64)) /\ ((∀ x ∈ w, u32b x) /\ w.length <= 1000000) /\ (e1 = 0 /\ e2 = 0 /\ e3 = 0 /\ e4 = 0 /\ e5 = 0 /\ e6 = 0) /\ (newErr ⟨w, e, p, s, a⟩ f args fuel ≠ 0 -> K (.tuple [.nilptr, .int .i64 (newErr ⟨w, e, p, s, a⟩ f args fuel)]) h) /\ (newErr ⟨w, e, p, s, a⟩ f args fuel = 0 -> ∀ (h' : Heap), RRep ⟨w, e, p, s, a⟩ (initS ⟨w, e, p, s, a⟩ f args fuel) (newRL ⟨w, e, p, s, a⟩ h.next) (h.next + 1) h' -> (∀ k, k < h.next -> h'.get k = h.get k) -> h.next + 2 <= h'.next -> K (.tuple [.ptr (h.next + 1) 0, .int .i64 0]) h')
 | _ => False
noncomputable def z20b  := IV.int .i64
noncomputable def z20a (w e p s a : List Int) := [IV.vslice none 0 w.length 1 (List.map (IV.int .u32) w), IV.vslice none 0 e.length 1 (List.map z20b e), IV.vslice none 0 p.length 1 (List.map z20b p), IV.vslice none 0 s.length 1 (List.map z20b s), IV.vslice none 0 a.length 1 (List.map z20b a)]
noncomputable def z20f (h : Heap) := Heap.next h + 1
noncomputable def z20c (h : Heap) := TV.v (.ptr (z20f h) 0)
noncomputable def z20d  := TV.l 4 0
noncomputable def z20e  := [IV.int .i64 0]
noncomputable def z20g (args : List Int) := TV.v (.vslice none 0 args.length 1 (List.map z20b args))
noncomputable def z20h (x_1 : Nat × Heap) := TV.v (.int .i64 (↑x_1.1 : Int))
noncomputable def z20i (n12 : Int) := IObj.cells (repl n12.toNat z20e)
set_option maxRecDepth 100000 in
theorem vRNew (w e p s a args : List Int) (e1 e2 e3 e4 e5 e6 : Nat) (f fuel : Int) (h : Heap) (Q : IV -> Heap -> Prop) : dF (stdS cRStep) env 20 noU (icA 12 (rpA w e p s a args f fuel h) (ic1 16 (rpB w e p s a args f fuel h))) noI [.agg [.vslice none e1 (w).length 1 ((w).map (IV.int .u32)), .vslice none e2 (e).length 1 ((e).map (IV.int .i64)), .vslice none e3 (p).length 1 ((p).map (IV.int .i64)), .vslice none e4 (s).length 1 ((s).map (IV.int .i64)), .vslice none e5 (a).length 1 ((a).map (IV.int .i64))], .int .i64 f, .vslice none e6 (args).length 1 ((args).map (IV.int .i64)), .int .i64 fuel] h Q = (
 ∃ (w_1 e_1 : List Int), ∃ (p_1 s_1 a_1 : List Int), (w.length = w_1.length /\ List.map (IV.int .u32) w = List.map (IV.int .u32) w_1) /\ (e.length = e_1.length /\ List.map z20b e = List.map z20b e_1) /\ (p.length = List.length
 p_1 /\ List.map z20b p = List.map z20b p_1) /\ (s.length = s_1.length /\ List.map z20b s = List.map z20b s_1) /\ (a.length = a_1.length /\ List.map z20b a = List.map z20b a_1) /\ ((∀ (x : Int), x ∈ w_1 -> u32b x) /\ w_1.length <= 1000000) /\ ∀ (r : Bool), (r = true ↔ VB (Bi.mk
 w_1 e_1 p_1 s_1 a_1)) -> brS (!r) (Q (.tuple [.nilptr, IV.int .i64 204]) h) (brS (decide (f < 0)) (Q (.tuple [.nilptr, IV.int .i64 3]) h) (brS (decide (f >= (↑e.length : Int))) (Q (.tuple [.nilptr, IV.int .i64 3]) h) (needS (decide
 (0 <= f) && decide (f < (↑p.length : Int))) (ldIS .i64 (List.map z20b p) (f.toNat * 1) fun n0 => brS ((↑args.length : Int) != n0) (Q (.tuple [.nilptr, IV.int .i64 5]) h) (brS (decide (fuel < 0)) (Q (.tuple [.nilptr, IV.int
 .i64 (6 : Int)]) h) (brS (decide (fuel > 1000)) (Q (.tuple [.nilptr, IV.int .i64 6]) h) (needS (decide (0 <= f) && decide (f < (↑e.length : Int))) (ldIS .i64 (List.map z20b e) (f.toNat * 1) fun n1 => needS (decide ((0 : Int) <=
 f) && decide (f < (↑s.length : Int))) (ldIS .i64 (List.map z20b s) (f.toNat * 1) fun n2 => needS (decide (0 <= n2) && (decide (n2 <= n2) && (decide (n2 <= 9223372036854775807) && decide ((8 : Int) * n2 <= 140737488355328)))) ((∃ (x : Nat × Heap),
 some (TV.v (.vslice none e6 args.length 1 (List.map z20b args))) = some (z20g args) /\ some z20d = some z20d /\ some (z20c h) = some (z20c h) /\ some (TV.v (.int .i64 0)) = some (TV.v (.int .i64 (↑x.1 : Int))) /\ some [IV.vslice none e1 w.length
 1 (List.map (IV.int .u32) w), IV.vslice none e2 e.length 1 (List.map z20b e), IV.vslice none e3 p.length 1 (List.map z20b p), IV.vslice none e4 s.length 1 (List.map z20b s), IV.vslice none e5 a.length 1 (List.map z20b a)] = some
 (z20a w e p s a) /\ Heap.push (Heap.push h (IObj.cells (repl n2.toNat z20e))) (IObj.cells [IV.vslice none e1 w.length 1 (List.map (IV.int .u32) w), IV.vslice none e2 e.length 1 (List.map z20b e), IV.vslice none e3 p.length 1 (List.map z20b p),
 IV.vslice none e4 s.length 1 (List.map z20b s), IV.vslice none e5 a.length 1 (List.map z20b a), IV.int .i64 0, IV.int .i64 0, IV.int .i64 0, IV.int .i64 0, IV.int .i64 0, IV.int .i64 0,
 IV.int .i64 0, IV.int .i64 0, IV.nilslice, IV.vslice none 1 1 2 [IV.hslice (Heap.next h) 0 n2.toNat 1, IV.int .i64 0], IV.int .i64 n1, IV.int .i64 fuel, IV.nilslice, IV.bool false, IV.int .i64
 (0 : Int), IV.int .i64 0, IV.nilslice, IV.int .i64 0]) = x.2 /\ (newErr (Bi.mk w e p s a) f args fuel = 0 /\ RN1 (Bi.mk w e p s a) f fuel args h x.1 x.2) /\ True) /\ ∀ (x : Nat × Heap) (b : FF), newErr (Bi.mk w e p s a) f args fuel = 0
 /\ RN1 (Bi.mk w e p s a) f fuel args h x.1 x.2 -> brS (decide ((↑x.1 : Int) < (↑args.length : Int))) (needS (decide (0 <= (↑x.1 : Int)) && decide ((↑x.1 : Int) < (↑args.length : Int))) (ldIS .i64 (List.map z20b args) (Int.toNat (↑(Prod.fst
 x) : Int) * 1) fun n3 => needS (decide (0 <= (↑x.1 : Int)) && decide ((↑x.1 : Int) < 8)) (hgetS x.2 (z20f h) fun r4 => needS (Nat.ble ((5 : Nat) + Int.toNat (↑x.1 : Int) * 1 + (1 : Nat)) r4.length) (∃ (x_1 :
 Nat × Heap), some (z20g args) = some (z20g args) /\ some z20d = some z20d /\ some (z20c h) = some (z20c h) /\ some (TV.v (.int .i64 (IntKind.wrap .i64 ((↑x.1 : Int) + 1)))) = some (z20h x_1) /\ some (z20a w e p s a) = some (z20a w e p s a) /\ Heap.set x.2 (z20f h)
 (IObj.cells (List.take ((5 : Nat) + Int.toNat (↑x.1 : Int) * 1) r4 ++ [IV.int .i64 n3] ++ List.drop ((5 : Nat) + Int.toNat (↑x.1 : Int) * 1 + (1 : Nat)) r4)) = x_1.2 /\ (newErr (Bi.mk w e p s a) f args fuel = 0 /\ RN1 (Bi.mk w e p s a) f fuel args
 h x_1.1 x_1.2) /\ args.length - x_1.1 < args.length - x.1)))) ((∃ (x_1 : Nat × Heap), some z20d = some z20d /\ some (z20c h) = some (z20c h) /\ some (TV.v (.int .i64 0)) = some (z20h x_1) /\ some (z20a w e p s a) = some (z20a w e p s a) /\ Prod.snd
 x = x_1.2 /\ (newErr (Bi.mk w e p s a) f args fuel = 0 /\ RN2 (Bi.mk w e p s a) f fuel args h x_1.1 x_1.2) /\ True) /\ ∀ (x : Nat × Heap) (b : FF), newErr (Bi.mk w e p s a) f args fuel = 0 /\ RN2 (Bi.mk w e p s a) f fuel args h x.1 x.2 -> brS (decide
 ((↑x.1 : Int) < (↑a.length : Int))) (hgetS x.2 (z20f h) fun r5 => ldNVS 1 r5 13 (needS (decide (0 <= (↑x.1 : Int)) && decide ((↑x.1 : Int) < (↑a.length : Int))) (ldIS .i64 (List.map z20b a) (Int.toNat (↑(Prod.fst
 x) : Int) * 1) fun n6 => needS (decide (0 <= n6) && (decide (n6 <= n6) && (decide (n6 <= 9223372036854775807) && decide ((8 : Int) * n6 <= 140737488355328)))) (sameAt x.2 (Heap.push x.2 (IObj.cells (repl n6.toNat z20e))) (some (z20f h)) /\ hgetS
 (Heap.push (Heap.push x.2 (IObj.cells (repl n6.toNat z20e))) (IObj.tip (1 : Nat))) (z20f h) fun r7 => needS (Nat.ble 14 r7.length) (∃ (x_1 : Nat × Heap), some z20d = some z20d /\ some (z20c h) = some (z20c h) /\ some (TV.v (.int .i64 (IntKind.wrap .i64
 ((↑x.1 : Int) + 1)))) = some (z20h x_1) /\ some (z20a w e p s a) = some (z20a w e p s a) /\ Heap.set (Heap.push (Heap.push x.2 (IObj.cells (repl n6.toNat z20e))) (IObj.tip (1 : Nat))) (z20f h) (IObj.cells (List.take 13 r7 ++ [IV.vslice (some (Heap.next (Prod.snd
 x) + 1)) 1 1 1 [IV.hslice (Heap.next x.2) 0 n6.toNat 1]] ++ List.drop 14 r7)) = x_1.2 /\ (newErr (Bi.mk w e p s a) f args fuel = 0 /\ RN2 (Bi.mk w e p s a) f fuel args h x_1.1 x_1.2) /\ a.length
 - x_1.1 < a.length - x.1)))) fun (i8 e9 l10 : Nat) (c11 : List IV) => needS (decide (0 <= (↑x.1 : Int)) && decide ((↑x.1 : Int) < (↑a.length : Int))) (ldIS .i64 (List.map z20b a) (Int.toNat (↑x.1 : Int) * 1) fun n12 =>
 needS (decide (0 <= n12) && (decide (n12 <= n12) && (decide (n12 <= 9223372036854775807) && decide ((8 : Int) * n12 <= 140737488355328)))) (sameAt x.2 (Heap.push x.2 (z20i n12)) (some (z20f h)) /\ tipS (Heap.push x.2 (z20i n12)) i8 fun (m13 : Nat) => needS
 (Nat.beq m13 e9 && Nat.ble ((l10 + 1) * 24) (140737488355328 : Nat)) (hgetS (Heap.set (Heap.push x.2 (z20i n12)) i8 (IObj.tip (e9 + 1))) (z20f h) fun r14 => needS (Nat.ble 14 r14.length) (∃ (x_1 : Nat × Heap), some z20d = some z20d /\ some (z20c
 h) = some (z20c h) /\ some (TV.v (.int .i64 (IntKind.wrap .i64 ((↑x.1 : Int) + 1)))) = some (z20h x_1) /\ some (z20a w e p s a) = some (z20a w e p s a) /\ Heap.set (Heap.set (Heap.push x.2 (z20i n12)) i8 (IObj.tip (e9 + 1))) (z20f h) (IObj.cells (List.take
 (13 : Nat) r14 ++ [IV.vslice (some i8) (e9 + 1) (l10 + 1) 1 (c11 ++ [IV.hslice (Heap.next x.2) 0 n12.toNat 1])] ++ List.drop 14 r14)) = x_1.2 /\ (newErr (Bi.mk w e p s a) f args fuel = 0 /\ RN2 (Bi.mk w e p s a) f fuel args h
 x_1.1 x_1.2) /\ a.length - x_1.1 < a.length - x.1))))) (Q (.tuple [.ptr (z20f h) 0, IV.int .i64 0]) x.2))))))))))))) := by kernel_rfl
set_option maxHeartbeats 8000000 in
set_option maxRecDepth 100000 in
theorem sRNew : ∀ xs h Q, kRNew xs h Q -> CallW env 20 xs h Q := by
 intro xs h Q hk
 unfold kRNew at hk
 split at hk
 ·rename_i e1 n1 c1 e2 n2 c2 e3 n3 c3 e4 n4 c4 e5 n5 c5 f e6 n6 c6 fuel
  obtain ⟨w, e, p, s, a, args, ⟨rfl, rfl⟩, ⟨rfl, rfl⟩, ⟨rfl, rfl⟩, ⟨rfl, rfl⟩, ⟨rfl, rfl⟩, ⟨rfl, rfl⟩, hw, ⟨z1, z2, z3, z4, z5, z6⟩, hk0, hk⟩ := hk
  refine dF_run (okRStep) (vRNew w e p s a args e1 e2 e3 e4 e5 e6 f fuel h Q) ?_
  delta z20a z20b z20c z20d z20e z20f z20g z20h z20i
  subst z1 z2 z3 z4 z5 z6
  have tn : ∀ x : Nat, (x : Int).toNat = x := Int.toNat_natCast
  obtain ⟨hw, hwl⟩ := hw
  refine ⟨w, e, p, s, a, ⟨rfl, rfl⟩, ⟨rfl, rfl⟩, ⟨rfl, rfl⟩, ⟨rfl, rfl⟩, ⟨rfl, rfl⟩, ⟨hw, hwl⟩, fun r hr => ?_⟩
  by_cases hv : VB ⟨w, e, p, s, a⟩
  case neg =>
   have hr2 : r = false := by
    cases r
    ·rfl
    ·exact absurd (hr.1 rfl) hv
   subst hr2
   have he : newErr ⟨w, e, p, s, a⟩ f args fuel = 204 := by unfold newErr; rw [if_pos hv]
   rw [he] at hk0
   exact hk0 (by omega)
  have hr2 : r = true := hr.2 hv
  subst hr2
  have hpl : p.length = e.length := hv.2.2.1
  have hsl : s.length = e.length := hv.2.2.2.1
  have n0 : newErr ⟨w, e, p, s, a⟩ f args fuel = if f < 0 \/ (e.length : Int) <= f then 3 else if (args.length : Int) ≠ p.getD f.toNat 0 then 5 else if fuel < 0 \/ 1000 < fuel then 6 else 0 := by unfold newErr; rw [if_neg (fun z => z hv)]
  show brS (decide (f < 0)) _ _
  refine brS_intro (fun c => ?_) (fun c1 => brS_intro (fun c => ?_) (fun c2 => ?_))
  ·rw [decide_eq_true_eq] at c
   rw [n0, if_pos (.inl c)] at hk0
   exact hk0 (by omega)
  ·rw [decide_eq_true_eq] at c
   rw [n0, if_pos (.inr (by omega))] at hk0
   exact hk0 (by omega)
  rw [decide_eq_false_iff_not] at c1 c2
  rw [if_neg (by omega)] at n0
  have hfp : f.toNat < p.length := by omega
  have hfe : f.toNat < e.length := by omega
  have hfs : f.toNat < s.length := by omega
  have hgp : p.getD f.toNat 0 = p[f.toNat] := by rw [List.getD_eq_getElem?_getD, List.getElem?_eq_getElem hfp]; rfl
  obtain ⟨q1, q2, q3, e1', e2', e3', e4', e5', e6'⟩ := hv.2.2.2.2.2.2.2.1 _ hfe
  have e3s : s[f.toNat] = q3 := by
   have e3 : s[f.toNat]? = some q3 := e3'
   rw [List.getElem?_eq_getElem hfs] at e3
   exact Option.some.inj e3
  have hgp2 : p[f.toNat] = q2 := by
   have e3 : p[f.toNat]? = some q2 := e2'
   rw [List.getElem?_eq_getElem hfp] at e3
   exact Option.some.inj e3
  rw [hgp] at n0
  rw [Nat.mul_one]
  refine needS_intro (by simp; omega) (ldIS_map hfp (brS_intro (fun c => ?_) (fun c3 => brS_intro (fun c => ?_) (fun c4 => brS_intro (fun c => ?_) (fun c5 => ?_)))))
  ·rw [bne_iff_ne] at c
   rw [n0, if_pos c] at hk0
   exact hk0 (by omega)
  ·rw [bne_eq_false_iff_eq] at c3
   rw [decide_eq_true_eq] at c
   rw [n0, if_neg (fun z => z c3), if_pos (.inl c)] at hk0
   exact hk0 (by omega)
  ·rw [bne_eq_false_iff_eq] at c3
   rw [decide_eq_true_eq] at c
   rw [n0, if_neg (fun z => z c3), if_pos (.inr (by omega))] at hk0
   exact hk0 (by omega)
  rw [bne_eq_false_iff_eq] at c3
  rw [decide_eq_false_iff_not] at c4 c5
  rw [if_neg (fun z => z c3), if_neg (by omega)] at n0
  have hal : args.length <= 8 := by omega
  have hge : e.getD f.toNat 0 = e[f.toNat] := by rw [List.getD_eq_getElem?_getD, List.getElem?_eq_getElem hfe]; rfl
  have hgs : s.getD f.toNat 0 = s[f.toNat] := by rw [List.getD_eq_getElem?_getD, List.getElem?_eq_getElem hfs]; rfl
  have hb3 : 0 <= s[f.toNat] /\ s[f.toNat] <= 3000 := by rw [e3s]; exact e6'
  simp only [Nat.mul_one]
  refine needS_intro (by simp; omega) (ldIS_map hfe (needS_intro (by simp; omega) (ldIS_map hfs (needS_intro (by simp; omega) ⟨?_, fun x _ hx => ?_⟩))))
  ·generalize hG : Heap.push (Heap.push h _) _ = G
   refine ⟨(0, G), (by first | rfl | trivial), (by first | rfl | trivial), (by first | rfl | trivial), (by first | rfl | trivial), (by first | rfl | trivial), rfl, ⟨n0, ?_⟩, trivial⟩
   subst hG
   exact {
    kl := Nat.zero_le _
    cpu := by
     rw [get_push, if_pos (by simp only [next_push])]
     simp only [rF0, hge, hgs]
     rfl
    sl := by
     rw [get_push, if_neg (by simp only [next_push]; omega), get_push, if_pos rfl, repl_ints]
     simp only [hgs]
    ot := fun i hi => by rw [get_push, if_neg (by simp only [next_push]; omega), get_push, if_neg (by omega)]
    nx := rfl }
  obtain ⟨k, hp⟩ := x
  obtain ⟨_, n1⟩ := hx
  have n1 : RN1 ⟨w, e, p, s, a⟩ f fuel args h k hp := n1
  have hnx := n1.nx
  simp only [tn, Nat.mul_one]
  refine brS_intro (fun c => ?_) (fun c => ?_)
  ·have c : (k : Int) < args.length := by simpa using c
   have hlt : k < args.length := by omega
   have hrl := rargs_len (args := args) (k := k) (by omega) (by omega)
   refine needS_intro (by simp; omega) (ldIS_map hlt (needS_intro (by simp; omega) (hget_i n1.cpu (needS_intro (by rw [Nat.ble_eq, rcG_len, hrl]; omega) ?_))))
   rw [store_set (by rw [rcG_len, hrl]; omega), rcG_setreg (by rw [hrl]; omega), rargs_set hlt hal]
   generalize hG : Heap.set _ (h.next + 1) _ = G
   refine ⟨(k + 1, G), (by first | rfl | trivial), (by first | rfl | trivial), (by first | rfl | trivial), (by simp only; rw [IntWalk.i64_in _ (by omega)]; rfl), (by first | rfl | trivial), rfl, ⟨n0, ?_⟩, (by simp only; omega)⟩
   subst hG
   exact {
    kl := hlt
    cpu := by rw [get_set, if_pos rfl]
    sl := by rw [get_set, if_neg (by omega)]; exact n1.sl
    ot := fun i hi => by rw [get_set, if_neg (by omega)]; exact n1.ot i hi
    nx := by rw [next_set]; exact hnx }
  have c : ¬ (k : Int) < args.length := by simpa using c
  obtain rfl : k = args.length := by have := n1.kl; omega
  refine ⟨⟨(0, hp), (by first | rfl | trivial), (by first | rfl | trivial), (by first | rfl | trivial), (by first | rfl | trivial), rfl, ⟨n0, {
    kl := Nat.zero_le _
    cpu := n1.cpu
    sl := n1.sl
    ar := fun j hj => absurd hj (Nat.not_lt_zero _)
    ai := fun z => absurd z (Nat.lt_irrefl _)
    ot := n1.ot
    nx := hnx }⟩, trivial⟩, fun x _ hx => ?_⟩
  clear n1 hnx c
  obtain ⟨k, hp⟩ := x
  obtain ⟨_, n2⟩ := hx
  have n2 : RN2 ⟨w, e, p, s, a⟩ f fuel args h k hp := n2
  have hnx := n2.nx
  have hkl : k <= a.length := n2.kl
  have hrl := rargs_len (args := args) (k := args.length) (Nat.le_refl _) hal
  have hka4 : a.length <= 4 := hv.2.2.2.2.1
  have hcn : h.next + 1 < hp.next := by rw [hnx]; split <;> omega
  simp only [tn, Nat.mul_one]
  refine brS_intro (fun c => ?_) (fun c => ?_)
  ·have c : (k : Int) < a.length := by simpa using c
   have hlt : k < a.length := by omega
   obtain ⟨x9, y1, y2⟩ := hv.2.2.2.2.2.2.2.2.1 k hlt
   have y1' : a[k]? = some x9 := y1
   rw [List.getElem?_eq_getElem hlt] at y1'
   have hx9 := Option.some.inj y1'
   have hgd : a.getD k 0 = a[k] := by rw [List.getD_eq_getElem?_getD, List.getElem?_eq_getElem hlt]; rfl
   refine hget_i n2.cpu ?_
   by_cases h0 : k = 0
   ·subst h0
    rw [if_pos rfl] at hnx
    refine ldNV_n (rcG_13 hrl) (needS_intro (by simp; omega) (ldIS_map hlt (needS_intro (by simp; omega) ⟨?_, hget_i (by rw [get_push, if_neg (by simp only [next_push]; omega), get_push, if_neg (by omega)]; exact n2.cpu) (needS_intro (by rw [Nat.ble_eq, rcG_len, hrl]; omega) ?_)⟩)))
    ·show (hp.push _).get _ = hp.get _
     rw [get_push, if_neg (by omega)]
    ·rw [store_set (by rw [rcG_len, hrl]; omega), rcG_set13 hrl, repl_ints]
     generalize hG : Heap.set _ (h.next + 1) _ = G
     refine ⟨(1, G), (by first | rfl | trivial), (by first | rfl | trivial), (by simp only; rw [IntWalk.i64_in _ (by (try simp only); omega)]; rfl), (by first | rfl | trivial), rfl, ⟨n0, ?_⟩, (by simp only; omega)⟩
     subst hG
     exact {
      kl := hlt
      cpu := by
       rw [get_set, if_pos rfl, rnarr_pos (by omega), rnrow_succ, hgd, hnx]
       rfl
      sl := by
       rw [get_set, if_neg (by omega), get_push, if_neg (by simp only [next_push]; omega), get_push, if_neg (by omega)]
       exact n2.sl
      ar := fun j hj => by
       obtain rfl : j = 0 := by omega
       show Heap.get _ (h.next + 2) = _
       rw [get_set, if_neg (by omega), get_push, if_neg (by simp only [next_push]; omega), get_push, if_pos (by omega)]
       simp only [hgd]
      ai := fun _ => by rw [get_set, if_neg (by omega), get_push, if_pos (by simp only [next_push]; omega)]
      ot := fun i hi => by
       rw [get_set, if_neg (by omega), get_push, if_neg (by simp only [next_push]; omega), get_push, if_neg (by omega)]
       exact n2.ot i hi
      nx := by rw [if_neg (by omega)]; simp only [next_set, next_push]; omega }
   ·rw [if_neg h0] at hnx
    have hai := n2.ai (by omega)
    refine ldNV_i (by rw [rcG_13 hrl, rnarr_pos (by omega)]) (needS_intro (by simp; omega) (ldIS_map hlt (needS_intro (by simp; omega) ⟨?_, tip_i (m := k) (by rw [get_push, if_neg (by omega)]; exact hai) (needS_intro (by rw [Bool.and_eq_true, nbeq_t, Nat.ble_eq]; omega) (hget_i (by rw [get_set, if_neg (by omega), get_push, if_neg (by omega)]; exact n2.cpu) (needS_intro (by rw [Nat.ble_eq, rcG_len, hrl]; omega) ?_)))⟩)))
    ·show (hp.push _).get _ = hp.get _
     rw [get_push, if_neg (by omega)]
    ·rw [store_set (by rw [rcG_len, hrl]; omega), rcG_set13 hrl, repl_ints]
     have haid : raid h.next k = h.next + 3 + k := by unfold raid; rw [if_neg h0]
     generalize hG : Heap.set _ (h.next + 1) _ = G
     refine ⟨(k + 1, G), (by first | rfl | trivial), (by first | rfl | trivial), (by simp only; rw [IntWalk.i64_in _ (by (try simp only); omega)]; rfl), (by first | rfl | trivial), rfl, ⟨n0, ?_⟩, (by simp only; omega)⟩
     subst hG
     exact {
      kl := hlt
      cpu := by
       rw [get_set, if_pos rfl, rnarr_pos (by omega), rnrow_succ, hgd, haid, hnx]
      sl := by
       rw [get_set, if_neg (by omega), get_set, if_neg (by omega), get_push, if_neg (by omega)]
       exact n2.sl
      ar := fun j hj => by
       by_cases hjk : j = k
       ·subst hjk
        rw [haid, get_set, if_neg (by omega), get_set, if_neg (by omega), get_push, if_pos (by omega)]
        simp only [hgd]
       ·have hja : raid h.next j < h.next + 3 + k /\ h.next + 2 <= raid h.next j /\ raid h.next j ≠ h.next + 3 := by
         unfold raid
         split <;> omega
        rw [get_set, if_neg (by omega), get_set, if_neg (by omega), get_push, if_neg (by omega)]
        exact n2.ar j (by omega)
      ai := fun _ => by rw [get_set, if_neg (by omega), get_set, if_pos rfl]
      ot := fun i hi => by
       rw [get_set, if_neg (by omega), get_set, if_neg (by omega), get_push, if_neg (by omega)]
       exact n2.ot i hi
      nx := by rw [if_neg (by omega)]; simp only [next_set, next_push]; omega }
  ·have c : ¬ (k : Int) < a.length := by simpa using c
   obtain rfl : k = a.length := by omega
   exact hk n0 hp (newR_rep hal n2) n2.ot (by omega)
 ·exact hk.elim
def cRNew := addC 20 kRNew cRStep
theorem okRNew : Sound env cRNew := sound_add sRNew (okRStep)
end Go.Proofs.YtlenjfbmpekabaaDoor
end
section
set_option linter.unusedVariables false
set_option linter.unusedSimpArgs false
namespace Go.Proofs.YtlenjfbmpekabaaDoor
open Go.Pv Go.M29 Go.M30 Go.M31 Go.M13
theorem nrm_rout (o : List Int) (i e : Nat) : nrmC (.slc 1) (rout o i e) = .vslice none 0 o.length 1 (ints o) := by
 unfold rout
 by_cases h : o = []
 ·rw [if_pos h, h]; rfl
 ·rw [if_neg h]; rfl
theorem word_in {a w : Int} (h : inR w) : inR (word a w) := by
 unfold word
 repeat' split
 ·refine getD_in (fun x hx => ?_) _
  simp only [edges, List.mem_cons, List.not_mem_nil, or_false] at hx
  unfold inR
  omega
 ·unfold inR
  omega
 ·exact h
theorem aL_in {f a b w : Int} (h : inR w) : ∀ x ∈ aL f (word a w) (word b w), inR x := by
 intro x hx
 unfold aL at hx
 split at hx
 ·simp only [List.mem_cons, List.not_mem_nil, or_false] at hx
  rcases hx with e | e <;> rw [e] <;> exact word_in h
 ·simp only [List.mem_cons, List.not_mem_nil, or_false] at hx
  rw [hx]
  exact word_in h
def kCCellT (xs : List IV) (h : Heap) (K : IV -> Heap -> Prop) : Prop := match xs with
 | [.ptr id 0, .int .i64 a, .int .i64 i] => ∃ (B : Bi) (s : CS) (L : Ly), Rep B s L id h /\ B.a ≠ [] /\ K (.int .i64 (cellV s a i)) h
 | _ => False
set_option maxRecDepth 100000 in
theorem vCCellT (id : Nat) (a i : Int) (h : Heap) (Q : IV -> Heap -> Prop) : dF (stdS cRNew) env 59 noU noI noI [.ptr id 0, .int .i64 a, .int .i64 i] h Q = (
 brS (decide (a < 0)) (Q (.int .i64 0) h)
 (hgetS h id fun r0 =>
 ldVS 1 r0 4 fun (i1 : Option Nat) (e2 l3 : Nat) (c4 : List IV) =>
 brS (decide (a >= (↑l3 : Int))) (Q (.int .i64 0) h)
 (brS (decide (i < 0)) (Q (.int .i64 0) h)
 (hgetS h id fun r5 =>
 ldVS 1 r5 4 fun (i6 : Option Nat) (e7 l8 : Nat) (c9 : List IV) =>
 needS (decide (0 <= a) && decide (a < (↑l8 : Int)))
 (ldNHS 1 c9 (a.toNat * 1) False fun (i10 o11 l12 : Nat) =>
 brS (decide (i >= (↑l12 : Int))) (Q (.int .i64 0) h)
 (hgetS h id fun r13 =>
 ldVS 1 r13 4 fun (i14 : Option Nat) (e15 l16 : Nat) (c17 : List IV) =>
 needS (decide (0 <= a) && decide (a < (↑l16 : Int)))
 (ldNHS 1 c17 (a.toNat * 1) False fun (i18 o19 l20 : Nat) =>
 needS (decide (0 <= i) && decide (i < (↑l20 : Int))) (hgetS h i18 fun r21 => ldIS .i64 r21 (o19 + i.toNat * 1) fun n22 => Q (.int .i64 n22) h)))))))) := by kernel_rfl
theorem sCCellT : ∀ xs h Q, kCCellT xs h Q -> CallW env 59 xs h Q := by
 intro xs h Q hk
 unfold kCCellT at hk
 split at hk
 ·rename_i id a i
  obtain ⟨B, s, L, hr, hk⟩ := hk
  refine dF_run (okRNew) (vCCellT id a i h Q) ?_
  obtain ⟨hne, hk⟩ := hk
  have hcl : s.cells.length = B.a.length := by have := congrArg List.length hr.cl; simpa using this
  have z0 : ¬ (0 <= a /\ a < (s.cells.length : Int) /\ 0 <= i /\ i < ((s.cells.getD a.toNat []).length : Int)) -> Q (.int .i64 0) h := fun z => by
   have e : cellV s a i = 0 := if_neg z
   rw [e] at hk
   exact hk
  refine brS_intro (fun c => z0 (by rw [decide_eq_true_eq] at c; omega)) (fun c1 => hget_i hr.cpu (ldV_i (cpu_arr hne) (brS_intro (fun c => z0 (by rw [decide_eq_true_eq] at c; omega)) (fun c2 => brS_intro (fun c => z0 (by rw [decide_eq_true_eq] at c; omega)) (fun c3 => hget_i hr.cpu (ldV_i (cpu_arr hne) ?_))))))
  rw [decide_eq_false_iff_not] at c1 c2 c3
  obtain ⟨j, row, e1, e2, e3, e4, e5, e6⟩ := arr_at hr (j := a.toNat) (by omega)
  have hgd : s.cells.getD a.toNat [] = row := by rw [List.getD_eq_getElem?_getD, e2]; rfl
  refine needS_intro (by simp; omega) ?_
  rw [Nat.mul_one]
  refine ldNH_i e3 (brS_intro (fun c => z0 (by rw [decide_eq_true_eq] at c; rw [hgd]; omega)) (fun c4 => hget_i hr.cpu (ldV_i (cpu_arr hne) (needS_intro (by simp; omega) ?_))))
  rw [decide_eq_false_iff_not] at c4
  have ev : cellV s a i = row.getD i.toNat 0 := by
   unfold cellV
   rw [hgd, if_pos (by omega)]
  rw [ev] at hk
  refine ldNH_i e3 (needS_intro (by simp; omega) (hget_i e4 ?_))
  rw [Nat.mul_one, Nat.zero_add]
  exact ldI_i (n := row.getD i.toNat 0) (by simp [ints, List.getD_eq_getElem?_getD, List.getElem?_eq_getElem (show i.toNat < row.length by omega)]) hk
 ·exact hk.elim
def cCCellT := addC 59 kCCellT cRNew
theorem okCCellT : Sound env cCCellT := sound_add sCCellT (okRNew)
def kSameOut2 (xs : List IV) (h : Heap) (K : IV -> Heap -> Prop) : Prop := match xs with
 | [x, y] => ∃ (k c v k' c' v' : Int) (o o' : List Int) (e1 e2 : Nat), (x = .agg [.int .i64 k, .int .i64 c, .vslice none e1 o.length 1 (ints o), .int .i64 v] /\ y = .agg [.int .i64 k', .int .i64 c', .vslice none e2 o'.length 1 (ints o'), .int .i64 v']) /\ o.length <= 4611686018427387904 /\ K (.bool (sameO k c o v k' c' o' v')) h
 | _ => False
theorem sSameOut2 : ∀ xs h Q, kSameOut2 xs h Q -> CallW env 24 xs h Q := by
 intro xs h Q hk
 unfold kSameOut2 at hk
 split at hk
 ·obtain ⟨k, c, v, k', c', v', o, o', e1, e2, ⟨rfl, rfl⟩, ho, hk⟩ := hk
  exact sSameOut _ _ _ (by unfold kSameOut; exact ⟨o, o', ⟨rfl, rfl⟩, ⟨rfl, rfl⟩, ho, hk⟩)
 ·exact hk.elim
def cSameOut2 := addC 24 kSameOut2 cCCellT
theorem okSameOut2 : Sound env cSameOut2 := sound_add sSameOut2 (okCCellT)
def kCNew0 (xs : List IV) (h : Heap) (K : IV -> Heap -> Prop) : Prop := match xs with
 | [.agg [.vslice none e1 n1 1 c1, .vslice none e2 n2 1 c2, .vslice none e3 n3 1 c3, .vslice none e4 n4 1 c4, .vslice none e5 n5 1 c5], .int .i64 f, .vslice none e6 n6 1 c6, .int .i64 fuel] => ∃ w e p s a args : List Int, (n1 = w.length /\ c1 = w.map (IV.int .u32)) /\ (n2 = e.length /\ c2 = e.map (IV.int .i64)) /\ (n3 = p.length /\ c3 = p.map (IV.int .i64)) /\ (n4 = s.length /\ c4 = s.map (IV.int .i64)) /\ (n5 = a.length /\ c5 = a.map (IV.int .i64)) /\ (n6 = args.length /\ c6 = args.map (IV.int .i64)) /\ ((∀ x ∈ w, u32b x) /\ newErr ⟨w, e, p, s, a⟩ f args fuel = 0) /\ ∀ (L : Ly) (h' : Heap), Rep ⟨w, e, p, s, a⟩ (initS ⟨w, e, p, s, a⟩ f args fuel) L (h.next + 1) h' -> h.next <= h'.next -> K (.tuple [.ptr (h.next + 1) 0, .int .i64 0]) h'
 | _ => False
theorem sCNew0 : ∀ xs h Q, kCNew0 xs h Q -> CallW env 19 xs h Q := by
 intro xs h Q hk
 unfold kCNew0 at hk
 split at hk
 ·obtain ⟨w, e, p, s, a, args, a1, a2, a3, a4, a5, a6, ⟨hw, he⟩, hk⟩ := hk
  exact sCNew _ _ _ (by unfold kCNew; exact ⟨w, e, p, s, a, args, a1, a2, a3, a4, a5, a6, hw, fun z => absurd he z, fun _ L h' r _ n => hk L h' r n⟩)
 ·exact hk.elim
def cCNew0 := addC 19 kCNew0 cSameOut2
theorem okCNew0 : Sound env cCNew0 := sound_add sCNew0 (okSameOut2)
def kRNew0 (xs : List IV) (h : Heap) (K : IV -> Heap -> Prop) : Prop := match xs with
 | [.agg [.vslice none e1 n1 1 c1, .vslice none e2 n2 1 c2, .vslice none e3 n3 1 c3, .vslice none e4 n4 1 c4, .vslice none e5 n5 1 c5], .int .i64 f, .vslice none e6 n6 1 c6, .int .i64 fuel] => ∃ w e p s a args : List Int, (n1 = w.length /\ c1 = w.map (IV.int .u32)) /\ (n2 = e.length /\ c2 = e.map (IV.int .i64)) /\ (n3 = p.length /\ c3 = p.map (IV.int .i64)) /\ (n4 = s.length /\ c4 = s.map (IV.int .i64)) /\ (n5 = a.length /\ c5 = a.map (IV.int .i64)) /\ (n6 = args.length /\ c6 = args.map (IV.int .i64)) /\ ((∀ x ∈ w, u32b x) /\ w.length <= 1000000 /\ newErr ⟨w, e, p, s, a⟩ f args fuel = 0) /\ (e1 = 0 /\ e2 = 0 /\ e3 = 0 /\ e4 = 0 /\ e5 = 0 /\ e6 = 0) /\ ∀ (h' : Heap), RRep ⟨w, e, p, s, a⟩ (initS ⟨w, e, p, s, a⟩ f args fuel) (newRL ⟨w, e, p, s, a⟩ h.next) (h.next + 1) h' -> (∀ k, k < h.next -> h'.get k = h.get k) -> h.next + 2 <= h'.next -> K (.tuple [.ptr (h.next + 1) 0, .int .i64 0]) h'
 | _ => False
theorem sRNew0 : ∀ xs h Q, kRNew0 xs h Q -> CallW env 20 xs h Q := by
 intro xs h Q hk
 unfold kRNew0 at hk
 split at hk
 ·obtain ⟨w, e, p, s, a, args, a1, a2, a3, a4, a5, a6, ⟨hw, hl, he⟩, z, hk⟩ := hk
  exact sRNew _ _ _ (by unfold kRNew; exact ⟨w, e, p, s, a, args, a1, a2, a3, a4, a5, a6, ⟨hw, hl⟩, z, fun z => absurd he z, fun _ h' r o n => hk h' r o n⟩)
 ·exact hk.elim
def cRNew0 := addC 20 kRNew0 cCNew0
theorem okRNew0 : Sound env cRNew0 := sound_add sRNew0 (okCNew0)
def saA (id idr : Nat) (h : Heap) : Inv' := atX Int (fun x => [(0, .v (.ptr id 0)), (1, .v (.ptr idr 0)), (5, .v (.int .i64 x))]) (fun _ => []) (fun _ => h) (fun x => -1 <= x /\ x <= 9) (fun x => (9 - x).toNat)
def saB (id idr : Nat) (h : Heap) : Inv' := atX Int (fun x => [(0, .v (.ptr id 0)), (1, .v (.ptr idr 0)), (7, .v (.int .i64 x))]) (fun _ => []) (fun _ => h) (fun x => -1 <= x /\ x <= 3) (fun x => (3 - x).toNat * 10)
def saC (id idr : Nat) (h : Heap) : Inv' := atX (Int × Int) (fun x => [(0, .v (.ptr id 0)), (1, .v (.ptr idr 0)), (7, .v (.int .i64 x.1)), (8, .v (.int .i64 x.2))]) (fun _ => []) (fun _ => h) (fun x => (-1 <= x.1 /\ x.1 <= 2) /\ -1 <= x.2 /\ x.2 <= 5) (fun x => (2 - x.1).toNat * 10 + (5 - x.2).toNat)
def kSame (xs : List IV) (h : Heap) (K : IV -> Heap -> Prop) : Prop := match xs with
 | [.ptr id 0, .ptr idr 0] => ∃ (B : Bi) (s : CS) (L : Ly) (R : RL), (Rep B s L id h /\ RRep B s R idr h) /\ (s.out.length <= 1000000 /\ B.a = [3, 2] /\ ZS s) /\ ∀ (h' : Heap), (∀ k, k < h.next -> h'.get k = h.get k) -> h.next <= h'.next -> K (.bool true) h'
 | _ => False
noncomputable def z33a (id : Nat) := TV.v (.ptr id 0)
noncomputable def z33b (idr : Nat) := TV.v (.ptr idr 0)
noncomputable def z33c  := IV.bool false
noncomputable def z33d  := TV.v (.int .i64 (-1))
set_option maxRecDepth 100000 in
theorem vSame (id idr : Nat) (h : Heap) (Q : IV -> Heap -> Prop) : dF (stdS cRNew0) env 33 noU (icA 5 (saA id idr h) (icA 13 (saB id idr h) (ic1 1000016 (saC id idr h)))) noI [.ptr id 0, .ptr idr 0] h Q = (
 hgetS h idr fun r0 => ldIS .i64 r0 15 fun n1 => ∃ (B : Bi), ∃ (s : CS), ∃ (L : Ly), Rep B s L id h /\ sameAt h h (some idr) /\ brS (CS.pc s != n1) (Q z33c h) (hgetS h idr fun r2 => ldIS .i64 r2 16 fun n3 => ∃ (B : Bi), ∃ (s : CS), ∃
 (L : Ly), Rep B s L id h /\ sameAt h h (some idr) /\ brS (CS.fuel s != n3) (Q z33c h) (hgetS h idr fun r4 => ldVS 2 r4 14 fun (i5 : Option Nat) (e6 l7 : Nat) (c8 : List IV) => ∃ (B : Bi), ∃ (s : CS), ∃ (L : Ly), Rep B s L id h /\ sameAt h h (some idr) /\ brS ((↑(List.length (CS.frames
 s)) : Int) != (↑l7 : Int)) (Q z33c h) ((∃ (x : Int), some (z33a id) = some (z33a id) /\ some (z33b idr) = some (z33b idr) /\ some z33d = some (TV.v (.int .i64 x)) /\ h = h /\ ((-1 : Int) <= x /\ x <= 9) /\ True) /\ ∀ (x : Int) (b : FF), (-1 : Int) <= x /\ x <= 9 -> brS (decide (x <= 8))
 (brS (decide (x >= 0)) (brS (decide (x < 8)) (needS (decide (0 <= x) && decide (x < 8)) (hgetS h idr fun r9 => ldIS .i64 r9 ((5 : Nat) + x.toNat * 1) fun n10 => ∃ (B : Bi), ∃ (s : CS), ∃ (L : Ly), Rep B s L id h /\ brS ((if (0 : Int)
 <= x /\ x <= 7 then rg s x else (0 : Int)) != n10) (Q z33c h) (∃ (x_1 : Int), some (z33a id) = some (z33a id) /\ some (z33b idr) = some (z33b idr) /\ some (TV.v (.int .i64 (IntKind.wrap .i64 (x + 1)))) = some (TV.v (.int .i64 x_1)) /\ h = h /\ ((-1 : Int) <= x_1 /\ x_1
 <= (9 : Int)) /\ Int.toNat ((9 : Int) - x_1) < Int.toNat ((9 : Int) - x)))) (∃ (B : Bi), ∃ (s : CS), ∃ (L : Ly), Rep B s L id h /\ brS ((if 0 <= x /\ x <= 7 then rg s x else (0 : Int)) != 0) (Q z33c h) (∃ (x_1 : Int), some (z33a id) = some (z33a id) /\ some (z33b idr) = some (z33b idr)
 /\ some (TV.v (.int .i64 (IntKind.wrap .i64 (x + 1)))) = some (TV.v (.int .i64 x_1)) /\ h = h /\ ((-1 : Int) <= x_1 /\ x_1 <= 9) /\ Int.toNat ((9 : Int) - x_1) < Int.toNat ((9 : Int) - x)))) (∃ (B : Bi), ∃ (s : CS), ∃ (L : Ly), Rep B s L id h /\ brS ((if 0 <= x
 /\ x <= 7 then rg s x else (0 : Int)) != 0) (Q z33c h) (∃ (x_1 : Int), some (z33a id) = some (z33a id) /\ some (z33b idr) = some (z33b idr) /\ some (TV.v (.int .i64 (IntKind.wrap .i64 (x + 1)))) = some (TV.v (.int .i64 x_1)) /\ h = h /\ ((-1 : Int) <= x_1 /\ x_1
 <= (9 : Int)) /\ Int.toNat ((9 : Int) - x_1) < Int.toNat ((9 : Int) - x)))) ((∃ (x : Int), some (z33a id) = some (z33a id) /\ some (z33b idr) = some (z33b idr) /\ some z33d = some (TV.v (.int .i64 x)) /\ h = h /\ ((-1 : Int) <= x /\ x <= 3) /\ True) /\ ∀ (x : Int) (b : FF), (-1 : Int) <= x /\ x <=
 (3 : Int) -> hgetS h idr fun r11 => ldVS 1 r11 13 fun (i12 : Option Nat) (e13 l14 : Nat) (c15 : List IV) => brS (decide (x <= (↑l14 : Int))) (∃ (M : Nat), (∃ (x_1 : Int × Int), some (z33a id) = some (z33a id) /\ some (z33b idr) = some (z33b idr) /\ some (TV.v (.int .i64
 x)) = some (TV.v (.int .i64 x_1.1)) /\ some z33d = some (TV.v (.int .i64 x_1.2)) /\ h = h /\ (((-1 : Int) <= x_1.1 /\ x_1.1 <= 2) /\ (-1 : Int) <= x_1.2 /\ x_1.2 <= 5) /\ Int.toNat ((2 : Int) - x_1.1) * 10 + Int.toNat
 ((5 : Int) - x_1.2) <= M) /\ ∀ (x_1 : Int × Int) (b : FF), ((-1 : Int) <= x_1.1 /\ x_1.1 <= 2) /\ (-1 : Int) <= x_1.2 /\ x_1.2 <= 5 -> Int.toNat ((2 : Int) - x_1.1) * 10 + Int.toNat ((5 : Int) - x_1.2) <= M -> brS (decide (x_1.2 < (5
 : Int))) (brS (decide (x_1.1 >= 0)) (hgetS h idr fun r16 => ldVS 1 r16 13 fun (i17 : Option Nat) (e18 l19 : Nat) (c20 : List IV) => brS (decide (x_1.1 < (↑l19 : Int))) (brS (decide (x_1.2 >= 0)) (hgetS h idr fun r21 => ldVS (1
 : Nat) r21 13 fun (i22 : Option Nat) (e23 l24 : Nat) (c25 : List IV) => needS (decide (0 <= x_1.1) && decide (x_1.1 < (↑l24 : Int))) (ldNHS 1 c25 (x_1.1.toNat * 1) False fun (i26 o27 l28 : Nat) => brS (decide (x_1.2 < (↑l28 : Int))) (hgetS
 h idr fun r29 => ldVS 1 r29 13 fun (i30 : Option Nat) (e31 l32 : Nat) (c33 : List IV) => needS (decide (0 <= x_1.1) && decide (x_1.1 < (↑l32 : Int))) (ldNHS 1 c33 (x_1.1.toNat * 1) False fun (i34 o35 l36 : Nat) => needS (decide
 (0 <= x_1.2) && decide (x_1.2 < (↑l36 : Int))) (hgetS h i34 fun r37 => ldIS .i64 r37 (o35 + x_1.2.toNat * 1) fun n38 => ∃ (B : Bi), ∃ (s : CS), ∃ (L : Ly), Rep B s L id h /\ Bi.a B ≠ [] /\ brS (cellV s x_1.1 x_1.2 !=
 n38) (Q z33c h) (∃ (x : Int × Int), some (z33a id) = some (z33a id) /\ some (z33b idr) = some (z33b idr) /\ some (TV.v (.int .i64 x_1.1)) = some (TV.v (.int .i64 x.1)) /\ some (TV.v (.int .i64 (IntKind.wrap .i64 (x_1.2 + 1)))) = some (TV.v
 (IV.int .i64 x.2)) /\ h = h /\ (((-1 : Int) <= x.1 /\ x.1 <= 2) /\ (-1 : Int) <= x.2 /\ x.2 <= 5) /\ Int.toNat ((2 : Int) - x.1) * 10 + Int.toNat ((5 : Int) - x.2) < Int.toNat ((2 : Int) - x_1.1) * 10 + Int.toNat ((5
 : Int) - x_1.2))))) (∃ (B : Bi), ∃ (s : CS), ∃ (L : Ly), Rep B s L id h /\ Bi.a B ≠ [] /\ brS (cellV s x_1.1 x_1.2 != 0) (Q z33c h) (∃ (x : Int × Int), some (z33a id) = some (z33a id) /\ some (z33b idr) = some (z33b idr) /\ some (TV.v (.int .i64 x_1.1))
 = some (TV.v (.int .i64 x.1)) /\ some (TV.v (.int .i64 (IntKind.wrap .i64 (x_1.2 + 1)))) = some (TV.v (.int .i64 x.2)) /\ h = h /\ (((-1 : Int) <= x.1 /\ x.1 <= 2) /\ (-1 : Int) <= x.2 /\ x.2 <= 5) /\
 Int.toNat ((2 : Int) - x.1) * 10 + Int.toNat ((5 : Int) - x.2) < Int.toNat ((2 : Int) - x_1.1) * 10 + Int.toNat ((5 : Int) - x_1.2))))) (∃ (B : Bi), ∃ (s : CS), ∃ (L : Ly), Rep B s L id h /\ Bi.a B ≠ [] /\ brS (cellV s x_1.1 x_1.2 != 0)
 (Q z33c h) (∃ (x : Int × Int), some (z33a id) = some (z33a id) /\ some (z33b idr) = some (z33b idr) /\ some (TV.v (.int .i64 x_1.1)) = some (TV.v (.int .i64 x.1)) /\ some (TV.v (.int .i64 (IntKind.wrap .i64 (x_1.2 + 1)))) = some (TV.v (.int
 .i64 x.2)) /\ h = h /\ (((-1 : Int) <= x.1 /\ x.1 <= 2) /\ (-1 : Int) <= x.2 /\ x.2 <= 5) /\ Int.toNat ((2 : Int) - x.1) * 10 + Int.toNat ((5 : Int) - x.2) < Int.toNat ((2 : Int) - x_1.1) * 10 + Int.toNat ((5 : Int)
 - x_1.2)))) (∃ (B : Bi), ∃ (s : CS), ∃ (L : Ly), Rep B s L id h /\ Bi.a B ≠ [] /\ brS (cellV s x_1.1 x_1.2 != 0) (Q z33c h) (∃ (x : Int × Int), some (z33a id) = some (z33a id) /\ some (z33b idr) = some (z33b idr) /\ some (TV.v (.int .i64 x_1.1)) = some (TV.v
 (IV.int .i64 x.1)) /\ some (TV.v (.int .i64 (IntKind.wrap .i64 (x_1.2 + 1)))) = some (TV.v (.int .i64 x.2)) /\ h = h /\ (((-1 : Int) <= x.1 /\ x.1 <= 2) /\ (-1 : Int) <= x.2 /\ x.2 <= 5) /\ Int.toNat ((2
 : Int) - x.1) * 10 + Int.toNat ((5 : Int) - x.2) < Int.toNat ((2 : Int) - x_1.1) * 10 + Int.toNat ((5 : Int) - x_1.2)))) (∃ (B : Bi), ∃ (s : CS), ∃ (L : Ly), Rep B s L id h /\ Bi.a B ≠ [] /\ brS (cellV s x_1.1 x_1.2 != 0) (Q z33c h)
 (∃ (x : Int × Int), some (z33a id) = some (z33a id) /\ some (z33b idr) = some (z33b idr) /\ some (TV.v (.int .i64 x_1.1)) = some (TV.v (.int .i64 x.1)) /\ some (TV.v (.int .i64 (IntKind.wrap .i64 (x_1.2 + 1)))) = some (TV.v (.int .i64
 x.2)) /\ h = h /\ (((-1 : Int) <= x.1 /\ x.1 <= 2) /\ (-1 : Int) <= x.2 /\ x.2 <= 5) /\ Int.toNat ((2 : Int) - x.1) * 10 + Int.toNat ((5 : Int) - x.2) < Int.toNat ((2 : Int) - x_1.1) * 10 + Int.toNat ((5 : Int) - Prod.snd
 x_1)))) (∃ (x_2 : Int), some (z33a id) = some (z33a id) /\ some (z33b idr) = some (z33b idr) /\ some (TV.v (.int .i64 (IntKind.wrap .i64 (x_1.1 + 1)))) = some (TV.v (.int .i64 x_2)) /\ h = h /\ ((-1 : Int) <= x_2 /\ x_2 <= 3) /\ Int.toNat ((3 : Int) - x_2) * (10
 : Nat) < Int.toNat ((3 : Int) - x) * 10)) (∃ (B : Bi), ∃ (s : CS), ∃ (L : Ly), Rep B s L id h /\ List.length (CS.out s) <= 1000000 /\ (CS.over s = false -> hgetS h idr fun r39 => ldBS r39 18 fun b40 => brS (false == b40) (hgetS h idr fun r41 => ldAS
 r41 19 fun v42 => ldAS r41 20 fun v43 => ldAS r41 21 fun v44 => ldAS r41 22 fun v45 => ∃ (k c : Int), ∃ (v k' : Int), ∃ (c' v' : Int), ∃ (o o' : List Int), ∃ (e1 e2 : Nat), (IV.agg
 [IV.int .i64 0, IV.int .i64 0, IV.vslice none 0 0 1 [], IV.int .i64 0] = IV.agg [.int .i64 k, IV.int .i64 c, IV.vslice none e1 o.length 1 (ints o), IV.int .i64 v] /\ IV.agg [v42, v43, nrmC (ckOf
 Proofs.Tryd.prog (32 : Nat)) v44, v45] = IV.agg [.int .i64 k', IV.int .i64 c', IV.vslice none e2 o'.length 1 (ints o'), IV.int .i64 v']) /\ o.length <= 4611686018427387904 /\ Q (.bool (sameO k c o v k' c' o' v')) h) (Q z33c h)) /\ (CS.over s = true -> ∀
 (i : Option Nat) (e : Nat) (h' : Heap), (∀ (k : Nat), k < Heap.next h -> Heap.get h' k = Heap.get h k) -> Heap.next h <= Heap.next h' -> hgetS h' idr fun r46 => ldBS r46 18 fun b47 => brS (true == b47) (hgetS h' idr fun r48 => ldAS r48 19 fun v49 =>
 ldAS r48 20 fun v50 => ldAS r48 21 fun v51 => ldAS r48 22 fun v52 => ∃ (k c : Int), ∃ (v k' : Int), ∃ (c' v' : Int), ∃ (o o' : List Int), ∃ (e1 e2 : Nat), (IV.agg [.int .i64 (CS.kind s),
 IV.int .i64 (CS.code s), IV.vslice none 0 (List.length (CS.out s)) 1 (ints (CS.out s)), IV.int .i64 (CS.val s)] = IV.agg [.int .i64 k, IV.int .i64 c, IV.vslice none e1 o.length 1 (ints o), IV.int .i64 v] /\ IV.agg [v49, v50, nrmC (ckOf
 Proofs.Tryd.prog (32 : Nat)) v51, v52] = IV.agg [.int .i64 k', IV.int .i64 c', IV.vslice none e2 o'.length 1 (ints o'), IV.int .i64 v']) /\ o.length <= 4611686018427387904 /\ Q (.bool (sameO k c o v k' c' o' v')) h') (Q z33c h')))))))) := by kernel_rfl
set_option maxHeartbeats 8000000 in
set_option maxRecDepth 100000 in
theorem sSame : ∀ xs h Q, kSame xs h Q -> CallW env 33 xs h Q := by
 intro xs h Q hk
 unfold kSame at hk
 split at hk
 ·rename_i id idr
  obtain ⟨B, s, L, R, ⟨hr, hq⟩, ⟨hol, hba, hz⟩, hk⟩ := hk
  refine dF_run (okRNew0) (vSame id idr h Q) ?_
  delta z33a z33b z33c z33d
  have hl : B.a.length = 2 := by rw [hba]; rfl
  have hne : B.a ≠ [] := by rw [hba]; simp
  have hcl : s.cells.length = 2 := by have := congrArg List.length hr.cl; rw [List.length_map, List.length_map] at this; omega
  have hck : ckOf Tryd.prog 32 = .slc 1 := by kernel_rfl
  refine hget_i hq.cpu (ldI_i ((rc_z hq.rl 2).trans rfl) ⟨B, s, L, hr, sameAt_refl _ _, brS_intro (fun z => absurd z (by simp)) (fun _ => hget_i hq.cpu (ldI_i ((rc_z hq.rl 3).trans rfl) ⟨B, s, L, hr, sameAt_refl _ _, brS_intro (fun z => absurd z (by simp)) (fun _ => hget_i hq.cpu (ldV_i ((rc_z hq.rl 1).trans rfl) ⟨B, s, L, hr, sameAt_refl _ _, brS_intro (fun z => absurd z (by simp)) (fun _ => ?_)⟩))⟩))⟩)
  refine ⟨⟨-1, (by first | rfl | trivial), (by first | rfl | trivial), (by first | rfl | trivial), (by first | rfl | trivial), (by omega), trivial⟩, fun x _ hx => brS_intro (fun c => ?_) (fun c => ?_)⟩
  ·rw [decide_eq_true_eq] at c
   refine brS_intro (fun c2 => ?_) (fun c2 => ?_)
   ·rw [decide_eq_true_eq] at c2
    refine brS_intro (fun c3 => ?_) (fun c3 => ?_)
    ·rw [decide_eq_true_eq] at c3
     refine needS_intro (by simp; omega) (hget_i hq.cpu (ldI_i (n := rg s x) (by rw [Nat.mul_one]; exact rc_reg hq.rl (by omega)) ⟨B, s, L, hr, brS_intro (fun z => ?_) (fun _ => ⟨x + 1, (by first | rfl | trivial), (by first | rfl | trivial), (by rw [IntWalk.i64_in _ (by omega)]), (by first | rfl | trivial), (by omega), (by omega)⟩)⟩))
     rw [if_pos (by omega)] at z
     simp at z
    ·rw [decide_eq_false_iff_not] at c3
     refine ⟨B, s, L, hr, brS_intro (fun z => ?_) (fun _ => ⟨x + 1, (by first | rfl | trivial), (by first | rfl | trivial), (by rw [IntWalk.i64_in _ (by omega)]), (by first | rfl | trivial), (by omega), (by omega)⟩)⟩
     rw [if_neg (by omega)] at z
     simp at z
   ·rw [decide_eq_false_iff_not] at c2
    refine ⟨B, s, L, hr, brS_intro (fun z => ?_) (fun _ => ⟨x + 1, (by first | rfl | trivial), (by first | rfl | trivial), (by rw [IntWalk.i64_in _ (by omega)]), (by first | rfl | trivial), (by omega), (by omega)⟩)⟩
    rw [if_neg (by omega)] at z
    simp at z
  refine ⟨⟨-1, (by first | rfl | trivial), (by first | rfl | trivial), (by first | rfl | trivial), (by first | rfl | trivial), (by omega), trivial⟩, fun x _ hx => hget_i hq.cpu (ldV_i (rc_arr hq.rl hne) (brS_intro (fun c => ?_) (fun c => ?_)))⟩
  ·rw [decide_eq_true_eq] at c
   refine ⟨_, ⟨(x, -1), (by first | rfl | trivial), (by first | rfl | trivial), (by first | rfl | trivial), (by first | rfl | trivial), (by first | rfl | trivial), ⟨(by simp only; omega), (by simp only; omega)⟩, Nat.le_refl _⟩, fun y _ hy hM => ?_⟩
   obtain ⟨y1, y2⟩ := y
   simp only at hy hM
   refine brS_intro (fun d => ?_) (fun d => ?_)
   ·rw [decide_eq_true_eq] at d
    have zz : ¬ (0 <= y1 /\ y1 < (s.cells.length : Int) /\ 0 <= y2 /\ y2 < ((s.cells.getD y1.toNat []).length : Int)) -> (cellV s y1 y2 != 0) = true -> False := fun z q => by
     rw [show cellV s y1 y2 = 0 from if_neg z] at q
     simp at q
    refine brS_intro (fun c2 => ?_) (fun c2 => ?_)
    ·rw [decide_eq_true_eq] at c2
     refine hget_i hq.cpu (ldV_i (rc_arr hq.rl hne) (brS_intro (fun c3 => ?_) (fun c3 => ?_)))
     ·rw [decide_eq_true_eq] at c3
      obtain ⟨j, row, e1, e2, e3, e4, e5, e6⟩ := rarr_at hq (j := y1.toNat) (by omega)
      have hgd : s.cells.getD y1.toNat [] = row := by rw [List.getD_eq_getElem?_getD, e2]; rfl
      refine brS_intro (fun c4 => ?_) (fun c4 => ?_)
      ·rw [decide_eq_true_eq] at c4
       refine hget_i hq.cpu (ldV_i (rc_arr hq.rl hne) (needS_intro (by simp; omega) ?_))
       rw [Nat.mul_one]
       refine ldNH_i e3 (brS_intro (fun c5 => ?_) (fun c5 => ?_))
       ·rw [decide_eq_true_eq] at c5
        refine hget_i hq.cpu (ldV_i (rc_arr hq.rl hne) (needS_intro (by simp; omega) ?_))
        refine ldNH_i e3 (needS_intro (by simp; omega) (hget_i e4 ?_))
        rw [Nat.mul_one, Nat.zero_add]
        refine ldI_i (n := row.getD y2.toNat 0) (by simp [ints, List.getD_eq_getElem?_getD, List.getElem?_eq_getElem (show y2.toNat < row.length by omega)]) ⟨B, s, L, hr, hne, brS_intro (fun z => ?_) (fun _ => ⟨(y1, y2 + 1), (by first | rfl | trivial), (by first | rfl | trivial), (by first | rfl | trivial), (by simp only; rw [IntWalk.i64_in _ (by omega)]), (by first | rfl | trivial), ⟨(by simp only; omega), (by simp only; omega)⟩, (by simp only; omega)⟩)⟩
        rw [show cellV s y1 y2 = row.getD y2.toNat 0 from by unfold cellV; rw [hgd, if_pos (by omega)]] at z
        simp at z
       ·rw [decide_eq_false_iff_not] at c5
        exact ⟨B, s, L, hr, hne, brS_intro (fun z => (zz (by rw [hgd]; omega) z).elim) (fun _ => ⟨(y1, y2 + 1), (by first | rfl | trivial), (by first | rfl | trivial), (by first | rfl | trivial), (by simp only; rw [IntWalk.i64_in _ (by omega)]), (by first | rfl | trivial), ⟨(by simp only; omega), (by simp only; omega)⟩, (by simp only; omega)⟩)⟩
      ·rw [decide_eq_false_iff_not] at c4
       exact ⟨B, s, L, hr, hne, brS_intro (fun z => (zz (by omega) z).elim) (fun _ => ⟨(y1, y2 + 1), (by first | rfl | trivial), (by first | rfl | trivial), (by first | rfl | trivial), (by simp only; rw [IntWalk.i64_in _ (by omega)]), (by first | rfl | trivial), ⟨(by simp only; omega), (by simp only; omega)⟩, (by simp only; omega)⟩)⟩
     ·rw [decide_eq_false_iff_not] at c3
      exact ⟨B, s, L, hr, hne, brS_intro (fun z => (zz (by omega) z).elim) (fun _ => ⟨(y1, y2 + 1), (by first | rfl | trivial), (by first | rfl | trivial), (by first | rfl | trivial), (by simp only; rw [IntWalk.i64_in _ (by omega)]), (by first | rfl | trivial), ⟨(by simp only; omega), (by simp only; omega)⟩, (by simp only; omega)⟩)⟩
    ·rw [decide_eq_false_iff_not] at c2
     exact ⟨B, s, L, hr, hne, brS_intro (fun z => (zz (by omega) z).elim) (fun _ => ⟨(y1, y2 + 1), (by first | rfl | trivial), (by first | rfl | trivial), (by first | rfl | trivial), (by simp only; rw [IntWalk.i64_in _ (by omega)]), (by first | rfl | trivial), ⟨(by simp only; omega), (by simp only; omega)⟩, (by simp only; omega)⟩)⟩
   ·rw [decide_eq_false_iff_not] at d
    exact ⟨y1 + 1, (by first | rfl | trivial), (by first | rfl | trivial), (by simp only; rw [IntWalk.i64_in _ (by omega)]), (by first | rfl | trivial), (by omega), (by omega)⟩
  ·refine ⟨B, s, L, hr, hol, fun ho => ?_, fun ho io eo h' ot nx => ?_⟩
   ·refine hget_i hq.cpu (ldB_i ((rc_z hq.rl 5).trans rfl) (brS_intro (fun z => ?_) (fun z => absurd z (by simp [ho]))))
    obtain ⟨z1, z2, z3⟩ := hz ho
    refine hget_i hq.cpu (ldA_i ((rc_z hq.rl 6).trans rfl) (ldA_i ((rc_z hq.rl 7).trans rfl) (ldA_i ((rc_z hq.rl 8).trans rfl) (ldA_i ((rc_z hq.rl 9).trans rfl) ?_))))
    rw [hck, ho, z1, z2, z3]
    refine ⟨0, 0, 0, 0, 0, 0, [], [], _, _, ⟨rfl, rfl⟩, (by simp), ?_⟩
    rw [sameO_refl]
    exact hk h (fun _ _ => rfl) (Nat.le_refl _)
   ·have hq2 := hq.frame (fun id hi _ => ot id hi) nx
    refine hget_i hq2.cpu (ldB_i ((rc_z hq2.rl 5).trans rfl) (brS_intro (fun z => ?_) (fun z => absurd z (by simp [ho]))))
    refine hget_i hq2.cpu (ldA_i ((rc_z hq2.rl 6).trans rfl) (ldA_i ((rc_z hq2.rl 7).trans rfl) (ldA_i ((rc_z hq2.rl 8).trans rfl) (ldA_i ((rc_z hq2.rl 9).trans rfl) ?_))))
    rw [hck, if_pos ho, nrm_rout]
    refine ⟨_, _, _, _, _, _, s.out, s.out, _, _, ⟨rfl, rfl⟩, (by omega), ?_⟩
    rw [sameO_refl]
    exact hk h' ot nx
 ·exact hk.elim
def cSame := addC 33 kSame cRNew0
theorem okSame : Sound env cSame := sound_add sSame (okRNew0)
def stI : Inv' := atX (Bi × CS × Nat × Heap × Ly × RL × Nat) (fun x => [(15, .v (.ptr 1 0)), (17, .v (.ptr x.2.2.2.2.2.2 0)), (19, .v (.int .i64 x.2.2.1))]) (fun x => []) (fun x => x.2.2.2.1) (fun x => (VB x.1 /\ (∀ z ∈ x.1.w, u32b z) /\ x.1.a = [3, 2] /\ WF x.1 x.2.1 /\ x.2.1.frames.length <= 1 + x.2.2.1 /\ x.2.1.out.length <= x.2.2.1 /\ RG x.2.1 /\ ZS x.2.1) /\ x.2.2.1 <= 60 /\ Rep x.1 x.2.1 x.2.2.2.2.1 1 x.2.2.2.1 /\ RRep x.1 x.2.1 x.2.2.2.2.2.1 x.2.2.2.2.2.2 x.2.2.2.1 /\ DJ x.2.2.2.2.1 x.2.2.2.2.2.1 x.2.2.2.1) (fun x => 60 - x.2.2.1)
def kLSteps (xs : List IV) (h : Heap) (K : IV -> Heap -> Prop) : Prop := match xs with
 | [.vslice none e1 n1 1 c1, .int .i64 f, .int .i64 a, .int .i64 b, .int .i64 w, .int .i64 fuel] => ∃ l : List Int, (n1 = l.length /\ c1 = l.map (IV.int .i64)) /\ (l.length < 4611686018427387904 /\ ∀ a ∈ l, -9223372036854775808 <= a /\ a <= 9223372036854775807) /\ inR w /\ K (.bool true) h
 | _ => False
noncomputable def z9a  := IV.int .i64
noncomputable def z9b (x_1 : Bi × CS × Nat × Heap × Ly × RL × Nat) := x_1.2.2.2
noncomputable def z9c  := [IV.int .i64 2, IV.int .i64 1]
noncomputable def z9d  := [(3 : Int), (2 : Int)]
noncomputable def z9e  := TV.v (.ptr 1 0)
noncomputable abbrev z9f (m : Int) (e : List Int) := (2 : Nat) = e.length /\ [IV.int .i64 0, IV.int .i64 m] = List.map z9a e
noncomputable def z9g  := [IV.int .i64 5, IV.int .i64 2]
noncomputable def z9h  := [IV.int .i64 3, IV.int .i64 2]
noncomputable def z9i  := IV.int .u32
set_option maxRecDepth 100000 in
theorem vLSteps (l : List Int) (e1 : Nat) (f a b w fuel : Int) (h : Heap) (Q : IV -> Heap -> Prop) : dF (stdS cSame) env 9 noU (ic1 10 stI) noI [.vslice none e1 (l).length 1 ((l).map (IV.int .i64)), .int .i64 f, .int .i64 a, .int .i64 b, .int .i64 w, .int .i64 fuel] h Q = (
 needS (pureL [IV.vslice none 0 l.length 1 (List.map z9a l), IV.int .i64 f, IV.int .i64 a, IV.int .i64 b, IV.int .i64 w, IV.int .i64 fuel]) (∃ (l_1 : List Int), (l.length = l_1.length /\ List.map z9a l = List.map z9a l_1) /\ (List.length
 l_1 < 4611686018427387904 /\ ∀ (a : Int), a ∈ l_1 -> (-9223372036854775808 : Int) <= a /\ a <= 9223372036854775807) /\ ∀ (w_1 : List Int) (m : Int), VB (Bi.mk w_1 [(0 : Int), m] [(2 : Int), (1 : Int)] [(5 : Int), (2 : Int)] z9d) -> (∀ (x : Int), x ∈ w_1 -> u32b x) -> w_1.length <= (1000 :
 Nat) -> ((0 : Int) < 2 /\ (2 : Int) < 4611686018427387904) /\ needS (decide (0 <= f % (2 : Int)) && decide (f % (2 : Int) < 2)) (ldIS .i64 z9c (Int.toNat (f % (2 : Int)) * 1) fun n0 => needS (true && (decide (0 <= n0) && decide (n0 <= 2)))
 (∃ (w_2 e : List Int), ∃ (p s : List Int), ∃ (a_4 args : List Int), (w_1.length = w_2.length /\ List.map z9i w_1 = List.map z9i w_2) /\ (z9f m e) /\ ((2 : Nat) = p.length /\ z9c = List.map z9a p) /\ ((2 : Nat) = s.length /\ z9g = List.map
 z9a s) /\ ((2 : Nat) = a_4.length /\ z9h = List.map z9a a_4) /\ (n0.toNat - 0 = args.length /\ List.take ((n0.toNat - 0) * 1) [IV.int .i64 (word a w), IV.int .i64 (word b w)] = List.map z9a args) /\ ((∀ (x : Int), x ∈ w_2 -> u32b x) /\ newErr (Bi.mk w_2
 e p s a_4) (f % (2 : Int)) args (fuel % (12 : Int)) = 0) /\ ∀ (L : Ly) (h' : Heap), Rep (Bi.mk w_2 e p s a_4) (initS (Bi.mk w_2 e p s a_4) (f % (2 : Int)) args (fuel % (12 : Int))) L ((0 : Nat) + 1) h' -> 0 <= Heap.next h' -> ∃ (w_3 e p : List Int),
 ∃ (s a_7 args : List Int), (w_1.length = w_3.length /\ List.map z9i w_1 = List.map z9i w_3) /\ (z9f m e) /\ ((2 : Nat) = p.length /\ z9c = List.map z9a p) /\ ((2 : Nat) = s.length /\ z9g = List.map z9a s) /\ ((2 : Nat) = a_7.length /\ z9h = List.map z9a
 a_7) /\ (n0.toNat - 0 = args.length /\ List.take ((n0.toNat - 0) * 1) [IV.int .i64 (word a w), IV.int .i64 (word b w)] = List.map z9a args) /\ ((∀ (x : Int), x ∈ w_3 -> u32b x) /\ w_3.length <= 1000000 /\ newErr (Bi.mk w_3 e p s a_7) (f % (2 :
 Int)) args (fuel % (12 : Int)) = 0) /\ ((0 : Nat) = 0 /\ (0 : Nat) = 0 /\ (0 : Nat) = 0 /\ (0 : Nat) = 0 /\ (0 : Nat) = 0 /\ (0 : Nat) - ((2 : Nat) - n0.toNat) * 1 = (0 : Nat)) /\ ∀ (h'_1 : Heap), RRep (Bi.mk w_3 e p s a_7) (initS (Bi.mk w_3 e p s
 a_7) (f % (2 : Int)) args (fuel % (12 : Int))) (newRL (Bi.mk w_3 e p s a_7) (Heap.next h')) (Heap.next h' + 1) h'_1 -> (∀ (k : Nat), k < Heap.next h' -> Heap.get h'_1 k = Heap.get h' k) -> Heap.next h' + 2 <= Heap.next h'_1 -> (∃ (x : Bi × CS × Nat × Heap × Ly × RL × Nat), some (TV.v (.ptr
 ((0 : Nat) + 1) (0 : Nat))) = some z9e /\ some (TV.v (.ptr (Heap.next h' + 1) 0)) = some (TV.v (.ptr x.2.2.2.2.2.2 0)) /\ some (TV.v (.int .i64 0)) = some (TV.v (.int .i64 (↑(Prod.fst (Prod.snd
 x.2)) : Int))) /\ h'_1 = x.2.2.2.1 /\ ((VB x.1 /\ (∀ (z : Int), z ∈ Bi.w x.1 -> u32b z) /\ Bi.a x.1 = z9d /\ WF x.1 x.2.1 /\ List.length (CS.frames x.2.1) <= 1 + Prod.fst (Prod.snd (Prod.snd
 x)) /\ List.length (CS.out x.2.1) <= x.2.2.1 /\ RG x.2.1 /\ ZS x.2.1) /\ x.2.2.1 <= 60 /\ Rep x.1 x.2.1 x.2.2.2.2.1 (1 : Nat)
 x.2.2.2.1 /\ RRep x.1 x.2.1 x.2.2.2.2.2.1 x.2.2.2.2.2.2 x.2.2.2.1 /\ DJ (Prod.fst (Prod.snd (Prod.snd
 x.2.2))) x.2.2.2.2.2.1 x.2.2.2.1) /\ True) /\ ∀ (x : Bi × CS × Nat × Heap × Ly × RL × Nat) (b : FF), (VB x.1 /\ (∀ (z : Int), z ∈ Bi.w x.1 -> u32b z) /\ Bi.a x.1 = z9d /\ WF
 x.1 x.2.1 /\ List.length (CS.frames x.2.1) <= 1 + x.2.2.1 /\ List.length (CS.out x.2.1) <= x.2.2.1 /\ RG x.2.1 /\ ZS x.2.1) /\ Prod.fst (Prod.snd (Prod.snd
 x)) <= 60 /\ Rep x.1 x.2.1 x.2.2.2.2.1 (1 : Nat) x.2.2.2.1 /\ RRep x.1 x.2.1 x.2.2.2.2.2.1 (Prod.snd (Prod.snd
 x.2.2.2.2)) x.2.2.2.1 /\ DJ x.2.2.2.2.1 x.2.2.2.2.2.1 x.2.2.2.1 -> brS (decide ((↑(Prod.fst (Prod.snd
 x.2)) : Int) < 60)) (∃ (B : Bi), ∃ (s : CS), ∃ (L : Ly), ∃ (R : RL), (Rep B s L (1 : Nat) x.2.2.2.1 /\ RRep B s R x.2.2.2.2.2.2 x.2.2.2.1) /\ (List.length (CS.out
 s) <= 1000000 /\ Bi.a B = z9d /\ ZS s) /\ ∀ (h' : Heap), (∀ (k : Nat), k < Heap.next x.2.2.2.1 -> Heap.get h' k = Heap.get x.2.2.2.1 k) -> Heap.next x.2.2.2.1 <= Heap.next h' -> ∃ (B : Bi), ∃ (s
 : CS), ∃ (L : Ly), Rep B s L (1 : Nat) h' /\ (VB B /\ (∀ (x : Int), x ∈ Bi.w B -> u32b x) /\ WF B s /\ List.length (CS.out s) <= 1000000 /\ List.length (CS.frames s) <= 1000000) /\ ∀ (L' : Ly) (h'_2 : Heap), Rep B (stepS B s) L' (1 : Nat) h'_2 -> Frm L L' h' h'_2 -> ∃ (B : Bi), ∃ (s_1 : CS), ∃ (R
 : RL), RRep B s_1 R x.2.2.2.2.2.2 h'_2 /\ (VB B /\ (∀ (x : Int), x ∈ Bi.w B -> u32b x) /\ WF B s_1 /\ RG s_1 /\ List.length (CS.out s_1) <= 1000000 /\ List.length (CS.frames s_1) <= 1000000) /\ ∀ (R' : RL) (h' : Heap), RRep B (stepS B s_1) R'
 x.2.2.2.2.2.2 h' -> FrmR (RL.r R) (RL.r R') h'_2 h' -> brS (!(!CS.over s) == !CS.over s_1) (Q (.bool false) h) (∃ (x_1 : Bi × CS × Nat × Heap × Ly × RL × Nat), some z9e = some z9e /\ some (TV.v (.ptr (Prod.snd (Prod.snd (Prod.snd (Prod.snd (Prod.snd
 x.2))))) 0)) = some (TV.v (.ptr (Prod.snd (Prod.snd (Prod.snd (z9b x_1)))) 0)) /\ some (TV.v (.int .i64 (IntKind.wrap .i64 ((↑x.2.2.1 : Int) + 1)))) = some (TV.v (.int .i64 (↑x_1.2.2.1 : Int)))
 /\ h' = Prod.fst (z9b x_1) /\ ((VB x_1.1 /\ (∀ (z : Int), z ∈ Bi.w x_1.1 -> u32b z) /\ Bi.a x_1.1 = z9d /\ WF x_1.1 x_1.2.1 /\ List.length (CS.frames x_1.2.1) <= 1 + x_1.2.2.1 /\ List.length (CS.out (Prod.fst
 x_1.2)) <= x_1.2.2.1 /\ RG x_1.2.1 /\ ZS x_1.2.1) /\ x_1.2.2.1 <= 60 /\ Rep x_1.1 x_1.2.1 (Prod.fst (Prod.snd (z9b x_1))) (1 : Nat) (Prod.fst (z9b x_1)) /\ RRep x_1.1 (Prod.fst
 x_1.2) (Prod.fst (Prod.snd (Prod.snd (z9b x_1)))) (Prod.snd (Prod.snd (Prod.snd (z9b x_1)))) (Prod.fst (z9b x_1)) /\ DJ (Prod.fst (Prod.snd (z9b x_1))) (Prod.fst (Prod.snd (Prod.snd (z9b x_1)))) (Prod.fst (z9b x_1))) /\ (60 : Nat) - x_1.2.2.1 < 60 - Prod.fst (Prod.snd
 x.2))) (∃ (B : Bi), ∃ (s : CS), ∃ (L : Ly), ∃ (R : RL), (Rep B s L (1 : Nat) x.2.2.2.1 /\ RRep B s R x.2.2.2.2.2.2 x.2.2.2.1) /\ (List.length (CS.out s) <= 1000000
 /\ Bi.a B = z9d /\ ZS s) /\ ∀ (h' : Heap), (∀ (k : Nat), k < Heap.next x.2.2.2.1 -> Heap.get h' k = Heap.get x.2.2.2.1 k) -> Heap.next x.2.2.2.1 <= Heap.next h' -> Q (.bool true) h))))) := by kernel_rfl
set_option maxHeartbeats 8000000 in
set_option maxRecDepth 100000 in
theorem sLSteps : ∀ xs h Q, kLSteps xs h Q -> CallW env 9 xs h Q := by
 intro xs h Q hk
 unfold kLSteps at hk
 split at hk
 ·rename_i e1 n1 c1 f a b w fuel
  obtain ⟨l, ⟨rfl, rfl⟩, hl, hwr, hk⟩ := hk
  refine dF_run (okSame) (vLSteps l e1 f a b w fuel h Q) ?_
  delta z9a z9b z9c z9d z9e z9f z9g z9h z9i
  obtain ⟨hl1, hl2⟩ := hl
  refine needS_intro (by simp only [pureL, pureB, pureL_ints, Bool.and_true]) ⟨l, ⟨rfl, rfl⟩, ⟨hl1, hl2⟩, fun w1 m hv hw hwl => ⟨by omega, arg2 (x := word a w) (y := word b w) (f01 f) fun n0 hn ht => ?_⟩⟩
  have mk : ∀ (f' x y fuel : Int), (f' = 0 \/ f' = 1) -> (0 <= fuel /\ fuel <= 1000) -> newErr ⟨w1, [0, m], [2, 1], [5, 2], [3, 2]⟩ f' (aL f' x y) fuel = 0 := fun f' x y fuel h1 h2 => err2 hv h1 h2
  have hga := aL_in (f := f % 2) (a := a) (b := b) hwr
  have he := mk (f % 2) (word a w) (word b w) (fuel % 12) (f01 f) (by omega)
  have ok := err_ok he
  have wf0 := wf_init hv ok.2.1 ok.2.2.2.2 (fuel % 12)
  refine ⟨w1, [0, m], [2, 1], [5, 2], [3, 2], aL (f % 2) (word a w) (word b w), ⟨rfl, rfl⟩, ⟨rfl, rfl⟩, ⟨rfl, rfl⟩, ⟨rfl, rfl⟩, ⟨rfl, rfl⟩, ⟨hn, ht⟩, ⟨hw, he⟩, fun L0 h0 hr0 _ => ⟨w1, [0, m], [2, 1], [5, 2], [3, 2], aL (f % 2) (word a w) (word b w), ⟨rfl, rfl⟩, ⟨rfl, rfl⟩, ⟨rfl, rfl⟩, ⟨rfl, rfl⟩, ⟨rfl, rfl⟩, ⟨hn, ht⟩, ⟨hw, by omega, he⟩, ⟨rfl, rfl, rfl, rfl, rfl, Nat.zero_sub _⟩, fun h1 hq0 ot1 nx1 => ?_⟩⟩
  obtain ⟨hr1, dj1⟩ := dj_new (h' := h1) hr0 ot1 (by omega)
  refine ⟨⟨(⟨w1, [0, m], [2, 1], [5, 2], [3, 2]⟩, initS ⟨w1, [0, m], [2, 1], [5, 2], [3, 2]⟩ (f % 2) (aL (f % 2) (word a w) (word b w)) (fuel % 12), 0, h1, clipL L0 h0.next, newRL ⟨w1, [0, m], [2, 1], [5, 2], [3, 2]⟩ h0.next, h0.next + 1), (by first | rfl | trivial), (by first | rfl | trivial), (by first | rfl | trivial), (by first | rfl | trivial), ⟨⟨hv, hw, rfl, wf0, Nat.le_refl _, Nat.le_refl _, rg_init hga, fun _ => ⟨rfl, rfl, rfl⟩⟩, Nat.zero_le _, hr1, hq0, dj1⟩, trivial⟩, fun x _ hx => ?_⟩
  clear hv hw wf0 ok hr0 hr1 dj1 hq0 he mk hwl hn ht hga
  obtain ⟨B, s, n, hp, L, R, idr⟩ := x
  obtain ⟨⟨hv, hw, ha, wf, hfl, hol, hg, hz⟩, hn, hr, hq, dj⟩ := hx
  simp only at hv hw ha wf hfl hol hg hz hn hr hq dj ⊢
  refine brS_intro (fun y => ?_) (fun _ => ⟨B, s, L, R, ⟨hr, hq⟩, ⟨(by omega), ha, hz⟩, fun _ _ _ => hk⟩)
  have hn60 : n < 60 := by have y : (n : Int) < 60 := by simpa using y
                           omega
  refine ⟨B, s, L, R, ⟨hr, hq⟩, ⟨(by omega), ha, hz⟩, fun h2 ot2 nx2 => ?_⟩
  obtain ⟨hr2, hq2, dj2⟩ := dj_same hr hq dj ot2 nx2
  refine ⟨B, s, _, hr2, ⟨hv, hw, wf, by omega, by omega⟩, fun L3 h3 hr3 f3 => ?_⟩
  obtain ⟨hq3, dj3⟩ := dj_stepL hq2 dj2 f3
  refine ⟨B, s, _, hq3, ⟨hv, hw, wf, hg, by omega, by omega⟩, fun R4 h4 hq4 f4 => ?_⟩
  obtain ⟨hr4, dj4⟩ := dj_stepR hr3 dj3 f4
  have ls := lens_step B s
  have wf1 := wf_step hv hw wf
  obtain ⟨i1, i2, i3, i4⟩ := ins_ok hv hw wf.pc
  have hg1 : RG (stepS B s) := rg_step hg (ins_in i1)
  exact brS_intro (fun z => absurd z (by simp)) (fun _ => ⟨(B, stepS B s, n + 1, h4, clipL L3 h3.next, R4, idr), (by first | rfl | trivial), (by first | rfl | trivial), (by simp only; rw [IntWalk.i64_in _ (by omega)]; rfl), (by first | rfl | trivial), ⟨⟨hv, hw, ha, wf1, (by simp only; omega), (by simp only; omega), hg1, z_step B hz⟩, (by simp only; omega), hr4, hq4, dj4⟩, (by simp only; omega)⟩)
 ·exact hk.elim
def cLSteps := addC 9 kLSteps cSame
theorem okLSteps : Sound env cLSteps := sound_add sLSteps (okSame)
end Go.Proofs.YtlenjfbmpekabaaDoor
end
