import Derived.Test.YtlenjfbmpekabaaDoorX31
import Derived.Test.YtlenjfbmpekabaaDoorNP31
import Derived.KernelRfl
set_option linter.unusedVariables false
set_option linter.unusedSimpArgs false
namespace Go.Proofs.YtlenjfbmpekabaaDoor
open Go.Pv Go.M29 Go.M30 Go.M31 Go.M13
theorem ldI_i {k : IntKind} {cs : List IV} {o : Nat} {n : Int} {K : Int -> Prop} (e : cs[o]? = some (.int k n)) (hk : K n) : ldIS k cs o K := by
 unfold ldIS; rw [e]; simp only [if_true]; exact hk
theorem ldB_i {cs : List IV} {o : Nat} {b : Bool} {K : Bool -> Prop} (e : cs[o]? = some (.bool b)) (hk : K b) : ldBS cs o K := by
 unfold ldBS; rw [e]; exact hk
theorem ldV_i {z : Nat} {cs : List IV} {o : Nat} {i : Option Nat} {e l : Nat} {c : List IV} {K : Option Nat -> Nat -> Nat -> List IV -> Prop} (h : cs[o]? = some (.vslice i e l z c)) (hk : K i e l c) : ldVS z cs o K := by
 unfold ldVS; rw [h]; simp only [if_true]; exact hk
theorem ldNH_i {z : Nat} {cs : List IV} {o i f l : Nat} {A : Prop} {K : Nat -> Nat -> Nat -> Prop} (h : cs[o]? = some (.hslice i f l z)) (hk : K i f l) : ldNHS z cs o A K := by
 unfold ldNHS; rw [h]; simp only [if_true]; exact hk
theorem ldNH_n {z : Nat} {cs : List IV} {o : Nat} {A : Prop} {K : Nat -> Nat -> Nat -> Prop} (h : cs[o]? = some .nilslice) (hk : A) : ldNHS z cs o A K := by
 unfold ldNHS; rw [h]; exact hk
theorem ldNV_n {z : Nat} {cs : List IV} {o : Nat} {A : Prop} {K : Nat -> Nat -> Nat -> List IV -> Prop} (h : cs[o]? = some .nilslice) (hk : A) : ldNVS z cs o A K := by
 unfold ldNVS; rw [h]; exact hk
theorem ldNV_i {z : Nat} {cs : List IV} {o i e l : Nat} {c : List IV} {A : Prop} {K : Nat -> Nat -> Nat -> List IV -> Prop} (h : cs[o]? = some (.vslice (some i) e l z c)) (hk : K i e l c) : ldNVS z cs o A K := by
 unfold ldNVS; rw [h]; simp only [if_true]; exact hk
theorem ldP_i {cs : List IV} {o i f : Nat} {K : Nat -> Nat -> Prop} (h : cs[o]? = some (.ptr i f)) (hk : K i f) : ldPS cs o K := by
 unfold ldPS; rw [h]; exact hk
theorem ldA_i {cs : List IV} {o : Nat} {v : IV} {K : IV -> Prop} (h : cs[o]? = some v) (hk : K v) : ldAS cs o K := by
 unfold ldAS; rw [h]; exact hk
theorem ldR {B : Bi} {s : CS} {L : Ly} {id : Nat} {h : Heap} {a : Int} {K : Int -> Prop} (hr : Rep B s L id h) (ha : 0 <= a /\ a <= 7) (hk : K (rg s a)) : needS (decide (0 <= a) && decide (a < 8)) (hgetS h id fun r => ldIS .i64 r (5 + a.toNat * 1) K) :=
 needS_intro (by simp; omega) (hget_i hr.cpu (ldI_i (by rw [Nat.mul_one]; exact cpu_reg hr.rl ha) hk))
theorem stR {B : Bi} {s : CS} {L : Ly} {id : Nat} {h : Heap} {a v : Int} {Q : Heap -> Prop} (hr : Rep B s L id h) (ha : 0 <= a /\ a <= 7) (hq : ∀ h', Rep B (setR s a v) L id h' -> Frm L L h h' -> Q h') :
  needS (decide (0 <= a) && decide (a < 8)) (hgetS h id fun r => needS (Nat.ble (5 + a.toNat * 1 + 1) r.length) (Q (h.set id (.cells (r.take (5 + a.toNat * 1) ++ [.int .i64 v] ++ r.drop (5 + a.toNat * 1 + 1)))))) := by
 refine needS_intro (by simp; omega) (hget_i hr.cpu (needS_intro (by simp only [Nat.ble_eq, cpu_len2, hr.rl]; omega) ?_))
 rw [Nat.mul_one, store_set (by simp only [cpu_len2, hr.rl]; omega), cpu_setreg hr.rl ha]
 exact hq _ (hr.setc rfl rfl rfl (by simp [setR, hr.rl])) (frm_set (by rw [hr.cpur.1]; simp))
def kWUn (xs : List IV) (h : Heap) (K : IV -> Heap -> Prop) : Prop := match xs with
 | [.int .i64 o, .int .i64 a] => K (.int .i64 (wun o a)) h
 | _ => False
set_option maxRecDepth 100000 in
theorem vWUn (o a : Int) (h : Heap) (Q : IV -> Heap -> Prop) : dF (stdS cBinary) env 73 noU noI noI [.int .i64 o, .int .i64 a] h Q = (
 brS (o == 20) (Q (.int .i64 (IntKind.wrap .i64 ((0 : Int) - a))) h) (brS (o == 21) (Q (.int .i64 (bvXor .i64 (-1 : Int) a)) h) (Q (.int .i64 0) h))) := by kernel_rfl
theorem sWUn : ∀ xs h Q, kWUn xs h Q -> CallW env 73 xs h Q := by
 intro xs h Q hk
 unfold kWUn at hk
 split at hk
 ·rename_i o a
  refine dF_run (okBinary) (vWUn o a h Q) ?_
  repeat' (first | refine needS_intro ?_ ?_ | refine brS_intro (fun _ => ?_) (fun _ => ?_) | refine And.intro ?_ ?_)
  all_goals first | exact hk | (simp only [decide_eq_true_eq]; exact shBy_nonneg _) | (simp_all; done) | (refine q_eq hk ?_; congr 1; (try simp only [beq_iff_eq, beq_eq_false_iff_ne, ne_eq] at *); unfold wun; (repeat (first | rw [if_pos (by assumption)] | rw [if_neg (by assumption)])); first | done | rfl)
 ·exact hk.elim
def cWUn := addC 73 kWUn cBinary
theorem okWUn : Sound env cWUn := sound_add sWUn (okBinary)
def kQuot (xs : List IV) (h : Heap) (K : IV -> Heap -> Prop) : Prop := match xs with
 | [.int .i64 a, .int .i64 b] => K (.int .i64 (quot a b)) h
 | _ => False
set_option maxRecDepth 100000 in
theorem vQuot (a b : Int) (h : Heap) (Q : IV -> Heap -> Prop) : dF (stdS cWUn) env 83 noU noI noI [.int .i64 a, .int .i64 b] h Q = (
 brS (b == 0) (Q (.int .i64 0) h)
 (brS (b == (-1 : Int)) (Q (.int .i64 (IntKind.wrap .i64 ((0 : Int) - a))) h) (needS (!b == 0) (Q (.int .i64 (IntKind.wrap .i64 (Int.tdiv a b))) h)))) := by kernel_rfl
theorem sQuot : ∀ xs h Q, kQuot xs h Q -> CallW env 83 xs h Q := by
 intro xs h Q hk
 unfold kQuot at hk
 split at hk
 ·rename_i a b
  refine dF_run (okWUn) (vQuot a b h Q) ?_
  repeat' (first | refine needS_intro ?_ ?_ | refine brS_intro (fun _ => ?_) (fun _ => ?_) | refine And.intro ?_ ?_)
  all_goals first | exact hk | (simp only [decide_eq_true_eq]; exact shBy_nonneg _) | (simp_all; done) | (refine q_eq hk ?_; congr 1; (try simp only [beq_iff_eq, beq_eq_false_iff_ne, ne_eq] at *); unfold quot; (repeat (first | rw [if_pos (by assumption)] | rw [if_neg (by assumption)])); first | done | rfl)
 ·exact hk.elim
def cQuot := addC 83 kQuot cWUn
theorem okQuot : Sound env cQuot := sound_add sQuot (okWUn)
def kTruth (xs : List IV) (h : Heap) (K : IV -> Heap -> Prop) : Prop := match xs with
 | [.bool b] => K (.int .i64 (truth b)) h
 | _ => False
set_option maxRecDepth 100000 in
theorem vTruth (b : Bool) (h : Heap) (Q : IV -> Heap -> Prop) : dF (stdS cQuot) env 85 noU noI noI [.bool b] h Q = (
 brS b (Q (.int .i64 1) h) (Q (.int .i64 0) h)) := by kernel_rfl
theorem sTruth : ∀ xs h Q, kTruth xs h Q -> CallW env 85 xs h Q := by
 intro xs h Q hk
 unfold kTruth at hk
 split at hk
 ·rename_i b
  refine dF_run (okQuot) (vTruth b h Q) ?_
  repeat' (first | refine needS_intro ?_ ?_ | refine brS_intro (fun _ => ?_) (fun _ => ?_) | refine And.intro ?_ ?_)
  all_goals (refine q_eq hk ?_; simp_all [truth])
 ·exact hk.elim
def cTruth := addC 85 kTruth cQuot
theorem okTruth : Sound env cTruth := sound_add sTruth (okQuot)
def kShCmp (xs : List IV) (h : Heap) (K : IV -> Heap -> Prop) : Prop := match xs with
 | [.int .i64 o, .int .i64 a, .int .i64 b] => K (.int .i64 (shcmp o a b)) h
 | _ => False
set_option maxRecDepth 100000 in
theorem vShCmp (o a b : Int) (h : Heap) (Q : IV -> Heap -> Prop) : dF (stdS cTruth) env 84 noU noI noI [.int .i64 o, .int .i64 a, .int .i64 b] h Q = (
 brS (o == 12)
 (needS (decide (0 <= IntKind.wrap .u64 (bvAnd .i64 b 63)))
 (Q (.int .i64 (IntKind.wrap .i64 (a * (2 : Int) ^ min (Int.toNat (IntKind.wrap .u64 (bvAnd .i64 b 63))) (64 : Nat)))) h))
 (brS (o == 13)
 (needS (decide (0 <= IntKind.wrap .u64 (bvAnd .i64 b 63)))
 (Q (.int .i64 (IntKind.wrap .i64 (Int.fdiv (IntKind.wrap .u64 a) ((2 : Int) ^ min (Int.toNat (IntKind.wrap .u64 (bvAnd .i64 b 63))) (64 : Nat))))) h))
 (brS (o == 14)
 (needS (decide (0 <= IntKind.wrap .u64 (bvAnd .i64 b 63))) (Q (.int .i64 (Int.fdiv a ((2 : Int) ^ min (Int.toNat (IntKind.wrap .u64 (bvAnd .i64 b 63))) (64 : Nat)))) h))
 (brS (o == 15) (Q (.int .i64 (truth (a == b))) h)
 (brS (o == 16) (Q (.int .i64 (truth (a != b))) h)
 (brS (o == 17) (Q (.int .i64 (truth (decide (a < b)))) h)
 (brS (o == 18) (Q (.int .i64 (truth (decide (a <= b)))) h)
 (brS (o == 19) (Q (.int .i64 (truth (decide (IntKind.wrap .u64 a < IntKind.wrap .u64 b)))) h) (Q (.int .i64 0) h))))))))) := by kernel_rfl
theorem sShCmp : ∀ xs h Q, kShCmp xs h Q -> CallW env 84 xs h Q := by
 intro xs h Q hk
 unfold kShCmp at hk
 split at hk
 ·rename_i o a b
  refine dF_run (okTruth) (vShCmp o a b h Q) ?_
  repeat' (first | refine needS_intro ?_ ?_ | refine brS_intro (fun _ => ?_) (fun _ => ?_) | refine And.intro ?_ ?_)
  all_goals first | exact hk | (simp only [decide_eq_true_eq]; exact shBy_nonneg _) | (simp_all; done) | (refine q_eq hk ?_; congr 1; (try simp only [beq_iff_eq, beq_eq_false_iff_ne, ne_eq] at *); unfold shcmp; (repeat (first | rw [if_pos (by assumption)] | rw [if_neg (by assumption)])); first | done | rfl)
 ·exact hk.elim
def cShCmp := addC 84 kShCmp cTruth
theorem okShCmp : Sound env cShCmp := sound_add sShCmp (okTruth)
def kWBin (xs : List IV) (h : Heap) (K : IV -> Heap -> Prop) : Prop := match xs with
 | [.int .i64 o, .int .i64 a, .int .i64 b] => K (.int .i64 (wbin o a b)) h
 | _ => False
set_option maxRecDepth 100000 in
theorem vWBin (o a b : Int) (h : Heap) (Q : IV -> Heap -> Prop) : dF (stdS cShCmp) env 76 noU noI noI [.int .i64 o, .int .i64 a, .int .i64 b] h Q = (
 brS (o == 4) (Q (.int .i64 (IntKind.wrap .i64 (a + b))) h)
 (brS (o == 5) (Q (.int .i64 (IntKind.wrap .i64 (a - b))) h)
 (brS (o == 6) (Q (.int .i64 (IntKind.wrap .i64 (a * b))) h)
 (brS (o == 7) (Q (.int .i64 (quot a b)) h)
 (brS (o == 8) (brS (b == 0) (Q (.int .i64 0) h) (Q (.int .i64 (IntKind.wrap .i64 (a - IntKind.wrap .i64 (quot a b * b)))) h))
 (brS (o == 9) (Q (.int .i64 (bvAnd .i64 a b)) h)
 (brS (o == 10) (Q (.int .i64 (bvOr .i64 a b)) h) (brS (o == 11) (Q (.int .i64 (bvXor .i64 a b)) h) (Q (.int .i64 (shcmp o a b)) h))))))))) := by kernel_rfl
theorem sWBin : ∀ xs h Q, kWBin xs h Q -> CallW env 76 xs h Q := by
 intro xs h Q hk
 unfold kWBin at hk
 split at hk
 ·rename_i o a b
  refine dF_run (okShCmp) (vWBin o a b h Q) ?_
  repeat' (first | refine needS_intro ?_ ?_ | refine brS_intro (fun _ => ?_) (fun _ => ?_) | refine And.intro ?_ ?_)
  all_goals first | exact hk | (simp only [decide_eq_true_eq]; exact shBy_nonneg _) | (simp_all; done) | (refine q_eq hk ?_; congr 1; (try simp only [beq_iff_eq, beq_eq_false_iff_ne, ne_eq] at *); unfold wbin; (repeat (first | rw [if_pos (by assumption)] | rw [if_neg (by assumption)])); first | done | rfl)
 ·exact hk.elim
def cWBin := addC 76 kWBin cShCmp
theorem okWBin : Sound env cWBin := sound_add sWBin (okShCmp)
def kCStop (xs : List IV) (h : Heap) (K : IV -> Heap -> Prop) : Prop := match xs with
 | [.ptr id 0, .int .i64 kd, .int .i64 cd, .int .i64 v] => ∃ (B : Bi) (s : CS) (L : Ly), Rep B s L id h /\ K (.tuple []) (h.set id (.cells (cpuC B (stopS s kd cd v) L)))
 | _ => False
set_option maxRecDepth 100000 in
theorem vCStop (id : Nat) (kd cd v : Int) (h : Heap) (Q : IV -> Heap -> Prop) : dF (stdS cWBin) env 56 noU noI noI [.ptr id 0, .int .i64 kd, .int .i64 cd, .int .i64 v] h Q = (
 hgetS h id fun r0 =>
 needS (Nat.ble 17 r0.length)
 (hgetS (Heap.set h id (IObj.cells (List.take 16 r0 ++ [IV.bool true] ++ List.drop 17 r0))) id fun r1 =>
 needS (Nat.ble 18 r1.length)
 (hgetS (Heap.set (Heap.set h id (IObj.cells (List.take 16 r0 ++ [IV.bool true] ++ List.drop 17 r0))) id (IObj.cells (List.take 17 r1 ++ [IV.int .i64 kd] ++ List.drop 18 r1))) id
 fun r2 =>
 needS (Nat.ble 19 r2.length)
 (hgetS
 (Heap.set (Heap.set (Heap.set h id (IObj.cells (List.take 16 r0 ++ [IV.bool true] ++ List.drop 17 r0))) id (IObj.cells (List.take 17 r1 ++ [IV.int .i64 kd] ++ List.drop 18 r1))) id
 (IObj.cells (List.take 18 r2 ++ [IV.int .i64 cd] ++ List.drop 19 r2)))
 id fun r3 =>
 needS (Nat.ble 21 r3.length)
 (Q (.tuple [])
 (Heap.set
 (Heap.set (Heap.set (Heap.set h id (IObj.cells (List.take 16 r0 ++ [IV.bool true] ++ List.drop 17 r0))) id (IObj.cells (List.take 17 r1 ++ [IV.int .i64 kd] ++ List.drop 18 r1))) id
 (IObj.cells (List.take 18 r2 ++ [IV.int .i64 cd] ++ List.drop 19 r2)))
 id (IObj.cells (List.take 20 r3 ++ [IV.int .i64 v] ++ List.drop 21 r3)))))))) := by kernel_rfl
theorem sCStop : ∀ xs h Q, kCStop xs h Q -> CallW env 56 xs h Q := by
 intro xs h Q hk
 unfold kCStop at hk
 split at hk
 ·rename_i id kd cd v
  obtain ⟨B, s, L, hr, hk⟩ := hk
  refine dF_run (okWBin) (vCStop id kd cd v h Q) ?_
  have gs : ∀ (g : Heap) (x : IObj), (g.set id x).get id = x := fun g x => by rw [get_set, if_pos rfl]
  refine hget_i hr.cpu (needS_intro (by simp only [Nat.ble_eq, cpu_len2, hr.rl]; omega) ?_)
  rw [store_set (by simp only [cpu_len2, hr.rl]; omega), cpu_setz hr.rl 3 (.bool true) { s with over := true } L rfl rfl rfl]
  refine hget_i (gs _ _) (needS_intro (by simp only [Nat.ble_eq, cpu_len2, hr.rl]; omega) ?_)
  rw [Heap.set_set, store_set (by simp only [cpu_len2, hr.rl]; omega), cpu_setz (s := { s with over := true }) hr.rl 4 (.int .i64 kd) { s with over := true, kind := kd } L rfl rfl rfl]
  refine hget_i (gs _ _) (needS_intro (by simp only [Nat.ble_eq, cpu_len2, hr.rl]; omega) ?_)
  rw [Heap.set_set, store_set (by simp only [cpu_len2, hr.rl]; omega), cpu_setz (s := { s with over := true, kind := kd }) hr.rl 5 (.int .i64 cd) { s with over := true, kind := kd, code := cd } L rfl rfl rfl]
  refine hget_i (gs _ _) (needS_intro (by simp only [Nat.ble_eq, cpu_len2, hr.rl]; omega) ?_)
  rw [Heap.set_set, store_set (by simp only [cpu_len2, hr.rl]; omega), cpu_setz (s := { s with over := true, kind := kd, code := cd }) hr.rl 7 (.int .i64 v) (stopS s kd cd v) L rfl rfl rfl]
  exact hk
 ·exact hk.elim
def cCStop := addC 56 kCStop cWBin
theorem okCStop : Sound env cCStop := sound_add sCStop (okWBin)
def kCPC (xs : List IV) (h : Heap) (K : IV -> Heap -> Prop) : Prop := match xs with
 | [.ptr id 0] => ∃ (B : Bi) (s : CS) (L : Ly), Rep B s L id h /\ K (.int .i64 s.pc) h
 | _ => False
set_option maxRecDepth 100000 in
theorem vCPC (id : Nat) (h : Heap) (Q : IV -> Heap -> Prop) : dF (stdS cCStop) env 29 noU noI noI [.ptr id 0] h Q = (
 hgetS h id fun r0 => ldIS .i64 r0 14 fun n1 => Q (.int .i64 n1) h) := by kernel_rfl
theorem sCPC : ∀ xs h Q, kCPC xs h Q -> CallW env 29 xs h Q := by
 intro xs h Q hk
 unfold kCPC at hk
 split at hk
 ·rename_i id
  obtain ⟨B, s, L, hr, hk⟩ := hk
  refine dF_run (okCStop) (vCPC id h Q) ?_
  refine hget_i hr.cpu (ldI_i ((cpu_z hr.rl 1).trans rfl) ?_)
  exact hk
 ·exact hk.elim
def cCPC := addC 29 kCPC cCStop
theorem okCPC : Sound env cCPC := sound_add sCPC (okCStop)
def kCFuel (xs : List IV) (h : Heap) (K : IV -> Heap -> Prop) : Prop := match xs with
 | [.ptr id 0] => ∃ (B : Bi) (s : CS) (L : Ly), Rep B s L id h /\ K (.int .i64 s.fuel) h
 | _ => False
set_option maxRecDepth 100000 in
theorem vCFuel (id : Nat) (h : Heap) (Q : IV -> Heap -> Prop) : dF (stdS cCPC) env 30 noU noI noI [.ptr id 0] h Q = (
 hgetS h id fun r0 => ldIS .i64 r0 15 fun n1 => Q (.int .i64 n1) h) := by kernel_rfl
theorem sCFuel : ∀ xs h Q, kCFuel xs h Q -> CallW env 30 xs h Q := by
 intro xs h Q hk
 unfold kCFuel at hk
 split at hk
 ·rename_i id
  obtain ⟨B, s, L, hr, hk⟩ := hk
  refine dF_run (okCPC) (vCFuel id h Q) ?_
  refine hget_i hr.cpu (ldI_i ((cpu_z hr.rl 2).trans rfl) ?_)
  exact hk
 ·exact hk.elim
def cCFuel := addC 30 kCFuel cCPC
theorem okCFuel : Sound env cCFuel := sound_add sCFuel (okCPC)
def kCDepth (xs : List IV) (h : Heap) (K : IV -> Heap -> Prop) : Prop := match xs with
 | [.ptr id 0] => ∃ (B : Bi) (s : CS) (L : Ly), Rep B s L id h /\ K (.int .i64 s.frames.length) h
 | _ => False
set_option maxRecDepth 100000 in
theorem vCDepth (id : Nat) (h : Heap) (Q : IV -> Heap -> Prop) : dF (stdS cCFuel) env 32 noU noI noI [.ptr id 0] h Q = (
 hgetS h id fun r0 => ldNHS 1 r0 13 False fun (i1 o2 l3 : Nat) => Q (.int .i64 (↑l3 : Int)) h) := by kernel_rfl
theorem sCDepth : ∀ xs h Q, kCDepth xs h Q -> CallW env 32 xs h Q := by
 intro xs h Q hk
 unfold kCDepth at hk
 split at hk
 ·rename_i id
  obtain ⟨B, s, L, hr, hk⟩ := hk
  refine dF_run (okCFuel) (vCDepth id h Q) ?_
  refine hget_i hr.cpu (ldNH_i ((cpu_z hr.rl 0).trans rfl) ?_)
  exact hk
 ·exact hk.elim
def cCDepth := addC 32 kCDepth cCFuel
theorem okCDepth : Sound env cCDepth := sound_add sCDepth (okCFuel)
def kCReg (xs : List IV) (h : Heap) (K : IV -> Heap -> Prop) : Prop := match xs with
 | [.ptr id 0, .int .i64 a] => ∃ (B : Bi) (s : CS) (L : Ly), Rep B s L id h /\ K (.int .i64 (if 0 <= a /\ a <= 7 then rg s a else 0)) h
 | _ => False
set_option maxRecDepth 100000 in
theorem vCReg (id : Nat) (a : Int) (h : Heap) (Q : IV -> Heap -> Prop) : dF (stdS cCDepth) env 31 noU noI noI [.ptr id 0, .int .i64 a] h Q = (
 brS (decide (a < 0)) (Q (.int .i64 0) h)
 (brS (decide (a >= 8)) (Q (.int .i64 0) h)
 (needS (decide (0 <= a) && decide (a < 8)) (hgetS h id fun r0 => ldIS .i64 r0 ((5 : Nat) + a.toNat * 1) fun n1 => Q (.int .i64 n1) h)))) := by kernel_rfl
theorem sCReg : ∀ xs h Q, kCReg xs h Q -> CallW env 31 xs h Q := by
 intro xs h Q hk
 unfold kCReg at hk
 split at hk
 ·rename_i id a
  obtain ⟨B, s, L, hr, hk⟩ := hk
  refine dF_run (okCDepth) (vCReg id a h Q) ?_
  refine brS_intro (fun c => ?_) (fun c1 => brS_intro (fun c => ?_) (fun c2 => ?_))
  ·rw [decide_eq_true_eq] at c
   rw [if_neg (by omega)] at hk
   exact hk
  ·rw [decide_eq_true_eq] at c
   rw [if_neg (by omega)] at hk
   exact hk
  ·rw [decide_eq_false_iff_not] at c1 c2
   rw [if_pos (by omega)] at hk
   refine needS_intro (by simp; omega) (hget_i hr.cpu (ldI_i ?_ hk))
   rw [Nat.mul_one]
   exact cpu_reg hr.rl (by omega)
 ·exact hk.elim
def cCReg := addC 31 kCReg cCDepth
theorem okCReg : Sound env cCReg := sound_add sCReg (okCDepth)
end Go.Proofs.YtlenjfbmpekabaaDoor
