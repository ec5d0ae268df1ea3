/-
  The conditions of rules: what both sides compute; the law AnalysisConditions.
  Conditions: none.
-/
import Derived.Test.YtebalpbbpkkplaaGreatA14
import Derived.Test.YtebalpbbpkkplaaGreatH14
import Derived.KernelRfl
set_option linter.unusedVariables false
set_option linter.unusedSimpArgs false
namespace Go.Proofs.YtebalpbbpkkplaaGreat
open Go.Pv Go.M13 Go.M14
theorem ldI_i {k : IntKind} {cs : List IV} {o : Nat} {n : Int} {K : Int → Prop} (e : cs[o]? = some (.int k n)) (hk : K n) : ldIS k cs o K := by
  unfold ldIS; rw [e]; simp only [if_true]; exact hk
def kPick (xs : List IV) (h : Heap) (K : IV → Heap → Prop) : Prop := match xs with
  | [.int .i64 n, .int .i64 m] => (0 < m ∧ m < 4611686018427387904) ∧ K (.int .i64 (n % m)) h
  | _ => False
set_option maxRecDepth 100000 in
theorem vPick (n m : Int) (h : Heap) (Q : IV → Heap → Prop) : dF (stdS cAEx) env 4 noU noI noI [.int .i64 n, .int .i64 m] h Q = (
  needS (!m == (0 : Int)) (brS (decide (Int.tmod n m < (0 : Int))) (Q (IV.int IntKind.i64 (IntKind.wrap IntKind.i64 (Int.tmod n m + m))) h) (Q (IV.int IntKind.i64 (Int.tmod n m)) h))) := by kernel_rfl
theorem sPick : ∀ xs h Q, kPick xs h Q → CallW env 4 xs h Q := by
  intro xs h Q hk
  unfold kPick at hk
  split at hk
  · rename_i n m
    refine dF_run (okAEx) (vPick n m h Q) ?_
    obtain ⟨hm, hk⟩ := hk
    have h1 := Int.emod_emod_of_dvd n (Int.dvd_refl m)
    have ht := tmod_cases n m hm.1
    refine needS_intro (by simp; omega) (brS_intro (fun hc => q_eq hk ?_) (fun hc => q_eq hk ?_))
    · simp only [decide_eq_true_eq] at hc; rw [IntWalk.i64_in _ (by omega)]; congr 1; omega
    · simp only [decide_eq_false_iff_not] at hc; congr 1; omega
  · exact hk.elim
def cPick := addC 4 kPick cAEx
theorem okPick : Sound env cPick := sound_add sPick (okAEx)

def kValid (xs : List IV) (h : Heap) (K : IV → Heap → Prop) : Prop := match xs with
  | [.agg [.int .i64 a, .int .i64 b]] => K (.bool (decide (a ≤ b))) h
  | _ => False
set_option maxRecDepth 100000 in
theorem vValid (a b : Int) (h : Heap) (Q : IV → Heap → Prop) : dF (stdS cPick) env 17 noU noI noI [.agg [.int .i64 a, .int .i64 b]] h Q = (
  Q (IV.bool (decide (a ≤ b))) h) := by kernel_rfl
theorem sValid : ∀ xs h Q, kValid xs h Q → CallW env 17 xs h Q := by
  intro xs h Q hk
  unfold kValid at hk
  split at hk
  · rename_i a b
    refine dF_run (okPick) (vValid a b h Q) ?_
    exact hk
  · exact hk.elim
def cValid := addC 17 kValid cPick
theorem okValid : Sound env cValid := sound_add sValid (okPick)

def kContains (xs : List IV) (h : Heap) (K : IV → Heap → Prop) : Prop := match xs with
  | [.agg [.int .i64 a, .int .i64 b], .int .i64 n] => K (.bool (contains a b n)) h
  | _ => False
set_option maxRecDepth 100000 in
theorem vContains (a b n : Int) (h : Heap) (Q : IV → Heap → Prop) : dF (stdS cValid) env 9 noU noI noI [.agg [.int .i64 a, .int .i64 b], .int .i64 n] h Q = (
  brS (decide (n ≥ a)) (Q (IV.bool (decide (n ≤ b))) h) (Q (IV.bool false) h)) := by kernel_rfl
theorem sContains : ∀ xs h Q, kContains xs h Q → CallW env 9 xs h Q := by
  intro xs h Q hk
  unfold kContains at hk
  split at hk
  · rename_i a b n
    refine dF_run (okValid) (vContains a b n h Q) ?_
    repeat' (first | refine needS_intro ?_ ?_ | refine brS_intro (fun _ => ?_) (fun _ => ?_) | refine And.intro ?_ ?_)
    all_goals first | assumption | omega | (refine q_eq hk ?_; simp only [IV.agg.injEq, IV.tuple.injEq, IV.int.injEq, IV.bool.injEq, List.cons.injEq, true_and, and_true]; grind [contains])
  · exact hk.elim
def cContains := addC 9 kContains cValid
theorem okContains : Sound env cContains := sound_add sContains (okValid)

def kIsect (xs : List IV) (h : Heap) (K : IV → Heap → Prop) : Prop := match xs with
  | [.agg [.int .i64 a, .int .i64 b], .agg [.int .i64 c, .int .i64 d]] => K (.tuple [.agg [.int .i64 (isect a b c d).1, .int .i64 (isect a b c d).2], .bool (meets a b c d)]) h
  | _ => False
set_option maxRecDepth 100000 in
theorem vIsect (a b c d : Int) (h : Heap) (Q : IV → Heap → Prop) : dF (stdS cContains) env 10 noU noI noI [.agg [.int .i64 a, .int .i64 b], .agg [.int .i64 c, .int .i64 d]] h Q = (
  brS (!decide ((if c > a then c else a) ≤ if d < b then d else b)) (Q (IV.tuple [IV.agg [IV.int IntKind.i64 (0 : Int), IV.int IntKind.i64 (0 : Int)], IV.bool false]) h)
 (Q (IV.tuple [IV.agg [IV.int IntKind.i64 (if c > a then c else a), IV.int IntKind.i64 (if d < b then d else b)], IV.bool true]) h)) := by kernel_rfl
theorem sIsect : ∀ xs h Q, kIsect xs h Q → CallW env 10 xs h Q := by
  intro xs h Q hk
  unfold kIsect at hk
  split at hk
  · rename_i a b c d
    refine dF_run (okContains) (vIsect a b c d h Q) ?_
    repeat' (first | refine needS_intro ?_ ?_ | refine brS_intro (fun _ => ?_) (fun _ => ?_) | refine And.intro ?_ ?_)
    all_goals first | assumption | omega | (refine q_eq hk ?_; simp only [IV.agg.injEq, IV.tuple.injEq, IV.int.injEq, IV.bool.injEq, List.cons.injEq, true_and, and_true]; grind [isect, meets])
  · exact hk.elim
def cIsect := addC 10 kIsect cContains
theorem okIsect : Sound env cIsect := sound_add sIsect (okContains)

def kVarI (xs : List IV) (h : Heap) (K : IV → Heap → Prop) : Prop := match xs with
  | [.vslice none e1 n1 2 c1, .int .i64 n] => ∃ H : List (Int × Int), (n1 = H.length ∧ c1 = H.flatMap cR) ∧ H.length ≤ 9223372036854775807 ∧ K (.tuple [.agg [.int .i64 (vr H n).1, .int .i64 (vr H n).2], .bool (vok H n)]) h
  | _ => False
set_option maxRecDepth 100000 in
theorem vVarI (H : IvL) (e1 : Nat) (n : Int) (h : Heap) (Q : IV → Heap → Prop) : dF (stdS cIsect) env 8 noU noI noI [.vslice none e1 H.length 2 (H.flatMap cR), .int .i64 n] h Q = (
  brS (decide (n < (1 : Int))) (Q (IV.tuple [IV.agg [IV.int IntKind.i64 (0 : Int), IV.int IntKind.i64 (0 : Int)], IV.bool false]) h)
 (brS (decide (n > (↑(List.length H) : Int))) (Q (IV.tuple [IV.agg [IV.int IntKind.i64 (0 : Int), IV.int IntKind.i64 (0 : Int)], IV.bool false]) h)
 (needS (decide ((0 : Int) ≤ IntKind.wrap IntKind.i64 (n - (1 : Int))) && decide (IntKind.wrap IntKind.i64 (n - (1 : Int)) < (↑(List.length H) : Int)))
 (ldIS IntKind.i64 (List.flatMap cR H) (Int.toNat (IntKind.wrap IntKind.i64 (n - (1 : Int))) * (2 : Nat)) fun (n0 : Int) =>
 ldIS IntKind.i64 (List.flatMap cR H) (Int.toNat (IntKind.wrap IntKind.i64 (n - (1 : Int))) * (2 : Nat) + (1 : Nat)) fun (n1 : Int) => Q (IV.tuple [IV.agg [IV.int IntKind.i64 n0, IV.int IntKind.i64 n1], IV.bool true]) h)))) := by kernel_rfl
theorem sVarI : ∀ xs h Q, kVarI xs h Q → CallW env 8 xs h Q := by
  intro xs h Q hk
  unfold kVarI at hk
  split at hk
  · rename_i e1 n1 c1 n
    obtain ⟨H, ⟨rfl, rfl⟩, hb, hk⟩ := hk
    refine dF_run (okIsect) (vVarI H e1 n h Q) ?_
    refine brS_intro (fun c => ?_) (fun c1 => brS_intro (fun c => ?_) (fun c2 => ?_))
    · rw [decide_eq_true_eq] at c
      rw [vr_no (vok_f (.inl c)), vok_f (.inl c)] at hk
      exact hk
    · rw [decide_eq_true_eq] at c
      rw [vr_no (vok_f (.inr c)), vok_f (.inr c)] at hk
      exact hk
    · rw [decide_eq_false_iff_not] at c1 c2
      rw [vok_t (by omega) (by omega)] at hk
      exact ldH (K := fun x y => Q (IV.tuple [IV.agg [IV.int .i64 x, IV.int .i64 y], IV.bool true]) h) (by omega) (by omega) hb hk
  · exact hk.elim
def cVarI := addC 8 kVarI cIsect
theorem okVarI : Sound env cVarI := sound_add sVarI (okIsect)

def kHoldsV (xs : List IV) (h : Heap) (K : IV → Heap → Prop) : Prop := match xs with
  | [.agg [.int .i64 k, .int .i64 a, .int .i64 b, .int .i64 n], .vslice none e1 n1 2 c1, .vslice none e2 n2 1 c2] => ∃ (H : List (Int × Int)) (L : List Int), (n1 = H.length ∧ c1 = H.flatMap cR) ∧ (n2 = L.length ∧ c2 = L.map (IV.int .i64)) ∧ (H.length ≤ 9223372036854775807 ∧ L.length ≤ 9223372036854775807 ∧ ∀ x ∈ L, inR x) ∧ K (.bool (holds k a b n H L)) h
  | _ => False
set_option maxRecDepth 100000 in
theorem vHoldsV (k a b n : Int) (H : IvL) (L : List Int) (e1 e2 : Nat) (h : Heap) (Q : IV → Heap → Prop) : dF (stdS cVarI) env 5 noU noI noI [.agg [.int .i64 k, .int .i64 a, .int .i64 b, .int .i64 n], .vslice none e1 H.length 2 (H.flatMap cR), .vslice none e2 L.length 1 (L.map (IV.int .i64))] h Q = (
  needS
 (pureL
 [IV.agg [IV.int IntKind.i64 k, IV.int IntKind.i64 a, IV.int IntKind.i64 b, IV.int IntKind.i64 n], IV.vslice none (0 : Nat) (List.length H) (2 : Nat) (List.flatMap cR H),
 IV.vslice none (0 : Nat) (List.length L) (1 : Nat) (List.map (IV.int IntKind.i64) L)])
 (∃ (H_1 : List (Int × Int)),
 (List.length H = List.length H_1 ∧ List.flatMap cR H = List.flatMap cR H_1) ∧
 List.length H_1 ≤ (9223372036854775807 : Nat) ∧
 brS (!vok H_1 a) (Q (IV.bool false) h)
 (brS (k == (1 : Int)) (Q (IV.bool !contains (Prod.fst (vr H_1 a)) (Prod.snd (vr H_1 a)) (0 : Int)) h)
 (brS (k == (2 : Int)) (Q (IV.bool (decide (Prod.fst (vr H_1 a) ≥ n))) h)
 (brS (k == (3 : Int)) (Q (IV.bool (decide (Prod.snd (vr H_1 a) ≤ n))) h)
 (brS (k == (4 : Int))
 (∃ (H_2 : List (Int × Int)),
 (List.length H = List.length H_2 ∧ List.flatMap cR H = List.flatMap cR H_2) ∧
 List.length H_2 ≤ (9223372036854775807 : Nat) ∧ brS (vok H_2 b) (Q (IV.bool !meets (Prod.fst (vr H_1 a)) (Prod.snd (vr H_1 a)) (Prod.fst (vr H_2 b)) (Prod.snd (vr H_2 b))) h) (Q (IV.bool false) h))
 (brS (k == (5 : Int))
 (brS (decide (b ≥ (1 : Int)))
 (brS (decide (b ≤ (↑(List.length L) : Int)))
 (brS (decide (Prod.fst (vr H_1 a) ≥ (0 : Int)))
 (needS (decide ((0 : Int) ≤ IntKind.wrap IntKind.i64 (b - (1 : Int))) && decide (IntKind.wrap IntKind.i64 (b - (1 : Int)) < (↑(List.length L) : Int)))
 (ldIS IntKind.i64 (List.map (IV.int IntKind.i64) L) (Int.toNat (IntKind.wrap IntKind.i64 (b - (1 : Int))) * (1 : Nat)) fun (n0 : Int) => Q (IV.bool (decide (Prod.snd (vr H_1 a) < n0))) h))
 (Q (IV.bool false) h))
 (Q (IV.bool false) h))
 (Q (IV.bool false) h))
 (Q (IV.bool false) h)))))))) := by kernel_rfl
set_option maxHeartbeats 2000000 in
theorem sHoldsV : ∀ xs h Q, kHoldsV xs h Q → CallW env 5 xs h Q := by
  intro xs h Q hk
  unfold kHoldsV at hk
  split at hk
  · rename_i k a b n e1 n1 c1 e2 n2 c2
    obtain ⟨H, L, ⟨rfl, rfl⟩, ⟨rfl, rfl⟩, hb, hk⟩ := hk
    refine dF_run (okVarI) (vHoldsV k a b n H L e1 e2 h Q) ?_
    obtain ⟨hb1, hb2, hL⟩ := hb
    refine needS_intro (by simp only [pureL, pureB, pureL_cH, pureL_ints, Bool.and_true]) ⟨H, ⟨rfl, rfl⟩, hb1, brS_intro (fun c => ?_) (fun c => ?_)⟩
    · have c : vok H a = false := by simpa using c
      rw [show holds k a b n H L = false from if_pos c] at hk
      exact hk
    have c : vok H a = true := by simpa using c
    unfold holds at hk
    rw [if_neg (by rw [c]; simp)] at hk
    refine brS_intro (fun c1 => ?_) (fun c1 => ?_)
    · rw [beq_iff_eq] at c1
      rw [if_pos c1] at hk
      exact hk
    rw [beq_eq_false_iff_ne] at c1
    rw [if_neg c1] at hk
    refine brS_intro (fun c2 => ?_) (fun c2 => ?_)
    · rw [beq_iff_eq] at c2
      rw [if_pos c2] at hk
      exact hk
    rw [beq_eq_false_iff_ne] at c2
    rw [if_neg c2] at hk
    refine brS_intro (fun c3 => ?_) (fun c3 => ?_)
    · rw [beq_iff_eq] at c3
      rw [if_pos c3] at hk
      exact hk
    rw [beq_eq_false_iff_ne] at c3
    rw [if_neg c3] at hk
    refine brS_intro (fun c4 => ?_) (fun c4 => ?_)
    · rw [beq_iff_eq] at c4
      rw [if_pos c4] at hk
      refine ⟨H, ⟨rfl, rfl⟩, hb1, brS_intro (fun d => ?_) (fun d => ?_)⟩
      · rw [d] at hk
        exact hk
      · rw [d] at hk
        exact hk
    rw [beq_eq_false_iff_ne] at c4
    rw [if_neg c4] at hk
    refine brS_intro (fun c5 => ?_) (fun c5 => ?_)
    · rw [beq_iff_eq] at c5
      rw [if_pos c5] at hk
      refine brS_intro (fun d1 => brS_intro (fun d2 => brS_intro (fun d3 => ?_) (fun d3 => ?_)) (fun d2 => ?_)) (fun d1 => ?_)
      · rw [show decide (1 ≤ b) = true from d1, d2, show decide (0 ≤ (vr H a).1) = true from d3] at hk
        rw [decide_eq_true_eq] at d1 d2
        have hl : (b - 1).toNat < L.length := by omega
        rw [IntWalk.i64_in _ (by omega)]
        refine needS_intro (by simp; omega) ?_
        rw [Nat.mul_one]
        refine ldIS_map hl ?_
        rw [List.getD_eq_getElem?_getD, List.getElem?_eq_getElem hl] at hk
        exact hk
      · rw [show decide (1 ≤ b) = true from d1, d2, show decide (0 ≤ (vr H a).1) = false from d3] at hk
        exact hk
      · rw [show decide (1 ≤ b) = true from d1, d2] at hk
        exact hk
      · rw [show decide (1 ≤ b) = false from d1] at hk
        exact hk
    · rw [beq_eq_false_iff_ne] at c5
      rw [if_neg c5] at hk
      exact hk
  · exact hk.elim
def cHoldsV := addC 5 kHoldsV cVarI
theorem okHoldsV : Sound env cHoldsV := sound_add sHoldsV (okVarI)

def kRValid (xs : List IV) (h : Heap) (K : IV → Heap → Prop) : Prop := match xs with
  | [.agg [.int .i64 a, .int .i64 b]] => K (.bool (decide (a ≤ b))) h
  | _ => False
set_option maxRecDepth 100000 in
theorem vRValid (a b : Int) (h : Heap) (Q : IV → Heap → Prop) : dF (stdS cHoldsV) env 18 noU noI noI [.agg [.int .i64 a, .int .i64 b]] h Q = (
  Q (IV.bool (decide (a ≤ b))) h) := by kernel_rfl
theorem sRValid : ∀ xs h Q, kRValid xs h Q → CallW env 18 xs h Q := by
  intro xs h Q hk
  unfold kRValid at hk
  split at hk
  · rename_i a b
    refine dF_run (okHoldsV) (vRValid a b h Q) ?_
    exact hk
  · exact hk.elim
def cRValid := addC 18 kRValid cHoldsV
theorem okRValid : Sound env cRValid := sound_add sRValid (okHoldsV)

def kRContains (xs : List IV) (h : Heap) (K : IV → Heap → Prop) : Prop := match xs with
  | [.agg [.int .i64 a, .int .i64 b], .int .i64 n] => K (.bool (contains a b n)) h
  | _ => False
set_option maxRecDepth 100000 in
theorem vRContains (a b n : Int) (h : Heap) (Q : IV → Heap → Prop) : dF (stdS cRValid) env 11 noU noI noI [.agg [.int .i64 a, .int .i64 b], .int .i64 n] h Q = (
  brS (decide (a ≤ n)) (Q (IV.bool (decide (n ≤ b))) h) (Q (IV.bool false) h)) := by kernel_rfl
theorem sRContains : ∀ xs h Q, kRContains xs h Q → CallW env 11 xs h Q := by
  intro xs h Q hk
  unfold kRContains at hk
  split at hk
  · rename_i a b n
    refine dF_run (okRValid) (vRContains a b n h Q) ?_
    repeat' (first | refine needS_intro ?_ ?_ | refine brS_intro (fun _ => ?_) (fun _ => ?_) | refine And.intro ?_ ?_)
    all_goals first | exact hk | (refine q_eq hk ?_; simp only [IV.agg.injEq, IV.tuple.injEq, IV.int.injEq, IV.bool.injEq, List.cons.injEq, true_and, and_true]; grind [contains])
  · exact hk.elim
def cRContains := addC 11 kRContains cRValid
theorem okRContains : Sound env cRContains := sound_add sRContains (okRValid)

def kRIsect (xs : List IV) (h : Heap) (K : IV → Heap → Prop) : Prop := match xs with
  | [.agg [.int .i64 a, .int .i64 b], .agg [.int .i64 c, .int .i64 d]] => K (.tuple [.agg [.int .i64 (isect a b c d).1, .int .i64 (isect a b c d).2], .bool (meets a b c d)]) h
  | _ => False
set_option maxRecDepth 100000 in
theorem vRIsect (a b c d : Int) (h : Heap) (Q : IV → Heap → Prop) : dF (stdS cRContains) env 12 noU noI noI [.agg [.int .i64 a, .int .i64 b], .agg [.int .i64 c, .int .i64 d]] h Q = (
  brS (!decide ((if c > a then c else a) ≤ if d < b then d else b)) (Q (IV.tuple [IV.agg [IV.int IntKind.i64 (0 : Int), IV.int IntKind.i64 (0 : Int)], IV.bool false]) h)
 (Q (IV.tuple [IV.agg [IV.int IntKind.i64 (if c > a then c else a), IV.int IntKind.i64 (if d < b then d else b)], IV.bool true]) h)) := by kernel_rfl
theorem sRIsect : ∀ xs h Q, kRIsect xs h Q → CallW env 12 xs h Q := by
  intro xs h Q hk
  unfold kRIsect at hk
  split at hk
  · rename_i a b c d
    refine dF_run (okRContains) (vRIsect a b c d h Q) ?_
    repeat' (first | refine needS_intro ?_ ?_ | refine brS_intro (fun _ => ?_) (fun _ => ?_) | refine And.intro ?_ ?_)
    all_goals first | exact hk | (refine q_eq hk ?_; simp only [IV.agg.injEq, IV.tuple.injEq, IV.int.injEq, IV.bool.injEq, List.cons.injEq, true_and, and_true]; grind [isect, meets])
  · exact hk.elim
def cRIsect := addC 12 kRIsect cRContains
theorem okRIsect : Sound env cRIsect := sound_add sRIsect (okRContains)

def kRHolds (xs : List IV) (h : Heap) (K : IV → Heap → Prop) : Prop := match xs with
  | [.agg [.int .i64 k, .int .i64 a, .int .i64 b, .int .i64 n], .vslice none e1 n1 2 c1, .vslice none e2 n2 1 c2] => ∃ (H : List (Int × Int)) (L : List Int), (n1 = H.length ∧ c1 = H.flatMap cR) ∧ (n2 = L.length ∧ c2 = L.map (IV.int .i64)) ∧ (H.length ≤ 9223372036854775807 ∧ L.length ≤ 9223372036854775807 ∧ ∀ x ∈ L, inR x) ∧ K (.bool (holds k a b n H L)) h
  | _ => False
set_option maxRecDepth 100000 in
theorem vRHolds (k a b n : Int) (H : IvL) (L : List Int) (e1 e2 : Nat) (h : Heap) (Q : IV → Heap → Prop) : dF (stdS cRIsect) env 6 noU noI noI [.agg [.int .i64 k, .int .i64 a, .int .i64 b, .int .i64 n], .vslice none e1 H.length 2 (H.flatMap cR), .vslice none e2 L.length 1 (L.map (IV.int .i64))] h Q = (
  brS (decide (a < (1 : Int))) (Q (IV.bool false) h)
 (brS (decide (a > (↑(List.length H) : Int))) (Q (IV.bool false) h)
 (needS (decide ((0 : Int) ≤ IntKind.wrap IntKind.i64 (a - (1 : Int))) && decide (IntKind.wrap IntKind.i64 (a - (1 : Int)) < (↑(List.length H) : Int)))
 (ldIS IntKind.i64 (List.flatMap cR H) (Int.toNat (IntKind.wrap IntKind.i64 (a - (1 : Int))) * (2 : Nat)) fun (n0 : Int) =>
 ldIS IntKind.i64 (List.flatMap cR H) (Int.toNat (IntKind.wrap IntKind.i64 (a - (1 : Int))) * (2 : Nat) + (1 : Nat)) fun (n1 : Int) =>
 brS (k == (1 : Int)) (Q (IV.bool !contains n0 n1 (0 : Int)) h)
 (brS (k == (2 : Int)) (Q (IV.bool (decide (n0 ≥ n))) h)
 (brS (k == (3 : Int)) (Q (IV.bool (decide (n1 ≤ n))) h)
 (brS (k == (4 : Int))
 (brS (decide (b < (1 : Int))) (Q (IV.bool false) h)
 (brS (decide (b > (↑(List.length H) : Int))) (Q (IV.bool false) h)
 (needS (decide ((0 : Int) ≤ IntKind.wrap IntKind.i64 (b - (1 : Int))) && decide (IntKind.wrap IntKind.i64 (b - (1 : Int)) < (↑(List.length H) : Int)))
 (ldIS IntKind.i64 (List.flatMap cR H) (Int.toNat (IntKind.wrap IntKind.i64 (b - (1 : Int))) * (2 : Nat)) fun (n2 : Int) =>
 ldIS IntKind.i64 (List.flatMap cR H) (Int.toNat (IntKind.wrap IntKind.i64 (b - (1 : Int))) * (2 : Nat) + (1 : Nat)) fun (n3 : Int) => Q (IV.bool !meets n0 n1 n2 n3) h))))
 (brS (k == (5 : Int))
 (brS (decide (b ≥ (1 : Int)))
 (brS (decide (b ≤ (↑(List.length L) : Int)))
 (brS (decide (n0 ≥ (0 : Int)))
 (needS (decide ((0 : Int) ≤ IntKind.wrap IntKind.i64 (b - (1 : Int))) && decide (IntKind.wrap IntKind.i64 (b - (1 : Int)) < (↑(List.length L) : Int)))
 (ldIS IntKind.i64 (List.map (IV.int IntKind.i64) L) (Int.toNat (IntKind.wrap IntKind.i64 (b - (1 : Int))) * (1 : Nat)) fun (n4 : Int) => Q (IV.bool (decide (n1 < n4))) h))
 (Q (IV.bool false) h))
 (Q (IV.bool false) h))
 (Q (IV.bool false) h))
 (Q (IV.bool false) h))))))))) := by kernel_rfl
set_option maxHeartbeats 2000000 in
theorem sRHolds : ∀ xs h Q, kRHolds xs h Q → CallW env 6 xs h Q := by
  intro xs h Q hk
  unfold kRHolds at hk
  split at hk
  · rename_i k a b n e1 n1 c1 e2 n2 c2
    obtain ⟨H, L, ⟨rfl, rfl⟩, ⟨rfl, rfl⟩, hb, hk⟩ := hk
    refine dF_run (okRIsect) (vRHolds k a b n H L e1 e2 h Q) ?_
    obtain ⟨hb1, hb2, hL⟩ := hb
    refine brS_intro (fun c => ?_) (fun ca1 => brS_intro (fun c => ?_) (fun ca2 => ?_))
    · rw [decide_eq_true_eq] at c
      rw [show holds k a b n H L = false from if_pos (vok_f (.inl c))] at hk
      exact hk
    · rw [decide_eq_true_eq] at c
      rw [show holds k a b n H L = false from if_pos (vok_f (.inr c))] at hk
      exact hk
    rw [decide_eq_false_iff_not] at ca1 ca2
    have c : vok H a = true := vok_t (by omega) (by omega)
    unfold holds at hk
    rw [if_neg (by rw [c]; simp)] at hk
    refine ldH (by omega) (by omega) hb1 ?_
    refine brS_intro (fun c1 => ?_) (fun c1 => ?_)
    · rw [beq_iff_eq] at c1
      rw [if_pos c1] at hk
      exact hk
    rw [beq_eq_false_iff_ne] at c1
    rw [if_neg c1] at hk
    refine brS_intro (fun c2 => ?_) (fun c2 => ?_)
    · rw [beq_iff_eq] at c2
      rw [if_pos c2] at hk
      exact hk
    rw [beq_eq_false_iff_ne] at c2
    rw [if_neg c2] at hk
    refine brS_intro (fun c3 => ?_) (fun c3 => ?_)
    · rw [beq_iff_eq] at c3
      rw [if_pos c3] at hk
      exact hk
    rw [beq_eq_false_iff_ne] at c3
    rw [if_neg c3] at hk
    refine brS_intro (fun c4 => ?_) (fun c4 => ?_)
    · rw [beq_iff_eq] at c4
      rw [if_pos c4] at hk
      refine brS_intro (fun d => ?_) (fun d1 => brS_intro (fun d => ?_) (fun d2 => ?_))
      · rw [decide_eq_true_eq] at d
        rw [vok_f (.inl d)] at hk
        exact hk
      · rw [decide_eq_true_eq] at d
        rw [vok_f (.inr d)] at hk
        exact hk
      · rw [decide_eq_false_iff_not] at d1 d2
        rw [vok_t (by omega) (by omega)] at hk
        exact ldH (by omega) (by omega) hb1 hk
    rw [beq_eq_false_iff_ne] at c4
    rw [if_neg c4] at hk
    refine brS_intro (fun c5 => ?_) (fun c5 => ?_)
    · rw [beq_iff_eq] at c5
      rw [if_pos c5] at hk
      refine brS_intro (fun d1 => brS_intro (fun d2 => brS_intro (fun d3 => ?_) (fun d3 => ?_)) (fun d2 => ?_)) (fun d1 => ?_)
      · rw [show decide (1 ≤ b) = true from d1, d2, show decide (0 ≤ (vr H a).1) = true from d3] at hk
        rw [decide_eq_true_eq] at d1 d2
        have hl : (b - 1).toNat < L.length := by omega
        rw [IntWalk.i64_in _ (by omega)]
        refine needS_intro (by simp; omega) ?_
        rw [Nat.mul_one]
        refine ldIS_map hl ?_
        rw [List.getD_eq_getElem?_getD, List.getElem?_eq_getElem hl] at hk
        exact hk
      · rw [show decide (1 ≤ b) = true from d1, d2, show decide (0 ≤ (vr H a).1) = false from d3] at hk
        exact hk
      · rw [show decide (1 ≤ b) = true from d1, d2] at hk
        exact hk
      · rw [show decide (1 ≤ b) = false from d1] at hk
        exact hk
    · rw [beq_eq_false_iff_ne] at c5
      rw [if_neg c5] at hk
      exact hk
  · exact hk.elim
def cRHolds := addC 6 kRHolds cRIsect
theorem okRHolds : Sound env cRHolds := sound_add sRHolds (okRIsect)

def kLCond (xs : List IV) (h : Heap) (K : IV → Heap → Prop) : Prop := match xs with
  | [.agg [.int .i64 k, .int .i64 a, .int .i64 b, .int .i64 n], .int .i64 kind, .vslice none e1 n1 2 c1, .vslice none e2 n2 1 c2] => ∃ (H : List (Int × Int)) (L : List Int), (n1 = H.length ∧ c1 = H.flatMap cR) ∧ (n2 = L.length ∧ c2 = L.map (IV.int .i64)) ∧ (H.length ≤ 9223372036854775807 ∧ L.length ≤ 9223372036854775807 ∧ ∀ x ∈ L, inR x) ∧ K (.bool true) h
  | _ => False
set_option maxRecDepth 100000 in
theorem vLCond (k a b n kind : Int) (H : IvL) (L : List Int) (e1 e2 : Nat) (h : Heap) (Q : IV → Heap → Prop) : dF (stdS cRHolds) env 3 noU noI noI [.agg [.int .i64 k, .int .i64 a, .int .i64 b, .int .i64 n], .int .i64 kind, .vslice none e1 H.length 2 (H.flatMap cR), .vslice none e2 L.length 1 (L.map (IV.int .i64))] h Q = (
  ((0 : Int) < (9 : Int) ∧ (9 : Int) < (4611686018427387904 : Int)) ∧
 ((0 : Int) < (5 : Int) ∧ (5 : Int) < (4611686018427387904 : Int)) ∧
 ((0 : Int) < (5 : Int) ∧ (5 : Int) < (4611686018427387904 : Int)) ∧
 ∃ (H_1 : List (Int × Int)),
 ∃ (L_1 : List Int),
 (List.length H = List.length H_1 ∧ List.flatMap cR H = List.flatMap cR H_1) ∧
 (List.length L = List.length L_1 ∧ List.map (IV.int IntKind.i64) L = List.map (IV.int IntKind.i64) L_1) ∧
 (List.length H_1 ≤ (9223372036854775807 : Nat) ∧ List.length L_1 ≤ (9223372036854775807 : Nat) ∧ ∀ (x : Int), x ∈ L_1 → inR x) ∧
 ∃ (H_2 : List (Int × Int)),
 ∃ (L_2 : List Int),
 (List.length H = List.length H_2 ∧ List.flatMap cR H = List.flatMap cR H_2) ∧
 (List.length L = List.length L_2 ∧ List.map (IV.int IntKind.i64) L = List.map (IV.int IntKind.i64) L_2) ∧
 (List.length H_2 ≤ (9223372036854775807 : Nat) ∧ List.length L_2 ≤ (9223372036854775807 : Nat) ∧ ∀ (x : Int), x ∈ L_2 → inR x) ∧
 brS (holds k a b n H_1 L_1 == holds k a b n H_2 L_2)
 (∃ (H_3 : List (Int × Int)),
 ∃ (L_3 : List Int),
 (List.length H = List.length H_3 ∧ List.flatMap cR H = List.flatMap cR H_3) ∧
 (List.length L = List.length L_3 ∧ List.map (IV.int IntKind.i64) L = List.map (IV.int IntKind.i64) L_3) ∧
 (List.length H_3 ≤ (9223372036854775807 : Nat) ∧ List.length L_3 ≤ (9223372036854775807 : Nat) ∧ ∀ (x : Int), x ∈ L_3 → inR x) ∧
 ∃ (H_4 : List (Int × Int)),
 ∃ (L_4 : List Int),
 (List.length H = List.length H_4 ∧ List.flatMap cR H = List.flatMap cR H_4) ∧
 (List.length L = List.length L_4 ∧ List.map (IV.int IntKind.i64) L = List.map (IV.int IntKind.i64) L_4) ∧
 (List.length H_4 ≤ (9223372036854775807 : Nat) ∧ List.length L_4 ≤ (9223372036854775807 : Nat) ∧ ∀ (x : Int), x ∈ L_4 → inR x) ∧
 brS (holds (kind % (9 : Int)) (a % (5 : Int)) (b % (5 : Int)) n H_3 L_3 == holds (kind % (9 : Int)) (a % (5 : Int)) (b % (5 : Int)) n H_4 L_4) (Q (IV.bool true) h) (Q (IV.bool false) h))
 (Q (IV.bool false) h)) := by kernel_rfl
theorem sLCond : ∀ xs h Q, kLCond xs h Q → CallW env 3 xs h Q := by
  intro xs h Q hk
  unfold kLCond at hk
  split at hk
  · rename_i k a b n kind e1 n1 c1 e2 n2 c2
    obtain ⟨H, L, ⟨rfl, rfl⟩, ⟨rfl, rfl⟩, hb, hk⟩ := hk
    refine dF_run (okRHolds) (vLCond k a b n kind H L e1 e2 h Q) ?_
    exact ⟨by omega, by omega, by omega, H, L, ⟨rfl, rfl⟩, ⟨rfl, rfl⟩, hb, H, L, ⟨rfl, rfl⟩, ⟨rfl, rfl⟩, hb, brS_intro (fun _ => ⟨H, L, ⟨rfl, rfl⟩, ⟨rfl, rfl⟩, hb, H, L, ⟨rfl, rfl⟩, ⟨rfl, rfl⟩, hb, brS_intro (fun _ => hk) (fun z => absurd z (by simp))⟩) (fun z => absurd z (by simp))⟩
  · exact hk.elim
def cLCond := addC 3 kLCond cRHolds
theorem okLCond : Sound env cLCond := sound_add sLCond (okRHolds)

end Go.Proofs.YtebalpbbpkkplaaGreat
