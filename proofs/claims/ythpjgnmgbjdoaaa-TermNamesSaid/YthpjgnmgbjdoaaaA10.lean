/-
  Terms: the names of the operations; the statement TermNames.
  Conditions: none.
-/
import Derived.Test.YthpjgnmgbjdoaaaEnv
import Derived.Test.YthpjgnmgbjdoaaaPvVS
import Derived.Test.YthpjgnmgbjdoaaaM13
import Derived.Test.YthpjgnmgbjdoaaaW10
import Derived.KernelRfl
set_option linter.unusedVariables false
set_option linter.unusedSimpArgs false
namespace Go.Proofs.Ythpjgnmgbjdoaaa
open Go.Pv Go.M10
def kPick (xs : List IV) (h : Heap) (K : IV → Heap → Prop) : Prop := match xs with
  | [.int .i64 n, .int .i64 m] => (0 < m ∧ m < 4611686018427387904) ∧ K (.int .i64 (n % m)) h
  | _ => False
set_option maxRecDepth 100000 in
theorem vPick (n m : Int) (h : Heap) (Q : IV → Heap → Prop) : dF (stdS noC) env 4 noU noI noI [.int .i64 n, .int .i64 m] h Q = (
  needS (!m == (0 : Int)) (brS (decide (Int.tmod n m < (0 : Int))) (Q (IV.int IntKind.i64 (IntKind.wrap IntKind.i64 (Int.tmod n m + m))) h) (Q (IV.int IntKind.i64 (Int.tmod n m)) h))) := by kernel_rfl
theorem sPick : ∀ xs h Q, kPick xs h Q → CallW env 4 xs h Q := by
  intro xs h Q hk
  unfold kPick at hk
  split at hk
  · rename_i n m
    refine dF_sound (sound_no env) (mp_eq (vPick n m h Q) ?_)
    obtain ⟨hm, hk⟩ := hk
    have h1 := Int.emod_emod_of_dvd n (Int.dvd_refl m)
    have ht := Go.M13.tmod_cases n m hm.1
    refine needS_intro (by simp; omega) (brS_intro (fun hc => q_eq hk ?_) (fun hc => q_eq hk ?_))
    · simp only [decide_eq_true_eq] at hc; rw [IntWalk.i64_in _ (by omega)]; congr 1; omega
    · simp only [decide_eq_false_iff_not] at hc; congr 1; omega
  · exact hk.elim
def cPick := addC 4 kPick noC
theorem okPick : Sound env cPick := sound_add sPick (sound_no env)

def kName (xs : List IV) (h : Heap) (K : IV → Heap → Prop) : Prop := match xs with
  | [.int .i64 op] => (-2 ≤ op ∧ op ≤ 37) ∧ K (.tuple [.str (tnm op), .bool (tok op)]) h
  | _ => False
theorem sName : ∀ xs h Q, kName xs h Q → CallW env 5 xs h Q := by
  intro xs h Q hk
  unfold kName at hk
  split at hk
  · rename_i op
    obtain ⟨h1, hk⟩ := hk
    have h2 : op = -2 ∨ op = -1 ∨ op = 0 ∨ op = 1 ∨ op = 2 ∨ op = 3 ∨ op = 4 ∨ op = 5 ∨ op = 6 ∨ op = 7 ∨ op = 8 ∨ op = 9 ∨ op = 10 ∨ op = 11 ∨ op = 12 ∨ op = 13 ∨ op = 14 ∨ op = 15 ∨ op = 16 ∨ op = 17 ∨ op = 18 ∨ op = 19 ∨ op = 20 ∨ op = 21 ∨ op = 22 ∨ op = 23 ∨ op = 24 ∨ op = 25 ∨ op = 26 ∨ op = 27 ∨ op = 28 ∨ op = 29 ∨ op = 30 ∨ op = 31 ∨ op = 32 ∨ op = 33 ∨ op = 34 ∨ op = 35 ∨ op = 36 ∨ op = 37 := by omega
    rcases h2 with rfl | rfl | rfl | rfl | rfl | rfl | rfl | rfl | rfl | rfl | rfl | rfl | rfl | rfl | rfl | rfl | rfl | rfl | rfl | rfl | rfl | rfl | rfl | rfl | rfl | rfl | rfl | rfl | rfl | rfl | rfl | rfl | rfl | rfl | rfl | rfl | rfl | rfl | rfl | rfl
    all_goals exact ⟨80, _, h, by kernel_rfl, hk⟩
  · exact hk.elim
def cName := addC 5 kName cPick
theorem okName : Sound env cName := sound_add sName (okPick)

def kOpw (xs : List IV) (h : Heap) (K : IV → Heap → Prop) : Prop := match xs with
  | [.str s] => ∃ a : Int, (-2 ≤ a ∧ a ≤ 37) ∧ s = tnm a ∧ K (.tuple [.int .i64 (tno a), .bool (tok a)]) h
  | _ => False
theorem sOpw : ∀ xs h Q, kOpw xs h Q → CallW env 6 xs h Q := by
  intro xs h Q hk
  unfold kOpw at hk
  split at hk
  · obtain ⟨a, h1, rfl, hk⟩ := hk
    have h2 : a = -2 ∨ a = -1 ∨ a = 0 ∨ a = 1 ∨ a = 2 ∨ a = 3 ∨ a = 4 ∨ a = 5 ∨ a = 6 ∨ a = 7 ∨ a = 8 ∨ a = 9 ∨ a = 10 ∨ a = 11 ∨ a = 12 ∨ a = 13 ∨ a = 14 ∨ a = 15 ∨ a = 16 ∨ a = 17 ∨ a = 18 ∨ a = 19 ∨ a = 20 ∨ a = 21 ∨ a = 22 ∨ a = 23 ∨ a = 24 ∨ a = 25 ∨ a = 26 ∨ a = 27 ∨ a = 28 ∨ a = 29 ∨ a = 30 ∨ a = 31 ∨ a = 32 ∨ a = 33 ∨ a = 34 ∨ a = 35 ∨ a = 36 ∨ a = 37 := by omega
    rcases h2 with rfl | rfl | rfl | rfl | rfl | rfl | rfl | rfl | rfl | rfl | rfl | rfl | rfl | rfl | rfl | rfl | rfl | rfl | rfl | rfl | rfl | rfl | rfl | rfl | rfl | rfl | rfl | rfl | rfl | rfl | rfl | rfl | rfl | rfl | rfl | rfl | rfl | rfl | rfl | rfl
    all_goals exact ⟨80, _, h, by kernel_rfl, hk⟩
  · exact hk.elim
def cOpw := addC 6 kOpw cName
theorem okOpw : Sound env cOpw := sound_add sOpw (okName)

def kExT (xs : List IV) (h : Heap) (K : IV → Heap → Prop) : Prop := match xs with
  | [] => K (.bool true) h
  | _ => False
theorem sExT : ∀ xs h Q, kExT xs h Q → CallW env 7 xs h Q := by
  intro xs h Q hk
  unfold kExT at hk
  split at hk
  · exact ⟨200, .bool true, h, by kernel_rfl, hk⟩
  · exact hk.elim
def cExT := addC 7 kExT cOpw
theorem okExT : Sound env cExT := sound_add sExT (okOpw)

def kNamesL (xs : List IV) (h : Heap) (K : IV → Heap → Prop) : Prop := match xs with
  | [.int .i64 a, .int .i64 b] => K (.bool true) h
  | _ => False
set_option maxRecDepth 100000 in
theorem vNamesL (a b : Int) (h : Heap) (Q : IV → Heap → Prop) : dF (stdS cExT) env 3 noU noI noI [.int .i64 a, .int .i64 b] h Q = (
  ((0 : Int) < (40 : Int) ∧ (40 : Int) < (4611686018427387904 : Int)) ∧
 ((0 : Int) < (40 : Int) ∧ (40 : Int) < (4611686018427387904 : Int)) ∧
 ((-2 : Int) ≤ IntKind.wrap IntKind.i64 (a % (40 : Int) - (2 : Int)) ∧ IntKind.wrap IntKind.i64 (a % (40 : Int) - (2 : Int)) ≤ (37 : Int)) ∧
 ((-2 : Int) ≤ IntKind.wrap IntKind.i64 (b % (40 : Int) - (2 : Int)) ∧ IntKind.wrap IntKind.i64 (b % (40 : Int) - (2 : Int)) ≤ (37 : Int)) ∧
 brS (tok (IntKind.wrap IntKind.i64 (a % (40 : Int) - (2 : Int))))
 (brS (tok (IntKind.wrap IntKind.i64 (b % (40 : Int) - (2 : Int))))
 (brS
 (!(tnm (IntKind.wrap IntKind.i64 (a % (40 : Int) - (2 : Int))) == tnm (IntKind.wrap IntKind.i64 (b % (40 : Int) - (2 : Int)))) ==
 (IntKind.wrap IntKind.i64 (a % (40 : Int) - (2 : Int)) == IntKind.wrap IntKind.i64 (b % (40 : Int) - (2 : Int))))
 (Q (IV.bool false) h)
 (brS (!tok (IntKind.wrap IntKind.i64 (a % (40 : Int) - (2 : Int))))
 (brS (!tnm (IntKind.wrap IntKind.i64 (a % (40 : Int) - (2 : Int))) == []) (Q (IV.bool false) h)
 (∃ (a_1 : Int),
 ((-2 : Int) ≤ a_1 ∧ a_1 ≤ (37 : Int)) ∧
 tnm (IntKind.wrap IntKind.i64 (a % (40 : Int) - (2 : Int))) = tnm a_1 ∧
 brS (decide (IntKind.wrap IntKind.i64 (a % (40 : Int) - (2 : Int)) ≥ (4 : Int)))
 (brS (tok (IntKind.wrap IntKind.i64 (a % (40 : Int) - (2 : Int))) == decide (IntKind.wrap IntKind.i64 (a % (40 : Int) - (2 : Int)) ≤ (31 : Int)))
 (brS (tok a_1 == tok (IntKind.wrap IntKind.i64 (a % (40 : Int) - (2 : Int))))
 (brS (!tok (IntKind.wrap IntKind.i64 (a % (40 : Int) - (2 : Int)))) (Q (IV.bool true) h) (brS (tno a_1 == IntKind.wrap IntKind.i64 (a % (40 : Int) - (2 : Int))) (Q (IV.bool true) h) (Q (IV.bool false) h)))
 (Q (IV.bool false) h))
 (Q (IV.bool false) h))
 (brS (tok (IntKind.wrap IntKind.i64 (a % (40 : Int) - (2 : Int))) == false)
 (brS (tok a_1 == tok (IntKind.wrap IntKind.i64 (a % (40 : Int) - (2 : Int))))
 (brS (!tok (IntKind.wrap IntKind.i64 (a % (40 : Int) - (2 : Int)))) (Q (IV.bool true) h) (brS (tno a_1 == IntKind.wrap IntKind.i64 (a % (40 : Int) - (2 : Int))) (Q (IV.bool true) h) (Q (IV.bool false) h)))
 (Q (IV.bool false) h))
 (Q (IV.bool false) h))))
 (∃ (a_1 : Int),
 ((-2 : Int) ≤ a_1 ∧ a_1 ≤ (37 : Int)) ∧
 tnm (IntKind.wrap IntKind.i64 (a % (40 : Int) - (2 : Int))) = tnm a_1 ∧
 brS (decide (IntKind.wrap IntKind.i64 (a % (40 : Int) - (2 : Int)) ≥ (4 : Int)))
 (brS (tok (IntKind.wrap IntKind.i64 (a % (40 : Int) - (2 : Int))) == decide (IntKind.wrap IntKind.i64 (a % (40 : Int) - (2 : Int)) ≤ (31 : Int)))
 (brS (tok a_1 == tok (IntKind.wrap IntKind.i64 (a % (40 : Int) - (2 : Int))))
 (brS (!tok (IntKind.wrap IntKind.i64 (a % (40 : Int) - (2 : Int)))) (Q (IV.bool true) h) (brS (tno a_1 == IntKind.wrap IntKind.i64 (a % (40 : Int) - (2 : Int))) (Q (IV.bool true) h) (Q (IV.bool false) h)))
 (Q (IV.bool false) h))
 (Q (IV.bool false) h))
 (brS (tok (IntKind.wrap IntKind.i64 (a % (40 : Int) - (2 : Int))) == false)
 (brS (tok a_1 == tok (IntKind.wrap IntKind.i64 (a % (40 : Int) - (2 : Int))))
 (brS (!tok (IntKind.wrap IntKind.i64 (a % (40 : Int) - (2 : Int)))) (Q (IV.bool true) h) (brS (tno a_1 == IntKind.wrap IntKind.i64 (a % (40 : Int) - (2 : Int))) (Q (IV.bool true) h) (Q (IV.bool false) h)))
 (Q (IV.bool false) h))
 (Q (IV.bool false) h)))))
 (brS (!tok (IntKind.wrap IntKind.i64 (a % (40 : Int) - (2 : Int))))
 (brS (!tnm (IntKind.wrap IntKind.i64 (a % (40 : Int) - (2 : Int))) == []) (Q (IV.bool false) h)
 (∃ (a_1 : Int),
 ((-2 : Int) ≤ a_1 ∧ a_1 ≤ (37 : Int)) ∧
 tnm (IntKind.wrap IntKind.i64 (a % (40 : Int) - (2 : Int))) = tnm a_1 ∧
 brS (decide (IntKind.wrap IntKind.i64 (a % (40 : Int) - (2 : Int)) ≥ (4 : Int)))
 (brS (tok (IntKind.wrap IntKind.i64 (a % (40 : Int) - (2 : Int))) == decide (IntKind.wrap IntKind.i64 (a % (40 : Int) - (2 : Int)) ≤ (31 : Int)))
 (brS (tok a_1 == tok (IntKind.wrap IntKind.i64 (a % (40 : Int) - (2 : Int))))
 (brS (!tok (IntKind.wrap IntKind.i64 (a % (40 : Int) - (2 : Int)))) (Q (IV.bool true) h) (brS (tno a_1 == IntKind.wrap IntKind.i64 (a % (40 : Int) - (2 : Int))) (Q (IV.bool true) h) (Q (IV.bool false) h)))
 (Q (IV.bool false) h))
 (Q (IV.bool false) h))
 (brS (tok (IntKind.wrap IntKind.i64 (a % (40 : Int) - (2 : Int))) == false)
 (brS (tok a_1 == tok (IntKind.wrap IntKind.i64 (a % (40 : Int) - (2 : Int))))
 (brS (!tok (IntKind.wrap IntKind.i64 (a % (40 : Int) - (2 : Int)))) (Q (IV.bool true) h) (brS (tno a_1 == IntKind.wrap IntKind.i64 (a % (40 : Int) - (2 : Int))) (Q (IV.bool true) h) (Q (IV.bool false) h)))
 (Q (IV.bool false) h))
 (Q (IV.bool false) h))))
 (∃ (a_1 : Int),
 ((-2 : Int) ≤ a_1 ∧ a_1 ≤ (37 : Int)) ∧
 tnm (IntKind.wrap IntKind.i64 (a % (40 : Int) - (2 : Int))) = tnm a_1 ∧
 brS (decide (IntKind.wrap IntKind.i64 (a % (40 : Int) - (2 : Int)) ≥ (4 : Int)))
 (brS (tok (IntKind.wrap IntKind.i64 (a % (40 : Int) - (2 : Int))) == decide (IntKind.wrap IntKind.i64 (a % (40 : Int) - (2 : Int)) ≤ (31 : Int)))
 (brS (tok a_1 == tok (IntKind.wrap IntKind.i64 (a % (40 : Int) - (2 : Int))))
 (brS (!tok (IntKind.wrap IntKind.i64 (a % (40 : Int) - (2 : Int)))) (Q (IV.bool true) h) (brS (tno a_1 == IntKind.wrap IntKind.i64 (a % (40 : Int) - (2 : Int))) (Q (IV.bool true) h) (Q (IV.bool false) h)))
 (Q (IV.bool false) h))
 (Q (IV.bool false) h))
 (brS (tok (IntKind.wrap IntKind.i64 (a % (40 : Int) - (2 : Int))) == false)
 (brS (tok a_1 == tok (IntKind.wrap IntKind.i64 (a % (40 : Int) - (2 : Int))))
 (brS (!tok (IntKind.wrap IntKind.i64 (a % (40 : Int) - (2 : Int)))) (Q (IV.bool true) h) (brS (tno a_1 == IntKind.wrap IntKind.i64 (a % (40 : Int) - (2 : Int))) (Q (IV.bool true) h) (Q (IV.bool false) h)))
 (Q (IV.bool false) h))
 (Q (IV.bool false) h)))))
 (brS (!tok (IntKind.wrap IntKind.i64 (a % (40 : Int) - (2 : Int))))
 (brS (!tnm (IntKind.wrap IntKind.i64 (a % (40 : Int) - (2 : Int))) == []) (Q (IV.bool false) h)
 (∃ (a_1 : Int),
 ((-2 : Int) ≤ a_1 ∧ a_1 ≤ (37 : Int)) ∧
 tnm (IntKind.wrap IntKind.i64 (a % (40 : Int) - (2 : Int))) = tnm a_1 ∧
 brS (decide (IntKind.wrap IntKind.i64 (a % (40 : Int) - (2 : Int)) ≥ (4 : Int)))
 (brS (tok (IntKind.wrap IntKind.i64 (a % (40 : Int) - (2 : Int))) == decide (IntKind.wrap IntKind.i64 (a % (40 : Int) - (2 : Int)) ≤ (31 : Int)))
 (brS (tok a_1 == tok (IntKind.wrap IntKind.i64 (a % (40 : Int) - (2 : Int))))
 (brS (!tok (IntKind.wrap IntKind.i64 (a % (40 : Int) - (2 : Int)))) (Q (IV.bool true) h) (brS (tno a_1 == IntKind.wrap IntKind.i64 (a % (40 : Int) - (2 : Int))) (Q (IV.bool true) h) (Q (IV.bool false) h)))
 (Q (IV.bool false) h))
 (Q (IV.bool false) h))
 (brS (tok (IntKind.wrap IntKind.i64 (a % (40 : Int) - (2 : Int))) == false)
 (brS (tok a_1 == tok (IntKind.wrap IntKind.i64 (a % (40 : Int) - (2 : Int))))
 (brS (!tok (IntKind.wrap IntKind.i64 (a % (40 : Int) - (2 : Int)))) (Q (IV.bool true) h) (brS (tno a_1 == IntKind.wrap IntKind.i64 (a % (40 : Int) - (2 : Int))) (Q (IV.bool true) h) (Q (IV.bool false) h)))
 (Q (IV.bool false) h))
 (Q (IV.bool false) h))))
 (∃ (a_1 : Int),
 ((-2 : Int) ≤ a_1 ∧ a_1 ≤ (37 : Int)) ∧
 tnm (IntKind.wrap IntKind.i64 (a % (40 : Int) - (2 : Int))) = tnm a_1 ∧
 brS (decide (IntKind.wrap IntKind.i64 (a % (40 : Int) - (2 : Int)) ≥ (4 : Int)))
 (brS (tok (IntKind.wrap IntKind.i64 (a % (40 : Int) - (2 : Int))) == decide (IntKind.wrap IntKind.i64 (a % (40 : Int) - (2 : Int)) ≤ (31 : Int)))
 (brS (tok a_1 == tok (IntKind.wrap IntKind.i64 (a % (40 : Int) - (2 : Int))))
 (brS (!tok (IntKind.wrap IntKind.i64 (a % (40 : Int) - (2 : Int)))) (Q (IV.bool true) h) (brS (tno a_1 == IntKind.wrap IntKind.i64 (a % (40 : Int) - (2 : Int))) (Q (IV.bool true) h) (Q (IV.bool false) h)))
 (Q (IV.bool false) h))
 (Q (IV.bool false) h))
 (brS (tok (IntKind.wrap IntKind.i64 (a % (40 : Int) - (2 : Int))) == false)
 (brS (tok a_1 == tok (IntKind.wrap IntKind.i64 (a % (40 : Int) - (2 : Int))))
 (brS (!tok (IntKind.wrap IntKind.i64 (a % (40 : Int) - (2 : Int)))) (Q (IV.bool true) h) (brS (tno a_1 == IntKind.wrap IntKind.i64 (a % (40 : Int) - (2 : Int))) (Q (IV.bool true) h) (Q (IV.bool false) h)))
 (Q (IV.bool false) h))
 (Q (IV.bool false) h))))) := by kernel_rfl
set_option maxHeartbeats 2000000 in
theorem sNamesL : ∀ xs h Q, kNamesL xs h Q → CallW env 3 xs h Q := by
  intro xs h Q hk
  unfold kNamesL at hk
  split at hk
  · rename_i a b
    refine dF_sound (okExT) (mp_eq (vNamesL a b h Q) ?_)
    have hwa : IntKind.i64.wrap (a % 40 - 2) = a % 40 - 2 := IntWalk.i64_in _ (by omega)
    have hwb : IntKind.i64.wrap (b % 40 - 2) = b % 40 - 2 := IntWalk.i64_in _ (by omega)
    have hx : -2 ≤ a % 40 - 2 ∧ a % 40 - 2 ≤ 37 := by omega
    have hy : -2 ≤ b % 40 - 2 ∧ b % 40 - 2 ≤ 37 := by omega
    simp only [hwa, hwb]
    generalize a % 40 - 2 = x at *
    generalize b % 40 - 2 = y at *
    refine ⟨by omega, by omega, hx, hy, ?_⟩
    have inj : tok x = true → tok y = true → (tnm x == tnm y) = (x == y) := tnm_inj
    have nn : tok x = false → tnm x = [] := tnm_no
    have tk := @tok_iff x
    have no : tok x = true → tno x = x := fun q => if_pos (tok_iff.1 q)
    clear hwa hwb
    repeat' (first | exact hk | refine brS_intro (fun _ => ?_) (fun _ => ?_) | refine Exists.intro x (And.intro hx (And.intro rfl ?_)))
    all_goals exfalso
    all_goals clear hk
    all_goals (cases htx : tok x <;> cases hty : tok y <;> simp only [htx, hty, true_iff, false_iff, Bool.false_eq_true, forall_const, true_implies, false_implies] at * <;> first | (simp_all; done) | (simp_all; omega))
  · exact hk.elim
def cNamesL := addC 3 kNamesL cExT
theorem okNamesL : Sound env cNamesL := sound_add sNamesL (okExT)

end Go.Proofs.Ythpjgnmgbjdoaaa
