/-
  Texts of this proof, one after the other.
  Conditions: none.
-/
import Derived.Test.YtlenjfbmpekabaaDoorCB31
import Derived.Test.YtlenjfbmpekabaaDoorGN31
import Derived.KernelRfl
section
/-
  The simulator of the target machine: runs.
  Conditions: none.
-/
set_option linter.unusedVariables false
set_option linter.unusedSimpArgs false
namespace Go.Proofs.YtlenjfbmpekabaaDoor
open Go.Pv Go.M29 Go.M30 Go.M31 Go.M13
def kKArgs (xs : List IV) (h : Heap) (K : IV → Heap → Prop) : Prop := match xs with
  | [.int .i64 a, .int .i64 b, .int .i64 w] => K (.vslice none 0 2 1 [.int .i64 (Go.M13.word a w), .int .i64 (Go.M13.word b w)]) h
  | _ => False
set_option maxRecDepth 100000 in
theorem vKArgs (a b w : Int) (h : Heap) (Q : IV → Heap → Prop) : dF (stdS cCNew) env 18 noU noI noI [.int .i64 a, .int .i64 b, .int .i64 w] h Q = (
  Q (.vslice none 0 2 1 [IV.int .i64 (word a w), IV.int .i64 (word b w)]) h) := by kernel_rfl
theorem sKArgs : ∀ xs h Q, kKArgs xs h Q → CallW env 18 xs h Q := by
  intro xs h Q hk
  unfold kKArgs at hk
  split at hk
  · rename_i a b w
    refine dF_run (okCNew) (vKArgs a b w h Q) ?_
    exact hk
  · exact hk.elim
def cKArgs := addC 18 kKArgs cCNew
theorem okKArgs : Sound env cKArgs := sound_add sKArgs (okCNew)

noncomputable def cKFuel := cKArgs
theorem okKFuel : Sound env cKFuel := okKArgs
noncomputable def cSameOut := cKFuel
theorem okSameOut : Sound env cSameOut := okKFuel
def kCEx (xs : List IV) (h : Heap) (K : IV → Heap → Prop) : Prop := match xs with
  | [] => K (.bool true) h
  | _ => False
theorem sCEx : ∀ xs h Q, kCEx xs h Q → CallW env 16 xs h Q := by
  intro xs h Q hk
  unfold kCEx at hk
  split at hk
  · exact ⟨300, .bool true, h, by kernel_rfl, hk⟩
  · exact hk.elim
def cCEx := addC 16 kCEx cSameOut
theorem okCEx : Sound env cCEx := sound_add sCEx (okSameOut)

end Go.Proofs.YtlenjfbmpekabaaDoor

end

section
/-
  The simulator of the target machine: runs.
  Conditions: none.
-/
set_option linter.unusedVariables false
set_option linter.unusedSimpArgs false
namespace Go.Proofs.YtlenjfbmpekabaaDoor
open Go.Pv Go.M29 Go.M30 Go.M31 Go.M13
def rnI (w e p s a args : List Int) (f fuel most : Int) : Inv' := atX (Nat × Heap × Ly) (fun x => [(4, .v (.int .i64 most)), (10, .l 10 0), (12, .v (.ptr 1 0)), (14, .v (.int .i64 x.1))]) (fun _ => [(10, [.int .i64 0, .int .i64 0, .nilslice, .int .i64 0])]) (fun x => x.2.1) (fun x => newErr ⟨w, e, p, s, a⟩ f args fuel = 0 ∧ x.1 ≤ most.toNat ∧ Rep ⟨w, e, p, s, a⟩ (rnN ⟨w, e, p, s, a⟩ x.1 (initS ⟨w, e, p, s, a⟩ f args fuel)) x.2.2 1 x.2.1) (fun x => most.toNat - x.1)
def kCRun (xs : List IV) (h : Heap) (K : IV → Heap → Prop) : Prop := match xs with
  | [.agg [.vslice none e1 n1 1 c1, .vslice none e2 n2 1 c2, .vslice none e3 n3 1 c3, .vslice none e4 n4 1 c4, .vslice none e5 n5 1 c5], .int .i64 f, .vslice none e6 n6 1 c6, .int .i64 fuel, .int .i64 most] => ∃ w e p s a args : List Int, (n1 = w.length ∧ c1 = w.map (IV.int .u32)) ∧ (n2 = e.length ∧ c2 = e.map (IV.int .i64)) ∧ (n3 = p.length ∧ c3 = p.map (IV.int .i64)) ∧ (n4 = s.length ∧ c4 = s.map (IV.int .i64)) ∧ (n5 = a.length ∧ c5 = a.map (IV.int .i64)) ∧ (n6 = args.length ∧ c6 = args.map (IV.int .i64)) ∧ (∀ x ∈ w, u32b x) ∧ most ≤ 1000 ∧ K (.tuple [.agg [.int .i64 (runR ⟨w, e, p, s, a⟩ f args fuel most).1, .int .i64 (runR ⟨w, e, p, s, a⟩ f args fuel most).2.1, .vslice none 0 (runR ⟨w, e, p, s, a⟩ f args fuel most).2.2.1.length 1 (ints (runR ⟨w, e, p, s, a⟩ f args fuel most).2.2.1), .int .i64 (runR ⟨w, e, p, s, a⟩ f args fuel most).2.2.2.1], .bool (runR ⟨w, e, p, s, a⟩ f args fuel most).2.2.2.2]) h
  | _ => False
set_option maxRecDepth 100000 in
theorem vCRun (w e p s a args : List Int) (e1 e2 e3 e4 e5 e6 : Nat) (f fuel most : Int) (h : Heap) (Q : IV → Heap → Prop) : dF (stdS cCEx) env 21 noU (ic1 6 (rnI w e p s a args f fuel most)) noI [.agg [.vslice none e1 (w).length 1 ((w).map (IV.int .u32)), .vslice none e2 (e).length 1 ((e).map (IV.int .i64)), .vslice none e3 (p).length 1 ((p).map (IV.int .i64)), .vslice none e4 (s).length 1 ((s).map (IV.int .i64)), .vslice none e5 (a).length 1 ((a).map (IV.int .i64))], .int .i64 f, .vslice none e6 (args).length 1 ((args).map (IV.int .i64)), .int .i64 fuel, .int .i64 most] h Q = (
  needS
 (pureL
 [IV.agg
 [IV.vslice none 0 w.length 1 (List.map (IV.int .u32) w), IV.vslice none 0 e.length 1 (List.map (IV.int .i64) e),
 IV.vslice none 0 p.length 1 (List.map (IV.int .i64) p), IV.vslice none 0 s.length 1 (List.map (IV.int .i64) s),
 IV.vslice none 0 a.length 1 (List.map (IV.int .i64) a)],
 IV.int .i64 f, IV.vslice none 0 args.length 1 (List.map (IV.int .i64) args), IV.int .i64 fuel, IV.int .i64 most])
 (∃ (w_1 : List Int),
 ∃ (e_1 : List Int),
 ∃ (p_1 : List Int),
 ∃ (s_1 : List Int),
 ∃ (a_1 : List Int),
 ∃ (args_1 : List Int),
 (w.length = w_1.length ∧ List.map (IV.int .u32) w = List.map (IV.int .u32) w_1) ∧
 (e.length = e_1.length ∧ List.map (IV.int .i64) e = List.map (IV.int .i64) e_1) ∧
 (p.length = p_1.length ∧ List.map (IV.int .i64) p = List.map (IV.int .i64) p_1) ∧
 (s.length = s_1.length ∧ List.map (IV.int .i64) s = List.map (IV.int .i64) s_1) ∧
 (a.length = a_1.length ∧ List.map (IV.int .i64) a = List.map (IV.int .i64) a_1) ∧
 (args.length = args_1.length ∧ List.map (IV.int .i64) args = List.map (IV.int .i64) args_1) ∧
 (∀ (x : Int), x ∈ w_1 → u32b x) ∧
 (newErr (Bi.mk w_1 e_1 p_1 s_1 a_1) f args_1 fuel ≠ 0 →
 brS (newErr (Bi.mk w_1 e_1 p_1 s_1 a_1) f args_1 fuel != 0)
 (Q (.tuple [.agg [.int .i64 0, IV.int .i64 0, IV.vslice none 0 0 1 [], IV.int .i64 0], IV.bool false]) h)
 ((∃ (x : Nat × Heap × Ly),
 some (TV.v (.int .i64 most)) = some (TV.v (.int .i64 most)) ∧
 some (TV.l 10 0) = some (TV.l 10 0) ∧
 some (TV.v IV.nilptr) = some (TV.v (.ptr 1 0)) ∧
 some (TV.v (.int .i64 0)) = some (TV.v (.int .i64 (↑x.1 : Int))) ∧
 some [IV.int .i64 0, IV.int .i64 0, IV.nilslice, IV.int .i64 0] =
 some [IV.int .i64 0, IV.int .i64 0, IV.nilslice, IV.int .i64 0] ∧
 Heap.mk PT.nil 0 = x.2.1 ∧
 (newErr (Bi.mk w e p s a) f args fuel = 0 ∧
 x.1 ≤ most.toNat ∧
 Rep (Bi.mk w e p s a) (rnN (Bi.mk w e p s a) x.1 (initS (Bi.mk w e p s a) f args fuel)) x.2.2 (1 : Nat) x.2.1) ∧
 True) ∧
 ∀ (x : Nat × Heap × Ly) (b : FF),
 newErr (Bi.mk w e p s a) f args fuel = 0 ∧
 x.1 ≤ most.toNat ∧ Rep (Bi.mk w e p s a) (rnN (Bi.mk w e p s a) x.1 (initS (Bi.mk w e p s a) f args fuel)) x.2.2 (1 : Nat) x.2.1 →
 brS (decide ((↑x.1 : Int) < most))
 (hgetS x.2.1 1 fun r0 =>
 ldBS r0 16 fun b1 =>
 brS (!b1)
 (∃ (B : Bi),
 ∃ (s_2 : CS),
 ∃ (L : Ly),
 Rep B s_2 L (1 : Nat) x.2.1 ∧
 (VB B ∧ (∀ (x : Int), x ∈ Bi.w B → u32b x) ∧ WF B s_2 ∧ List.length (CS.out s_2) ≤ 1000000 ∧ List.length (CS.frames s_2) ≤ 1000000) ∧
 ∀ (L' : Ly) (h' : Heap),
 Rep B (stepS B s_2) L' (1 : Nat) h' →
 Frm L L' x.2.1 h' →
 ∃ (x_1 : Nat × Heap × Ly),
 some (TV.v (.int .i64 most)) = some (TV.v (.int .i64 most)) ∧
 some (TV.l 10 0) = some (TV.l 10 0) ∧
 some (TV.v (.ptr 1 0)) = some (TV.v (.ptr 1 0)) ∧
 some (TV.v (.int .i64 (IntKind.wrap .i64 ((↑x.1 : Int) + 1)))) = some (TV.v (.int .i64 (↑x_1.1 : Int))) ∧
 some [IV.int .i64 0, IV.int .i64 0, IV.nilslice, IV.int .i64 0] =
 some [IV.int .i64 0, IV.int .i64 0, IV.nilslice, IV.int .i64 0] ∧
 h' = x_1.2.1 ∧
 (newErr (Bi.mk w e p s a) f args fuel = 0 ∧
 x_1.1 ≤ most.toNat ∧
 Rep (Bi.mk w e p s a) (rnN (Bi.mk w e p s a) x_1.1 (initS (Bi.mk w e p s a) f args fuel)) x_1.2.2 (1 : Nat)
 x_1.2.1) ∧
 most.toNat - x_1.1 < most.toNat - x.1)
 (∃ (B : Bi),
 ∃ (s : CS),
 ∃ (L : Ly),
 Rep B s L (1 : Nat) x.2.1 ∧
 List.length (CS.out s) ≤ 1000000 ∧
 (CS.over s = false →
 Q (.tuple [.agg [.int .i64 0, IV.int .i64 0, IV.vslice none 0 0 1 [], IV.int .i64 0], IV.bool false])
 h) ∧
 (CS.over s = true →
 ∀ (i : Option Nat) (e : Nat) (h' : Heap),
 (∀ (k : Nat), k < Heap.next x.2.1 → Heap.get h' k = Heap.get x.2.1 k) →
 Heap.next x.2.1 ≤ Heap.next h' →
 needS
 (pureL
 [IV.agg
 [IV.int .i64 (CS.kind s), IV.int .i64 (CS.code s), IV.vslice none 0 (List.length (CS.out s)) 1 (ints (CS.out s)),
 IV.int .i64 (CS.val s)],
 IV.bool true])
 (Q
 (IV.tuple
 [IV.agg
 [IV.int .i64 (CS.kind s), IV.int .i64 (CS.code s), IV.vslice none 0 (List.length (CS.out s)) 1 (ints (CS.out s)),
 IV.int .i64 (CS.val s)],
 IV.bool true])
 h))))
 (∃ (B : Bi),
 ∃ (s : CS),
 ∃ (L : Ly),
 Rep B s L (1 : Nat) x.2.1 ∧
 List.length (CS.out s) ≤ 1000000 ∧
 (CS.over s = false →
 Q (.tuple [.agg [.int .i64 0, IV.int .i64 0, IV.vslice none 0 0 1 [], IV.int .i64 0], IV.bool false]) h) ∧
 (CS.over s = true →
 ∀ (i : Option Nat) (e : Nat) (h' : Heap),
 (∀ (k : Nat), k < Heap.next x.2.1 → Heap.get h' k = Heap.get x.2.1 k) →
 Heap.next x.2.1 ≤ Heap.next h' →
 needS
 (pureL
 [IV.agg
 [IV.int .i64 (CS.kind s), IV.int .i64 (CS.code s), IV.vslice none 0 (List.length (CS.out s)) 1 (ints (CS.out s)),
 IV.int .i64 (CS.val s)],
 IV.bool true])
 (Q
 (IV.tuple
 [IV.agg
 [IV.int .i64 (CS.kind s), IV.int .i64 (CS.code s), IV.vslice none 0 (List.length (CS.out s)) 1 (ints (CS.out s)),
 IV.int .i64 (CS.val s)],
 IV.bool true])
 h))))) ∧
 (newErr (Bi.mk w_1 e_1 p_1 s_1 a_1) f args_1 fuel = 0 →
 ∀ (L : Ly) (h' : Heap),
 Rep (Bi.mk w_1 e_1 p_1 s_1 a_1) (initS (Bi.mk w_1 e_1 p_1 s_1 a_1) f args_1 fuel) L ((0 : Nat) + 1) h' →
 (∀ (k : Nat), k < 0 → Heap.get h' k = IObj.dead ∧ Ly.r L k = Role.other) →
 0 ≤ Heap.next h' →
 (∃ (x : Nat × Heap × Ly),
 some (TV.v (.int .i64 most)) = some (TV.v (.int .i64 most)) ∧
 some (TV.l 10 0) = some (TV.l 10 0) ∧
 some (TV.v (.ptr ((0 : Nat) + 1) 0)) = some (TV.v (.ptr 1 0)) ∧
 some (TV.v (.int .i64 0)) = some (TV.v (.int .i64 (↑x.1 : Int))) ∧
 some [IV.int .i64 0, IV.int .i64 0, IV.nilslice, IV.int .i64 0] =
 some [IV.int .i64 0, IV.int .i64 0, IV.nilslice, IV.int .i64 0] ∧
 h' = x.2.1 ∧
 (newErr (Bi.mk w e p s a) f args fuel = 0 ∧
 x.1 ≤ most.toNat ∧
 Rep (Bi.mk w e p s a) (rnN (Bi.mk w e p s a) x.1 (initS (Bi.mk w e p s a) f args fuel)) x.2.2 (1 : Nat) x.2.1) ∧
 True) ∧
 ∀ (x : Nat × Heap × Ly) (b : FF),
 newErr (Bi.mk w e p s a) f args fuel = 0 ∧
 x.1 ≤ most.toNat ∧ Rep (Bi.mk w e p s a) (rnN (Bi.mk w e p s a) x.1 (initS (Bi.mk w e p s a) f args fuel)) x.2.2 (1 : Nat) x.2.1 →
 brS (decide ((↑x.1 : Int) < most))
 (hgetS x.2.1 1 fun r2 =>
 ldBS r2 16 fun b3 =>
 brS (!b3)
 (∃ (B : Bi),
 ∃ (s_2 : CS),
 ∃ (L : Ly),
 Rep B s_2 L (1 : Nat) x.2.1 ∧
 (VB B ∧ (∀ (x : Int), x ∈ Bi.w B → u32b x) ∧ WF B s_2 ∧ List.length (CS.out s_2) ≤ 1000000 ∧ List.length (CS.frames s_2) ≤ 1000000) ∧
 ∀ (L' : Ly) (h' : Heap),
 Rep B (stepS B s_2) L' (1 : Nat) h' →
 Frm L L' x.2.1 h' →
 ∃ (x_1 : Nat × Heap × Ly),
 some (TV.v (.int .i64 most)) = some (TV.v (.int .i64 most)) ∧
 some (TV.l 10 0) = some (TV.l 10 0) ∧
 some (TV.v (.ptr 1 0)) = some (TV.v (.ptr 1 0)) ∧
 some (TV.v (.int .i64 (IntKind.wrap .i64 ((↑x.1 : Int) + 1)))) = some (TV.v (.int .i64 (↑x_1.1 : Int))) ∧
 some [IV.int .i64 0, IV.int .i64 0, IV.nilslice, IV.int .i64 0] =
 some [IV.int .i64 0, IV.int .i64 0, IV.nilslice, IV.int .i64 0] ∧
 h' = x_1.2.1 ∧
 (newErr (Bi.mk w e p s a) f args fuel = 0 ∧
 x_1.1 ≤ most.toNat ∧
 Rep (Bi.mk w e p s a) (rnN (Bi.mk w e p s a) x_1.1 (initS (Bi.mk w e p s a) f args fuel)) x_1.2.2 (1 : Nat)
 x_1.2.1) ∧
 most.toNat - x_1.1 < most.toNat - x.1)
 (∃ (B : Bi),
 ∃ (s : CS),
 ∃ (L : Ly),
 Rep B s L (1 : Nat) x.2.1 ∧
 List.length (CS.out s) ≤ 1000000 ∧
 (CS.over s = false →
 Q
 (IV.tuple
 [IV.agg [.int .i64 0, IV.int .i64 0, IV.vslice none 0 0 1 [], IV.int .i64 0], IV.bool false])
 h) ∧
 (CS.over s = true →
 ∀ (i : Option Nat) (e : Nat) (h' : Heap),
 (∀ (k : Nat), k < Heap.next x.2.1 → Heap.get h' k = Heap.get x.2.1 k) →
 Heap.next x.2.1 ≤ Heap.next h' →
 needS
 (pureL
 [IV.agg
 [IV.int .i64 (CS.kind s), IV.int .i64 (CS.code s), IV.vslice none 0 (List.length (CS.out s)) 1 (ints (CS.out s)),
 IV.int .i64 (CS.val s)],
 IV.bool true])
 (Q
 (IV.tuple
 [IV.agg
 [IV.int .i64 (CS.kind s), IV.int .i64 (CS.code s), IV.vslice none 0 (List.length (CS.out s)) 1 (ints (CS.out s)),
 IV.int .i64 (CS.val s)],
 IV.bool true])
 h))))
 (∃ (B : Bi),
 ∃ (s : CS),
 ∃ (L : Ly),
 Rep B s L (1 : Nat) x.2.1 ∧
 List.length (CS.out s) ≤ 1000000 ∧
 (CS.over s = false →
 Q (.tuple [.agg [.int .i64 0, IV.int .i64 0, IV.vslice none 0 0 1 [], IV.int .i64 0], IV.bool false])
 h) ∧
 (CS.over s = true →
 ∀ (i : Option Nat) (e : Nat) (h' : Heap),
 (∀ (k : Nat), k < Heap.next x.2.1 → Heap.get h' k = Heap.get x.2.1 k) →
 Heap.next x.2.1 ≤ Heap.next h' →
 needS
 (pureL
 [IV.agg
 [IV.int .i64 (CS.kind s), IV.int .i64 (CS.code s), IV.vslice none 0 (List.length (CS.out s)) 1 (ints (CS.out s)),
 IV.int .i64 (CS.val s)],
 IV.bool true])
 (Q
 (IV.tuple
 [IV.agg
 [IV.int .i64 (CS.kind s), IV.int .i64 (CS.code s), IV.vslice none 0 (List.length (CS.out s)) 1 (ints (CS.out s)),
 IV.int .i64 (CS.val s)],
 IV.bool true])
 h)))))) := by kernel_rfl
set_option maxHeartbeats 4000000 in
theorem sCRun : ∀ xs h Q, kCRun xs h Q → CallW env 21 xs h Q := by
  intro xs h Q hk
  unfold kCRun at hk
  split at hk
  · rename_i e1 n1 c1 e2 n2 c2 e3 n3 c3 e4 n4 c4 e5 n5 c5 f e6 n6 c6 fuel most
    obtain ⟨w, e, p, s, a, args, ⟨rfl, rfl⟩, ⟨rfl, rfl⟩, ⟨rfl, rfl⟩, ⟨rfl, rfl⟩, ⟨rfl, rfl⟩, ⟨rfl, rfl⟩, hw, hm, hk⟩ := hk
    refine dF_run (okCEx) (vCRun w e p s a args e1 e2 e3 e4 e5 e6 f fuel most h Q) ?_
    have tn : ∀ x : Nat, (x : Int).toNat = x := Int.toNat_natCast
    refine needS_intro (by simp only [pureL, pureB, pureL_ints, Bool.and_true]) ⟨w, e, p, s, a, args, ⟨rfl, rfl⟩, ⟨rfl, rfl⟩, ⟨rfl, rfl⟩, ⟨rfl, rfl⟩, ⟨rfl, rfl⟩, ⟨rfl, rfl⟩, hw, fun he => ?_, fun he L0 h0 hr0 _ _ => ?_⟩
    · refine brS_intro (fun _ => ?_) (fun y => absurd (by simpa using y) he)
      have e0 : runR ⟨w, e, p, s, a⟩ f args fuel most = (0, 0, [], 0, false) := if_neg he
      rw [e0] at hk
      exact hk
    · obtain ⟨hv, hf, hal, hfu, ha8⟩ := err_ok he
      have wf0 := wf_init hv hf ha8 fuel
      have hR : runR ⟨w, e, p, s, a⟩ f args fuel most = outC5 (rnN ⟨w, e, p, s, a⟩ most.toNat (initS ⟨w, e, p, s, a⟩ f args fuel)) := if_pos he
      have lens := lens_run ⟨w, e, p, s, a⟩ (initS ⟨w, e, p, s, a⟩ f args fuel)
      have l0 : (initS ⟨w, e, p, s, a⟩ f args fuel).frames.length = 1 ∧ (initS ⟨w, e, p, s, a⟩ f args fuel).out.length = 0 := ⟨rfl, rfl⟩
      have same : ∀ k : Nat, (k : Int) ≤ most → (rnN ⟨w, e, p, s, a⟩ k (initS ⟨w, e, p, s, a⟩ f args fuel)).over = true → rnN ⟨w, e, p, s, a⟩ most.toNat (initS ⟨w, e, p, s, a⟩ f args fuel) = rnN ⟨w, e, p, s, a⟩ k (initS ⟨w, e, p, s, a⟩ f args fuel) := fun k hk ho => by
        have : most.toNat = k + (most.toNat - k) := by omega
        rw [this, rnN_add, rnN_over ho]
      refine ⟨⟨(0, h0, L0), (by first | rfl | trivial), (by first | rfl | trivial), (by first | rfl | trivial), (by first | rfl | trivial), (by first | rfl | trivial), (by first | rfl | trivial), ⟨he, Nat.zero_le _, hr0⟩, trivial⟩, fun x _ hx => ?_⟩
      obtain ⟨k, hp, L⟩ := x
      obtain ⟨_, hkm, hr⟩ := hx
      have hkm : k ≤ most.toNat := hkm
      have hr : Rep ⟨w, e, p, s, a⟩ (rnN ⟨w, e, p, s, a⟩ k (initS ⟨w, e, p, s, a⟩ f args fuel)) L 1 hp := hr
      have lk := lens k
      refine brS_intro (fun y => ?_) (fun y => ?_)
      · rw [decide_eq_true_eq] at y
        have y : (k : Int) < most := y
        refine hget_i hr.cpu (ldB_i ((cpu_z hr.rl 3).trans rfl) (brS_intro (fun z => ?_) (fun z => ?_)))
        · exact ⟨⟨w, e, p, s, a⟩, _, L, hr, ⟨hv, hw, wf_run hv hw wf0 k, by omega, by omega⟩, fun L' h' hr' _ => ⟨(k + 1, h', L'), (by first | rfl | trivial), (by first | rfl | trivial), (by first | rfl | trivial), (by simp only; rw [IntWalk.i64_in _ (by omega)]; rfl), (by first | rfl | trivial), (by first | rfl | trivial), ⟨he, (by simp only; omega), (by rw [← rnN_succ] at hr'; exact hr')⟩, (by simp only; omega)⟩⟩
        · have ho : (rnN ⟨w, e, p, s, a⟩ k (initS ⟨w, e, p, s, a⟩ f args fuel)).over = true := by simpa using z
          refine ⟨⟨w, e, p, s, a⟩, _, L, hr, by omega, fun z2 => by rw [ho] at z2; exact absurd z2 (by simp), fun _ i e0 h' _ _ => needS_intro (by simp only [pureL, pureB, ints, pureL_ints, Bool.and_true]) ?_⟩
          rw [hR, same k (by omega) ho] at hk
          unfold outC5 at hk
          rw [if_pos ho] at hk
          exact hk
      · rw [decide_eq_false_iff_not] at y
        have y : ¬ (k : Int) < most := y
        have ek : most.toNat = k := by omega
        rw [hR, ek] at hk
        unfold outC5 at hk
        refine ⟨⟨w, e, p, s, a⟩, _, L, hr, by omega, fun ho => ?_, fun ho i e0 h' _ _ => needS_intro (by simp only [pureL, pureB, ints, pureL_ints, Bool.and_true]) ?_⟩
        · rw [if_neg (by rw [ho]; simp)] at hk
          exact hk
        · rw [if_pos ho] at hk
          exact hk
  · exact hk.elim
def cCRun := addC 21 kCRun cCEx
theorem okCRun : Sound env cCRun := sound_add sCRun (okCEx)

end Go.Proofs.YtlenjfbmpekabaaDoor

end

section
/-
  The simulator of the target machine: the law on errors.
  Conditions: none.
-/
set_option linter.unusedVariables false
set_option linter.unusedSimpArgs false
namespace Go.Proofs.YtlenjfbmpekabaaDoor
open Go.Pv Go.M29 Go.M30 Go.M31 Go.M13
def rnA (w e p s a args : List Int) (e1 e2 e3 e4 e5 e6 : Nat) (f fuel : Int) (h : Heap) : Inv' := atX (Nat × Nat × Heap) (fun x => [(2, .v (.vslice none e6 (args).length 1 ((args).map (IV.int .i64)))), (4, .l 4 0), (10, .v (.ptr x.2.1 0)), (11, .v (.int .i64 x.1))]) (fun _ => [(4, [.vslice none e1 (w).length 1 ((w).map (IV.int .u32)), .vslice none e2 (e).length 1 ((e).map (IV.int .i64)), .vslice none e3 (p).length 1 ((p).map (IV.int .i64)), .vslice none e4 (s).length 1 ((s).map (IV.int .i64)), .vslice none e5 (a).length 1 ((a).map (IV.int .i64))])]) (fun x => x.2.2) (fun x => newErr ⟨w, e, p, s, a⟩ f args fuel = 0 ∧ x.1 ≤ args.length ∧ RAt h x.2.1 x.2.2 .nilslice) (fun x => args.length - x.1)
def rnB (w e p s a args : List Int) (e1 e2 e3 e4 e5 e6 : Nat) (f fuel : Int) (h : Heap) : Inv' := atX (Nat × Nat × Heap × Nat × List IV) (fun x => [(4, .l 4 0), (10, .v (.ptr x.2.1 0)), (12, .v (.int .i64 x.1))]) (fun _ => [(4, [.vslice none e1 (w).length 1 ((w).map (IV.int .u32)), .vslice none e2 (e).length 1 ((e).map (IV.int .i64)), .vslice none e3 (p).length 1 ((p).map (IV.int .i64)), .vslice none e4 (s).length 1 ((s).map (IV.int .i64)), .vslice none e5 (a).length 1 ((a).map (IV.int .i64))])]) (fun x => x.2.2.1) (fun x => newErr ⟨w, e, p, s, a⟩ f args fuel = 0 ∧ x.1 ≤ a.length ∧ RBt h x.2.1 x.1 x.2.2.1 x.2.2.2.1 x.2.2.2.2) (fun x => a.length - x.1)
def kRNew (xs : List IV) (h : Heap) (K : IV → Heap → Prop) : Prop := match xs with
  | [.agg [.vslice none e1 n1 1 c1, .vslice none e2 n2 1 c2, .vslice none e3 n3 1 c3, .vslice none e4 n4 1 c4, .vslice none e5 n5 1 c5], .int .i64 f, .vslice none e6 n6 1 c6, .int .i64 fuel] => ∃ w e p s a args : List Int, (n1 = w.length ∧ c1 = w.map (IV.int .u32)) ∧ (n2 = e.length ∧ c2 = e.map (IV.int .i64)) ∧ (n3 = p.length ∧ c3 = p.map (IV.int .i64)) ∧ (n4 = s.length ∧ c4 = s.map (IV.int .i64)) ∧ (n5 = a.length ∧ c5 = a.map (IV.int .i64)) ∧ (n6 = args.length ∧ c6 = args.map (IV.int .i64)) ∧ ((∀ x ∈ w, u32b x) ∧ w.length ≤ 1000000) ∧ (newErr ⟨w, e, p, s, a⟩ f args fuel ≠ 0 → K (.tuple [.nilptr, .int .i64 (newErr ⟨w, e, p, s, a⟩ f args fuel)]) h) ∧ (newErr ⟨w, e, p, s, a⟩ f args fuel = 0 → ∀ (i : Nat) (h' : Heap), (∀ k, k < h.next → h'.get k = h.get k) → h.next ≤ h'.next → K (.tuple [.ptr i 0, .int .i64 0]) h')
  | _ => False
set_option maxRecDepth 100000 in
theorem vRNew (w e p s a args : List Int) (e1 e2 e3 e4 e5 e6 : Nat) (f fuel : Int) (h : Heap) (Q : IV → Heap → Prop) : dF (stdS cCRun) env 20 noU (icA 12 (rnA w e p s a args e1 e2 e3 e4 e5 e6 f fuel h) (ic1 16 (rnB w e p s a args e1 e2 e3 e4 e5 e6 f fuel h))) noI [.agg [.vslice none e1 (w).length 1 ((w).map (IV.int .u32)), .vslice none e2 (e).length 1 ((e).map (IV.int .i64)), .vslice none e3 (p).length 1 ((p).map (IV.int .i64)), .vslice none e4 (s).length 1 ((s).map (IV.int .i64)), .vslice none e5 (a).length 1 ((a).map (IV.int .i64))], .int .i64 f, .vslice none e6 (args).length 1 ((args).map (IV.int .i64)), .int .i64 fuel] h Q = (
  ∃ (w_1 : List Int),
 ∃ (e_1 : List Int),
 ∃ (p_1 : List Int),
 ∃ (s_1 : List Int),
 ∃ (a_1 : List Int),
 (w.length = w_1.length ∧ List.map (IV.int .u32) w = List.map (IV.int .u32) w_1) ∧
 (e.length = e_1.length ∧ List.map (IV.int .i64) e = List.map (IV.int .i64) e_1) ∧
 (p.length = p_1.length ∧ List.map (IV.int .i64) p = List.map (IV.int .i64) p_1) ∧
 (s.length = s_1.length ∧ List.map (IV.int .i64) s = List.map (IV.int .i64) s_1) ∧
 (a.length = a_1.length ∧ List.map (IV.int .i64) a = List.map (IV.int .i64) a_1) ∧
 ((∀ (x : Int), x ∈ w_1 → u32b x) ∧ w_1.length ≤ 1000000) ∧
 ∀ (r : Bool),
 (r = true ↔ VB (Bi.mk w_1 e_1 p_1 s_1 a_1)) →
 brS (!r) (Q (.tuple [.nilptr, IV.int .i64 204]) h)
 (brS (decide (f < 0)) (Q (.tuple [.nilptr, IV.int .i64 3]) h)
 (brS (decide (f ≥ (↑e.length : Int))) (Q (.tuple [.nilptr, IV.int .i64 3]) h)
 (needS (decide (0 ≤ f) && decide (f < (↑p.length : Int)))
 (ldIS .i64 (List.map (IV.int .i64) p) (f.toNat * 1) fun n0 =>
 brS ((↑args.length : Int) != n0) (Q (.tuple [.nilptr, IV.int .i64 5]) h)
 (brS (decide (fuel < 0)) (Q (.tuple [.nilptr, IV.int .i64 6]) h)
 (brS (decide (fuel > 1000)) (Q (.tuple [.nilptr, IV.int .i64 6]) h)
 (needS (decide (0 ≤ f) && decide (f < (↑e.length : Int)))
 (ldIS .i64 (List.map (IV.int .i64) e) (f.toNat * 1) fun n1 =>
 needS (decide (0 ≤ f) && decide (f < (↑s.length : Int)))
 (ldIS .i64 (List.map (IV.int .i64) s) (f.toNat * 1) fun n2 =>
 needS (decide (0 ≤ n2) && (decide (n2 ≤ n2) && (decide (n2 ≤ 9223372036854775807) && decide ((8 : Int) * n2 ≤ 140737488355328))))
 ((∃ (x : Nat × Nat × Heap),
 some (TV.v (.vslice none e6 args.length 1 (List.map (IV.int .i64) args))) =
 some (TV.v (.vslice none e6 args.length 1 (List.map (IV.int .i64) args))) ∧
 some (TV.l 4 0) = some (TV.l 4 0) ∧
 some (TV.v (.ptr (Heap.next h + 1) 0)) = some (TV.v (.ptr x.2.1 0)) ∧
 some (TV.v (.int .i64 0)) = some (TV.v (.int .i64 (↑x.1 : Int))) ∧
 some
 [IV.vslice none e1 w.length 1 (List.map (IV.int .u32) w), IV.vslice none e2 e.length 1 (List.map (IV.int .i64) e),
 IV.vslice none e3 p.length 1 (List.map (IV.int .i64) p), IV.vslice none e4 s.length 1 (List.map (IV.int .i64) s),
 IV.vslice none e5 a.length 1 (List.map (IV.int .i64) a)] =
 some
 [IV.vslice none e1 w.length 1 (List.map (IV.int .u32) w), IV.vslice none e2 e.length 1 (List.map (IV.int .i64) e),
 IV.vslice none e3 p.length 1 (List.map (IV.int .i64) p), IV.vslice none e4 s.length 1 (List.map (IV.int .i64) s),
 IV.vslice none e5 a.length 1 (List.map (IV.int .i64) a)] ∧
 Heap.push (Heap.push h (IObj.cells (repl n2.toNat [IV.int .i64 0])))
 (IObj.cells
 [IV.vslice none e1 w.length 1 (List.map (IV.int .u32) w), IV.vslice none e2 e.length 1 (List.map (IV.int .i64) e),
 IV.vslice none e3 p.length 1 (List.map (IV.int .i64) p), IV.vslice none e4 s.length 1 (List.map (IV.int .i64) s),
 IV.vslice none e5 a.length 1 (List.map (IV.int .i64) a), IV.int .i64 0, IV.int .i64 0,
 IV.int .i64 0, IV.int .i64 0, IV.int .i64 0, IV.int .i64 0, IV.int .i64 0,
 IV.int .i64 0, IV.nilslice,
 IV.vslice none 1 1 2 [IV.hslice (Heap.next h) 0 n2.toNat 1, IV.int .i64 0], IV.int .i64 n1,
 IV.int .i64 fuel, IV.nilslice, IV.bool false, IV.int .i64 0, IV.int .i64 0, IV.nilslice, IV.int .i64 0]) =
 x.2.2 ∧
 (newErr (Bi.mk w e p s a) f args fuel = 0 ∧ x.1 ≤ args.length ∧ RAt h x.2.1 x.2.2 IV.nilslice) ∧ True) ∧
 ∀ (x : Nat × Nat × Heap) (b : FF),
 newErr (Bi.mk w e p s a) f args fuel = 0 ∧ x.1 ≤ args.length ∧ RAt h x.2.1 x.2.2 IV.nilslice →
 brS (decide ((↑x.1 : Int) < (↑args.length : Int)))
 (needS (decide (0 ≤ (↑x.1 : Int)) && decide ((↑x.1 : Int) < (↑args.length : Int)))
 (ldIS .i64 (List.map (IV.int .i64) args) (Int.toNat (↑x.1 : Int) * 1) fun n3 =>
 needS (decide (0 ≤ (↑x.1 : Int)) && decide ((↑x.1 : Int) < 8))
 (hgetS x.2.2 x.2.1 fun r4 =>
 needS (Nat.ble ((5 : Nat) + Int.toNat (↑x.1 : Int) * 1 + (1 : Nat)) r4.length)
 (∃ (x_1 : Nat × Nat × Heap),
 some (TV.v (.vslice none e6 args.length 1 (List.map (IV.int .i64) args))) =
 some (TV.v (.vslice none e6 args.length 1 (List.map (IV.int .i64) args))) ∧
 some (TV.l 4 0) = some (TV.l 4 0) ∧
 some (TV.v (.ptr x.2.1 0)) = some (TV.v (.ptr x_1.2.1 0)) ∧
 some (TV.v (.int .i64 (IntKind.wrap .i64 ((↑x.1 : Int) + 1)))) = some (TV.v (.int .i64 (↑x_1.1 : Int))) ∧
 some
 [IV.vslice none e1 w.length 1 (List.map (IV.int .u32) w),
 IV.vslice none e2 e.length 1 (List.map (IV.int .i64) e),
 IV.vslice none e3 p.length 1 (List.map (IV.int .i64) p),
 IV.vslice none e4 s.length 1 (List.map (IV.int .i64) s),
 IV.vslice none e5 a.length 1 (List.map (IV.int .i64) a)] =
 some
 [IV.vslice none e1 w.length 1 (List.map (IV.int .u32) w),
 IV.vslice none e2 e.length 1 (List.map (IV.int .i64) e),
 IV.vslice none e3 p.length 1 (List.map (IV.int .i64) p),
 IV.vslice none e4 s.length 1 (List.map (IV.int .i64) s),
 IV.vslice none e5 a.length 1 (List.map (IV.int .i64) a)] ∧
 Heap.set x.2.2 x.2.1
 (IObj.cells
 (List.take ((5 : Nat) + Int.toNat (↑x.1 : Int) * 1) r4 ++ [IV.int .i64 n3] ++
 List.drop ((5 : Nat) + Int.toNat (↑x.1 : Int) * 1 + (1 : Nat)) r4)) =
 x_1.2.2 ∧
 (newErr (Bi.mk w e p s a) f args fuel = 0 ∧
 x_1.1 ≤ args.length ∧ RAt h x_1.2.1 x_1.2.2 IV.nilslice) ∧
 args.length - x_1.1 < args.length - x.1))))
 ((∃ (x_1 : Nat × Nat × Heap × Nat × List IV),
 some (TV.l 4 0) = some (TV.l 4 0) ∧
 some (TV.v (.ptr x.2.1 0)) = some (TV.v (.ptr x_1.2.1 0)) ∧
 some (TV.v (.int .i64 0)) = some (TV.v (.int .i64 (↑x_1.1 : Int))) ∧
 some
 [IV.vslice none e1 w.length 1 (List.map (IV.int .u32) w), IV.vslice none e2 e.length 1 (List.map (IV.int .i64) e),
 IV.vslice none e3 p.length 1 (List.map (IV.int .i64) p), IV.vslice none e4 s.length 1 (List.map (IV.int .i64) s),
 IV.vslice none e5 a.length 1 (List.map (IV.int .i64) a)] =
 some
 [IV.vslice none e1 w.length 1 (List.map (IV.int .u32) w), IV.vslice none e2 e.length 1 (List.map (IV.int .i64) e),
 IV.vslice none e3 p.length 1 (List.map (IV.int .i64) p), IV.vslice none e4 s.length 1 (List.map (IV.int .i64) s),
 IV.vslice none e5 a.length 1 (List.map (IV.int .i64) a)] ∧
 x.2.2 = x_1.2.2.1 ∧
 (newErr (Bi.mk w e p s a) f args fuel = 0 ∧
 x_1.1 ≤ a.length ∧
 RBt h x_1.2.1 x_1.1 x_1.2.2.1 x_1.2.2.2.1
 x_1.2.2.2.2) ∧
 True) ∧
 ∀ (x : Nat × Nat × Heap × Nat × List IV) (b : FF),
 newErr (Bi.mk w e p s a) f args fuel = 0 ∧
 x.1 ≤ a.length ∧
 RBt h x.2.1 x.1 x.2.2.1 x.2.2.2.1
 x.2.2.2.2 →
 brS (decide ((↑x.1 : Int) < (↑a.length : Int)))
 (hgetS x.2.2.1 x.2.1 fun r5 =>
 ldNVS 1 r5 13
 (needS (decide (0 ≤ (↑x.1 : Int)) && decide ((↑x.1 : Int) < (↑a.length : Int)))
 (ldIS .i64 (List.map (IV.int .i64) a) (Int.toNat (↑x.1 : Int) * 1) fun n6 =>
 needS (decide (0 ≤ n6) && (decide (n6 ≤ n6) && (decide (n6 ≤ 9223372036854775807) && decide ((8 : Int) * n6 ≤ 140737488355328))))
 (sameAt x.2.2.1 (Heap.push x.2.2.1 (IObj.cells (repl n6.toNat [IV.int .i64 0])))
 (some x.2.1) ∧
 hgetS (Heap.push (Heap.push x.2.2.1 (IObj.cells (repl n6.toNat [IV.int .i64 0]))) (IObj.tip (1 : Nat)))
 x.2.1 fun r7 =>
 needS (Nat.ble 14 r7.length)
 (∃ (x_1 : Nat × Nat × Heap × Nat × List IV),
 some (TV.l 4 0) = some (TV.l 4 0) ∧
 some (TV.v (.ptr x.2.1 0)) = some (TV.v (.ptr x_1.2.1 0)) ∧
 some (TV.v (.int .i64 (IntKind.wrap .i64 ((↑x.1 : Int) + 1)))) =
 some (TV.v (.int .i64 (↑x_1.1 : Int))) ∧
 some
 [IV.vslice none e1 w.length 1 (List.map (IV.int .u32) w),
 IV.vslice none e2 e.length 1 (List.map (IV.int .i64) e),
 IV.vslice none e3 p.length 1 (List.map (IV.int .i64) p),
 IV.vslice none e4 s.length 1 (List.map (IV.int .i64) s),
 IV.vslice none e5 a.length 1 (List.map (IV.int .i64) a)] =
 some
 [IV.vslice none e1 w.length 1 (List.map (IV.int .u32) w),
 IV.vslice none e2 e.length 1 (List.map (IV.int .i64) e),
 IV.vslice none e3 p.length 1 (List.map (IV.int .i64) p),
 IV.vslice none e4 s.length 1 (List.map (IV.int .i64) s),
 IV.vslice none e5 a.length 1 (List.map (IV.int .i64) a)] ∧
 Heap.set
 (Heap.push (Heap.push x.2.2.1 (IObj.cells (repl n6.toNat [IV.int .i64 0])))
 (IObj.tip (1 : Nat)))
 x.2.1
 (IObj.cells
 (List.take 13 r7 ++
 [IV.vslice (some (Heap.next x.2.2.1 + 1)) 1 1 1
 [IV.hslice (Heap.next x.2.2.1) 0 n6.toNat 1]] ++
 List.drop 14 r7)) =
 x_1.2.2.1 ∧
 (newErr (Bi.mk w e p s a) f args fuel = 0 ∧
 x_1.1 ≤ a.length ∧
 RBt h x_1.2.1 x_1.1 x_1.2.2.1 x_1.2.2.2.1
 x_1.2.2.2.2) ∧
 a.length - x_1.1 < a.length - x.1))))
 fun (i8 e9 l10 : Nat) (c11 : List IV) =>
 needS (decide (0 ≤ (↑x.1 : Int)) && decide ((↑x.1 : Int) < (↑a.length : Int)))
 (ldIS .i64 (List.map (IV.int .i64) a) (Int.toNat (↑x.1 : Int) * 1) fun n12 =>
 needS (decide (0 ≤ n12) && (decide (n12 ≤ n12) && (decide (n12 ≤ 9223372036854775807) && decide ((8 : Int) * n12 ≤ 140737488355328))))
 (sameAt x.2.2.1 (Heap.push x.2.2.1 (IObj.cells (repl n12.toNat [IV.int .i64 0])))
 (some x.2.1) ∧
 tipS (Heap.push x.2.2.1 (IObj.cells (repl n12.toNat [IV.int .i64 0]))) i8 fun (m13 : Nat) =>
 needS (Nat.beq m13 e9 && Nat.ble ((l10 + 1) * 24) (140737488355328 : Nat))
 (hgetS
 (Heap.set (Heap.push x.2.2.1 (IObj.cells (repl n12.toNat [IV.int .i64 0]))) i8
 (IObj.tip (e9 + 1)))
 x.2.1 fun r14 =>
 needS (Nat.ble 14 r14.length)
 (∃ (x_1 : Nat × Nat × Heap × Nat × List IV),
 some (TV.l 4 0) = some (TV.l 4 0) ∧
 some (TV.v (.ptr x.2.1 0)) = some (TV.v (.ptr x_1.2.1 0)) ∧
 some (TV.v (.int .i64 (IntKind.wrap .i64 ((↑x.1 : Int) + 1)))) =
 some (TV.v (.int .i64 (↑x_1.1 : Int))) ∧
 some
 [IV.vslice none e1 w.length 1 (List.map (IV.int .u32) w),
 IV.vslice none e2 e.length 1 (List.map (IV.int .i64) e),
 IV.vslice none e3 p.length 1 (List.map (IV.int .i64) p),
 IV.vslice none e4 s.length 1 (List.map (IV.int .i64) s),
 IV.vslice none e5 a.length 1 (List.map (IV.int .i64) a)] =
 some
 [IV.vslice none e1 w.length 1 (List.map (IV.int .u32) w),
 IV.vslice none e2 e.length 1 (List.map (IV.int .i64) e),
 IV.vslice none e3 p.length 1 (List.map (IV.int .i64) p),
 IV.vslice none e4 s.length 1 (List.map (IV.int .i64) s),
 IV.vslice none e5 a.length 1 (List.map (IV.int .i64) a)] ∧
 Heap.set
 (Heap.set (Heap.push x.2.2.1 (IObj.cells (repl n12.toNat [IV.int .i64 0]))) i8
 (IObj.tip (e9 + 1)))
 x.2.1
 (IObj.cells
 (List.take 13 r14 ++
 [IV.vslice (some i8) (e9 + 1) (l10 + 1) 1
 (c11 ++ [IV.hslice (Heap.next x.2.2.1) 0 n12.toNat 1])] ++
 List.drop 14 r14)) =
 x_1.2.2.1 ∧
 (newErr (Bi.mk w e p s a) f args fuel = 0 ∧
 x_1.1 ≤ a.length ∧
 RBt h x_1.2.1 x_1.1 x_1.2.2.1 x_1.2.2.2.1
 x_1.2.2.2.2) ∧
 a.length - x_1.1 < a.length - x.1)))))
 (Q (.tuple [.ptr x.2.1 0, IV.int .i64 0]) x.2.2.1))))))))))))) := by kernel_rfl
set_option maxHeartbeats 8000000 in
set_option maxRecDepth 100000 in
theorem sRNew : ∀ xs h Q, kRNew xs h Q → CallW env 20 xs h Q := by
  intro xs h Q hk
  unfold kRNew at hk
  split at hk
  · rename_i e1 n1 c1 e2 n2 c2 e3 n3 c3 e4 n4 c4 e5 n5 c5 f e6 n6 c6 fuel
    obtain ⟨w, e, p, s, a, args, ⟨rfl, rfl⟩, ⟨rfl, rfl⟩, ⟨rfl, rfl⟩, ⟨rfl, rfl⟩, ⟨rfl, rfl⟩, ⟨rfl, rfl⟩, hw, hk0, hk⟩ := hk
    refine dF_run (okCRun) (vRNew w e p s a args e1 e2 e3 e4 e5 e6 f fuel h Q) ?_
    have tn : ∀ x : Nat, (x : Int).toNat = x := Int.toNat_natCast
    obtain ⟨hw, hwl⟩ := hw
    refine ⟨w, e, p, s, a, ⟨rfl, rfl⟩, ⟨rfl, rfl⟩, ⟨rfl, rfl⟩, ⟨rfl, rfl⟩, ⟨rfl, rfl⟩, ⟨hw, hwl⟩, fun r hr => ?_⟩
    by_cases hv : VB ⟨w, e, p, s, a⟩
    case neg =>
      have hr2 : r = false := by
        cases r
        · rfl
        · exact absurd (hr.1 rfl) hv
      subst hr2
      have he : newErr ⟨w, e, p, s, a⟩ f args fuel = 204 := by unfold newErr; rw [if_pos hv]
      rw [he] at hk0
      exact hk0 (by omega)
    have hr2 : r = true := hr.2 hv
    subst hr2
    have hpl : p.length = e.length := hv.2.2.1
    have hsl : s.length = e.length := hv.2.2.2.1
    have n0 : newErr ⟨w, e, p, s, a⟩ f args fuel = if f < 0 ∨ (e.length : Int) ≤ f then 3 else if (args.length : Int) ≠ p.getD f.toNat 0 then 5 else if fuel < 0 ∨ 1000 < fuel then 6 else 0 := by unfold newErr; rw [if_neg (fun z => z hv)]
    show brS (decide (f < 0)) _ _
    refine brS_intro (fun c => ?_) (fun c1 => brS_intro (fun c => ?_) (fun c2 => ?_))
    · rw [decide_eq_true_eq] at c
      rw [n0, if_pos (.inl c)] at hk0
      exact hk0 (by omega)
    · rw [decide_eq_true_eq] at c
      rw [n0, if_pos (.inr (by omega))] at hk0
      exact hk0 (by omega)
    rw [decide_eq_false_iff_not] at c1 c2
    rw [if_neg (by omega)] at n0
    have hfp : f.toNat < p.length := by omega
    have hfe : f.toNat < e.length := by omega
    have hfs : f.toNat < s.length := by omega
    have hgp : p.getD f.toNat 0 = p[f.toNat] := by rw [List.getD_eq_getElem?_getD, List.getElem?_eq_getElem hfp]; rfl
    obtain ⟨q1, q2, q3, e1', e2', e3', e4', e5', e6'⟩ := hv.2.2.2.2.2.2.2.1 _ hfe
    have e3s : s[f.toNat] = q3 := by
      have e3 : s[f.toNat]? = some q3 := e3'
      rw [List.getElem?_eq_getElem hfs] at e3
      exact Option.some.inj e3
    have hgp2 : p[f.toNat] = q2 := by
      have e3 : p[f.toNat]? = some q2 := e2'
      rw [List.getElem?_eq_getElem hfp] at e3
      exact Option.some.inj e3
    rw [hgp] at n0
    rw [Nat.mul_one]
    refine needS_intro (by simp; omega) (ldIS_map hfp (brS_intro (fun c => ?_) (fun c3 => brS_intro (fun c => ?_) (fun c4 => brS_intro (fun c => ?_) (fun c5 => ?_)))))
    · rw [bne_iff_ne] at c
      rw [n0, if_pos c] at hk0
      exact hk0 (by omega)
    · rw [bne_eq_false_iff_eq] at c3
      rw [decide_eq_true_eq] at c
      rw [n0, if_neg (fun z => z c3), if_pos (.inl c)] at hk0
      exact hk0 (by omega)
    · rw [bne_eq_false_iff_eq] at c3
      rw [decide_eq_true_eq] at c
      rw [n0, if_neg (fun z => z c3), if_pos (.inr (by omega))] at hk0
      exact hk0 (by omega)
    rw [bne_eq_false_iff_eq] at c3
    rw [decide_eq_false_iff_not] at c4 c5
    rw [if_neg (fun z => z c3), if_neg (by omega)] at n0
    have hal : args.length ≤ 8 := by omega
    refine needS_intro (by simp; omega) (ldIS_map hfe (needS_intro (by simp; omega) (ldIS_map hfs (needS_intro (by simp; omega) ⟨⟨(0, h.next + 1, _), (by first | rfl | trivial), (by first | rfl | trivial), (by first | rfl | trivial), (by first | rfl | trivial), (by first | rfl | trivial), rfl, ⟨n0, Nat.zero_le _, ?_⟩, trivial⟩, fun x _ hx => ?_⟩))))
    · exact RAt.new rfl rfl
    obtain ⟨k, id, hp⟩ := x
    obtain ⟨_, hka, r⟩ := hx
    have hka : k ≤ args.length := hka
    have r : RAt h id hp .nilslice := r
    refine brS_intro (fun c => ?_) (fun c => ?_)
    · have c : (k : Int) < args.length := by simpa using c
      have hlt : k < args.length := by omega
      obtain ⟨cs, g1, g2, g3⟩ := r.cs
      refine needS_intro (by simp; omega) ?_
      rw [tn, Nat.mul_one]
      refine ldIS_map hlt (needS_intro (by simp; omega) (hget_i g1 (needS_intro (by rw [Nat.ble_eq]; omega) ?_)))
      rw [store_set (by omega)]
      refine ⟨(k + 1, id, _), (by first | rfl | trivial), (by first | rfl | trivial), (by first | rfl | trivial), (by simp only; rw [IntWalk.i64_in _ (by omega)]; rfl), (by first | rfl | trivial), rfl, ⟨n0, (by simp only; omega), r.set (by rw [List.length_set]; exact g2) ?_⟩, (by simp only; omega)⟩
      rw [List.getElem?_set_ne (by omega)]
      exact g3
    refine ⟨⟨(0, id, hp, 0, []), (by first | rfl | trivial), (by first | rfl | trivial), (by first | rfl | trivial), (by first | rfl | trivial), rfl, ⟨n0, Nat.zero_le _, ⟨r, fun z => absurd rfl z⟩⟩, trivial⟩, fun x _ hx => ?_⟩
    clear r c hka
    obtain ⟨k, id, hp, ai, rows⟩ := x
    obtain ⟨_, hka, r⟩ := hx
    have hka : k ≤ a.length := hka
    have r : RBt h id k hp ai rows := r
    refine brS_intro (fun c => ?_) (fun c => ?_)
    · have c : (k : Int) < a.length := by simpa using c
      have hlt : k < a.length := by omega
      obtain ⟨cs, g1, g2, g3⟩ := r.a.cs
      obtain ⟨x9, y1, y2⟩ := hv.2.2.2.2.2.2.2.2.1 k hlt
      have y1' : a[k]? = some x9 := y1
      rw [List.getElem?_eq_getElem hlt] at y1'
      have hx9 := Option.some.inj y1'
      have hi := r.a.hi
      have hka4 : a.length ≤ 4 := hv.2.2.2.2.1
      refine hget_i g1 ?_
      rw [tn, Nat.mul_one]
      by_cases h0 : k = 0
      · subst h0
        refine ldNV_n g3 (needS_intro (by simp; omega) (ldIS_map hlt (needS_intro (by simp; omega) ⟨?_, hget_i (by rw [get_push, if_neg (by simp only [next_push]; omega), get_push, if_neg (by (try simp only); omega)]; exact g1) (needS_intro (by rw [Nat.ble_eq]; omega) ?_)⟩)))
        · show (hp.push _).get _ = hp.get _
          rw [get_push, if_neg (by (try simp only); omega)]
        · exact ⟨(1, id, _, hp.next + 1, _), (by first | rfl | trivial), (by first | rfl | trivial), (by simp only; rw [IntWalk.i64_in _ (by (try simp only); omega)]; rfl), (by first | rfl | trivial), rfl, ⟨n0, (by simp only; omega), r.one g1 g2⟩, (by simp only; omega)⟩
      · unfold rowsC at g3
        rw [if_neg h0] at g3
        obtain ⟨t1, t2, t3, t4⟩ := r.tp h0
        refine ldNV_i g3 (needS_intro (by simp; omega) (ldIS_map hlt (needS_intro (by simp; omega) ⟨?_, tip_i (m := k) (by rw [get_push, if_neg (by (try simp only); omega)]; exact t1) (needS_intro (by rw [Bool.and_eq_true, nbeq_t, Nat.ble_eq]; omega) (hget_i (by rw [get_set, if_neg (fun z => t3 z.symm), get_push, if_neg (by (try simp only); omega)]; exact g1) (needS_intro (by rw [Nat.ble_eq]; omega) ?_)))⟩)))
        · show (hp.push _).get _ = hp.get _
          rw [get_push, if_neg (by (try simp only); omega)]
        · exact ⟨(k + 1, id, _, ai, _), (by first | rfl | trivial), (by first | rfl | trivial), (by simp only; rw [IntWalk.i64_in _ (by (try simp only); omega)]; rfl), (by first | rfl | trivial), rfl, ⟨n0, (by simp only; omega), r.more h0 g2⟩, (by simp only; omega)⟩
    · exact hk n0 id hp r.a.ot r.a.nx
  · exact hk.elim
def cRNew := addC 20 kRNew cCRun
theorem okRNew : Sound env cRNew := sound_add sRNew (okCRun)

def erA (w e p s a l args : List Int) (f fuel a1 b1 w1 : Int) : Inv' := atX (Bi × Nat × Heap) (fun x => [(2, .v (.int .i64 f)), (3, .v (eArgs args)), (4, .v (.int .i64 fuel)), (5, .v (.int .i64 a1)), (6, .v (.int .i64 b1)), (7, .v (.int .i64 w1)), (45, .v (.vslice none 1 2 5 (erow ⟨w, e, p, s, a⟩ (x.1)))), (46, .v (.int .i64 2)), (47, .v (.int .i64 (x.2.1)))]) (fun x => []) (fun x => x.2.2) (fun x => okB (x.1) ∧ x.2.1 ≤ 2) (fun x => 2 - x.2.1)
def erB (w e p s a l args : List Int) (f fuel a1 b1 w1 : Int) : Inv' := atX (Bi × Nat × Bi × Nat × Heap) (fun x => [(2, .v (.int .i64 f)), (3, .v (eArgs args)), (4, .v (.int .i64 fuel)), (5, .v (.int .i64 a1)), (6, .v (.int .i64 b1)), (7, .v (.int .i64 w1)), (45, .v (.vslice none 1 2 5 (erow ⟨w, e, p, s, a⟩ (x.1)))), (46, .v (.int .i64 2)), (47, .v (.int .i64 (x.2.1))), (18, .l 18 0), (55, .v (.vslice none 1 2 1 (eInt f (IntKind.i64.wrap (f % 4 - 1))))), (56, .v (.int .i64 2)), (57, .v (.int .i64 (x.2.2.2.1)))]) (fun x => [(18, binC (x.2.2.1))]) (fun x => x.2.2.2.2) (fun x => okB (x.1) ∧ x.2.1 < 2 ∧ okB (x.2.2.1) ∧ x.2.2.2.1 ≤ 2) (fun x => (2 - x.2.1) * 3 + (2 - x.2.2.2.1))
def erC (w e p s a l args : List Int) (f fuel a1 b1 w1 : Int) : Inv' := atX (Bi × Nat × Bi × Nat × Int × Nat × Heap) (fun x => [(2, .v (.int .i64 f)), (3, .v (eArgs args)), (4, .v (.int .i64 fuel)), (5, .v (.int .i64 a1)), (6, .v (.int .i64 b1)), (7, .v (.int .i64 w1)), (45, .v (.vslice none 1 2 5 (erow ⟨w, e, p, s, a⟩ (x.1)))), (46, .v (.int .i64 2)), (47, .v (.int .i64 (x.2.1))), (18, .l 18 0), (55, .v (.vslice none 1 2 1 (eInt f (IntKind.i64.wrap (f % 4 - 1))))), (56, .v (.int .i64 2)), (57, .v (.int .i64 (x.2.2.2.1))), (20, .v (.int .i64 (x.2.2.2.2.1))), (66, .v (.vslice none 1 2 1 (eArg args (word a1 w1) (word b1 w1)))), (67, .v (.int .i64 2)), (68, .v (.int .i64 (x.2.2.2.2.2.1)))]) (fun x => [(18, binC (x.2.2.1))]) (fun x => x.2.2.2.2.2.2) (fun x => okB (x.1) ∧ x.2.1 < 2 ∧ okB (x.2.2.1) ∧ x.2.2.2.1 < 2 ∧ x.2.2.2.2.2.1 ≤ 2) (fun x => ((2 - x.2.1) * 3 + (2 - x.2.2.2.1)) * 3 + (2 - x.2.2.2.2.2.1))
def erD (w e p s a l args : List Int) (f fuel a1 b1 w1 : Int) : Inv' := atX (Bi × Nat × Bi × Nat × Int × Nat × List Int × Nat × Heap) (fun x => [(2, .v (.int .i64 f)), (3, .v (eArgs args)), (4, .v (.int .i64 fuel)), (5, .v (.int .i64 a1)), (6, .v (.int .i64 b1)), (7, .v (.int .i64 w1)), (45, .v (.vslice none 1 2 5 (erow ⟨w, e, p, s, a⟩ (x.1)))), (46, .v (.int .i64 2)), (47, .v (.int .i64 (x.2.1))), (18, .l 18 0), (55, .v (.vslice none 1 2 1 (eInt f (IntKind.i64.wrap (f % 4 - 1))))), (56, .v (.int .i64 2)), (57, .v (.int .i64 (x.2.2.2.1))), (20, .v (.int .i64 (x.2.2.2.2.1))), (66, .v (.vslice none 1 2 1 (eArg args (word a1 w1) (word b1 w1)))), (67, .v (.int .i64 2)), (68, .v (.int .i64 (x.2.2.2.2.2.1))), (22, .v (eArgs (x.2.2.2.2.2.2.1))), (76, .v (.vslice none 1 2 1 (eInt fuel (IntKind.i64.wrap (fuel % 1003 - 1))))), (77, .v (.int .i64 2)), (78, .v (.int .i64 (x.2.2.2.2.2.2.2.1)))]) (fun x => [(18, binC (x.2.2.1))]) (fun x => x.2.2.2.2.2.2.2.2) (fun x => okB (x.1) ∧ x.2.1 < 2 ∧ okB (x.2.2.1) ∧ x.2.2.2.1 < 2 ∧ x.2.2.2.2.2.1 < 2 ∧ x.2.2.2.2.2.2.2.1 ≤ 2) (fun x => (((2 - x.2.1) * 3 + (2 - x.2.2.2.1)) * 3 + (2 - x.2.2.2.2.2.1)) * 3 + (2 - x.2.2.2.2.2.2.2.1))
def kLErrs (xs : List IV) (h : Heap) (K : IV → Heap → Prop) : Prop := match xs with
  | [.agg [.vslice none e1 n1 1 c1, .vslice none e2 n2 1 c2, .vslice none e3 n3 1 c3, .vslice none e4 n4 1 c4, .vslice none e5 n5 1 c5], .vslice none e6 n6 1 c6, .int .i64 f, .vslice none e7 n7 1 c7, .int .i64 fuel, .int .i64 a1, .int .i64 b1, .int .i64 w1] => ∃ w e p s a l args : List Int, (n1 = w.length ∧ c1 = w.map (IV.int .u32)) ∧ (n2 = e.length ∧ c2 = e.map (IV.int .i64)) ∧ (n3 = p.length ∧ c3 = p.map (IV.int .i64)) ∧ (n4 = s.length ∧ c4 = s.map (IV.int .i64)) ∧ (n5 = a.length ∧ c5 = a.map (IV.int .i64)) ∧ (n6 = l.length ∧ c6 = l.map (IV.int .i64)) ∧ (n7 = args.length ∧ c7 = args.map (IV.int .i64)) ∧ ((∀ x ∈ w, u32b x) ∧ (∀ a ∈ l, -9223372036854775808 ≤ a ∧ a ≤ 9223372036854775807) ∧ l.length < 4611686018427387904) ∧ K (.bool true) h
  | _ => False
set_option maxRecDepth 100000 in
theorem vLErrs (w e p s a l args : List Int) (e1 e2 e3 e4 e5 e6 e7 : Nat) (f fuel a1 b1 w1 : Int) (h : Heap) (Q : IV → Heap → Prop) : dF (stdS cRNew) env 4 noU (icA 5 (erA w e p s a l args f fuel a1 b1 w1) (icA 1000008 (erB w e p s a l args f fuel a1 b1 w1) (icA 1000011 (erC w e p s a l args f fuel a1 b1 w1) (ic1 1000014 (erD w e p s a l args f fuel a1 b1 w1))))) noI [.agg [.vslice none e1 (w).length 1 ((w).map (IV.int .u32)), .vslice none e2 (e).length 1 ((e).map (IV.int .i64)), .vslice none e3 (p).length 1 ((p).map (IV.int .i64)), .vslice none e4 (s).length 1 ((s).map (IV.int .i64)), .vslice none e5 (a).length 1 ((a).map (IV.int .i64))], .vslice none e6 (l).length 1 ((l).map (IV.int .i64)), .int .i64 f, .vslice none e7 (args).length 1 ((args).map (IV.int .i64)), .int .i64 fuel, .int .i64 a1, .int .i64 b1, .int .i64 w1] h Q = (
  needS (pureL [IV.agg [eWords w, eArgs e, eArgs p, eArgs s, eArgs a], eArgs l, IV.int .i64 f, eArgs args, IV.int .i64 fuel, IV.int .i64 a1, IV.int .i64 b1, IV.int .i64 w1]) (brS (decide ((↑w.length : Int) > 60)) (Q (.bool true) h) (brS (decide ((↑e.length : Int) > 20)) (Q (.bool true) h) (∃ (l_1 : List Int), (l.length = 
 l_1.length ∧ List.map (IV.int .i64) l = List.map (IV.int .i64) l_1) ∧ (l_1.length < 4611686018427387904 ∧ ∀ (a : Int), a ∈ l_1 → (-9223372036854775808 : Int) ≤ a ∧ a ≤ 9223372036854775807) ∧ ∀ (w_1 : List Int) (m : Int), VB (Bi.mk w_1 [(0 : Int), m] [(2 : Int), (1 : Int)] [(5 : Int), (2 : Int)] [(3 : Int), (2 : Int)]) → (∀ (x : Int), x ∈ w_1 → u32b x) → 
 w_1.length ≤ 1000 → (∃ (x : Bi × Nat × Heap), some (TV.v (.int .i64 f)) = some (TV.v (.int .i64 f)) ∧ some (TV.v (eArgs args)) = some (TV.v (eArgs args)) ∧ some (TV.v (.int .i64 fuel)) = some (TV.v (.int .i64 fuel)) ∧ some (TV.v (.int .i64 a1)) = some (TV.v (.int .i64 a1)) ∧ some (TV.v (.int .i64 b1)) = some (TV.v (.int 
 .i64 b1)) ∧ some (TV.v (.int .i64 w1)) = some (TV.v (.int .i64 w1)) ∧ some (TV.v (.vslice none 1 2 5 [eWords w, eArgs e, eArgs p, eArgs s, eArgs a, eWords w_1, IV.vslice none 0 2 1 [IV.int .i64 0, IV.int .i64 m], IV.vslice none 0 2 1 [IV.int .i64 2, IV.int 
 .i64 (1 : Int)], IV.vslice none 0 2 1 [IV.int .i64 5, IV.int .i64 2], IV.vslice none 0 2 1 [IV.int .i64 3, IV.int .i64 2]])) = some (TV.v (.vslice none 1 2 5 [eWords w, eArgs e, eArgs p, eArgs s, eArgs a, eWords (Bi.w x.1), eArgs (Bi.e x.1), 
 eArgs (Bi.p x.1), eArgs (Bi.s x.1), eArgs (Bi.a x.1)])) ∧ some (TV.v (.int .i64 2)) = some (TV.v (.int .i64 2)) ∧ some (TV.v (.int .i64 0)) = some (TV.v (.int .i64 (↑x.2.1 : Int))) ∧ Heap.mk PT.nil 0 = x.2.2 ∧ (okB x.1 ∧ x.2.1 ≤ 2) ∧ 
 True) ∧ ∀ (x : Bi × Nat × Heap) (b : FF), okB x.1 ∧ x.2.1 ≤ 2 → brS (decide ((↑x.2.1 : Int) < 2)) (needS (decide (0 ≤ (↑x.2.1 : Int)) && decide ((↑x.2.1 : Int) < 2)) (ldAS [eWords w, eArgs e, eArgs p, eArgs s, eArgs a, eWords (Bi.w x.1), eArgs (Bi.e x.1), eArgs (Bi.p 
 x.1), eArgs (Bi.s x.1), eArgs (Bi.a x.1)] (Int.toNat (↑x.2.1 : Int) * 5) fun v0 => ldAS [eWords w, eArgs e, eArgs p, eArgs s, eArgs a, eWords (Bi.w x.1), eArgs (Bi.e x.1), eArgs (Bi.p x.1), eArgs (Bi.s x.1), eArgs (Bi.a x.1)] (Int.toNat (↑x.2.1 : Int) * 5 + (1 : Nat)) 
 fun v1 => ldAS [eWords w, eArgs e, eArgs p, eArgs s, eArgs a, eWords (Bi.w x.1), eArgs (Bi.e x.1), eArgs (Bi.p x.1), eArgs (Bi.s x.1), eArgs (Bi.a x.1)] (Int.toNat (↑x.2.1 : Int) * 5 + (1 : Nat) + 1) fun v2 => ldAS [eWords w, eArgs e, eArgs p, eArgs s, eArgs a, eWords (Bi.w x.1), eArgs (Bi.e 
 x.1), eArgs (Bi.p x.1), eArgs (Bi.s x.1), eArgs (Bi.a x.1)] (Int.toNat (↑x.2.1 : Int) * 5 + (1 : Nat) + 1 + (1 : Nat)) fun v3 => ldAS [eWords w, eArgs e, eArgs p, eArgs s, eArgs a, eWords (Bi.w x.1), eArgs (Bi.e x.1), eArgs (Bi.p x.1), eArgs (Bi.s x.1), eArgs (Bi.a x.1)] 
 (Int.toNat (↑x.2.1 : Int) * 5 + (1 : Nat) + 1 + (1 : Nat) + 1) fun v4 => ((0 : Int) < 4 ∧ (4 : Int) < 4611686018427387904) ∧ ∃ (M : Nat), (∃ (x_1 : Bi × Nat × Bi × Nat × Heap), some (TV.v (.int .i64 f)) = some (TV.v (.int .i64 f)) ∧ some (TV.v (eArgs args)) = some (TV.v (eArgs args)) ∧ some (TV.v (.int .i64 
 fuel)) = some (TV.v (.int .i64 fuel)) ∧ some (TV.v (.int .i64 a1)) = some (TV.v (.int .i64 a1)) ∧ some (TV.v (.int .i64 b1)) = some (TV.v (.int .i64 b1)) ∧ some (TV.v (.int .i64 w1)) = some (TV.v (.int .i64 w1)) ∧ some (TV.v (.vslice none 1 2 5 [eWords w, eArgs e, eArgs p, eArgs s, eArgs a, eWords (Bi.w 
 x.1), eArgs (Bi.e x.1), eArgs (Bi.p x.1), eArgs (Bi.s x.1), eArgs (Bi.a x.1)])) = some (TV.v (.vslice none 1 2 5 [eWords w, eArgs e, eArgs p, eArgs s, eArgs a, eWords (Bi.w x_1.1), eArgs (Bi.e x_1.1), eArgs (Bi.p x_1.1), eArgs (Bi.s x_1.1), eArgs (Bi.a x_1.1)])) ∧ some (TV.v (.int 
 .i64 (2 : Int))) = some (TV.v (.int .i64 2)) ∧ some (TV.v (.int .i64 (↑x.2.1 : Int))) = some (TV.v (.int .i64 (↑x_1.2.1 : Int))) ∧ some (TV.l 18 0) = some (TV.l 18 0) ∧ some (TV.v (.vslice none 1 2 1 [IV.int .i64 f, IV.int .i64 (IntKind.wrap 
 .i64 (f % (4 : Int) - 1))])) = some (TV.v (.vslice none 1 2 1 [IV.int .i64 f, IV.int .i64 (IntKind.wrap .i64 (f % (4 : Int) - 1))])) ∧ some (TV.v (.int .i64 2)) = some (TV.v (.int .i64 2)) ∧ some (TV.v (.int .i64 0)) = some (TV.v (.int .i64 (↑(Prod.fst (Prod.snd 
 x_1.2.2)) : Int))) ∧ some [v0, v1, v2, v3, v4] = some [eWords (Bi.w x_1.2.2.1), eArgs (Bi.e x_1.2.2.1), eArgs (Bi.p x_1.2.2.1), eArgs (Bi.s x_1.2.2.1), eArgs (Bi.a x_1.2.2.1)] ∧ x.2.2 = x_1.2.2.2.2 
 ∧ (okB x_1.1 ∧ x_1.2.1 < 2 ∧ okB x_1.2.2.1 ∧ x_1.2.2.2.1 ≤ 2) ∧ ((2 : Nat) - x_1.2.1) * 3 + ((2 : Nat) - x_1.2.2.2.1) ≤ M) ∧ ∀ (x_1 : Bi × Nat × Bi × Nat × Heap) (b : FF), okB x_1.1 ∧ x_1.2.1 < 2 ∧ okB 
 x_1.2.2.1 ∧ x_1.2.2.2.1 ≤ 2 → ((2 : Nat) - x_1.2.1) * 3 + ((2 : Nat) - x_1.2.2.2.1) ≤ M → brS (decide ((↑x_1.2.2.2.1 : Int) < 2)) (needS (decide (0 ≤ (↑x_1.2.2.2.1 : Int)) && decide 
 ((↑x_1.2.2.2.1 : Int) < 2)) (ldIS .i64 [IV.int .i64 f, IV.int .i64 (IntKind.wrap .i64 (f % (4 : Int) - 1))] (Int.toNat (↑x_1.2.2.2.1 : Int) * 1) fun n5 => ∃ (M : Nat), (∃ (x : Bi × Nat × Bi × Nat × Int × Nat × Heap), some (TV.v (.int .i64 f)) = some (TV.v 
 (IV.int .i64 f)) ∧ some (TV.v (eArgs args)) = some (TV.v (eArgs args)) ∧ some (TV.v (.int .i64 fuel)) = some (TV.v (.int .i64 fuel)) ∧ some (TV.v (.int .i64 a1)) = some (TV.v (.int .i64 a1)) ∧ some (TV.v (.int .i64 b1)) = some (TV.v (.int .i64 b1)) ∧ some (TV.v (.int .i64 w1)) = some (TV.v (.int .i64 w1)) ∧ some (TV.v 
 (IV.vslice none 1 2 5 [eWords w, eArgs e, eArgs p, eArgs s, eArgs a, eWords (Bi.w x_1.1), eArgs (Bi.e x_1.1), eArgs (Bi.p x_1.1), eArgs (Bi.s x_1.1), eArgs (Bi.a x_1.1)])) = some (TV.v (.vslice none 1 2 5 [eWords w, eArgs e, eArgs p, eArgs s, eArgs a, eWords (Bi.w x.1), eArgs (Bi.e (Prod.fst 
 x)), eArgs (Bi.p x.1), eArgs (Bi.s x.1), eArgs (Bi.a x.1)])) ∧ some (TV.v (.int .i64 2)) = some (TV.v (.int .i64 2)) ∧ some (TV.v (.int .i64 (↑x_1.2.1 : Int))) = some (TV.v (.int .i64 (↑x.2.1 : Int))) ∧ some (TV.l 18 0) = some (TV.l 18 0) ∧ some (TV.v 
 (IV.vslice none 1 2 1 [IV.int .i64 f, IV.int .i64 (IntKind.wrap .i64 (f % (4 : Int) - 1))])) = some (TV.v (.vslice none 1 2 1 [IV.int .i64 f, IV.int .i64 (IntKind.wrap .i64 (f % (4 : Int) - 1))])) ∧ some (TV.v (.int .i64 2)) = some (TV.v (.int .i64 2)) ∧ 
 some (TV.v (.int .i64 (↑x_1.2.2.2.1 : Int))) = some (TV.v (.int .i64 (↑x.2.2.2.1 : Int))) ∧ some (TV.v (.int .i64 n5)) = some (TV.v (.int .i64 x.2.2.2.2.1)) ∧ some (TV.v (.vslice none 1 2 1 [eArgs args, IV.vslice none (0 
 : Nat) 2 1 [IV.int .i64 (word a1 w1), IV.int .i64 (word b1 w1)]])) = some (TV.v (.vslice none 1 2 1 [eArgs args, IV.vslice none 0 2 1 [IV.int .i64 (word a1 w1), IV.int .i64 (word b1 w1)]])) ∧ some (TV.v (.int .i64 2)) = some (TV.v (.int .i64 2)) ∧ some (TV.v (.int 
 .i64 (0 : Int))) = some (TV.v (.int .i64 (↑x.2.2.2.2.2.1 : Int))) ∧ some [eWords (Bi.w x_1.2.2.1), eArgs (Bi.e x_1.2.2.1), eArgs (Bi.p x_1.2.2.1), eArgs (Bi.s x_1.2.2.1), eArgs (Bi.a x_1.2.2.1)] 
 = some [eWords (Bi.w x.2.2.1), eArgs (Bi.e x.2.2.1), eArgs (Bi.p x.2.2.1), eArgs (Bi.s x.2.2.1), eArgs (Bi.a x.2.2.1)] ∧ x_1.2.2.2.2 = x.2.2.2.2.2.2 ∧ (okB x.1 ∧ Prod.fst 
 x.2 < 2 ∧ okB x.2.2.1 ∧ x.2.2.2.1 < 2 ∧ x.2.2.2.2.2.1 ≤ 2) ∧ (((2 : Nat) - x.2.1) * 3 + ((2 : Nat) - x.2.2.2.1)) * 3 + ((2 : Nat) - Prod.fst (Prod.snd (Prod.snd (Prod.snd (Prod.snd 
 x.2))))) ≤ M) ∧ ∀ (x : Bi × Nat × Bi × Nat × Int × Nat × Heap) (b : FF), okB x.1 ∧ x.2.1 < 2 ∧ okB x.2.2.1 ∧ x.2.2.2.1 < 2 ∧ x.2.2.2.2.2.1 ≤ 2 → (((2 : Nat) - x.2.1) * 3 + ((2 : Nat) - Prod.fst (Prod.snd 
 x.2.2))) * 3 + ((2 : Nat) - x.2.2.2.2.2.1) ≤ M → brS (decide ((↑x.2.2.2.2.2.1 : Int) < 2)) (needS (decide (0 ≤ (↑x.2.2.2.2.2.1 : Int)) && decide ((↑(Prod.fst (Prod.snd (Prod.snd (Prod.snd (Prod.snd 
 x.2))))) : Int) < 2)) (ldAS [eArgs args, IV.vslice none 0 2 1 [IV.int .i64 (word a1 w1), IV.int .i64 (word b1 w1)]] (Int.toNat (↑x.2.2.2.2.2.1 : Int) * 1) fun v6 => ((0 : Int) < 1003 ∧ (1003 : Int) < 4611686018427387904) ∧ ∃ (M : Nat), (∃ (x_2 : Bi × Nat × Bi 
 × Nat × Int × Nat × List Int × Nat × Heap), some (TV.v (.int .i64 f)) = some (TV.v (.int .i64 f)) ∧ some (TV.v (eArgs args)) = some (TV.v (eArgs args)) ∧ some (TV.v (.int .i64 fuel)) = some (TV.v (.int .i64 fuel)) ∧ some (TV.v (.int .i64 a1)) = some (TV.v (.int .i64 a1)) ∧ some (TV.v (.int .i64 b1)) = some (TV.v (.int .i64 
 b1)) ∧ some (TV.v (.int .i64 w1)) = some (TV.v (.int .i64 w1)) ∧ some (TV.v (.vslice none 1 2 5 [eWords w, eArgs e, eArgs p, eArgs s, eArgs a, eWords (Bi.w x.1), eArgs (Bi.e x.1), eArgs (Bi.p x.1), eArgs (Bi.s x.1), eArgs (Bi.a x.1)])) = some (TV.v (.vslice none 1 2 5 [eWords w, eArgs 
 e, eArgs p, eArgs s, eArgs a, eWords (Bi.w x_2.1), eArgs (Bi.e x_2.1), eArgs (Bi.p x_2.1), eArgs (Bi.s x_2.1), eArgs (Bi.a x_2.1)])) ∧ some (TV.v (.int .i64 2)) = some (TV.v (.int .i64 2)) ∧ some (TV.v (.int .i64 (↑x.2.1 : Int))) = some (TV.v (.int .i64 (↑x_2.2.1 : 
 Int))) ∧ some (TV.l 18 0) = some (TV.l 18 0) ∧ some (TV.v (.vslice none 1 2 1 [IV.int .i64 f, IV.int .i64 (IntKind.wrap .i64 (f % (4 : Int) - 1))])) = some (TV.v (.vslice none 1 2 1 [IV.int .i64 f, IV.int .i64 (IntKind.wrap .i64 (f % (4 : Int) - 1))])) ∧ 
 some (TV.v (.int .i64 2)) = some (TV.v (.int .i64 2)) ∧ some (TV.v (.int .i64 (↑x.2.2.2.1 : Int))) = some (TV.v (.int .i64 (↑x_2.2.2.2.1 : Int))) ∧ some (TV.v (.int .i64 x.2.2.2.2.1)) = some (TV.v (.int .i64 
 x_2.2.2.2.2.1)) ∧ some (TV.v (.vslice none 1 2 1 [eArgs args, IV.vslice none 0 2 1 [IV.int .i64 (word a1 w1), IV.int .i64 (word b1 w1)]])) = some (TV.v (.vslice none 1 2 1 [eArgs args, IV.vslice none 0 2 1 [IV.int .i64 (word a1 w1), 
 IV.int .i64 (word b1 w1)]])) ∧ some (TV.v (.int .i64 2)) = some (TV.v (.int .i64 2)) ∧ some (TV.v (.int .i64 (↑x.2.2.2.2.2.1 : Int))) = some (TV.v (.int .i64 (↑x_2.2.2.2.2.2.1 : Int))) ∧ some (TV.v v6) = some (TV.v (eArgs (Prod.fst 
 x_2.2.2.2.2.2.2))) ∧ some (TV.v (.vslice none 1 2 1 [IV.int .i64 fuel, IV.int .i64 (IntKind.wrap .i64 (fuel % (1003 : Int) - 1))])) = some (TV.v (.vslice none 1 2 1 [IV.int .i64 fuel, IV.int .i64 (IntKind.wrap .i64 (fuel % (1003 : Int) - (1 : 
 Int)))])) ∧ some (TV.v (.int .i64 2)) = some (TV.v (.int .i64 2)) ∧ some (TV.v (.int .i64 0)) = some (TV.v (.int .i64 (↑x_2.2.2.2.2.2.2.2.1 : Int))) ∧ some [eWords (Bi.w x.2.2.1), eArgs (Bi.e x.2.2.1), eArgs (Bi.p 
 x.2.2.1), eArgs (Bi.s x.2.2.1), eArgs (Bi.a x.2.2.1)] = some [eWords (Bi.w x_2.2.2.1), eArgs (Bi.e x_2.2.2.1), eArgs (Bi.p x_2.2.2.1), eArgs (Bi.s x_2.2.2.1), eArgs (Bi.a x_2.2.2.1)] ∧ 
 x.2.2.2.2.2.2 = x_2.2.2.2.2.2.2.2.2 ∧ (okB x_2.1 ∧ x_2.2.1 < 2 ∧ okB x_2.2.2.1 ∧ x_2.2.2.2.1 < 2 ∧ x_2.2.2.2.2.2.1 < (2 : 
 Nat) ∧ x_2.2.2.2.2.2.2.2.1 ≤ 2) ∧ ((((2 : Nat) - x_2.2.1) * 3 + ((2 : Nat) - x_2.2.2.2.1)) * 3 + ((2 : Nat) - x_2.2.2.2.2.2.1)) * 3 + ((2 : Nat) - Prod.fst (Prod.snd (Prod.snd (Prod.snd (Prod.snd 
 x_2.2.2.2))))) ≤ M) ∧ ∀ (x_2 : Bi × Nat × Bi × Nat × Int × Nat × List Int × Nat × Heap) (b : FF), okB x_2.1 ∧ x_2.2.1 < 2 ∧ okB x_2.2.2.1 ∧ x_2.2.2.2.1 < 2 ∧ x_2.2.2.2.2.2.1 < 2 ∧ Prod.fst (Prod.snd (Prod.snd 
 x_2.2.2.2.2.2)) ≤ 2 → ((((2 : Nat) - x_2.2.1) * 3 + ((2 : Nat) - x_2.2.2.2.1)) * 3 + ((2 : Nat) - x_2.2.2.2.2.2.1)) * 3 + ((2 : Nat) - Prod.fst (Prod.snd (Prod.snd (Prod.snd (Prod.snd (Prod.snd (Prod.snd (Prod.snd 
 x_2)))))))) ≤ M → brS (decide ((↑x_2.2.2.2.2.2.2.2.1 : Int) < 2)) (needS (decide (0 ≤ (↑x_2.2.2.2.2.2.2.2.1 : Int)) && decide ((↑x_2.2.2.2.2.2.2.2.1 : Int) < (2 : 
 Int))) (ldIS .i64 [IV.int .i64 fuel, IV.int .i64 (IntKind.wrap .i64 (fuel % (1003 : Int) - 1))] (Int.toNat (↑x_2.2.2.2.2.2.2.2.1 : Int) * 1) fun n7 => ∃ (w_2 e_1 : List Int), ∃ (p_1 s_1 : List Int), ∃ (a_11 args_1 : List Int), 
 (List.length (Bi.w x_2.2.2.1) = w_2.length ∧ List.map (IV.int .u32) (Bi.w x_2.2.2.1) = List.map (IV.int .u32) w_2) ∧ (List.length (Bi.e x_2.2.2.1) = e_1.length ∧ List.map (IV.int .i64) (Bi.e x_2.2.2.1) = List.map (IV.int .i64) e_1) ∧ (List.length (Bi.p 
 x_2.2.2.1) = p_1.length ∧ List.map (IV.int .i64) (Bi.p x_2.2.2.1) = List.map (IV.int .i64) p_1) ∧ (List.length (Bi.s x_2.2.2.1) = s_1.length ∧ List.map (IV.int .i64) (Bi.s x_2.2.2.1) = List.map (IV.int .i64) s_1) ∧ (List.length (Bi.a (Prod.fst (Prod.snd 
 x_2.2))) = a_11.length ∧ List.map (IV.int .i64) (Bi.a x_2.2.2.1) = List.map (IV.int .i64) a_11) ∧ (x_2.2.2.2.2.2.2.1.length = args_1.length ∧ List.map (IV.int .i64) x_2.2.2.2.2.2.2.1 = List.map (IV.int 
 .i64) args_1) ∧ (∀ (x : Int), x ∈ w_2 → u32b x) ∧ (newErr (Bi.mk w_2 e_1 p_1 s_1 a_11) x_2.2.2.2.2.1 args_1 n7 ≠ 0 → ∃ (w_3 e_2 : List Int), ∃ (p_2 s_2 : List Int), ∃ (a_13 args_2 : List Int), (List.length (Bi.w x_2.2.2.1) = w_3.length ∧ List.map (IV.int 
 .u32) (Bi.w x_2.2.2.1) = List.map (IV.int .u32) w_3) ∧ (List.length (Bi.e x_2.2.2.1) = e_2.length ∧ List.map (IV.int .i64) (Bi.e x_2.2.2.1) = List.map (IV.int .i64) e_2) ∧ (List.length (Bi.p x_2.2.2.1) = p_2.length ∧ List.map (IV.int .i64) (Bi.p 
 x_2.2.2.1) = List.map (IV.int .i64) p_2) ∧ (List.length (Bi.s x_2.2.2.1) = s_2.length ∧ List.map (IV.int .i64) (Bi.s x_2.2.2.1) = List.map (IV.int .i64) s_2) ∧ (List.length (Bi.a x_2.2.2.1) = a_13.length ∧ List.map (IV.int .i64) (Bi.a (Prod.fst (Prod.snd 
 x_2.2))) = List.map (IV.int .i64) a_13) ∧ (x_2.2.2.2.2.2.2.1.length = args_2.length ∧ List.map (IV.int .i64) x_2.2.2.2.2.2.2.1 = List.map (IV.int .i64) args_2) ∧ ((∀ (x : Int), x ∈ w_3 → u32b x) ∧ w_3.length ≤ 1000000) ∧ 
 (newErr (Bi.mk w_3 e_2 p_2 s_2 a_13) x_2.2.2.2.2.1 args_2 n7 ≠ 0 → ∃ (w_4 e_3 : List Int), ∃ (p_3 s_3 : List Int), ∃ (a_15 args_3 : List Int), (List.length (Bi.w x_2.2.2.1) = w_4.length ∧ List.map (IV.int .u32) (Bi.w x_2.2.2.1) = 
 List.map (IV.int .u32) w_4) ∧ (List.length (Bi.e x_2.2.2.1) = e_3.length ∧ List.map (IV.int .i64) (Bi.e x_2.2.2.1) = List.map (IV.int .i64) e_3) ∧ (List.length (Bi.p x_2.2.2.1) = p_3.length ∧ List.map (IV.int .i64) (Bi.p x_2.2.2.1) = List.map (IV.int 
 .i64) p_3) ∧ (List.length (Bi.s x_2.2.2.1) = s_3.length ∧ List.map (IV.int .i64) (Bi.s x_2.2.2.1) = List.map (IV.int .i64) s_3) ∧ (List.length (Bi.a x_2.2.2.1) = a_15.length ∧ List.map (IV.int .i64) (Bi.a x_2.2.2.1) = List.map (IV.int .i64) a_15) 
 ∧ (x_2.2.2.2.2.2.2.1.length = args_3.length ∧ List.map (IV.int .i64) x_2.2.2.2.2.2.2.1 = List.map (IV.int .i64) args_3) ∧ (∀ (x : Int), x ∈ w_4 → u32b x) ∧ (40 : Int) ≤ 1000 ∧ brS (newErr (Bi.mk w_2 e_1 p_1 s_1 a_11) (Prod.fst (Prod.snd 
 x_2.2.2.2)) args_1 n7 != newErr (Bi.mk w_3 e_2 p_2 s_2 a_13) x_2.2.2.2.2.1 args_2 n7) (Q (.bool false) h) (brS (!false == (newErr (Bi.mk w_2 e_1 p_1 s_1 a_11) x_2.2.2.2.2.1 args_1 n7 == 0)) (Q (.bool false) h) (brS (Prod.snd (Prod.snd (Prod.snd (Prod.snd (runR (Bi.mk w_4 
 e_3 p_3 s_3 a_15) x_2.2.2.2.2.1 args_3 n7 (40 : Int)))))) (brS (newErr (Bi.mk w_2 e_1 p_1 s_1 a_11) x_2.2.2.2.2.1 args_1 n7 != 0) (Q (.bool false) h) (∃ (x : Bi × Nat × Bi × Nat × Int × Nat × List Int × Nat × Heap), some (TV.v (.int .i64 f)) = some (TV.v (.int .i64 f)) ∧ some (TV.v 
 (eArgs args)) = some (TV.v (eArgs args)) ∧ some (TV.v (.int .i64 fuel)) = some (TV.v (.int .i64 fuel)) ∧ some (TV.v (.int .i64 a1)) = some (TV.v (.int .i64 a1)) ∧ some (TV.v (.int .i64 b1)) = some (TV.v (.int .i64 b1)) ∧ some (TV.v (.int .i64 w1)) = some (TV.v (.int .i64 w1)) ∧ some (TV.v (.vslice none 1 2 (5 
 : Nat) [eWords w, eArgs e, eArgs p, eArgs s, eArgs a, eWords (Bi.w x_2.1), eArgs (Bi.e x_2.1), eArgs (Bi.p x_2.1), eArgs (Bi.s x_2.1), eArgs (Bi.a x_2.1)])) = some (TV.v (.vslice none 1 2 5 [eWords w, eArgs e, eArgs p, eArgs s, eArgs a, eWords (Bi.w x.1), eArgs (Bi.e x.1), eArgs (Bi.p x.1), eArgs 
 (Bi.s x.1), eArgs (Bi.a x.1)])) ∧ some (TV.v (.int .i64 2)) = some (TV.v (.int .i64 2)) ∧ some (TV.v (.int .i64 (↑x_2.2.1 : Int))) = some (TV.v (.int .i64 (↑x.2.1 : Int))) ∧ some (TV.l 18 0) = some (TV.l 18 0) ∧ some (TV.v (.vslice none 1 2 (1 
 : Nat) [IV.int .i64 f, IV.int .i64 (IntKind.wrap .i64 (f % (4 : Int) - 1))])) = some (TV.v (.vslice none 1 2 1 [IV.int .i64 f, IV.int .i64 (IntKind.wrap .i64 (f % (4 : Int) - 1))])) ∧ some (TV.v (.int .i64 2)) = some (TV.v (.int .i64 2)) ∧ some (TV.v (.int .i64 (↑(Prod.fst 
 x_2.2.2.2) : Int))) = some (TV.v (.int .i64 (↑x.2.2.2.1 : Int))) ∧ some (TV.v (.int .i64 x_2.2.2.2.2.1)) = some (TV.v (.int .i64 x.2.2.2.2.1)) ∧ some (TV.v (.vslice none 1 2 1 [eArgs args, 
 IV.vslice none 0 2 1 [IV.int .i64 (word a1 w1), IV.int .i64 (word b1 w1)]])) = some (TV.v (.vslice none 1 2 1 [eArgs args, IV.vslice none 0 2 1 [IV.int .i64 (word a1 w1), IV.int .i64 (word b1 w1)]])) ∧ some (TV.v (.int .i64 2)) = some (TV.v (.int .i64 2)) ∧ some 
 (TV.v (.int .i64 (↑x_2.2.2.2.2.2.1 : Int))) = some (TV.v (.int .i64 (↑x.2.2.2.2.2.1 : Int))) ∧ some (TV.v (eArgs x_2.2.2.2.2.2.2.1)) = some (TV.v (eArgs (Prod.fst (Prod.snd (Prod.snd (Prod.snd (Prod.snd 
 x.2.2))))))) ∧ some (TV.v (.vslice none 1 2 1 [IV.int .i64 fuel, IV.int .i64 (IntKind.wrap .i64 (fuel % (1003 : Int) - 1))])) = some (TV.v (.vslice none 1 2 1 [IV.int .i64 fuel, IV.int .i64 (IntKind.wrap .i64 (fuel % (1003 : Int) - 1))])) ∧ some (TV.v (.int .i64 
 (2 : Int))) = some (TV.v (.int .i64 2)) ∧ some (TV.v (.int .i64 (IntKind.wrap .i64 ((↑x_2.2.2.2.2.2.2.2.1 : Int) + 1)))) = some (TV.v (.int .i64 (↑x.2.2.2.2.2.2.2.1 : Int))) ∧ some [eWords (Bi.w (Prod.fst 
 x_2.2.2)), eArgs (Bi.e x_2.2.2.1), eArgs (Bi.p x_2.2.2.1), eArgs (Bi.s x_2.2.2.1), eArgs (Bi.a x_2.2.2.1)] = some [eWords (Bi.w x.2.2.1), eArgs (Bi.e x.2.2.1), eArgs (Bi.p x.2.2.1), eArgs (Bi.s 
 x.2.2.1), eArgs (Bi.a x.2.2.1)] ∧ x_2.2.2.2.2.2.2.2.2 = x.2.2.2.2.2.2.2.2 ∧ (okB x.1 ∧ x.2.1 < 2 ∧ okB x.2.2.1 ∧ Prod.fst (Prod.snd (Prod.snd 
 x.2)) < 2 ∧ x.2.2.2.2.2.1 < 2 ∧ x.2.2.2.2.2.2.2.1 ≤ 2) ∧ ((((2 : Nat) - x.2.1) * 3 + ((2 : Nat) - x.2.2.2.1)) * 3 + ((2 : Nat) - Prod.fst (Prod.snd (Prod.snd (Prod.snd (Prod.snd 
 x.2)))))) * 3 + ((2 : Nat) - x.2.2.2.2.2.2.2.1) < ((((2 : Nat) - x_2.2.1) * 3 + ((2 : Nat) - x_2.2.2.2.1)) * 3 + ((2 : Nat) - x_2.2.2.2.2.2.1)) * 3 + ((2 : Nat) - Prod.fst (Prod.snd 
 x_2.2.2.2.2.2.2)))) (∃ (x : Bi × Nat × Bi × Nat × Int × Nat × List Int × Nat × Heap), some (TV.v (.int .i64 f)) = some (TV.v (.int .i64 f)) ∧ some (TV.v (eArgs args)) = some (TV.v (eArgs args)) ∧ some (TV.v (.int .i64 fuel)) = some (TV.v (.int .i64 fuel)) ∧ some (TV.v (.int .i64 a1)) = some (TV.v 
 (IV.int .i64 a1)) ∧ some (TV.v (.int .i64 b1)) = some (TV.v (.int .i64 b1)) ∧ some (TV.v (.int .i64 w1)) = some (TV.v (.int .i64 w1)) ∧ some (TV.v (.vslice none 1 2 5 [eWords w, eArgs e, eArgs p, eArgs s, eArgs a, eWords (Bi.w x_2.1), eArgs (Bi.e x_2.1), eArgs (Bi.p x_2.1), eArgs (Bi.s x_2.1), 
 eArgs (Bi.a x_2.1)])) = some (TV.v (.vslice none 1 2 5 [eWords w, eArgs e, eArgs p, eArgs s, eArgs a, eWords (Bi.w x.1), eArgs (Bi.e x.1), eArgs (Bi.p x.1), eArgs (Bi.s x.1), eArgs (Bi.a x.1)])) ∧ some (TV.v (.int .i64 2)) = some (TV.v (.int .i64 2)) ∧ some (TV.v (.int .i64 
 (↑x_2.2.1 : Int))) = some (TV.v (.int .i64 (↑x.2.1 : Int))) ∧ some (TV.l 18 0) = some (TV.l 18 0) ∧ some (TV.v (.vslice none 1 2 1 [IV.int .i64 f, IV.int .i64 (IntKind.wrap .i64 (f % (4 : Int) - 1))])) = some (TV.v (.vslice none 1 2 1 [IV.int 
 .i64 f, IV.int .i64 (IntKind.wrap .i64 (f % (4 : Int) - 1))])) ∧ some (TV.v (.int .i64 2)) = some (TV.v (.int .i64 2)) ∧ some (TV.v (.int .i64 (↑x_2.2.2.2.1 : Int))) = some (TV.v (.int .i64 (↑x.2.2.2.1 : Int))) ∧ some (TV.v (.int .i64 
 x_2.2.2.2.2.1)) = some (TV.v (.int .i64 x.2.2.2.2.1)) ∧ some (TV.v (.vslice none 1 2 1 [eArgs args, IV.vslice none 0 2 1 [IV.int .i64 (word a1 w1), IV.int .i64 (word b1 w1)]])) = some (TV.v (.vslice none 1 2 1 
 [eArgs args, IV.vslice none 0 2 1 [IV.int .i64 (word a1 w1), IV.int .i64 (word b1 w1)]])) ∧ some (TV.v (.int .i64 2)) = some (TV.v (.int .i64 2)) ∧ some (TV.v (.int .i64 (↑x_2.2.2.2.2.2.1 : Int))) = some (TV.v (.int .i64 (↑(Prod.fst (Prod.snd (Prod.snd 
 x.2.2.2))) : Int))) ∧ some (TV.v (eArgs x_2.2.2.2.2.2.2.1)) = some (TV.v (eArgs x.2.2.2.2.2.2.1)) ∧ some (TV.v (.vslice none 1 2 1 [IV.int .i64 fuel, IV.int .i64 (IntKind.wrap .i64 (fuel % (1003 : 
 Int) - 1))])) = some (TV.v (.vslice none 1 2 1 [IV.int .i64 fuel, IV.int .i64 (IntKind.wrap .i64 (fuel % (1003 : Int) - 1))])) ∧ some (TV.v (.int .i64 2)) = some (TV.v (.int .i64 2)) ∧ some (TV.v (.int .i64 (IntKind.wrap .i64 ((↑(Prod.fst (Prod.snd (Prod.snd (Prod.snd (Prod.snd 
 x_2.2.2.2))))) : Int) + 1)))) = some (TV.v (.int .i64 (↑x.2.2.2.2.2.2.2.1 : Int))) ∧ some [eWords (Bi.w x_2.2.2.1), eArgs (Bi.e x_2.2.2.1), eArgs (Bi.p x_2.2.2.1), eArgs (Bi.s (Prod.fst (Prod.snd 
 x_2.2))), eArgs (Bi.a x_2.2.2.1)] = some [eWords (Bi.w x.2.2.1), eArgs (Bi.e x.2.2.1), eArgs (Bi.p x.2.2.1), eArgs (Bi.s x.2.2.1), eArgs (Bi.a x.2.2.1)] ∧ Prod.snd (Prod.snd (Prod.snd (Prod.snd (Prod.snd (Prod.snd (Prod.snd 
 x_2.2)))))) = x.2.2.2.2.2.2.2.2 ∧ (okB x.1 ∧ x.2.1 < 2 ∧ okB x.2.2.1 ∧ x.2.2.2.1 < 2 ∧ x.2.2.2.2.2.1 < 2 ∧ Prod.fst (Prod.snd (Prod.snd (Prod.snd (Prod.snd 
 x.2.2.2)))) ≤ 2) ∧ ((((2 : Nat) - x.2.1) * 3 + ((2 : Nat) - x.2.2.2.1)) * 3 + ((2 : Nat) - x.2.2.2.2.2.1)) * 3 + ((2 : Nat) - x.2.2.2.2.2.2.2.1) < ((((2 : Nat) - 
 x_2.2.1) * 3 + ((2 : Nat) - x_2.2.2.2.1)) * 3 + ((2 : Nat) - x_2.2.2.2.2.2.1)) * 3 + ((2 : Nat) - x_2.2.2.2.2.2.2.2.1))))) ∧ (newErr (Bi.mk w_3 e_2 p_2 s_2 a_13) (Prod.fst (Prod.snd (Prod.snd (Prod.snd 
 x_2.2)))) args_2 n7 = 0 → ∀ (i : Nat) (h' : Heap), (∀ (k : Nat), k < Heap.next x_2.2.2.2.2.2.2.2.2 → Heap.get h' k = Heap.get x_2.2.2.2.2.2.2.2.2 k) → Heap.next (Prod.snd (Prod.snd (Prod.snd (Prod.snd (Prod.snd (Prod.snd (Prod.snd 
 x_2.2))))))) ≤ Heap.next h' → ∃ (w_4 e_3 : List Int), ∃ (p_3 s_3 : List Int), ∃ (a_17 args_3 : List Int), (List.length (Bi.w x_2.2.2.1) = w_4.length ∧ List.map (IV.int .u32) (Bi.w x_2.2.2.1) = List.map (IV.int .u32) w_4) ∧ (List.length (Bi.e (Prod.fst (Prod.snd 
 x_2.2))) = e_3.length ∧ List.map (IV.int .i64) (Bi.e x_2.2.2.1) = List.map (IV.int .i64) e_3) ∧ (List.length (Bi.p x_2.2.2.1) = p_3.length ∧ List.map (IV.int .i64) (Bi.p x_2.2.2.1) = List.map (IV.int .i64) p_3) ∧ (List.length (Bi.s x_2.2.2.1) = 
 s_3.length ∧ List.map (IV.int .i64) (Bi.s x_2.2.2.1) = List.map (IV.int .i64) s_3) ∧ (List.length (Bi.a x_2.2.2.1) = a_17.length ∧ List.map (IV.int .i64) (Bi.a x_2.2.2.1) = List.map (IV.int .i64) a_17) ∧ (List.length (Prod.fst (Prod.snd (Prod.snd (Prod.snd (Prod.snd (Prod.snd 
 x_2.2)))))) = args_3.length ∧ List.map (IV.int .i64) x_2.2.2.2.2.2.2.1 = List.map (IV.int .i64) args_3) ∧ (∀ (x : Int), x ∈ w_4 → u32b x) ∧ (40 : Int) ≤ 1000 ∧ brS (newErr (Bi.mk w_2 e_1 p_1 s_1 a_11) x_2.2.2.2.2.1 args_1 n7 != 0) (Q (.bool 
 false) h) (brS (!false == (newErr (Bi.mk w_2 e_1 p_1 s_1 a_11) x_2.2.2.2.2.1 args_1 n7 == 0)) (Q (.bool false) h) (brS (Prod.snd (Prod.snd (Prod.snd (Prod.snd (runR (Bi.mk w_4 e_3 p_3 s_3 a_17) x_2.2.2.2.2.1 args_3 n7 (40 : Int)))))) (brS (newErr (Bi.mk w_2 e_1 p_1 s_1 a_11) (Prod.fst (Prod.snd 
 x_2.2.2.2)) args_1 n7 != 0) (Q (.bool false) h) (∃ (x : Bi × Nat × Bi × Nat × Int × Nat × List Int × Nat × Heap), some (TV.v (.int .i64 f)) = some (TV.v (.int .i64 f)) ∧ some (TV.v (eArgs args)) = some (TV.v (eArgs args)) ∧ some (TV.v (.int .i64 fuel)) = some (TV.v (.int .i64 fuel)) ∧ some (TV.v (.int .i64 a1)) = 
 some (TV.v (.int .i64 a1)) ∧ some (TV.v (.int .i64 b1)) = some (TV.v (.int .i64 b1)) ∧ some (TV.v (.int .i64 w1)) = some (TV.v (.int .i64 w1)) ∧ some (TV.v (.vslice none 1 2 5 [eWords w, eArgs e, eArgs p, eArgs s, eArgs a, eWords (Bi.w x_2.1), eArgs (Bi.e x_2.1), eArgs (Bi.p x_2.1), eArgs (Bi.s 
 x_2.1), eArgs (Bi.a x_2.1)])) = some (TV.v (.vslice none 1 2 5 [eWords w, eArgs e, eArgs p, eArgs s, eArgs a, eWords (Bi.w x.1), eArgs (Bi.e x.1), eArgs (Bi.p x.1), eArgs (Bi.s x.1), eArgs (Bi.a x.1)])) ∧ some (TV.v (.int .i64 2)) = some (TV.v (.int .i64 2)) ∧ some (TV.v 
 (IV.int .i64 (↑x_2.2.1 : Int))) = some (TV.v (.int .i64 (↑x.2.1 : Int))) ∧ some (TV.l 18 0) = some (TV.l 18 0) ∧ some (TV.v (.vslice none 1 2 1 [IV.int .i64 f, IV.int .i64 (IntKind.wrap .i64 (f % (4 : Int) - 1))])) = some (TV.v (.vslice none 1 (2 : 
 Nat) 1 [IV.int .i64 f, IV.int .i64 (IntKind.wrap .i64 (f % (4 : Int) - 1))])) ∧ some (TV.v (.int .i64 2)) = some (TV.v (.int .i64 2)) ∧ some (TV.v (.int .i64 (↑x_2.2.2.2.1 : Int))) = some (TV.v (.int .i64 (↑x.2.2.2.1 : Int))) ∧ some (TV.v 
 (IV.int .i64 x_2.2.2.2.2.1)) = some (TV.v (.int .i64 x.2.2.2.2.1)) ∧ some (TV.v (.vslice none 1 2 1 [eArgs args, IV.vslice none 0 2 1 [IV.int .i64 (word a1 w1), IV.int .i64 (word b1 w1)]])) = some (TV.v (.vslice none 1 
 2 1 [eArgs args, IV.vslice none 0 2 1 [IV.int .i64 (word a1 w1), IV.int .i64 (word b1 w1)]])) ∧ some (TV.v (.int .i64 2)) = some (TV.v (.int .i64 2)) ∧ some (TV.v (.int .i64 (↑x_2.2.2.2.2.2.1 : Int))) = some (TV.v (.int .i64 (↑(Prod.fst 
 x.2.2.2.2.2) : Int))) ∧ some (TV.v (eArgs x_2.2.2.2.2.2.2.1)) = some (TV.v (eArgs x.2.2.2.2.2.2.1)) ∧ some (TV.v (.vslice none 1 2 1 [IV.int .i64 fuel, IV.int .i64 (IntKind.wrap .i64 
 (fuel % (1003 : Int) - 1))])) = some (TV.v (.vslice none 1 2 1 [IV.int .i64 fuel, IV.int .i64 (IntKind.wrap .i64 (fuel % (1003 : Int) - 1))])) ∧ some (TV.v (.int .i64 2)) = some (TV.v (.int .i64 2)) ∧ some (TV.v (.int .i64 (IntKind.wrap .i64 ((↑(Prod.fst (Prod.snd (Prod.snd (Prod.snd 
 x_2.2.2.2.2)))) : Int) + 1)))) = some (TV.v (.int .i64 (↑x.2.2.2.2.2.2.2.1 : Int))) ∧ some [eWords (Bi.w x_2.2.2.1), eArgs (Bi.e x_2.2.2.1), eArgs (Bi.p x_2.2.2.1), eArgs (Bi.s (Prod.fst 
 x_2.2.2)), eArgs (Bi.a x_2.2.2.1)] = some [eWords (Bi.w x.2.2.1), eArgs (Bi.e x.2.2.1), eArgs (Bi.p x.2.2.1), eArgs (Bi.s x.2.2.1), eArgs (Bi.a x.2.2.1)] ∧ h' = Prod.snd (Prod.snd (Prod.snd (Prod.snd (Prod.snd (Prod.snd 
 x.2.2))))) ∧ (okB x.1 ∧ x.2.1 < 2 ∧ okB x.2.2.1 ∧ x.2.2.2.1 < 2 ∧ x.2.2.2.2.2.1 < 2 ∧ x.2.2.2.2.2.2.2.1 ≤ 2) ∧ ((((2 : Nat) - Prod.fst 
 x.2) * 3 + ((2 : Nat) - x.2.2.2.1)) * 3 + ((2 : Nat) - x.2.2.2.2.2.1)) * 3 + ((2 : Nat) - x.2.2.2.2.2.2.2.1) < ((((2 : Nat) - x_2.2.1) * 3 + ((2 : Nat) - Prod.fst (Prod.snd (Prod.snd 
 x_2.2)))) * 3 + ((2 : Nat) - x_2.2.2.2.2.2.1)) * 3 + ((2 : Nat) - x_2.2.2.2.2.2.2.2.1))) (∃ (x : Bi × Nat × Bi × Nat × Int × Nat × List Int × Nat × Heap), some (TV.v (.int .i64 f)) = some (TV.v (.int .i64 f)) ∧ some (TV.v (eArgs args)) 
 = some (TV.v (eArgs args)) ∧ some (TV.v (.int .i64 fuel)) = some (TV.v (.int .i64 fuel)) ∧ some (TV.v (.int .i64 a1)) = some (TV.v (.int .i64 a1)) ∧ some (TV.v (.int .i64 b1)) = some (TV.v (.int .i64 b1)) ∧ some (TV.v (.int .i64 w1)) = some (TV.v (.int .i64 w1)) ∧ some (TV.v (.vslice none 1 2 5 
 [eWords w, eArgs e, eArgs p, eArgs s, eArgs a, eWords (Bi.w x_2.1), eArgs (Bi.e x_2.1), eArgs (Bi.p x_2.1), eArgs (Bi.s x_2.1), eArgs (Bi.a x_2.1)])) = some (TV.v (.vslice none 1 2 5 [eWords w, eArgs e, eArgs p, eArgs s, eArgs a, eWords (Bi.w x.1), eArgs (Bi.e x.1), eArgs (Bi.p x.1), eArgs (Bi.s 
 x.1), eArgs (Bi.a x.1)])) ∧ some (TV.v (.int .i64 2)) = some (TV.v (.int .i64 2)) ∧ some (TV.v (.int .i64 (↑x_2.2.1 : Int))) = some (TV.v (.int .i64 (↑x.2.1 : Int))) ∧ some (TV.l 18 0) = some (TV.l 18 0) ∧ some (TV.v (.vslice none 1 2 1 
 [IV.int .i64 f, IV.int .i64 (IntKind.wrap .i64 (f % (4 : Int) - 1))])) = some (TV.v (.vslice none 1 2 1 [IV.int .i64 f, IV.int .i64 (IntKind.wrap .i64 (f % (4 : Int) - 1))])) ∧ some (TV.v (.int .i64 2)) = some (TV.v (.int .i64 2)) ∧ some (TV.v (.int .i64 (↑(Prod.fst 
 x_2.2.2.2) : Int))) = some (TV.v (.int .i64 (↑x.2.2.2.1 : Int))) ∧ some (TV.v (.int .i64 x_2.2.2.2.2.1)) = some (TV.v (.int .i64 x.2.2.2.2.1)) ∧ some (TV.v (.vslice none 1 2 1 [eArgs args, 
 IV.vslice none 0 2 1 [IV.int .i64 (word a1 w1), IV.int .i64 (word b1 w1)]])) = some (TV.v (.vslice none 1 2 1 [eArgs args, IV.vslice none 0 2 1 [IV.int .i64 (word a1 w1), IV.int .i64 (word b1 w1)]])) ∧ some (TV.v (.int .i64 2)) = some (TV.v (.int .i64 2)) ∧ some 
 (TV.v (.int .i64 (↑x_2.2.2.2.2.2.1 : Int))) = some (TV.v (.int .i64 (↑x.2.2.2.2.2.1 : Int))) ∧ some (TV.v (eArgs x_2.2.2.2.2.2.2.1)) = some (TV.v (eArgs (Prod.fst (Prod.snd (Prod.snd (Prod.snd (Prod.snd 
 x.2.2))))))) ∧ some (TV.v (.vslice none 1 2 1 [IV.int .i64 fuel, IV.int .i64 (IntKind.wrap .i64 (fuel % (1003 : Int) - 1))])) = some (TV.v (.vslice none 1 2 1 [IV.int .i64 fuel, IV.int .i64 (IntKind.wrap .i64 (fuel % (1003 : Int) - 1))])) ∧ some (TV.v (.int .i64 
 (2 : Int))) = some (TV.v (.int .i64 2)) ∧ some (TV.v (.int .i64 (IntKind.wrap .i64 ((↑x_2.2.2.2.2.2.2.2.1 : Int) + 1)))) = some (TV.v (.int .i64 (↑x.2.2.2.2.2.2.2.1 : Int))) ∧ some [eWords (Bi.w (Prod.fst 
 x_2.2.2)), eArgs (Bi.e x_2.2.2.1), eArgs (Bi.p x_2.2.2.1), eArgs (Bi.s x_2.2.2.1), eArgs (Bi.a x_2.2.2.1)] = some [eWords (Bi.w x.2.2.1), eArgs (Bi.e x.2.2.1), eArgs (Bi.p x.2.2.1), eArgs (Bi.s 
 x.2.2.1), eArgs (Bi.a x.2.2.1)] ∧ h' = x.2.2.2.2.2.2.2.2 ∧ (okB x.1 ∧ x.2.1 < 2 ∧ okB x.2.2.1 ∧ x.2.2.2.1 < 2 ∧ Prod.fst (Prod.snd (Prod.snd (Prod.snd (Prod.snd (Prod.snd 
 x))))) < 2 ∧ x.2.2.2.2.2.2.2.1 ≤ 2) ∧ ((((2 : Nat) - x.2.1) * 3 + ((2 : Nat) - x.2.2.2.1)) * 3 + ((2 : Nat) - x.2.2.2.2.2.1)) * 3 + ((2 : Nat) - Prod.fst (Prod.snd (Prod.snd (Prod.snd 
 x.2.2.2.2)))) < ((((2 : Nat) - x_2.2.1) * 3 + ((2 : Nat) - x_2.2.2.2.1)) * 3 + ((2 : Nat) - x_2.2.2.2.2.2.1)) * 3 + ((2 : Nat) - x_2.2.2.2.2.2.2.2.1)))))) ∧ (newErr 
 (Bi.mk w_2 e_1 p_1 s_1 a_11) x_2.2.2.2.2.1 args_1 n7 = 0 → ∀ (L : Ly) (h' : Heap), Rep (Bi.mk w_2 e_1 p_1 s_1 a_11) (initS (Bi.mk w_2 e_1 p_1 s_1 a_11) x_2.2.2.2.2.1 args_1 n7) L (Heap.next x_2.2.2.2.2.2.2.2.2 + 1) h' → (∀ 
 (k : Nat), k < Heap.next x_2.2.2.2.2.2.2.2.2 → Heap.get h' k = Heap.get x_2.2.2.2.2.2.2.2.2 k ∧ Ly.r L k = Role.other) → Heap.next x_2.2.2.2.2.2.2.2.2 ≤ Heap.next h' → ∃ (w_3 : List 
 Int), ∃ (e_2 p_2 : List Int), ∃ (s_2 a_16 args_2 : List Int), (List.length (Bi.w x_2.2.2.1) = w_3.length ∧ List.map (IV.int .u32) (Bi.w x_2.2.2.1) = List.map (IV.int .u32) w_3) ∧ (List.length (Bi.e x_2.2.2.1) = e_2.length ∧ List.map (IV.int 
 .i64) (Bi.e x_2.2.2.1) = List.map (IV.int .i64) e_2) ∧ (List.length (Bi.p x_2.2.2.1) = p_2.length ∧ List.map (IV.int .i64) (Bi.p x_2.2.2.1) = List.map (IV.int .i64) p_2) ∧ (List.length (Bi.s x_2.2.2.1) = s_2.length ∧ List.map (IV.int .i64) (Bi.s 
 x_2.2.2.1) = List.map (IV.int .i64) s_2) ∧ (List.length (Bi.a x_2.2.2.1) = a_16.length ∧ List.map (IV.int .i64) (Bi.a x_2.2.2.1) = List.map (IV.int .i64) a_16) ∧ (x_2.2.2.2.2.2.2.1.length = args_2.length ∧ List.map 
 (IV.int .i64) x_2.2.2.2.2.2.2.1 = List.map (IV.int .i64) args_2) ∧ ((∀ (x : Int), x ∈ w_3 → u32b x) ∧ w_3.length ≤ 1000000) ∧ (newErr (Bi.mk w_3 e_2 p_2 s_2 a_16) x_2.2.2.2.2.1 args_2 n7 ≠ 0 → ∃ (w_4 e_3 p_3 : List Int), ∃ 
 (s_3 : List Int), ∃ (a_18 args_3 : List Int), (List.length (Bi.w x_2.2.2.1) = w_4.length ∧ List.map (IV.int .u32) (Bi.w x_2.2.2.1) = List.map (IV.int .u32) w_4) ∧ (List.length (Bi.e x_2.2.2.1) = e_3.length ∧ List.map (IV.int .i64) (Bi.e (Prod.fst (Prod.snd (Prod.snd 
 x_2)))) = List.map (IV.int .i64) e_3) ∧ (List.length (Bi.p x_2.2.2.1) = p_3.length ∧ List.map (IV.int .i64) (Bi.p x_2.2.2.1) = List.map (IV.int .i64) p_3) ∧ (List.length (Bi.s x_2.2.2.1) = s_3.length ∧ List.map (IV.int .i64) (Bi.s x_2.2.2.1) = List.map 
 (IV.int .i64) s_3) ∧ (List.length (Bi.a x_2.2.2.1) = a_18.length ∧ List.map (IV.int .i64) (Bi.a x_2.2.2.1) = List.map (IV.int .i64) a_18) ∧ (x_2.2.2.2.2.2.2.1.length = args_3.length ∧ List.map (IV.int .i64) (Prod.fst (Prod.snd (Prod.snd 
 x_2.2.2.2.2))) = List.map (IV.int .i64) args_3) ∧ (∀ (x : Int), x ∈ w_4 → u32b x) ∧ (40 : Int) ≤ 1000 ∧ brS ((0 : Int) != newErr (Bi.mk w_3 e_2 p_2 s_2 a_16) x_2.2.2.2.2.1 args_2 n7) (Q (.bool false) h) (brS (Prod.snd (Prod.snd (Prod.snd (Prod.snd (runR (Bi.mk w_4 e_3 p_3 s_3 a_18) (Prod.fst (Prod.snd 
 x_2.2.2.2)) args_3 n7 (40 : Int)))))) (∃ (x : Bi × Nat × Bi × Nat × Int × Nat × List Int × Nat × Heap), some (TV.v (.int .i64 f)) = some (TV.v (.int .i64 f)) ∧ some (TV.v (eArgs args)) = some (TV.v (eArgs args)) ∧ some (TV.v (.int .i64 fuel)) = some (TV.v (.int .i64 fuel)) ∧ some (TV.v (.int .i64 a1)) = some (TV.v (.int 
 .i64 a1)) ∧ some (TV.v (.int .i64 b1)) = some (TV.v (.int .i64 b1)) ∧ some (TV.v (.int .i64 w1)) = some (TV.v (.int .i64 w1)) ∧ some (TV.v (.vslice none 1 2 5 [eWords w, eArgs e, eArgs p, eArgs s, eArgs a, eWords (Bi.w x_2.1), eArgs (Bi.e x_2.1), eArgs (Bi.p x_2.1), eArgs (Bi.s x_2.1), eArgs 
 (Bi.a x_2.1)])) = some (TV.v (.vslice none 1 2 5 [eWords w, eArgs e, eArgs p, eArgs s, eArgs a, eWords (Bi.w x.1), eArgs (Bi.e x.1), eArgs (Bi.p x.1), eArgs (Bi.s x.1), eArgs (Bi.a x.1)])) ∧ some (TV.v (.int .i64 2)) = some (TV.v (.int .i64 2)) ∧ some (TV.v (.int .i64 
 (↑x_2.2.1 : Int))) = some (TV.v (.int .i64 (↑x.2.1 : Int))) ∧ some (TV.l 18 0) = some (TV.l 18 0) ∧ some (TV.v (.vslice none 1 2 1 [IV.int .i64 f, IV.int .i64 (IntKind.wrap .i64 (f % (4 : Int) - 1))])) = some (TV.v (.vslice none 1 2 1 [IV.int 
 .i64 f, IV.int .i64 (IntKind.wrap .i64 (f % (4 : Int) - 1))])) ∧ some (TV.v (.int .i64 2)) = some (TV.v (.int .i64 2)) ∧ some (TV.v (.int .i64 (↑x_2.2.2.2.1 : Int))) = some (TV.v (.int .i64 (↑x.2.2.2.1 : Int))) ∧ some (TV.v (.int .i64 
 x_2.2.2.2.2.1)) = some (TV.v (.int .i64 x.2.2.2.2.1)) ∧ some (TV.v (.vslice none 1 2 1 [eArgs args, IV.vslice none 0 2 1 [IV.int .i64 (word a1 w1), IV.int .i64 (word b1 w1)]])) = some (TV.v (.vslice none 1 2 1 
 [eArgs args, IV.vslice none 0 2 1 [IV.int .i64 (word a1 w1), IV.int .i64 (word b1 w1)]])) ∧ some (TV.v (.int .i64 2)) = some (TV.v (.int .i64 2)) ∧ some (TV.v (.int .i64 (↑x_2.2.2.2.2.2.1 : Int))) = some (TV.v (.int .i64 (↑(Prod.fst (Prod.snd (Prod.snd 
 x.2.2.2))) : Int))) ∧ some (TV.v (eArgs x_2.2.2.2.2.2.2.1)) = some (TV.v (eArgs x.2.2.2.2.2.2.1)) ∧ some (TV.v (.vslice none 1 2 1 [IV.int .i64 fuel, IV.int .i64 (IntKind.wrap .i64 (fuel % (1003 : 
 Int) - 1))])) = some (TV.v (.vslice none 1 2 1 [IV.int .i64 fuel, IV.int .i64 (IntKind.wrap .i64 (fuel % (1003 : Int) - 1))])) ∧ some (TV.v (.int .i64 2)) = some (TV.v (.int .i64 2)) ∧ some (TV.v (.int .i64 (IntKind.wrap .i64 ((↑(Prod.fst (Prod.snd (Prod.snd (Prod.snd (Prod.snd 
 x_2.2.2.2))))) : Int) + 1)))) = some (TV.v (.int .i64 (↑x.2.2.2.2.2.2.2.1 : Int))) ∧ some [eWords (Bi.w x_2.2.2.1), eArgs (Bi.e x_2.2.2.1), eArgs (Bi.p x_2.2.2.1), eArgs (Bi.s (Prod.fst (Prod.snd 
 x_2.2))), eArgs (Bi.a x_2.2.2.1)] = some [eWords (Bi.w x.2.2.1), eArgs (Bi.e x.2.2.1), eArgs (Bi.p x.2.2.1), eArgs (Bi.s x.2.2.1), eArgs (Bi.a x.2.2.1)] ∧ h' = Prod.snd (Prod.snd (Prod.snd (Prod.snd (Prod.snd (Prod.snd (Prod.snd 
 x.2)))))) ∧ (okB x.1 ∧ x.2.1 < 2 ∧ okB x.2.2.1 ∧ x.2.2.2.1 < 2 ∧ x.2.2.2.2.2.1 < 2 ∧ x.2.2.2.2.2.2.2.1 ≤ 2) ∧ ((((2 : Nat) - x.2.1) * 
 (3 : Nat) + ((2 : Nat) - x.2.2.2.1)) * 3 + ((2 : Nat) - x.2.2.2.2.2.1)) * 3 + ((2 : Nat) - x.2.2.2.2.2.2.2.1) < ((((2 : Nat) - x_2.2.1) * 3 + ((2 : Nat) - x_2.2.2.2.1)) * 
 (3 : Nat) + ((2 : Nat) - x_2.2.2.2.2.2.1)) * 3 + ((2 : Nat) - x_2.2.2.2.2.2.2.2.1)) (∃ (x : Bi × Nat × Bi × Nat × Int × Nat × List Int × Nat × Heap), some (TV.v (.int .i64 f)) = some (TV.v (.int .i64 f)) ∧ some (TV.v (eArgs args)) = some (TV.v (eArgs 
 args)) ∧ some (TV.v (.int .i64 fuel)) = some (TV.v (.int .i64 fuel)) ∧ some (TV.v (.int .i64 a1)) = some (TV.v (.int .i64 a1)) ∧ some (TV.v (.int .i64 b1)) = some (TV.v (.int .i64 b1)) ∧ some (TV.v (.int .i64 w1)) = some (TV.v (.int .i64 w1)) ∧ some (TV.v (.vslice none 1 2 5 [eWords w, eArgs e, eArgs 
 p, eArgs s, eArgs a, eWords (Bi.w x_2.1), eArgs (Bi.e x_2.1), eArgs (Bi.p x_2.1), eArgs (Bi.s x_2.1), eArgs (Bi.a x_2.1)])) = some (TV.v (.vslice none 1 2 5 [eWords w, eArgs e, eArgs p, eArgs s, eArgs a, eWords (Bi.w x.1), eArgs (Bi.e x.1), eArgs (Bi.p x.1), eArgs (Bi.s x.1), eArgs (Bi.a 
 x.1)])) ∧ some (TV.v (.int .i64 2)) = some (TV.v (.int .i64 2)) ∧ some (TV.v (.int .i64 (↑x_2.2.1 : Int))) = some (TV.v (.int .i64 (↑x.2.1 : Int))) ∧ some (TV.l 18 0) = some (TV.l 18 0) ∧ some (TV.v (.vslice none 1 2 1 [IV.int .i64 f, 
 IV.int .i64 (IntKind.wrap .i64 (f % (4 : Int) - 1))])) = some (TV.v (.vslice none 1 2 1 [IV.int .i64 f, IV.int .i64 (IntKind.wrap .i64 (f % (4 : Int) - 1))])) ∧ some (TV.v (.int .i64 2)) = some (TV.v (.int .i64 2)) ∧ some (TV.v (.int .i64 (↑(Prod.fst (Prod.snd (Prod.snd (Prod.snd 
 x_2)))) : Int))) = some (TV.v (.int .i64 (↑x.2.2.2.1 : Int))) ∧ some (TV.v (.int .i64 x_2.2.2.2.2.1)) = some (TV.v (.int .i64 x.2.2.2.2.1)) ∧ some (TV.v (.vslice none 1 2 1 [eArgs args, IV.vslice none 0 2 
 1 [IV.int .i64 (word a1 w1), IV.int .i64 (word b1 w1)]])) = some (TV.v (.vslice none 1 2 1 [eArgs args, IV.vslice none 0 2 1 [IV.int .i64 (word a1 w1), IV.int .i64 (word b1 w1)]])) ∧ some (TV.v (.int .i64 2)) = some (TV.v (.int .i64 2)) ∧ some (TV.v (.int .i64 
 (↑x_2.2.2.2.2.2.1 : Int))) = some (TV.v (.int .i64 (↑x.2.2.2.2.2.1 : Int))) ∧ some (TV.v (eArgs x_2.2.2.2.2.2.2.1)) = some (TV.v (eArgs x.2.2.2.2.2.2.1)) ∧ 
 some (TV.v (.vslice none 1 2 1 [IV.int .i64 fuel, IV.int .i64 (IntKind.wrap .i64 (fuel % (1003 : Int) - 1))])) = some (TV.v (.vslice none 1 2 1 [IV.int .i64 fuel, IV.int .i64 (IntKind.wrap .i64 (fuel % (1003 : Int) - 1))])) ∧ some (TV.v (.int .i64 2)) = some (TV.v (.int 
 .i64 (2 : Int))) ∧ some (TV.v (.int .i64 (IntKind.wrap .i64 ((↑x_2.2.2.2.2.2.2.2.1 : Int) + 1)))) = some (TV.v (.int .i64 (↑x.2.2.2.2.2.2.2.1 : Int))) ∧ some [eWords (Bi.w x_2.2.2.1), eArgs 
 (Bi.e x_2.2.2.1), eArgs (Bi.p x_2.2.2.1), eArgs (Bi.s x_2.2.2.1), eArgs (Bi.a x_2.2.2.1)] = some [eWords (Bi.w x.2.2.1), eArgs (Bi.e x.2.2.1), eArgs (Bi.p x.2.2.1), eArgs (Bi.s (Prod.fst (Prod.snd (Prod.snd 
 x)))), eArgs (Bi.a x.2.2.1)] ∧ h' = x.2.2.2.2.2.2.2.2 ∧ (okB x.1 ∧ x.2.1 < 2 ∧ okB x.2.2.1 ∧ x.2.2.2.1 < 2 ∧ x.2.2.2.2.2.1 < 2 ∧ Prod.fst 
 x.2.2.2.2.2.2.2 ≤ 2) ∧ ((((2 : Nat) - x.2.1) * 3 + ((2 : Nat) - x.2.2.2.1)) * 3 + ((2 : Nat) - x.2.2.2.2.2.1)) * 3 + ((2 : Nat) - Prod.fst (Prod.snd (Prod.snd (Prod.snd (Prod.snd (Prod.snd (Prod.snd 
 x.2))))))) < ((((2 : Nat) - x_2.2.1) * 3 + ((2 : Nat) - x_2.2.2.2.1)) * 3 + ((2 : Nat) - x_2.2.2.2.2.2.1)) * 3 + ((2 : Nat) - x_2.2.2.2.2.2.2.2.1)))) ∧ (newErr (Bi.mk w_3 e_2 p_2 s_2 a_16) 
 x_2.2.2.2.2.1 args_2 n7 = 0 → ∀ (i : Nat) (h'_1 : Heap), (∀ (k : Nat), k < Heap.next h' → Heap.get h'_1 k = Heap.get h' k) → Heap.next h' ≤ Heap.next h'_1 → ∃ (w_4 e_3 : List Int), ∃ (p_3 s_3 : List Int), ∃ (a_20 args_3 : List Int), (List.length (Bi.w x_2.2.2.1) = 
 w_4.length ∧ List.map (IV.int .u32) (Bi.w x_2.2.2.1) = List.map (IV.int .u32) w_4) ∧ (List.length (Bi.e x_2.2.2.1) = e_3.length ∧ List.map (IV.int .i64) (Bi.e x_2.2.2.1) = List.map (IV.int .i64) e_3) ∧ (List.length (Bi.p x_2.2.2.1) = p_3.length ∧ 
 List.map (IV.int .i64) (Bi.p x_2.2.2.1) = List.map (IV.int .i64) p_3) ∧ (List.length (Bi.s x_2.2.2.1) = s_3.length ∧ List.map (IV.int .i64) (Bi.s x_2.2.2.1) = List.map (IV.int .i64) s_3) ∧ (List.length (Bi.a x_2.2.2.1) = a_20.length ∧ List.map (IV.int 
 .i64) (Bi.a x_2.2.2.1) = List.map (IV.int .i64) a_20) ∧ (x_2.2.2.2.2.2.2.1.length = args_3.length ∧ List.map (IV.int .i64) x_2.2.2.2.2.2.2.1 = List.map (IV.int .i64) args_3) ∧ (∀ (x : Int), x ∈ w_4 → u32b x) ∧ 
 (40 : Int) ≤ 1000 ∧ brS (Prod.snd (Prod.snd (Prod.snd (Prod.snd (runR (Bi.mk w_4 e_3 p_3 s_3 a_20) x_2.2.2.2.2.1 args_3 n7 (40 : Int)))))) (∃ (x : Bi × Nat × Bi × Nat × Int × Nat × List Int × Nat × Heap), some (TV.v (.int .i64 f)) = some (TV.v (.int .i64 f)) ∧ some (TV.v (eArgs args)) = some (TV.v (eArgs args)) ∧ some (TV.v 
 (IV.int .i64 fuel)) = some (TV.v (.int .i64 fuel)) ∧ some (TV.v (.int .i64 a1)) = some (TV.v (.int .i64 a1)) ∧ some (TV.v (.int .i64 b1)) = some (TV.v (.int .i64 b1)) ∧ some (TV.v (.int .i64 w1)) = some (TV.v (.int .i64 w1)) ∧ some (TV.v (.vslice none 1 2 5 [eWords w, eArgs e, eArgs p, eArgs s, eArgs a, 
 eWords (Bi.w x_2.1), eArgs (Bi.e x_2.1), eArgs (Bi.p x_2.1), eArgs (Bi.s x_2.1), eArgs (Bi.a x_2.1)])) = some (TV.v (.vslice none 1 2 5 [eWords w, eArgs e, eArgs p, eArgs s, eArgs a, eWords (Bi.w x.1), eArgs (Bi.e x.1), eArgs (Bi.p x.1), eArgs (Bi.s x.1), eArgs (Bi.a x.1)])) ∧ some 
 (TV.v (.int .i64 2)) = some (TV.v (.int .i64 2)) ∧ some (TV.v (.int .i64 (↑x_2.2.1 : Int))) = some (TV.v (.int .i64 (↑x.2.1 : Int))) ∧ some (TV.l 18 0) = some (TV.l 18 0) ∧ some (TV.v (.vslice none 1 2 1 [IV.int .i64 f, IV.int .i64 
 (IntKind.wrap .i64 (f % (4 : Int) - 1))])) = some (TV.v (.vslice none 1 2 1 [IV.int .i64 f, IV.int .i64 (IntKind.wrap .i64 (f % (4 : Int) - 1))])) ∧ some (TV.v (.int .i64 2)) = some (TV.v (.int .i64 2)) ∧ some (TV.v (.int .i64 (↑x_2.2.2.2.1 : Int))) = 
 some (TV.v (.int .i64 (↑x.2.2.2.1 : Int))) ∧ some (TV.v (.int .i64 x_2.2.2.2.2.1)) = some (TV.v (.int .i64 x.2.2.2.2.1)) ∧ some (TV.v (.vslice none 1 2 1 [eArgs args, IV.vslice none 0 2 1 [IV.int 
 .i64 (word a1 w1), IV.int .i64 (word b1 w1)]])) = some (TV.v (.vslice none 1 2 1 [eArgs args, IV.vslice none 0 2 1 [IV.int .i64 (word a1 w1), IV.int .i64 (word b1 w1)]])) ∧ some (TV.v (.int .i64 2)) = some (TV.v (.int .i64 2)) ∧ some (TV.v (.int .i64 (↑(Prod.fst (Prod.snd 
 x_2.2.2.2.2)) : Int))) = some (TV.v (.int .i64 (↑x.2.2.2.2.2.1 : Int))) ∧ some (TV.v (eArgs x_2.2.2.2.2.2.2.1)) = some (TV.v (eArgs x.2.2.2.2.2.2.1)) ∧ some (TV.v (.vslice 
 none 1 2 1 [IV.int .i64 fuel, IV.int .i64 (IntKind.wrap .i64 (fuel % (1003 : Int) - 1))])) = some (TV.v (.vslice none 1 2 1 [IV.int .i64 fuel, IV.int .i64 (IntKind.wrap .i64 (fuel % (1003 : Int) - 1))])) ∧ some (TV.v (.int .i64 2)) = some (TV.v (.int .i64 (2 : 
 Int))) ∧ some (TV.v (.int .i64 (IntKind.wrap .i64 ((↑x_2.2.2.2.2.2.2.2.1 : Int) + 1)))) = some (TV.v (.int .i64 (↑x.2.2.2.2.2.2.2.1 : Int))) ∧ some [eWords (Bi.w x_2.2.2.1), eArgs (Bi.e (Prod.fst 
 x_2.2.2)), eArgs (Bi.p x_2.2.2.1), eArgs (Bi.s x_2.2.2.1), eArgs (Bi.a x_2.2.2.1)] = some [eWords (Bi.w x.2.2.1), eArgs (Bi.e x.2.2.1), eArgs (Bi.p x.2.2.1), eArgs (Bi.s x.2.2.1), eArgs (Bi.a 
 x.2.2.1)] ∧ h'_1 = x.2.2.2.2.2.2.2.2 ∧ (okB x.1 ∧ x.2.1 < 2 ∧ okB x.2.2.1 ∧ x.2.2.2.1 < 2 ∧ x.2.2.2.2.2.1 < 2 ∧ Prod.fst (Prod.snd (Prod.snd 
 x.2.2.2.2.2)) ≤ 2) ∧ ((((2 : Nat) - x.2.1) * 3 + ((2 : Nat) - x.2.2.2.1)) * 3 + ((2 : Nat) - x.2.2.2.2.2.1)) * 3 + ((2 : Nat) - x.2.2.2.2.2.2.2.1) < 
 ((((2 : Nat) - x_2.2.1) * 3 + ((2 : Nat) - x_2.2.2.2.1)) * 3 + ((2 : Nat) - x_2.2.2.2.2.2.1)) * 3 + ((2 : Nat) - x_2.2.2.2.2.2.2.2.1)) (∃ (x : Bi × Nat × Bi × Nat × Int × Nat × List Int × Nat × Heap), 
 some (TV.v (.int .i64 f)) = some (TV.v (.int .i64 f)) ∧ some (TV.v (eArgs args)) = some (TV.v (eArgs args)) ∧ some (TV.v (.int .i64 fuel)) = some (TV.v (.int .i64 fuel)) ∧ some (TV.v (.int .i64 a1)) = some (TV.v (.int .i64 a1)) ∧ some (TV.v (.int .i64 b1)) = some (TV.v (.int .i64 b1)) ∧ some (TV.v (.int .i64 w1)) = 
 some (TV.v (.int .i64 w1)) ∧ some (TV.v (.vslice none 1 2 5 [eWords w, eArgs e, eArgs p, eArgs s, eArgs a, eWords (Bi.w x_2.1), eArgs (Bi.e x_2.1), eArgs (Bi.p x_2.1), eArgs (Bi.s x_2.1), eArgs (Bi.a x_2.1)])) = some (TV.v (.vslice none 1 2 5 [eWords w, eArgs e, eArgs p, eArgs s, eArgs a, 
 eWords (Bi.w x.1), eArgs (Bi.e x.1), eArgs (Bi.p x.1), eArgs (Bi.s x.1), eArgs (Bi.a x.1)])) ∧ some (TV.v (.int .i64 2)) = some (TV.v (.int .i64 2)) ∧ some (TV.v (.int .i64 (↑x_2.2.1 : Int))) = some (TV.v (.int .i64 (↑x.2.1 : Int))) ∧ some (TV.l 18 0) 
 = some (TV.l 18 0) ∧ some (TV.v (.vslice none 1 2 1 [IV.int .i64 f, IV.int .i64 (IntKind.wrap .i64 (f % (4 : Int) - 1))])) = some (TV.v (.vslice none 1 2 1 [IV.int .i64 f, IV.int .i64 (IntKind.wrap .i64 (f % (4 : Int) - 1))])) ∧ some (TV.v (.int .i64 2)) = 
 some (TV.v (.int .i64 2)) ∧ some (TV.v (.int .i64 (↑x_2.2.2.2.1 : Int))) = some (TV.v (.int .i64 (↑x.2.2.2.1 : Int))) ∧ some (TV.v (.int .i64 x_2.2.2.2.2.1)) = some (TV.v (.int .i64 (Prod.fst (Prod.snd (Prod.snd (Prod.snd 
 x.2)))))) ∧ some (TV.v (.vslice none 1 2 1 [eArgs args, IV.vslice none 0 2 1 [IV.int .i64 (word a1 w1), IV.int .i64 (word b1 w1)]])) = some (TV.v (.vslice none 1 2 1 [eArgs args, IV.vslice none 0 2 1 [IV.int .i64 (word a1 w1), IV.int .i64 (word b1 w1)]])) ∧ some 
 (TV.v (.int .i64 2)) = some (TV.v (.int .i64 2)) ∧ some (TV.v (.int .i64 (↑x_2.2.2.2.2.2.1 : Int))) = some (TV.v (.int .i64 (↑x.2.2.2.2.2.1 : Int))) ∧ some (TV.v (eArgs (Prod.fst (Prod.snd (Prod.snd (Prod.snd (Prod.snd (Prod.snd (Prod.snd 
 x_2))))))))) = some (TV.v (eArgs x.2.2.2.2.2.2.1)) ∧ some (TV.v (.vslice none 1 2 1 [IV.int .i64 fuel, IV.int .i64 (IntKind.wrap .i64 (fuel % (1003 : Int) - 1))])) = some (TV.v (.vslice none 1 2 1 [IV.int .i64 fuel, IV.int .i64 (IntKind.wrap 
 .i64 (fuel % (1003 : Int) - 1))])) ∧ some (TV.v (.int .i64 2)) = some (TV.v (.int .i64 2)) ∧ some (TV.v (.int .i64 (IntKind.wrap .i64 ((↑x_2.2.2.2.2.2.2.2.1 : Int) + 1)))) = some (TV.v (.int .i64 (↑(Prod.fst (Prod.snd (Prod.snd (Prod.snd 
 x.2.2.2.2)))) : Int))) ∧ some [eWords (Bi.w x_2.2.2.1), eArgs (Bi.e x_2.2.2.1), eArgs (Bi.p x_2.2.2.1), eArgs (Bi.s x_2.2.2.1), eArgs (Bi.a x_2.2.2.1)] = some [eWords (Bi.w x.2.2.1), eArgs (Bi.e 
 x.2.2.1), eArgs (Bi.p x.2.2.1), eArgs (Bi.s x.2.2.1), eArgs (Bi.a x.2.2.1)] ∧ h'_1 = x.2.2.2.2.2.2.2.2 ∧ (okB x.1 ∧ x.2.1 < 2 ∧ okB x.2.2.1 ∧ Prod.fst (Prod.snd 
 x.2.2) < 2 ∧ x.2.2.2.2.2.1 < 2 ∧ x.2.2.2.2.2.2.2.1 ≤ 2) ∧ ((((2 : Nat) - x.2.1) * 3 + ((2 : Nat) - x.2.2.2.1)) * 3 + ((2 : Nat) - Prod.fst (Prod.snd (Prod.snd (Prod.snd 
 x.2.2))))) * 3 + ((2 : Nat) - x.2.2.2.2.2.2.2.1) < ((((2 : Nat) - x_2.2.1) * 3 + ((2 : Nat) - x_2.2.2.2.1)) * 3 + ((2 : Nat) - x_2.2.2.2.2.2.1)) * 3 + ((2 : Nat) - Prod.fst 
 x_2.2.2.2.2.2.2.2)))))) (∃ (x_3 : Bi × Nat × Bi × Nat × Int × Nat × Heap), some (TV.v (.int .i64 f)) = some (TV.v (.int .i64 f)) ∧ some (TV.v (eArgs args)) = some (TV.v (eArgs args)) ∧ some (TV.v (.int .i64 fuel)) = some (TV.v (.int .i64 fuel)) ∧ some (TV.v (.int .i64 a1)) = some (TV.v 
 (IV.int .i64 a1)) ∧ some (TV.v (.int .i64 b1)) = some (TV.v (.int .i64 b1)) ∧ some (TV.v (.int .i64 w1)) = some (TV.v (.int .i64 w1)) ∧ some (TV.v (.vslice none 1 2 5 [eWords w, eArgs e, eArgs p, eArgs s, eArgs a, eWords (Bi.w x_2.1), eArgs (Bi.e x_2.1), eArgs (Bi.p x_2.1), eArgs (Bi.s x_2.1), 
 eArgs (Bi.a x_2.1)])) = some (TV.v (.vslice none 1 2 5 [eWords w, eArgs e, eArgs p, eArgs s, eArgs a, eWords (Bi.w x_3.1), eArgs (Bi.e x_3.1), eArgs (Bi.p x_3.1), eArgs (Bi.s x_3.1), eArgs (Bi.a x_3.1)])) ∧ some (TV.v (.int .i64 2)) = some (TV.v (.int .i64 2)) ∧ some (TV.v (.int 
 .i64 (↑x_2.2.1 : Int))) = some (TV.v (.int .i64 (↑x_3.2.1 : Int))) ∧ some (TV.l 18 0) = some (TV.l 18 0) ∧ some (TV.v (.vslice none 1 2 1 [IV.int .i64 f, IV.int .i64 (IntKind.wrap .i64 (f % (4 : Int) - 1))])) = some (TV.v (.vslice none 1 2 (1 
 : Nat) [IV.int .i64 f, IV.int .i64 (IntKind.wrap .i64 (f % (4 : Int) - 1))])) ∧ some (TV.v (.int .i64 2)) = some (TV.v (.int .i64 2)) ∧ some (TV.v (.int .i64 (↑x_2.2.2.2.1 : Int))) = some (TV.v (.int .i64 (↑x_3.2.2.2.1 : Int))) ∧ some (TV.v 
 (IV.int .i64 x_2.2.2.2.2.1)) = some (TV.v (.int .i64 x_3.2.2.2.2.1)) ∧ some (TV.v (.vslice none 1 2 1 [eArgs args, IV.vslice none 0 2 1 [IV.int .i64 (word a1 w1), IV.int .i64 (word b1 w1)]])) = some (TV.v (.vslice none 1 
 2 1 [eArgs args, IV.vslice none 0 2 1 [IV.int .i64 (word a1 w1), IV.int .i64 (word b1 w1)]])) ∧ some (TV.v (.int .i64 2)) = some (TV.v (.int .i64 2)) ∧ some (TV.v (.int .i64 (IntKind.wrap .i64 ((↑x_2.2.2.2.2.2.1 : Int) + 1)))) = some 
 (TV.v (.int .i64 (↑x_3.2.2.2.2.2.1 : Int))) ∧ some [eWords (Bi.w x_2.2.2.1), eArgs (Bi.e x_2.2.2.1), eArgs (Bi.p x_2.2.2.1), eArgs (Bi.s x_2.2.2.1), eArgs (Bi.a x_2.2.2.1)] = some [eWords (Bi.w 
 x_3.2.2.1), eArgs (Bi.e x_3.2.2.1), eArgs (Bi.p x_3.2.2.1), eArgs (Bi.s x_3.2.2.1), eArgs (Bi.a x_3.2.2.1)] ∧ x_2.2.2.2.2.2.2.2.2 = Prod.snd (Prod.snd (Prod.snd (Prod.snd (Prod.snd (Prod.snd 
 x_3))))) ∧ (okB x_3.1 ∧ x_3.2.1 < 2 ∧ okB x_3.2.2.1 ∧ x_3.2.2.2.1 < 2 ∧ x_3.2.2.2.2.2.1 ≤ 2) ∧ (((2 : Nat) - x_3.2.1) * 3 + ((2 : Nat) - x_3.2.2.2.1)) * 3 + ((2 : Nat) - 
 x_3.2.2.2.2.2.1) < (((2 : Nat) - x.2.1) * 3 + ((2 : Nat) - x.2.2.2.1)) * 3 + ((2 : Nat) - x.2.2.2.2.2.1)))) (∃ (x_2 : Bi × Nat × Bi × Nat × Heap), some (TV.v (.int .i64 f)) = some (TV.v (.int .i64 f)) ∧ some 
 (TV.v (eArgs args)) = some (TV.v (eArgs args)) ∧ some (TV.v (.int .i64 fuel)) = some (TV.v (.int .i64 fuel)) ∧ some (TV.v (.int .i64 a1)) = some (TV.v (.int .i64 a1)) ∧ some (TV.v (.int .i64 b1)) = some (TV.v (.int .i64 b1)) ∧ some (TV.v (.int .i64 w1)) = some (TV.v (.int .i64 w1)) ∧ some (TV.v (.vslice none 1 (2 : 
 Nat) 5 [eWords w, eArgs e, eArgs p, eArgs s, eArgs a, eWords (Bi.w x.1), eArgs (Bi.e x.1), eArgs (Bi.p x.1), eArgs (Bi.s x.1), eArgs (Bi.a x.1)])) = some (TV.v (.vslice none 1 2 5 [eWords w, eArgs e, eArgs p, eArgs s, eArgs a, eWords (Bi.w x_2.1), eArgs (Bi.e x_2.1), eArgs (Bi.p x_2.1), eArgs 
 (Bi.s x_2.1), eArgs (Bi.a x_2.1)])) ∧ some (TV.v (.int .i64 2)) = some (TV.v (.int .i64 2)) ∧ some (TV.v (.int .i64 (↑x.2.1 : Int))) = some (TV.v (.int .i64 (↑x_2.2.1 : Int))) ∧ some (TV.l 18 0) = some (TV.l 18 0) ∧ some (TV.v (.vslice none 1 2 
 1 [IV.int .i64 f, IV.int .i64 (IntKind.wrap .i64 (f % (4 : Int) - 1))])) = some (TV.v (.vslice none 1 2 1 [IV.int .i64 f, IV.int .i64 (IntKind.wrap .i64 (f % (4 : Int) - 1))])) ∧ some (TV.v (.int .i64 2)) = some (TV.v (.int .i64 2)) ∧ some (TV.v (.int .i64 
 (IntKind.wrap .i64 ((↑x.2.2.2.1 : Int) + 1)))) = some (TV.v (.int .i64 (↑x_2.2.2.2.1 : Int))) ∧ some [eWords (Bi.w x.2.2.1), eArgs (Bi.e x.2.2.1), eArgs (Bi.p x.2.2.1), eArgs (Bi.s x.2.2.1), eArgs 
 (Bi.a x.2.2.1)] = some [eWords (Bi.w x_2.2.2.1), eArgs (Bi.e x_2.2.2.1), eArgs (Bi.p x_2.2.2.1), eArgs (Bi.s x_2.2.2.1), eArgs (Bi.a x_2.2.2.1)] ∧ x.2.2.2.2.2.2 = Prod.snd (Prod.snd 
 x_2.2.2) ∧ (okB x_2.1 ∧ x_2.2.1 < 2 ∧ okB x_2.2.2.1 ∧ x_2.2.2.2.1 ≤ 2) ∧ ((2 : Nat) - x_2.2.1) * 3 + ((2 : Nat) - x_2.2.2.2.1) < ((2 : Nat) - x_1.2.1) * 3 + ((2 : Nat) - Prod.fst (Prod.snd (Prod.snd 
 x_1.2)))))) (∃ (x_2 : Bi × Nat × Heap), some (TV.v (.int .i64 f)) = some (TV.v (.int .i64 f)) ∧ some (TV.v (eArgs args)) = some (TV.v (eArgs args)) ∧ some (TV.v (.int .i64 fuel)) = some (TV.v (.int .i64 fuel)) ∧ some (TV.v (.int .i64 a1)) = some (TV.v (.int .i64 a1)) ∧ some (TV.v (.int .i64 b1)) = some (TV.v (.int 
 .i64 b1)) ∧ some (TV.v (.int .i64 w1)) = some (TV.v (.int .i64 w1)) ∧ some (TV.v (.vslice none 1 2 5 [eWords w, eArgs e, eArgs p, eArgs s, eArgs a, eWords (Bi.w x_1.1), eArgs (Bi.e x_1.1), eArgs (Bi.p x_1.1), eArgs (Bi.s x_1.1), eArgs (Bi.a x_1.1)])) = some (TV.v (.vslice none 1 2 (5 : 
 Nat) [eWords w, eArgs e, eArgs p, eArgs s, eArgs a, eWords (Bi.w x_2.1), eArgs (Bi.e x_2.1), eArgs (Bi.p x_2.1), eArgs (Bi.s x_2.1), eArgs (Bi.a x_2.1)])) ∧ some (TV.v (.int .i64 2)) = some (TV.v (.int .i64 2)) ∧ some (TV.v (.int .i64 (IntKind.wrap .i64 ((↑x_1.2.1 : Int) + 1)))) 
 = some (TV.v (.int .i64 (↑x_2.2.1 : Int))) ∧ x_1.2.2.2.2 = x_2.2.2 ∧ (okB x_2.1 ∧ x_2.2.1 ≤ 2) ∧ (2 : Nat) - x_2.2.1 < 2 - x.2.1))) (Q (.bool true) h))))) := by kernel_rfl
set_option maxHeartbeats 8000000 in
set_option maxRecDepth 100000 in
theorem sLErrs : ∀ xs h Q, kLErrs xs h Q → CallW env 4 xs h Q := by
  intro xs h Q hk
  unfold kLErrs at hk
  split at hk
  · rename_i e1 n1 c1 e2 n2 c2 e3 n3 c3 e4 n4 c4 e5 n5 c5 e6 n6 c6 f e7 n7 c7 fuel a1 b1 w1
    obtain ⟨w, e, p, s, a, l, args, ⟨rfl, rfl⟩, ⟨rfl, rfl⟩, ⟨rfl, rfl⟩, ⟨rfl, rfl⟩, ⟨rfl, rfl⟩, ⟨rfl, rfl⟩, ⟨rfl, rfl⟩, hb, hk⟩ := hk
    refine dF_run (okRNew) (vLErrs w e p s a l args e1 e2 e3 e4 e5 e6 e7 f fuel a1 b1 w1 h Q) ?_
    obtain ⟨hw, hl1, hl2⟩ := hb
    have tn : ∀ x : Nat, (x : Int).toNat = x := Int.toNat_natCast
    have wr : ∀ k : Nat, k < 2 → IntKind.i64.wrap ((k : Int) + 1) = ((k + 1 : Nat) : Int) := fun k hk => by rw [IntWalk.i64_in _ (by omega)]; rfl
    refine needS_intro (by simp only [eWords, eArgs, pureL, pureB, pureL_ints, Bool.and_true]) (brS_intro (fun _ => hk) (fun c1 => brS_intro (fun _ => hk) (fun c2 => ⟨l, ⟨rfl, rfl⟩, ⟨hl2, hl1⟩, fun wb m hvb hwb hlb => ?_⟩)))
    rw [decide_eq_false_iff_not] at c1
    have okR : okB ⟨w, e, p, s, a⟩ := ⟨hw, by simp only; omega⟩
    refine ⟨⟨(⟨wb, [0, m], [2, 1], [5, 2], [3, 2]⟩, 0, _), (by first | rfl | trivial), (by first | rfl | trivial), (by first | rfl | trivial), (by first | rfl | trivial), (by first | rfl | trivial), (by first | rfl | trivial), (by first | rfl | trivial), (by first | rfl | trivial), (by first | rfl | trivial), rfl, ⟨⟨hwb, hlb⟩, Nat.zero_le _⟩, trivial⟩, fun x1 _ hx1 => ?_⟩
    obtain ⟨B1, i1, h1⟩ := x1
    obtain ⟨okb1, hi1⟩ := hx1
    simp only at okb1 hi1
    refine brS_intro (fun y => ?_) (fun _ => hk)
    have hi1 : i1 < 2 := by have y : (i1 : Int) < 2 := by simpa using y
                            omega
    obtain ⟨C1, hC1, hat⟩ := erow_at (R := ⟨w, e, p, s, a⟩) (B := B1) hi1
    have okC : okB C1 := by rcases hC1 with rfl | rfl <;> assumption
    refine needS_intro (by simp; omega) ?_
    refine ldA_i (v := eWords C1.w) (by simp only [tn]; exact hat 0 (by omega)) (ldA_i (v := eArgs C1.e) (by simp only [tn]; exact hat 1 (by omega)) (ldA_i (v := eArgs C1.p) (by simp only [tn]; exact hat 2 (by omega)) (ldA_i (v := eArgs C1.s) (by simp only [tn]; exact hat 3 (by omega)) (ldA_i (v := eArgs C1.a) (by simp only [tn]; exact hat 4 (by omega)) ⟨by omega, (2 - i1) * 3 + 2, ?_, ?_⟩))))
    · exact ⟨(B1, i1, C1, 0, h1), (by first | rfl | trivial), (by first | rfl | trivial), (by first | rfl | trivial), (by first | rfl | trivial), (by first | rfl | trivial), (by first | rfl | trivial), (by first | rfl | trivial), (by first | rfl | trivial), (by first | rfl | trivial), (by first | rfl | trivial), (by first | rfl | trivial), (by first | rfl | trivial), (by first | rfl | trivial), (by first | rfl | trivial), rfl, ⟨okb1, hi1, okC, Nat.zero_le _⟩, (by simp only; omega)⟩
    intro x2 _ hx2 hM2
    obtain ⟨B2, i2, C2, j2, h2⟩ := x2
    obtain ⟨okb2, hi2, okC2, hj2⟩ := hx2
    simp only at okb2 hi2 okC2 hj2 hM2
    refine brS_intro (fun y => ?_) (fun _ => ⟨(B2, i2 + 1, h2), (by first | rfl | trivial), (by first | rfl | trivial), (by first | rfl | trivial), (by first | rfl | trivial), (by first | rfl | trivial), (by first | rfl | trivial), (by first | rfl | trivial), (by first | rfl | trivial), (by simp only; rw [wr i2 hi2]), rfl, ⟨okb2, (by simp only; omega)⟩, (by simp only; omega)⟩)
    have hj2 : j2 < 2 := by have y : (j2 : Int) < 2 := by simpa using y
                            omega
    refine needS_intro (by simp; omega) ?_
    obtain ⟨g, hg⟩ : ∃ g : Int, (eInt f (IntKind.i64.wrap (f % 4 - 1)))[((j2 : Int)).toNat * 1]? = some (.int .i64 g) := by
      rw [tn]
      rcases (show j2 = 0 ∨ j2 = 1 by omega) with rfl | rfl
      · exact ⟨_, rfl⟩
      · exact ⟨_, rfl⟩
    refine ldI_i hg ⟨((2 - i2) * 3 + (2 - j2)) * 3 + 2, ?_, ?_⟩
    · exact ⟨(B2, i2, C2, j2, g, 0, h2), (by first | rfl | trivial), (by first | rfl | trivial), (by first | rfl | trivial), (by first | rfl | trivial), (by first | rfl | trivial), (by first | rfl | trivial), (by first | rfl | trivial), (by first | rfl | trivial), (by first | rfl | trivial), (by first | rfl | trivial), (by first | rfl | trivial), (by first | rfl | trivial), (by first | rfl | trivial), (by first | rfl | trivial), (by first | rfl | trivial), (by first | rfl | trivial), (by first | rfl | trivial), (by first | rfl | trivial), rfl, ⟨okb2, hi2, okC2, hj2, Nat.zero_le _⟩, (by simp only; omega)⟩
    intro x3 _ hx3 hM3
    obtain ⟨B3, i3, C3, j3, g3, k3, h3⟩ := x3
    obtain ⟨okb3, hi3, okC3, hj3, hk3⟩ := hx3
    simp only at okb3 hi3 okC3 hj3 hk3 hM3
    refine brS_intro (fun y => ?_) (fun _ => ⟨(B3, i3, C3, j3 + 1, h3), (by first | rfl | trivial), (by first | rfl | trivial), (by first | rfl | trivial), (by first | rfl | trivial), (by first | rfl | trivial), (by first | rfl | trivial), (by first | rfl | trivial), (by first | rfl | trivial), (by first | rfl | trivial), (by first | rfl | trivial), (by first | rfl | trivial), (by first | rfl | trivial), (by simp only; rw [wr j3 hj3]), (by first | rfl | trivial), rfl, ⟨okb3, hi3, okC3, (by simp only; omega)⟩, (by simp only; omega)⟩)
    have hk3 : k3 < 2 := by have y : (k3 : Int) < 2 := by simpa using y
                            omega
    refine needS_intro (by simp; omega) ?_
    obtain ⟨ar, har⟩ : ∃ ar : List Int, (eArg args (word a1 w1) (word b1 w1))[((k3 : Int)).toNat * 1]? = some (eArgs ar) := by
      rw [tn]
      rcases (show k3 = 0 ∨ k3 = 1 by omega) with rfl | rfl
      · exact ⟨args, rfl⟩
      · exact ⟨[word a1 w1, word b1 w1], rfl⟩
    refine ldA_i har ⟨by omega, (((2 - i3) * 3 + (2 - j3)) * 3 + (2 - k3)) * 3 + 2, ?_, ?_⟩
    · exact ⟨(B3, i3, C3, j3, g3, k3, ar, 0, h3), (by first | rfl | trivial), (by first | rfl | trivial), (by first | rfl | trivial), (by first | rfl | trivial), (by first | rfl | trivial), (by first | rfl | trivial), (by first | rfl | trivial), (by first | rfl | trivial), (by first | rfl | trivial), (by first | rfl | trivial), (by first | rfl | trivial), (by first | rfl | trivial), (by first | rfl | trivial), (by first | rfl | trivial), (by first | rfl | trivial), (by first | rfl | trivial), (by first | rfl | trivial), (by first | rfl | trivial), (by first | rfl | trivial), (by first | rfl | trivial), (by first | rfl | trivial), (by first | rfl | trivial), rfl, ⟨okb3, hi3, okC3, hj3, hk3, Nat.zero_le _⟩, (by simp only; omega)⟩
    intro x4 _ hx4 hM4
    obtain ⟨B4, i4, C4, j4, g4, k4, ar4, n4, h4⟩ := x4
    obtain ⟨okb4, hi4, okC4, hj4, hk4, hn4⟩ := hx4
    simp only at okb4 hi4 okC4 hj4 hk4 hn4 hM4
    refine brS_intro (fun y => ?_) (fun _ => ⟨(B4, i4, C4, j4, g4, k4 + 1, h4), (by first | rfl | trivial), (by first | rfl | trivial), (by first | rfl | trivial), (by first | rfl | trivial), (by first | rfl | trivial), (by first | rfl | trivial), (by first | rfl | trivial), (by first | rfl | trivial), (by first | rfl | trivial), (by first | rfl | trivial), (by first | rfl | trivial), (by first | rfl | trivial), (by first | rfl | trivial), (by first | rfl | trivial), (by first | rfl | trivial), (by first | rfl | trivial), (by simp only; rw [wr k4 hk4]), (by first | rfl | trivial), rfl, ⟨okb4, hi4, okC4, hj4, (by simp only; omega)⟩, (by simp only; omega)⟩)
    have hn4 : n4 < 2 := by have y : (n4 : Int) < 2 := by simpa using y
                            omega
    refine needS_intro (by simp; omega) ?_
    obtain ⟨u, hu⟩ : ∃ u : Int, (eInt fuel (IntKind.i64.wrap (fuel % 1003 - 1)))[((n4 : Int)).toNat * 1]? = some (.int .i64 u) := by
      rw [tn]
      rcases (show n4 = 0 ∨ n4 = 1 by omega) with rfl | rfl
      · exact ⟨_, rfl⟩
      · exact ⟨_, rfl⟩
    refine ldI_i hu ?_
    have hrun : newErr C4 g4 ar4 u ≠ 0 → (runR C4 g4 ar4 u 40).2.2.2.2 = true → False := fun q z => by
      unfold runR at z
      rw [if_neg q] at z
      exact absurd z (by simp)
    obtain ⟨cw, cl⟩ := okC4
    refine ⟨C4.w, C4.e, C4.p, C4.s, C4.a, ar4, ⟨rfl, rfl⟩, ⟨rfl, rfl⟩, ⟨rfl, rfl⟩, ⟨rfl, rfl⟩, ⟨rfl, rfl⟩, ⟨rfl, rfl⟩, cw, fun q => ?_, fun q L5 h5 _ _ _ => ?_⟩
    · refine ⟨C4.w, C4.e, C4.p, C4.s, C4.a, ar4, ⟨rfl, rfl⟩, ⟨rfl, rfl⟩, ⟨rfl, rfl⟩, ⟨rfl, rfl⟩, ⟨rfl, rfl⟩, ⟨rfl, rfl⟩, ⟨cw, by omega⟩, fun _ => ?_, fun q2 => absurd q2 q⟩
      refine ⟨C4.w, C4.e, C4.p, C4.s, C4.a, ar4, ⟨rfl, rfl⟩, ⟨rfl, rfl⟩, ⟨rfl, rfl⟩, ⟨rfl, rfl⟩, ⟨rfl, rfl⟩, ⟨rfl, rfl⟩, cw, by omega, brS_intro (fun z => absurd z (by simp)) (fun _ => brS_intro (fun z => absurd z (by simp; exact q)) (fun _ => brS_intro (fun z => (hrun q z).elim) (fun _ => ⟨(B4, i4, C4, j4, g4, k4, ar4, n4 + 1, h4), (by first | rfl | trivial), (by first | rfl | trivial), (by first | rfl | trivial), (by first | rfl | trivial), (by first | rfl | trivial), (by first | rfl | trivial), (by first | rfl | trivial), (by first | rfl | trivial), (by first | rfl | trivial), (by first | rfl | trivial), (by first | rfl | trivial), (by first | rfl | trivial), (by first | rfl | trivial), (by first | rfl | trivial), (by first | rfl | trivial), (by first | rfl | trivial), (by first | rfl | trivial), (by first | rfl | trivial), (by first | rfl | trivial), (by first | rfl | trivial), (by simp only; rw [wr n4 hn4]), (by first | rfl | trivial), rfl, ⟨okb4, hi4, ⟨cw, cl⟩, hj4, hk4, (by simp only; omega)⟩, (by simp only; omega)⟩))) ⟩
    · refine ⟨C4.w, C4.e, C4.p, C4.s, C4.a, ar4, ⟨rfl, rfl⟩, ⟨rfl, rfl⟩, ⟨rfl, rfl⟩, ⟨rfl, rfl⟩, ⟨rfl, rfl⟩, ⟨rfl, rfl⟩, ⟨cw, by omega⟩, fun q2 => absurd q q2, fun q2 i5 h6 _ _ => ?_⟩
      refine ⟨C4.w, C4.e, C4.p, C4.s, C4.a, ar4, ⟨rfl, rfl⟩, ⟨rfl, rfl⟩, ⟨rfl, rfl⟩, ⟨rfl, rfl⟩, ⟨rfl, rfl⟩, ⟨rfl, rfl⟩, cw, by omega, brS_intro (fun _ => ⟨(B4, i4, C4, j4, g4, k4, ar4, n4 + 1, h6), (by first | rfl | trivial), (by first | rfl | trivial), (by first | rfl | trivial), (by first | rfl | trivial), (by first | rfl | trivial), (by first | rfl | trivial), (by first | rfl | trivial), (by first | rfl | trivial), (by first | rfl | trivial), (by first | rfl | trivial), (by first | rfl | trivial), (by first | rfl | trivial), (by first | rfl | trivial), (by first | rfl | trivial), (by first | rfl | trivial), (by first | rfl | trivial), (by first | rfl | trivial), (by first | rfl | trivial), (by first | rfl | trivial), (by first | rfl | trivial), (by simp only; rw [wr n4 hn4]), (by first | rfl | trivial), rfl, ⟨okb4, hi4, ⟨cw, cl⟩, hj4, hk4, (by simp only; omega)⟩, (by simp only; omega)⟩) (fun _ => ⟨(B4, i4, C4, j4, g4, k4, ar4, n4 + 1, h6), (by first | rfl | trivial), (by first | rfl | trivial), (by first | rfl | trivial), (by first | rfl | trivial), (by first | rfl | trivial), (by first | rfl | trivial), (by first | rfl | trivial), (by first | rfl | trivial), (by first | rfl | trivial), (by first | rfl | trivial), (by first | rfl | trivial), (by first | rfl | trivial), (by first | rfl | trivial), (by first | rfl | trivial), (by first | rfl | trivial), (by first | rfl | trivial), (by first | rfl | trivial), (by first | rfl | trivial), (by first | rfl | trivial), (by first | rfl | trivial), (by simp only; rw [wr n4 hn4]), (by first | rfl | trivial), rfl, ⟨okb4, hi4, ⟨cw, cl⟩, hj4, hk4, (by simp only; omega)⟩, (by simp only; omega)⟩)⟩
  · exact hk.elim
def cLErrs := addC 4 kLErrs cRNew
theorem okLErrs : Sound env cLErrs := sound_add sLErrs (okRNew)

end Go.Proofs.YtlenjfbmpekabaaDoor

end
