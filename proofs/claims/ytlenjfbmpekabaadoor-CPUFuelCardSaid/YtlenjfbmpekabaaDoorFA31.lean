/-
  Texts of this proof, one after the other.
  Conditions: none.
-/
import Derived.Test.YtlenjfbmpekabaaDoorCB31
import Derived.Test.YtlenjfbmpekabaaDoorSN31
import Derived.KernelRfl
section
/-
  The simulator of the target machine: runs.
  Conditions: none.
-/
set_option linter.unusedVariables false
set_option linter.unusedSimpArgs false
namespace Go.Proofs.YtlenjfbmpekabaaDoor
open Go.Pv Go.M29 Go.M30 Go.M31 Go.M13
def kKArgs (xs : List IV) (h : Heap) (K : IV → Heap → Prop) : Prop := match xs with
  | [.int .i64 a, .int .i64 b, .int .i64 w] => K (.vslice none 0 2 1 [.int .i64 (Go.M13.word a w), .int .i64 (Go.M13.word b w)]) h
  | _ => False
set_option maxRecDepth 100000 in
theorem vKArgs (a b w : Int) (h : Heap) (Q : IV → Heap → Prop) : dF (stdS cCNew) env 18 noU noI noI [.int .i64 a, .int .i64 b, .int .i64 w] h Q = (
  Q (IV.vslice none (0 : Nat) (2 : Nat) (1 : Nat) [IV.int IntKind.i64 (word a w), IV.int IntKind.i64 (word b w)]) h) := by kernel_rfl
theorem sKArgs : ∀ xs h Q, kKArgs xs h Q → CallW env 18 xs h Q := by
  intro xs h Q hk
  unfold kKArgs at hk
  split at hk
  · rename_i a b w
    refine dF_run (okCNew) (vKArgs a b w h Q) ?_
    exact hk
  · exact hk.elim
def cKArgs := addC 18 kKArgs cCNew
theorem okKArgs : Sound env cKArgs := sound_add sKArgs (okCNew)

def kKFuel (xs : List IV) (h : Heap) (K : IV → Heap → Prop) : Prop := match xs with
  | [.int .i64 n] => K (.int .i64 (n % 12)) h
  | _ => False
set_option maxRecDepth 100000 in
theorem vKFuel (n : Int) (h : Heap) (Q : IV → Heap → Prop) : dF (stdS cKArgs) env 22 noU noI noI [.int .i64 n] h Q = (
  ((0 : Int) < (12 : Int) ∧ (12 : Int) < (4611686018427387904 : Int)) ∧ Q (IV.int IntKind.i64 (n % (12 : Int))) h) := by kernel_rfl
theorem sKFuel : ∀ xs h Q, kKFuel xs h Q → CallW env 22 xs h Q := by
  intro xs h Q hk
  unfold kKFuel at hk
  split at hk
  · rename_i n
    refine dF_run (okKArgs) (vKFuel n h Q) ?_
    exact ⟨⟨by omega, by omega⟩, hk⟩
  · exact hk.elim
def cKFuel := addC 22 kKFuel cKArgs
theorem okKFuel : Sound env cKFuel := sound_add sKFuel (okKArgs)

def soInv (k c v k' c' v' : Int) (o o' : List Int) : Inv' := atX Nat (fun x => [(2, .l 2 0), (3, .l 3 0), (5, .v (.int .i64 x))]) (fun _ => [(2, [.int .i64 k, .int .i64 c, .vslice none 0 o.length 1 (ints o), .int .i64 v]), (3, [.int .i64 k', .int .i64 c', .vslice none 0 o'.length 1 (ints o'), .int .i64 v'])]) (fun _ => Heap.empty) (fun x => x ≤ o.length ∧ ∀ j, j < x → o[j]? = o'[j]?) (fun x => o.length - x)
def kSameOut (xs : List IV) (h : Heap) (K : IV → Heap → Prop) : Prop := match xs with
  | [.agg [.int .i64 k, .int .i64 c, .vslice none e1 n1 1 d1, .int .i64 v], .agg [.int .i64 k', .int .i64 c', .vslice none e2 n2 1 d2, .int .i64 v']] => ∃ o o' : List Int, (n1 = o.length ∧ d1 = ints o) ∧ (n2 = o'.length ∧ d2 = ints o') ∧ o.length ≤ 4611686018427387904 ∧ K (.bool (sameO k c o v k' c' o' v')) h
  | _ => False
set_option maxRecDepth 100000 in
theorem vSameOut (k c v k' c' v' : Int) (o o' : List Int) (e1 e2 : Nat) (h : Heap) (Q : IV → Heap → Prop) : dF (stdS cKFuel) env 24 noU (ic1 5 (soInv k c v k' c' v' o o')) noI [.agg [.int .i64 (k), .int .i64 (c), .vslice none e1 (o).length 1 (ints (o)), .int .i64 (v)], .agg [.int .i64 (k'), .int .i64 (c'), .vslice none e2 (o').length 1 (ints (o')), .int .i64 (v')]] h Q = (
  needS
 (pureL
 [IV.agg [IV.int IntKind.i64 k, IV.int IntKind.i64 c, IV.vslice none (0 : Nat) (List.length o) (1 : Nat) (ints o), IV.int IntKind.i64 v],
 IV.agg [IV.int IntKind.i64 k', IV.int IntKind.i64 c', IV.vslice none (0 : Nat) (List.length o') (1 : Nat) (ints o'), IV.int IntKind.i64 v']])
 (brS (k != k') (Q (IV.bool false) h)
 (brS (c != c') (Q (IV.bool false) h)
 (brS (v != v') (Q (IV.bool false) h)
 (brS ((↑(List.length o) : Int) != (↑(List.length o') : Int)) (Q (IV.bool false) h)
 ((∃ (x : Nat),
 some (TV.l (2 : Nat) (0 : Nat)) = some (TV.l (2 : Nat) (0 : Nat)) ∧
 some (TV.l (3 : Nat) (0 : Nat)) = some (TV.l (3 : Nat) (0 : Nat)) ∧
 some (TV.v (IV.int IntKind.i64 (0 : Int))) = some (TV.v (IV.int IntKind.i64 (↑x : Int))) ∧
 some [IV.int IntKind.i64 k, IV.int IntKind.i64 c, IV.vslice none (0 : Nat) (List.length o) (1 : Nat) (ints o), IV.int IntKind.i64 v] =
 some [IV.int IntKind.i64 k, IV.int IntKind.i64 c, IV.vslice none (0 : Nat) (List.length o) (1 : Nat) (ints o), IV.int IntKind.i64 v] ∧
 some [IV.int IntKind.i64 k', IV.int IntKind.i64 c', IV.vslice none (0 : Nat) (List.length o') (1 : Nat) (ints o'), IV.int IntKind.i64 v'] =
 some [IV.int IntKind.i64 k', IV.int IntKind.i64 c', IV.vslice none (0 : Nat) (List.length o') (1 : Nat) (ints o'), IV.int IntKind.i64 v'] ∧
 Heap.mk PT.nil (0 : Nat) = Heap.mk PT.nil (0 : Nat) ∧ (x ≤ List.length o ∧ ∀ (j : Nat), j < x → o[j]? = o'[j]?) ∧ True) ∧
 ∀ (x : Nat) (b : FF),
 (x ≤ List.length o ∧ ∀ (j : Nat), j < x → o[j]? = o'[j]?) →
 brS (decide ((↑x : Int) < (↑(List.length o) : Int)))
 (needS (decide ((0 : Int) ≤ (↑x : Int)) && decide ((↑x : Int) < (↑(List.length o) : Int)))
 (ldIS IntKind.i64 (ints o) (Int.toNat (↑x : Int) * (1 : Nat)) fun (n0 : Int) =>
 needS (decide ((0 : Int) ≤ (↑x : Int)) && decide ((↑x : Int) < (↑(List.length o') : Int)))
 (ldIS IntKind.i64 (ints o') (Int.toNat (↑x : Int) * (1 : Nat)) fun (n1 : Int) =>
 brS (n0 != n1) (Q (IV.bool false) h)
 (∃ (x_1 : Nat),
 some (TV.l (2 : Nat) (0 : Nat)) = some (TV.l (2 : Nat) (0 : Nat)) ∧
 some (TV.l (3 : Nat) (0 : Nat)) = some (TV.l (3 : Nat) (0 : Nat)) ∧
 some (TV.v (IV.int IntKind.i64 (IntKind.wrap IntKind.i64 ((↑x : Int) + (1 : Int))))) = some (TV.v (IV.int IntKind.i64 (↑x_1 : Int))) ∧
 some [IV.int IntKind.i64 k, IV.int IntKind.i64 c, IV.vslice none (0 : Nat) (List.length o) (1 : Nat) (ints o), IV.int IntKind.i64 v] =
 some [IV.int IntKind.i64 k, IV.int IntKind.i64 c, IV.vslice none (0 : Nat) (List.length o) (1 : Nat) (ints o), IV.int IntKind.i64 v] ∧
 some [IV.int IntKind.i64 k', IV.int IntKind.i64 c', IV.vslice none (0 : Nat) (List.length o') (1 : Nat) (ints o'), IV.int IntKind.i64 v'] =
 some [IV.int IntKind.i64 k', IV.int IntKind.i64 c', IV.vslice none (0 : Nat) (List.length o') (1 : Nat) (ints o'), IV.int IntKind.i64 v'] ∧
 Heap.mk PT.nil (0 : Nat) = Heap.mk PT.nil (0 : Nat) ∧ (x_1 ≤ List.length o ∧ ∀ (j : Nat), j < x_1 → o[j]? = o'[j]?) ∧ List.length o - x_1 < List.length o - x))))
 (Q (IV.bool true) h))))))) := by kernel_rfl
set_option maxHeartbeats 4000000 in
theorem sSameOut : ∀ xs h Q, kSameOut xs h Q → CallW env 24 xs h Q := by
  intro xs h Q hk
  unfold kSameOut at hk
  split at hk
  · rename_i k c e1 n1 d1 v k' c' e2 n2 d2 v'
    obtain ⟨o, o', ⟨rfl, rfl⟩, ⟨rfl, rfl⟩, hb, hk⟩ := hk
    refine dF_run (okKFuel) (vSameOut k c v k' c' v' o o' e1 e2 h Q) ?_
    have tn : ∀ x : Nat, (x : Int).toNat = x := Int.toNat_natCast
    have hF : ¬ (k = k' ∧ c = c' ∧ v = v' ∧ o = o') → Q (.bool false) h := fun z => by
      rw [show sameO k c o v k' c' o' v' = false from decide_eq_false z] at hk
      exact hk
    refine needS_intro (by simp only [pureL, pureB, ints, pureL_ints, Bool.and_true]) (brS_intro (fun y => hF fun z => ?_) (fun y1 => brS_intro (fun y => hF fun z => ?_) (fun y2 => brS_intro (fun y => hF fun z => ?_) (fun y3 => brS_intro (fun y => hF fun z => ?_) (fun y4 => ?_)))))
    · rw [bne_iff_ne] at y; exact y z.1
    · rw [bne_iff_ne] at y; exact y z.2.1
    · rw [bne_iff_ne] at y; exact y z.2.2.1
    · rw [bne_iff_ne] at y; exact y (by rw [z.2.2.2])
    · rw [bne_eq_false_iff_eq] at y1 y2 y3 y4
      have hl : o.length = o'.length := by omega
      refine ⟨⟨0, (by first | rfl | trivial), (by first | rfl | trivial), (by first | rfl | trivial), (by first | rfl | trivial), (by first | rfl | trivial), (by first | rfl | trivial), ⟨Nat.zero_le _, fun j hj => absurd hj (Nat.not_lt_zero _)⟩, trivial⟩, fun x _ hx => ?_⟩
      obtain ⟨hx1, hx2⟩ := hx
      refine brS_intro (fun y => ?_) (fun y => ?_)
      · rw [decide_eq_true_eq] at y
        have h1 : x < o.length := by omega
        have h2 : x < o'.length := by omega
        simp only [tn, Nat.mul_one]
        refine needS_intro (by simp; omega) (ldIS_map h1 (needS_intro (by simp; omega) (ldIS_map h2 (brS_intro (fun q => hF fun z => ?_) (fun q => ?_)))))
        · rw [bne_iff_ne] at q
          exact q (by simp [z.2.2.2])
        · rw [bne_eq_false_iff_eq] at q
          refine ⟨x + 1, (by first | rfl | trivial), (by first | rfl | trivial), (by rw [IntWalk.i64_in _ (by omega)]; rfl), (by first | rfl | trivial), (by first | rfl | trivial), (by first | rfl | trivial), ⟨h1, fun j hj => ?_⟩, by omega⟩
          rcases Nat.lt_or_ge j x with z | z
          · exact hx2 j z
          · obtain rfl : j = x := by omega
            rw [List.getElem?_eq_getElem h1, List.getElem?_eq_getElem h2, q]
      · rw [decide_eq_false_iff_not] at y
        have he : o = o' := List.ext_getElem? fun j => by
          rcases Nat.lt_or_ge j x with q | q
          · exact hx2 j q
          · rw [List.getElem?_eq_none (by omega), List.getElem?_eq_none (by omega)]
        rw [show sameO k c o v k' c' o' v' = true from decide_eq_true ⟨y1, y2, y3, he⟩] at hk
        exact hk
  · exact hk.elim
def cSameOut := addC 24 kSameOut cKFuel
theorem okSameOut : Sound env cSameOut := sound_add sSameOut (okKFuel)

def kCEx (xs : List IV) (h : Heap) (K : IV → Heap → Prop) : Prop := match xs with
  | [] => K (.bool true) h
  | _ => False
theorem sCEx : ∀ xs h Q, kCEx xs h Q → CallW env 16 xs h Q := by
  intro xs h Q hk
  unfold kCEx at hk
  split at hk
  · exact ⟨300, .bool true, h, by kernel_rfl, hk⟩
  · exact hk.elim
def cCEx := addC 16 kCEx cSameOut
theorem okCEx : Sound env cCEx := sound_add sCEx (okSameOut)

end Go.Proofs.YtlenjfbmpekabaaDoor

end

section
/-
  The simulator of the target machine: runs.
  Conditions: none.
-/
set_option linter.unusedVariables false
set_option linter.unusedSimpArgs false
namespace Go.Proofs.YtlenjfbmpekabaaDoor
open Go.Pv Go.M29 Go.M30 Go.M31 Go.M13
def rnI (w e p s a args : List Int) (f fuel most : Int) : Inv' := atX (Nat × Heap × Ly) (fun x => [(4, .v (.int .i64 most)), (10, .l 10 0), (12, .v (.ptr 1 0)), (14, .v (.int .i64 x.1))]) (fun _ => [(10, [.int .i64 0, .int .i64 0, .nilslice, .int .i64 0])]) (fun x => x.2.1) (fun x => newErr ⟨w, e, p, s, a⟩ f args fuel = 0 ∧ x.1 ≤ most.toNat ∧ Rep ⟨w, e, p, s, a⟩ (rnN ⟨w, e, p, s, a⟩ x.1 (initS ⟨w, e, p, s, a⟩ f args fuel)) x.2.2 1 x.2.1) (fun x => most.toNat - x.1)
def kCRun (xs : List IV) (h : Heap) (K : IV → Heap → Prop) : Prop := match xs with
  | [.agg [.vslice none e1 n1 1 c1, .vslice none e2 n2 1 c2, .vslice none e3 n3 1 c3, .vslice none e4 n4 1 c4, .vslice none e5 n5 1 c5], .int .i64 f, .vslice none e6 n6 1 c6, .int .i64 fuel, .int .i64 most] => ∃ w e p s a args : List Int, (n1 = w.length ∧ c1 = w.map (IV.int .u32)) ∧ (n2 = e.length ∧ c2 = e.map (IV.int .i64)) ∧ (n3 = p.length ∧ c3 = p.map (IV.int .i64)) ∧ (n4 = s.length ∧ c4 = s.map (IV.int .i64)) ∧ (n5 = a.length ∧ c5 = a.map (IV.int .i64)) ∧ (n6 = args.length ∧ c6 = args.map (IV.int .i64)) ∧ (∀ x ∈ w, u32b x) ∧ most ≤ 1000 ∧ K (.tuple [.agg [.int .i64 (runR ⟨w, e, p, s, a⟩ f args fuel most).1, .int .i64 (runR ⟨w, e, p, s, a⟩ f args fuel most).2.1, .vslice none 0 (runR ⟨w, e, p, s, a⟩ f args fuel most).2.2.1.length 1 (ints (runR ⟨w, e, p, s, a⟩ f args fuel most).2.2.1), .int .i64 (runR ⟨w, e, p, s, a⟩ f args fuel most).2.2.2.1], .bool (runR ⟨w, e, p, s, a⟩ f args fuel most).2.2.2.2]) h
  | _ => False
set_option maxRecDepth 100000 in
theorem vCRun (w e p s a args : List Int) (e1 e2 e3 e4 e5 e6 : Nat) (f fuel most : Int) (h : Heap) (Q : IV → Heap → Prop) : dF (stdS cCEx) env 21 noU (ic1 6 (rnI w e p s a args f fuel most)) noI [.agg [.vslice none e1 (w).length 1 ((w).map (IV.int .u32)), .vslice none e2 (e).length 1 ((e).map (IV.int .i64)), .vslice none e3 (p).length 1 ((p).map (IV.int .i64)), .vslice none e4 (s).length 1 ((s).map (IV.int .i64)), .vslice none e5 (a).length 1 ((a).map (IV.int .i64))], .int .i64 f, .vslice none e6 (args).length 1 ((args).map (IV.int .i64)), .int .i64 fuel, .int .i64 most] h Q = (
  needS
 (pureL
 [IV.agg
 [IV.vslice none (0 : Nat) (List.length w) (1 : Nat) (List.map (IV.int IntKind.u32) w), IV.vslice none (0 : Nat) (List.length e) (1 : Nat) (List.map (IV.int IntKind.i64) e),
 IV.vslice none (0 : Nat) (List.length p) (1 : Nat) (List.map (IV.int IntKind.i64) p), IV.vslice none (0 : Nat) (List.length s) (1 : Nat) (List.map (IV.int IntKind.i64) s),
 IV.vslice none (0 : Nat) (List.length a) (1 : Nat) (List.map (IV.int IntKind.i64) a)],
 IV.int IntKind.i64 f, IV.vslice none (0 : Nat) (List.length args) (1 : Nat) (List.map (IV.int IntKind.i64) args), IV.int IntKind.i64 fuel, IV.int IntKind.i64 most])
 (∃ (w_1 : List Int),
 ∃ (e_1 : List Int),
 ∃ (p_1 : List Int),
 ∃ (s_1 : List Int),
 ∃ (a_1 : List Int),
 ∃ (args_1 : List Int),
 (List.length w = List.length w_1 ∧ List.map (IV.int IntKind.u32) w = List.map (IV.int IntKind.u32) w_1) ∧
 (List.length e = List.length e_1 ∧ List.map (IV.int IntKind.i64) e = List.map (IV.int IntKind.i64) e_1) ∧
 (List.length p = List.length p_1 ∧ List.map (IV.int IntKind.i64) p = List.map (IV.int IntKind.i64) p_1) ∧
 (List.length s = List.length s_1 ∧ List.map (IV.int IntKind.i64) s = List.map (IV.int IntKind.i64) s_1) ∧
 (List.length a = List.length a_1 ∧ List.map (IV.int IntKind.i64) a = List.map (IV.int IntKind.i64) a_1) ∧
 (List.length args = List.length args_1 ∧ List.map (IV.int IntKind.i64) args = List.map (IV.int IntKind.i64) args_1) ∧
 (∀ (x : Int), x ∈ w_1 → u32b x) ∧
 (newErr (Bi.mk w_1 e_1 p_1 s_1 a_1) f args_1 fuel ≠ (0 : Int) →
 brS (newErr (Bi.mk w_1 e_1 p_1 s_1 a_1) f args_1 fuel != (0 : Int))
 (Q (IV.tuple [IV.agg [IV.int IntKind.i64 (0 : Int), IV.int IntKind.i64 (0 : Int), IV.vslice none (0 : Nat) (0 : Nat) (1 : Nat) [], IV.int IntKind.i64 (0 : Int)], IV.bool false]) h)
 ((∃ (x : Nat × Heap × Ly),
 some (TV.v (IV.int IntKind.i64 most)) = some (TV.v (IV.int IntKind.i64 most)) ∧
 some (TV.l (10 : Nat) (0 : Nat)) = some (TV.l (10 : Nat) (0 : Nat)) ∧
 some (TV.v IV.nilptr) = some (TV.v (IV.ptr (1 : Nat) (0 : Nat))) ∧
 some (TV.v (IV.int IntKind.i64 (0 : Int))) = some (TV.v (IV.int IntKind.i64 (↑(Prod.fst x) : Int))) ∧
 some [IV.int IntKind.i64 (0 : Int), IV.int IntKind.i64 (0 : Int), IV.nilslice, IV.int IntKind.i64 (0 : Int)] =
 some [IV.int IntKind.i64 (0 : Int), IV.int IntKind.i64 (0 : Int), IV.nilslice, IV.int IntKind.i64 (0 : Int)] ∧
 Heap.mk PT.nil (0 : Nat) = Prod.fst (Prod.snd x) ∧
 (newErr (Bi.mk w e p s a) f args fuel = (0 : Int) ∧
 Prod.fst x ≤ Int.toNat most ∧
 Rep (Bi.mk w e p s a) (rnN (Bi.mk w e p s a) (Prod.fst x) (initS (Bi.mk w e p s a) f args fuel)) (Prod.snd (Prod.snd x)) (1 : Nat) (Prod.fst (Prod.snd x))) ∧
 True) ∧
 ∀ (x : Nat × Heap × Ly) (b : FF),
 newErr (Bi.mk w e p s a) f args fuel = (0 : Int) ∧
 Prod.fst x ≤ Int.toNat most ∧ Rep (Bi.mk w e p s a) (rnN (Bi.mk w e p s a) (Prod.fst x) (initS (Bi.mk w e p s a) f args fuel)) (Prod.snd (Prod.snd x)) (1 : Nat) (Prod.fst (Prod.snd x)) →
 brS (decide ((↑(Prod.fst x) : Int) < most))
 (hgetS (Prod.fst (Prod.snd x)) (1 : Nat) fun (r0 : List IV) =>
 ldBS r0 (16 : Nat) fun (b1 : Bool) =>
 brS (!b1)
 (∃ (B : Bi),
 ∃ (s_2 : CS),
 ∃ (L : Ly),
 Rep B s_2 L (1 : Nat) (Prod.fst (Prod.snd x)) ∧
 (VB B ∧ (∀ (x : Int), x ∈ Bi.w B → u32b x) ∧ WF B s_2 ∧ List.length (CS.out s_2) ≤ (1000000 : Nat) ∧ List.length (CS.frames s_2) ≤ (1000000 : Nat)) ∧
 ∀ (L' : Ly) (h' : Heap),
 Rep B (stepS B s_2) L' (1 : Nat) h' →
 Frm L L' (Prod.fst (Prod.snd x)) h' →
 ∃ (x_1 : Nat × Heap × Ly),
 some (TV.v (IV.int IntKind.i64 most)) = some (TV.v (IV.int IntKind.i64 most)) ∧
 some (TV.l (10 : Nat) (0 : Nat)) = some (TV.l (10 : Nat) (0 : Nat)) ∧
 some (TV.v (IV.ptr (1 : Nat) (0 : Nat))) = some (TV.v (IV.ptr (1 : Nat) (0 : Nat))) ∧
 some (TV.v (IV.int IntKind.i64 (IntKind.wrap IntKind.i64 ((↑(Prod.fst x) : Int) + (1 : Int))))) = some (TV.v (IV.int IntKind.i64 (↑(Prod.fst x_1) : Int))) ∧
 some [IV.int IntKind.i64 (0 : Int), IV.int IntKind.i64 (0 : Int), IV.nilslice, IV.int IntKind.i64 (0 : Int)] =
 some [IV.int IntKind.i64 (0 : Int), IV.int IntKind.i64 (0 : Int), IV.nilslice, IV.int IntKind.i64 (0 : Int)] ∧
 h' = Prod.fst (Prod.snd x_1) ∧
 (newErr (Bi.mk w e p s a) f args fuel = (0 : Int) ∧
 Prod.fst x_1 ≤ Int.toNat most ∧
 Rep (Bi.mk w e p s a) (rnN (Bi.mk w e p s a) (Prod.fst x_1) (initS (Bi.mk w e p s a) f args fuel)) (Prod.snd (Prod.snd x_1)) (1 : Nat)
 (Prod.fst (Prod.snd x_1))) ∧
 Int.toNat most - Prod.fst x_1 < Int.toNat most - Prod.fst x)
 (∃ (B : Bi),
 ∃ (s : CS),
 ∃ (L : Ly),
 Rep B s L (1 : Nat) (Prod.fst (Prod.snd x)) ∧
 List.length (CS.out s) ≤ (1000000 : Nat) ∧
 (CS.over s = false →
 Q (IV.tuple [IV.agg [IV.int IntKind.i64 (0 : Int), IV.int IntKind.i64 (0 : Int), IV.vslice none (0 : Nat) (0 : Nat) (1 : Nat) [], IV.int IntKind.i64 (0 : Int)], IV.bool false])
 h) ∧
 (CS.over s = true →
 ∀ (i : Option Nat) (e : Nat) (h' : Heap),
 (∀ (k : Nat), k < Heap.next (Prod.fst (Prod.snd x)) → Heap.get h' k = Heap.get (Prod.fst (Prod.snd x)) k) →
 Heap.next (Prod.fst (Prod.snd x)) ≤ Heap.next h' →
 needS
 (pureL
 [IV.agg
 [IV.int IntKind.i64 (CS.kind s), IV.int IntKind.i64 (CS.code s), IV.vslice none (0 : Nat) (List.length (CS.out s)) (1 : Nat) (ints (CS.out s)),
 IV.int IntKind.i64 (CS.val s)],
 IV.bool true])
 (Q
 (IV.tuple
 [IV.agg
 [IV.int IntKind.i64 (CS.kind s), IV.int IntKind.i64 (CS.code s), IV.vslice none (0 : Nat) (List.length (CS.out s)) (1 : Nat) (ints (CS.out s)),
 IV.int IntKind.i64 (CS.val s)],
 IV.bool true])
 h))))
 (∃ (B : Bi),
 ∃ (s : CS),
 ∃ (L : Ly),
 Rep B s L (1 : Nat) (Prod.fst (Prod.snd x)) ∧
 List.length (CS.out s) ≤ (1000000 : Nat) ∧
 (CS.over s = false →
 Q (IV.tuple [IV.agg [IV.int IntKind.i64 (0 : Int), IV.int IntKind.i64 (0 : Int), IV.vslice none (0 : Nat) (0 : Nat) (1 : Nat) [], IV.int IntKind.i64 (0 : Int)], IV.bool false]) h) ∧
 (CS.over s = true →
 ∀ (i : Option Nat) (e : Nat) (h' : Heap),
 (∀ (k : Nat), k < Heap.next (Prod.fst (Prod.snd x)) → Heap.get h' k = Heap.get (Prod.fst (Prod.snd x)) k) →
 Heap.next (Prod.fst (Prod.snd x)) ≤ Heap.next h' →
 needS
 (pureL
 [IV.agg
 [IV.int IntKind.i64 (CS.kind s), IV.int IntKind.i64 (CS.code s), IV.vslice none (0 : Nat) (List.length (CS.out s)) (1 : Nat) (ints (CS.out s)),
 IV.int IntKind.i64 (CS.val s)],
 IV.bool true])
 (Q
 (IV.tuple
 [IV.agg
 [IV.int IntKind.i64 (CS.kind s), IV.int IntKind.i64 (CS.code s), IV.vslice none (0 : Nat) (List.length (CS.out s)) (1 : Nat) (ints (CS.out s)),
 IV.int IntKind.i64 (CS.val s)],
 IV.bool true])
 h))))) ∧
 (newErr (Bi.mk w_1 e_1 p_1 s_1 a_1) f args_1 fuel = (0 : Int) →
 ∀ (L : Ly) (h' : Heap),
 Rep (Bi.mk w_1 e_1 p_1 s_1 a_1) (initS (Bi.mk w_1 e_1 p_1 s_1 a_1) f args_1 fuel) L ((0 : Nat) + (1 : Nat)) h' →
 (∀ (k : Nat), k < (0 : Nat) → Heap.get h' k = IObj.dead ∧ Ly.r L k = Role.other) →
 (0 : Nat) ≤ Heap.next h' →
 (∃ (x : Nat × Heap × Ly),
 some (TV.v (IV.int IntKind.i64 most)) = some (TV.v (IV.int IntKind.i64 most)) ∧
 some (TV.l (10 : Nat) (0 : Nat)) = some (TV.l (10 : Nat) (0 : Nat)) ∧
 some (TV.v (IV.ptr ((0 : Nat) + (1 : Nat)) (0 : Nat))) = some (TV.v (IV.ptr (1 : Nat) (0 : Nat))) ∧
 some (TV.v (IV.int IntKind.i64 (0 : Int))) = some (TV.v (IV.int IntKind.i64 (↑(Prod.fst x) : Int))) ∧
 some [IV.int IntKind.i64 (0 : Int), IV.int IntKind.i64 (0 : Int), IV.nilslice, IV.int IntKind.i64 (0 : Int)] =
 some [IV.int IntKind.i64 (0 : Int), IV.int IntKind.i64 (0 : Int), IV.nilslice, IV.int IntKind.i64 (0 : Int)] ∧
 h' = Prod.fst (Prod.snd x) ∧
 (newErr (Bi.mk w e p s a) f args fuel = (0 : Int) ∧
 Prod.fst x ≤ Int.toNat most ∧
 Rep (Bi.mk w e p s a) (rnN (Bi.mk w e p s a) (Prod.fst x) (initS (Bi.mk w e p s a) f args fuel)) (Prod.snd (Prod.snd x)) (1 : Nat) (Prod.fst (Prod.snd x))) ∧
 True) ∧
 ∀ (x : Nat × Heap × Ly) (b : FF),
 newErr (Bi.mk w e p s a) f args fuel = (0 : Int) ∧
 Prod.fst x ≤ Int.toNat most ∧ Rep (Bi.mk w e p s a) (rnN (Bi.mk w e p s a) (Prod.fst x) (initS (Bi.mk w e p s a) f args fuel)) (Prod.snd (Prod.snd x)) (1 : Nat) (Prod.fst (Prod.snd x)) →
 brS (decide ((↑(Prod.fst x) : Int) < most))
 (hgetS (Prod.fst (Prod.snd x)) (1 : Nat) fun (r2 : List IV) =>
 ldBS r2 (16 : Nat) fun (b3 : Bool) =>
 brS (!b3)
 (∃ (B : Bi),
 ∃ (s_2 : CS),
 ∃ (L : Ly),
 Rep B s_2 L (1 : Nat) (Prod.fst (Prod.snd x)) ∧
 (VB B ∧ (∀ (x : Int), x ∈ Bi.w B → u32b x) ∧ WF B s_2 ∧ List.length (CS.out s_2) ≤ (1000000 : Nat) ∧ List.length (CS.frames s_2) ≤ (1000000 : Nat)) ∧
 ∀ (L' : Ly) (h' : Heap),
 Rep B (stepS B s_2) L' (1 : Nat) h' →
 Frm L L' (Prod.fst (Prod.snd x)) h' →
 ∃ (x_1 : Nat × Heap × Ly),
 some (TV.v (IV.int IntKind.i64 most)) = some (TV.v (IV.int IntKind.i64 most)) ∧
 some (TV.l (10 : Nat) (0 : Nat)) = some (TV.l (10 : Nat) (0 : Nat)) ∧
 some (TV.v (IV.ptr (1 : Nat) (0 : Nat))) = some (TV.v (IV.ptr (1 : Nat) (0 : Nat))) ∧
 some (TV.v (IV.int IntKind.i64 (IntKind.wrap IntKind.i64 ((↑(Prod.fst x) : Int) + (1 : Int))))) = some (TV.v (IV.int IntKind.i64 (↑(Prod.fst x_1) : Int))) ∧
 some [IV.int IntKind.i64 (0 : Int), IV.int IntKind.i64 (0 : Int), IV.nilslice, IV.int IntKind.i64 (0 : Int)] =
 some [IV.int IntKind.i64 (0 : Int), IV.int IntKind.i64 (0 : Int), IV.nilslice, IV.int IntKind.i64 (0 : Int)] ∧
 h' = Prod.fst (Prod.snd x_1) ∧
 (newErr (Bi.mk w e p s a) f args fuel = (0 : Int) ∧
 Prod.fst x_1 ≤ Int.toNat most ∧
 Rep (Bi.mk w e p s a) (rnN (Bi.mk w e p s a) (Prod.fst x_1) (initS (Bi.mk w e p s a) f args fuel)) (Prod.snd (Prod.snd x_1)) (1 : Nat)
 (Prod.fst (Prod.snd x_1))) ∧
 Int.toNat most - Prod.fst x_1 < Int.toNat most - Prod.fst x)
 (∃ (B : Bi),
 ∃ (s : CS),
 ∃ (L : Ly),
 Rep B s L (1 : Nat) (Prod.fst (Prod.snd x)) ∧
 List.length (CS.out s) ≤ (1000000 : Nat) ∧
 (CS.over s = false →
 Q
 (IV.tuple
 [IV.agg [IV.int IntKind.i64 (0 : Int), IV.int IntKind.i64 (0 : Int), IV.vslice none (0 : Nat) (0 : Nat) (1 : Nat) [], IV.int IntKind.i64 (0 : Int)], IV.bool false])
 h) ∧
 (CS.over s = true →
 ∀ (i : Option Nat) (e : Nat) (h' : Heap),
 (∀ (k : Nat), k < Heap.next (Prod.fst (Prod.snd x)) → Heap.get h' k = Heap.get (Prod.fst (Prod.snd x)) k) →
 Heap.next (Prod.fst (Prod.snd x)) ≤ Heap.next h' →
 needS
 (pureL
 [IV.agg
 [IV.int IntKind.i64 (CS.kind s), IV.int IntKind.i64 (CS.code s), IV.vslice none (0 : Nat) (List.length (CS.out s)) (1 : Nat) (ints (CS.out s)),
 IV.int IntKind.i64 (CS.val s)],
 IV.bool true])
 (Q
 (IV.tuple
 [IV.agg
 [IV.int IntKind.i64 (CS.kind s), IV.int IntKind.i64 (CS.code s), IV.vslice none (0 : Nat) (List.length (CS.out s)) (1 : Nat) (ints (CS.out s)),
 IV.int IntKind.i64 (CS.val s)],
 IV.bool true])
 h))))
 (∃ (B : Bi),
 ∃ (s : CS),
 ∃ (L : Ly),
 Rep B s L (1 : Nat) (Prod.fst (Prod.snd x)) ∧
 List.length (CS.out s) ≤ (1000000 : Nat) ∧
 (CS.over s = false →
 Q (IV.tuple [IV.agg [IV.int IntKind.i64 (0 : Int), IV.int IntKind.i64 (0 : Int), IV.vslice none (0 : Nat) (0 : Nat) (1 : Nat) [], IV.int IntKind.i64 (0 : Int)], IV.bool false])
 h) ∧
 (CS.over s = true →
 ∀ (i : Option Nat) (e : Nat) (h' : Heap),
 (∀ (k : Nat), k < Heap.next (Prod.fst (Prod.snd x)) → Heap.get h' k = Heap.get (Prod.fst (Prod.snd x)) k) →
 Heap.next (Prod.fst (Prod.snd x)) ≤ Heap.next h' →
 needS
 (pureL
 [IV.agg
 [IV.int IntKind.i64 (CS.kind s), IV.int IntKind.i64 (CS.code s), IV.vslice none (0 : Nat) (List.length (CS.out s)) (1 : Nat) (ints (CS.out s)),
 IV.int IntKind.i64 (CS.val s)],
 IV.bool true])
 (Q
 (IV.tuple
 [IV.agg
 [IV.int IntKind.i64 (CS.kind s), IV.int IntKind.i64 (CS.code s), IV.vslice none (0 : Nat) (List.length (CS.out s)) (1 : Nat) (ints (CS.out s)),
 IV.int IntKind.i64 (CS.val s)],
 IV.bool true])
 h)))))) := by kernel_rfl
set_option maxHeartbeats 4000000 in
theorem sCRun : ∀ xs h Q, kCRun xs h Q → CallW env 21 xs h Q := by
  intro xs h Q hk
  unfold kCRun at hk
  split at hk
  · rename_i e1 n1 c1 e2 n2 c2 e3 n3 c3 e4 n4 c4 e5 n5 c5 f e6 n6 c6 fuel most
    obtain ⟨w, e, p, s, a, args, ⟨rfl, rfl⟩, ⟨rfl, rfl⟩, ⟨rfl, rfl⟩, ⟨rfl, rfl⟩, ⟨rfl, rfl⟩, ⟨rfl, rfl⟩, hw, hm, hk⟩ := hk
    refine dF_run (okCEx) (vCRun w e p s a args e1 e2 e3 e4 e5 e6 f fuel most h Q) ?_
    have tn : ∀ x : Nat, (x : Int).toNat = x := Int.toNat_natCast
    refine needS_intro (by simp only [pureL, pureB, pureL_ints, Bool.and_true]) ⟨w, e, p, s, a, args, ⟨rfl, rfl⟩, ⟨rfl, rfl⟩, ⟨rfl, rfl⟩, ⟨rfl, rfl⟩, ⟨rfl, rfl⟩, ⟨rfl, rfl⟩, hw, fun he => ?_, fun he L0 h0 hr0 _ _ => ?_⟩
    · refine brS_intro (fun _ => ?_) (fun y => absurd (by simpa using y) he)
      have e0 : runR ⟨w, e, p, s, a⟩ f args fuel most = (0, 0, [], 0, false) := if_neg he
      rw [e0] at hk
      exact hk
    · obtain ⟨hv, hf, hal, hfu, ha8⟩ := err_ok he
      have wf0 := wf_init hv hf ha8 fuel
      have hR : runR ⟨w, e, p, s, a⟩ f args fuel most = outC5 (rnN ⟨w, e, p, s, a⟩ most.toNat (initS ⟨w, e, p, s, a⟩ f args fuel)) := if_pos he
      have lens := lens_run ⟨w, e, p, s, a⟩ (initS ⟨w, e, p, s, a⟩ f args fuel)
      have l0 : (initS ⟨w, e, p, s, a⟩ f args fuel).frames.length = 1 ∧ (initS ⟨w, e, p, s, a⟩ f args fuel).out.length = 0 := ⟨rfl, rfl⟩
      have same : ∀ k : Nat, (k : Int) ≤ most → (rnN ⟨w, e, p, s, a⟩ k (initS ⟨w, e, p, s, a⟩ f args fuel)).over = true → rnN ⟨w, e, p, s, a⟩ most.toNat (initS ⟨w, e, p, s, a⟩ f args fuel) = rnN ⟨w, e, p, s, a⟩ k (initS ⟨w, e, p, s, a⟩ f args fuel) := fun k hk ho => by
        have : most.toNat = k + (most.toNat - k) := by omega
        rw [this, rnN_add, rnN_over ho]
      refine ⟨⟨(0, h0, L0), (by first | rfl | trivial), (by first | rfl | trivial), (by first | rfl | trivial), (by first | rfl | trivial), (by first | rfl | trivial), (by first | rfl | trivial), ⟨he, Nat.zero_le _, hr0⟩, trivial⟩, fun x _ hx => ?_⟩
      obtain ⟨k, hp, L⟩ := x
      obtain ⟨_, hkm, hr⟩ := hx
      have hkm : k ≤ most.toNat := hkm
      have hr : Rep ⟨w, e, p, s, a⟩ (rnN ⟨w, e, p, s, a⟩ k (initS ⟨w, e, p, s, a⟩ f args fuel)) L 1 hp := hr
      have lk := lens k
      refine brS_intro (fun y => ?_) (fun y => ?_)
      · rw [decide_eq_true_eq] at y
        have y : (k : Int) < most := y
        refine hget_i hr.cpu (ldB_i ((cpu_z hr.rl 3).trans rfl) (brS_intro (fun z => ?_) (fun z => ?_)))
        · exact ⟨⟨w, e, p, s, a⟩, _, L, hr, ⟨hv, hw, wf_run hv hw wf0 k, by omega, by omega⟩, fun L' h' hr' _ => ⟨(k + 1, h', L'), (by first | rfl | trivial), (by first | rfl | trivial), (by first | rfl | trivial), (by simp only; rw [IntWalk.i64_in _ (by omega)]; rfl), (by first | rfl | trivial), (by first | rfl | trivial), ⟨he, (by simp only; omega), (by rw [← rnN_succ] at hr'; exact hr')⟩, (by simp only; omega)⟩⟩
        · have ho : (rnN ⟨w, e, p, s, a⟩ k (initS ⟨w, e, p, s, a⟩ f args fuel)).over = true := by simpa using z
          refine ⟨⟨w, e, p, s, a⟩, _, L, hr, by omega, fun z2 => by rw [ho] at z2; exact absurd z2 (by simp), fun _ i e0 h' _ _ => needS_intro (by simp only [pureL, pureB, ints, pureL_ints, Bool.and_true]) ?_⟩
          rw [hR, same k (by omega) ho] at hk
          unfold outC5 at hk
          rw [if_pos ho] at hk
          exact hk
      · rw [decide_eq_false_iff_not] at y
        have y : ¬ (k : Int) < most := y
        have ek : most.toNat = k := by omega
        rw [hR, ek] at hk
        unfold outC5 at hk
        refine ⟨⟨w, e, p, s, a⟩, _, L, hr, by omega, fun ho => ?_, fun ho i e0 h' _ _ => needS_intro (by simp only [pureL, pureB, ints, pureL_ints, Bool.and_true]) ?_⟩
        · rw [if_neg (by rw [ho]; simp)] at hk
          exact hk
        · rw [if_pos ho] at hk
          exact hk
  · exact hk.elim
def cCRun := addC 21 kCRun cCEx
theorem okCRun : Sound env cCRun := sound_add sCRun (okCEx)

end Go.Proofs.YtlenjfbmpekabaaDoor

end

section
/-
  The simulator of the target machine: laws.
  Conditions: none.
-/
set_option linter.unusedVariables false
set_option linter.unusedSimpArgs false
namespace Go.Proofs.YtlenjfbmpekabaaDoor
open Go.Pv Go.M29 Go.M30 Go.M31 Go.M13
def itI (l : List Int) : Inv' := .or
 (atX Unit (fun _ => [(0, .v (.vslice none 0 l.length 1 (l.map (IV.int .i64)))), (3, .v .nilslice), (4, .v (.int .i64 0))]) (fun _ => []) (fun _ => Heap.empty) (fun _ => True) (fun _ => l.length))
 (atX (Nat × Nat × Heap) (fun x => [(0, .v (.vslice none 0 l.length 1 (l.map (IV.int .i64)))), (3, .v (.vslice (some x.2.1) x.1 x.1 1 ((l.take x.1).map (IV.int .i64)))), (4, .v (.int .i64 x.1))]) (fun _ => []) (fun x => x.2.2) (fun x => (1 ≤ x.1 ∧ x.1 ≤ l.length) ∧ x.2.2.get x.2.1 = .tip x.1) (fun x => l.length - x.1))
def kInts31 (xs : List IV) (h : Heap) (K : IV → Heap → Prop) : Prop := match xs with
  | [.vslice none e1 n1 1 c1] => ∃ l : List Int, (n1 = l.length ∧ c1 = l.map (IV.int .i64)) ∧ l.length < 1000000000 ∧ K (.vslice none 0 l.length 1 (l.map (IV.int .i64))) h
  | _ => False
set_option maxRecDepth 100000 in
theorem vInts31 (l : List Int) (e1 : Nat) (h : Heap) (Q : IV → Heap → Prop) : dF (stdS cCRun) env 26 noU (ic1 4 (itI l)) noI [.vslice none e1 (l).length 1 ((l).map (IV.int .i64))] h Q = (
  needS (pureL [IV.vslice none (0 : Nat) (List.length l) (1 : Nat) (List.map (IV.int IntKind.i64) l)])
 (((∃ (x : Unit),
 some (TV.v (IV.vslice none (0 : Nat) (List.length l) (1 : Nat) (List.map (IV.int IntKind.i64) l))) = some (TV.v (IV.vslice none (0 : Nat) (List.length l) (1 : Nat) (List.map (IV.int IntKind.i64) l))) ∧
 some (TV.v IV.nilslice) = some (TV.v IV.nilslice) ∧ some (TV.v (IV.int IntKind.i64 (0 : Int))) = some (TV.v (IV.int IntKind.i64 (0 : Int))) ∧ Heap.mk PT.nil (0 : Nat) = Heap.mk PT.nil (0 : Nat) ∧ True ∧ True) ∨
 ∃ (x : Nat × Nat × Heap),
 some (TV.v (IV.vslice none (0 : Nat) (List.length l) (1 : Nat) (List.map (IV.int IntKind.i64) l))) = some (TV.v (IV.vslice none (0 : Nat) (List.length l) (1 : Nat) (List.map (IV.int IntKind.i64) l))) ∧
 some (TV.v IV.nilslice) = some (TV.v (IV.vslice (some (Prod.fst (Prod.snd x))) (Prod.fst x) (Prod.fst x) (1 : Nat) (List.map (IV.int IntKind.i64) (List.take (Prod.fst x) l)))) ∧
 some (TV.v (IV.int IntKind.i64 (0 : Int))) = some (TV.v (IV.int IntKind.i64 (↑(Prod.fst x) : Int))) ∧
 Heap.mk PT.nil (0 : Nat) = Prod.snd (Prod.snd x) ∧ (((1 : Nat) ≤ Prod.fst x ∧ Prod.fst x ≤ List.length l) ∧ Heap.get (Prod.snd (Prod.snd x)) (Prod.fst (Prod.snd x)) = IObj.tip (Prod.fst x)) ∧ True) ∧
 (∀ (x : Unit) (b : FF),
 True →
 brS (decide ((0 : Int) < (↑(List.length l) : Int)))
 (needS (true && decide ((0 : Int) < (↑(List.length l) : Int)))
 (ldIS IntKind.i64 (List.map (IV.int IntKind.i64) l) (0 : Nat) fun (n0 : Int) =>
 (∃ (x : Unit),
 some (TV.v (IV.vslice none (0 : Nat) (List.length l) (1 : Nat) (List.map (IV.int IntKind.i64) l))) = some (TV.v (IV.vslice none (0 : Nat) (List.length l) (1 : Nat) (List.map (IV.int IntKind.i64) l))) ∧
 some (TV.v (IV.vslice (some (0 : Nat)) (1 : Nat) (1 : Nat) (1 : Nat) [IV.int IntKind.i64 n0])) = some (TV.v IV.nilslice) ∧
 some (TV.v (IV.int IntKind.i64 (1 : Int))) = some (TV.v (IV.int IntKind.i64 (0 : Int))) ∧
 Heap.mk (PT.node PT.nil (some (IObj.tip (1 : Nat))) PT.nil) ((0 : Nat) + (1 : Nat)) = Heap.mk PT.nil (0 : Nat) ∧ True ∧ List.length l < List.length l) ∨
 ∃ (x : Nat × Nat × Heap),
 some (TV.v (IV.vslice none (0 : Nat) (List.length l) (1 : Nat) (List.map (IV.int IntKind.i64) l))) = some (TV.v (IV.vslice none (0 : Nat) (List.length l) (1 : Nat) (List.map (IV.int IntKind.i64) l))) ∧
 some (TV.v (IV.vslice (some (0 : Nat)) (1 : Nat) (1 : Nat) (1 : Nat) [IV.int IntKind.i64 n0])) =
 some (TV.v (IV.vslice (some (Prod.fst (Prod.snd x))) (Prod.fst x) (Prod.fst x) (1 : Nat) (List.map (IV.int IntKind.i64) (List.take (Prod.fst x) l)))) ∧
 some (TV.v (IV.int IntKind.i64 (1 : Int))) = some (TV.v (IV.int IntKind.i64 (↑(Prod.fst x) : Int))) ∧
 Heap.mk (PT.node PT.nil (some (IObj.tip (1 : Nat))) PT.nil) ((0 : Nat) + (1 : Nat)) = Prod.snd (Prod.snd x) ∧
 (((1 : Nat) ≤ Prod.fst x ∧ Prod.fst x ≤ List.length l) ∧ Heap.get (Prod.snd (Prod.snd x)) (Prod.fst (Prod.snd x)) = IObj.tip (Prod.fst x)) ∧ List.length l - Prod.fst x < List.length l))
 (Q (IV.vslice none (0 : Nat) (0 : Nat) (1 : Nat) []) h)) ∧
 ∀ (x : Nat × Nat × Heap) (b : FF),
 ((1 : Nat) ≤ Prod.fst x ∧ Prod.fst x ≤ List.length l) ∧ Heap.get (Prod.snd (Prod.snd x)) (Prod.fst (Prod.snd x)) = IObj.tip (Prod.fst x) →
 brS (decide ((↑(Prod.fst x) : Int) < (↑(List.length l) : Int)))
 (needS (decide ((0 : Int) ≤ (↑(Prod.fst x) : Int)) && decide ((↑(Prod.fst x) : Int) < (↑(List.length l) : Int)))
 (ldIS IntKind.i64 (List.map (IV.int IntKind.i64) l) (Int.toNat (↑(Prod.fst x) : Int) * (1 : Nat)) fun (n1 : Int) =>
 tipS (Prod.snd (Prod.snd x)) (Prod.fst (Prod.snd x)) fun (m2 : Nat) =>
 needS (Nat.beq m2 (Prod.fst x) && Nat.ble ((Prod.fst x + (1 : Nat)) * (8 : Nat)) (140737488355328 : Nat))
 ((∃ (x_1 : Unit),
 some (TV.v (IV.vslice none (0 : Nat) (List.length l) (1 : Nat) (List.map (IV.int IntKind.i64) l))) = some (TV.v (IV.vslice none (0 : Nat) (List.length l) (1 : Nat) (List.map (IV.int IntKind.i64) l))) ∧
 some (TV.v (IV.vslice (some (Prod.fst (Prod.snd x))) (Prod.fst x + (1 : Nat)) (Prod.fst x + (1 : Nat)) (1 : Nat) (List.map (IV.int IntKind.i64) (List.take (Prod.fst x) l) ++ [IV.int IntKind.i64 n1]))) =
 some (TV.v IV.nilslice) ∧
 some (TV.v (IV.int IntKind.i64 (IntKind.wrap IntKind.i64 ((↑(Prod.fst x) : Int) + (1 : Int))))) = some (TV.v (IV.int IntKind.i64 (0 : Int))) ∧
 Heap.set (Prod.snd (Prod.snd x)) (Prod.fst (Prod.snd x)) (IObj.tip (Prod.fst x + (1 : Nat))) = Heap.mk PT.nil (0 : Nat) ∧ True ∧ List.length l < List.length l - Prod.fst x) ∨
 ∃ (x_1 : Nat × Nat × Heap),
 some (TV.v (IV.vslice none (0 : Nat) (List.length l) (1 : Nat) (List.map (IV.int IntKind.i64) l))) = some (TV.v (IV.vslice none (0 : Nat) (List.length l) (1 : Nat) (List.map (IV.int IntKind.i64) l))) ∧
 some (TV.v (IV.vslice (some (Prod.fst (Prod.snd x))) (Prod.fst x + (1 : Nat)) (Prod.fst x + (1 : Nat)) (1 : Nat) (List.map (IV.int IntKind.i64) (List.take (Prod.fst x) l) ++ [IV.int IntKind.i64 n1]))) =
 some (TV.v (IV.vslice (some (Prod.fst (Prod.snd x_1))) (Prod.fst x_1) (Prod.fst x_1) (1 : Nat) (List.map (IV.int IntKind.i64) (List.take (Prod.fst x_1) l)))) ∧
 some (TV.v (IV.int IntKind.i64 (IntKind.wrap IntKind.i64 ((↑(Prod.fst x) : Int) + (1 : Int))))) = some (TV.v (IV.int IntKind.i64 (↑(Prod.fst x_1) : Int))) ∧
 Heap.set (Prod.snd (Prod.snd x)) (Prod.fst (Prod.snd x)) (IObj.tip (Prod.fst x + (1 : Nat))) = Prod.snd (Prod.snd x_1) ∧
 (((1 : Nat) ≤ Prod.fst x_1 ∧ Prod.fst x_1 ≤ List.length l) ∧ Heap.get (Prod.snd (Prod.snd x_1)) (Prod.fst (Prod.snd x_1)) = IObj.tip (Prod.fst x_1)) ∧
 List.length l - Prod.fst x_1 < List.length l - Prod.fst x)))
 (needS (pureL [IV.vslice none (0 : Nat) (Prod.fst x) (1 : Nat) (List.map (IV.int IntKind.i64) (List.take (Prod.fst x) l))])
 (Q (IV.vslice none (0 : Nat) (Prod.fst x) (1 : Nat) (List.map (IV.int IntKind.i64) (List.take (Prod.fst x) l))) h)))) := by kernel_rfl
set_option maxHeartbeats 4000000 in
theorem sInts31 : ∀ xs h Q, kInts31 xs h Q → CallW env 26 xs h Q := by
  intro xs h Q hk
  unfold kInts31 at hk
  split at hk
  · rename_i e1 n1 c1
    obtain ⟨l, ⟨rfl, rfl⟩, hb, hk⟩ := hk
    refine dF_run (okCRun) (vInts31 l e1 h Q) ?_
    have tn : ∀ x : Nat, (x : Int).toNat = x := Int.toNat_natCast
    refine needS_intro (by simp only [pureL, pureB, pureL_ints, Bool.and_true]) ⟨.inl ⟨(), rfl, rfl, rfl, rfl, trivial, trivial⟩, fun _ _ _ => brS_intro (fun c => ?_) (fun c => ?_), fun x _ hx => ?_⟩
    · rw [decide_eq_true_eq] at c
      have h0 : 0 < l.length := by omega
      refine needS_intro (by simp; omega) (ldIS_map h0 (.inr ⟨(1, 0, _), rfl, (by cases l with | nil => exact absurd h0 (by simp) | cons a t => rfl), rfl, rfl, ⟨⟨Nat.le_refl _, h0⟩, rfl⟩, (by simp only; omega)⟩))
    · rw [decide_eq_false_iff_not] at c
      obtain rfl : l = [] := List.eq_nil_of_length_eq_zero (by omega)
      exact hk
    · obtain ⟨k, id, hp⟩ := x
      obtain ⟨⟨h1, h2⟩, ht⟩ := hx
      simp only at h1 h2 ht
      refine brS_intro (fun c => ?_) (fun c => ?_)
      · have c : (k : Int) < l.length := by simpa using c
        have hlt : k < l.length := by omega
        have hw : IntKind.i64.wrap ((k : Int) + 1) = ((k + 1 : Nat) : Int) := by rw [IntWalk.i64_in _ (by omega)]; rfl
        refine needS_intro (by simp; omega) ?_
        rw [tn, Nat.mul_one]
        refine ldIS_map hlt ?_
        unfold tipS
        rw [ht]
        refine needS_intro (by simp; omega) (.inr ⟨(k + 1, id, hp.set id (.tip (k + 1))), rfl, (by simp only; rw [List.take_succ_eq_append_getElem hlt, List.map_append]; rfl), (by simp only; rw [hw]), rfl, ⟨⟨(by simp only; omega), (by simp only; omega)⟩, (by simp only; rw [get_set, if_pos rfl])⟩, (by simp only; omega)⟩)
      · have c : ¬ (k : Int) < l.length := by simpa using c
        obtain rfl : k = l.length := by omega
        refine needS_intro (by simp only [pureL, pureB, pureL_ints, Bool.and_true]) ?_
        rw [List.take_length]
        exact hk
  · exact hk.elim
def cInts31 := addC 26 kInts31 cCRun
theorem okInts31 : Sound env cInts31 := sound_add sInts31 (okCRun)

def enI : Inv' := atX (Bi × CS × Nat × Heap × Ly) (fun x => [(14, .v (.ptr 1 0)), (16, .v (.int .i64 x.2.2.1))]) (fun _ => []) (fun x => x.2.2.2.1) (fun x => VB x.1 ∧ (∀ z ∈ x.1.w, u32b z) ∧ WF x.1 x.2.1 ∧ x.2.1.frames.length ≤ 1 + x.2.2.1 ∧ x.2.1.out.length ≤ x.2.2.1 ∧ x.2.2.1 ≤ 80 ∧ Rep x.1 x.2.1 x.2.2.2.2 1 x.2.2.2.1) (fun x => 80 - x.2.2.1)
def kLEnds (xs : List IV) (h : Heap) (K : IV → Heap → Prop) : Prop := match xs with
  | [.vslice none e1 n1 1 c1, .int .i64 f, .int .i64 a, .int .i64 b, .int .i64 w, .int .i64 fuel] => ∃ l : List Int, (n1 = l.length ∧ c1 = l.map (IV.int .i64)) ∧ (l.length < 4611686018427387904 ∧ ∀ a ∈ l, -9223372036854775808 ≤ a ∧ a ≤ 9223372036854775807) ∧ K (.bool true) h
  | _ => False
set_option maxRecDepth 100000 in
theorem vLEnds (l : List Int) (e1 : Nat) (f a b w fuel : Int) (h : Heap) (Q : IV → Heap → Prop) : dF (stdS cInts31) env 7 noU (ic1 8 enI) noI [.vslice none e1 (l).length 1 ((l).map (IV.int .i64)), .int .i64 f, .int .i64 a, .int .i64 b, .int .i64 w, .int .i64 fuel] h Q = (
  needS (pureL [IV.vslice none (0 : Nat) (List.length l) (1 : Nat) (List.map (IV.int IntKind.i64) l), IV.int IntKind.i64 f, IV.int IntKind.i64 a, IV.int IntKind.i64 b, IV.int IntKind.i64 w, IV.int IntKind.i64 fuel])
 (∃ (l_1 : List Int),
 (List.length l = List.length l_1 ∧ List.map (IV.int IntKind.i64) l = List.map (IV.int IntKind.i64) l_1) ∧
 (List.length l_1 < (4611686018427387904 : Nat) ∧ ∀ (a : Int), a ∈ l_1 → (-9223372036854775808 : Int) ≤ a ∧ a ≤ (9223372036854775807 : Int)) ∧
 ∀ (w_1 : List Int) (m : Int),
 VB (Bi.mk w_1 [(0 : Int), m] [(2 : Int), (1 : Int)] [(5 : Int), (2 : Int)] [(3 : Int), (2 : Int)]) →
 (∀ (x : Int), x ∈ w_1 → u32b x) →
 List.length w_1 ≤ (1000 : Nat) →
 ((0 : Int) < (2 : Int) ∧ (2 : Int) < (4611686018427387904 : Int)) ∧
 needS (decide ((0 : Int) ≤ f % (2 : Int)) && decide (f % (2 : Int) < (2 : Int)))
 (ldIS IntKind.i64 [IV.int IntKind.i64 (2 : Int), IV.int IntKind.i64 (1 : Int)] (Int.toNat (f % (2 : Int)) * (1 : Nat)) fun (n0 : Int) =>
 needS (true && (decide ((0 : Int) ≤ n0) && decide (n0 ≤ (2 : Int))))
 (∃ (w_2 : List Int),
 ∃ (e : List Int),
 ∃ (p : List Int),
 ∃ (s : List Int),
 ∃ (a_4 : List Int),
 ∃ (args : List Int),
 (List.length w_1 = List.length w_2 ∧ List.map (IV.int IntKind.u32) w_1 = List.map (IV.int IntKind.u32) w_2) ∧
 ((2 : Nat) = List.length e ∧ [IV.int IntKind.i64 (0 : Int), IV.int IntKind.i64 m] = List.map (IV.int IntKind.i64) e) ∧
 ((2 : Nat) = List.length p ∧ [IV.int IntKind.i64 (2 : Int), IV.int IntKind.i64 (1 : Int)] = List.map (IV.int IntKind.i64) p) ∧
 ((2 : Nat) = List.length s ∧ [IV.int IntKind.i64 (5 : Int), IV.int IntKind.i64 (2 : Int)] = List.map (IV.int IntKind.i64) s) ∧
 ((2 : Nat) = List.length a_4 ∧ [IV.int IntKind.i64 (3 : Int), IV.int IntKind.i64 (2 : Int)] = List.map (IV.int IntKind.i64) a_4) ∧
 (Int.toNat n0 - (0 : Nat) = List.length args ∧
 List.take ((Int.toNat n0 - (0 : Nat)) * (1 : Nat)) [IV.int IntKind.i64 (word a w), IV.int IntKind.i64 (word b w)] = List.map (IV.int IntKind.i64) args) ∧
 (∀ (x : Int), x ∈ w_2 → u32b x) ∧
 (newErr (Bi.mk w_2 e p s a_4) (f % (2 : Int)) args (fuel % (12 : Int)) ≠ (0 : Int) →
 brS (newErr (Bi.mk w_2 e p s a_4) (f % (2 : Int)) args (fuel % (12 : Int)) != (0 : Int)) (Q (IV.bool false) h) (Q (IV.bool false) h)) ∧
 (newErr (Bi.mk w_2 e p s a_4) (f % (2 : Int)) args (fuel % (12 : Int)) = (0 : Int) →
 ∀ (L : Ly) (h' : Heap),
 Rep (Bi.mk w_2 e p s a_4) (initS (Bi.mk w_2 e p s a_4) (f % (2 : Int)) args (fuel % (12 : Int))) L ((0 : Nat) + (1 : Nat)) h' →
 (∀ (k : Nat), k < (0 : Nat) → Heap.get h' k = IObj.dead ∧ Ly.r L k = Role.other) →
 (0 : Nat) ≤ Heap.next h' →
 (∃ (x : Bi × CS × Nat × Heap × Ly),
 some (TV.v (IV.ptr ((0 : Nat) + (1 : Nat)) (0 : Nat))) = some (TV.v (IV.ptr (1 : Nat) (0 : Nat))) ∧
 some (TV.v (IV.int IntKind.i64 (0 : Int))) = some (TV.v (IV.int IntKind.i64 (↑(Prod.fst (Prod.snd (Prod.snd x))) : Int))) ∧
 h' = Prod.fst (Prod.snd (Prod.snd (Prod.snd x))) ∧
 (VB (Prod.fst x) ∧
 (∀ (z : Int), z ∈ Bi.w (Prod.fst x) → u32b z) ∧
 WF (Prod.fst x) (Prod.fst (Prod.snd x)) ∧
 List.length (CS.frames (Prod.fst (Prod.snd x))) ≤ (1 : Nat) + Prod.fst (Prod.snd (Prod.snd x)) ∧
 List.length (CS.out (Prod.fst (Prod.snd x))) ≤ Prod.fst (Prod.snd (Prod.snd x)) ∧
 Prod.fst (Prod.snd (Prod.snd x)) ≤ (80 : Nat) ∧
 Rep (Prod.fst x) (Prod.fst (Prod.snd x)) (Prod.snd (Prod.snd (Prod.snd (Prod.snd x)))) (1 : Nat) (Prod.fst (Prod.snd (Prod.snd (Prod.snd x))))) ∧
 True) ∧
 ∀ (x : Bi × CS × Nat × Heap × Ly) (b : FF),
 VB (Prod.fst x) ∧
 (∀ (z : Int), z ∈ Bi.w (Prod.fst x) → u32b z) ∧
 WF (Prod.fst x) (Prod.fst (Prod.snd x)) ∧
 List.length (CS.frames (Prod.fst (Prod.snd x))) ≤ (1 : Nat) + Prod.fst (Prod.snd (Prod.snd x)) ∧
 List.length (CS.out (Prod.fst (Prod.snd x))) ≤ Prod.fst (Prod.snd (Prod.snd x)) ∧
 Prod.fst (Prod.snd (Prod.snd x)) ≤ (80 : Nat) ∧
 Rep (Prod.fst x) (Prod.fst (Prod.snd x)) (Prod.snd (Prod.snd (Prod.snd (Prod.snd x)))) (1 : Nat) (Prod.fst (Prod.snd (Prod.snd (Prod.snd x)))) →
 brS (decide ((↑(Prod.fst (Prod.snd (Prod.snd x))) : Int) < (80 : Int)))
 (∃ (B : Bi),
 ∃ (s : CS),
 ∃ (L : Ly),
 Rep B s L (1 : Nat) (Prod.fst (Prod.snd (Prod.snd (Prod.snd x)))) ∧
 (VB B ∧ (∀ (x : Int), x ∈ Bi.w B → u32b x) ∧ WF B s ∧ List.length (CS.out s) ≤ (1000000 : Nat) ∧ List.length (CS.frames s) ≤ (1000000 : Nat)) ∧
 ∀ (L' : Ly) (h' : Heap),
 Rep B (stepS B s) L' (1 : Nat) h' →
 Frm L L' (Prod.fst (Prod.snd (Prod.snd (Prod.snd x)))) h' →
 brS (!CS.over s)
 (∃ (x_1 : Bi × CS × Nat × Heap × Ly),
 some (TV.v (IV.ptr (1 : Nat) (0 : Nat))) = some (TV.v (IV.ptr (1 : Nat) (0 : Nat))) ∧
 some (TV.v (IV.int IntKind.i64 (IntKind.wrap IntKind.i64 ((↑(Prod.fst (Prod.snd (Prod.snd x))) : Int) + (1 : Int))))) =
 some (TV.v (IV.int IntKind.i64 (↑(Prod.fst (Prod.snd (Prod.snd x_1))) : Int))) ∧
 h' = Prod.fst (Prod.snd (Prod.snd (Prod.snd x_1))) ∧
 (VB (Prod.fst x_1) ∧
 (∀ (z : Int), z ∈ Bi.w (Prod.fst x_1) → u32b z) ∧
 WF (Prod.fst x_1) (Prod.fst (Prod.snd x_1)) ∧
 List.length (CS.frames (Prod.fst (Prod.snd x_1))) ≤ (1 : Nat) + Prod.fst (Prod.snd (Prod.snd x_1)) ∧
 List.length (CS.out (Prod.fst (Prod.snd x_1))) ≤ Prod.fst (Prod.snd (Prod.snd x_1)) ∧
 Prod.fst (Prod.snd (Prod.snd x_1)) ≤ (80 : Nat) ∧
 Rep (Prod.fst x_1) (Prod.fst (Prod.snd x_1)) (Prod.snd (Prod.snd (Prod.snd (Prod.snd x_1)))) (1 : Nat)
 (Prod.fst (Prod.snd (Prod.snd (Prod.snd x_1))))) ∧
 (80 : Nat) - Prod.fst (Prod.snd (Prod.snd x_1)) < (80 : Nat) - Prod.fst (Prod.snd (Prod.snd x)))
 (∃ (B : Bi),
 ∃ (s : CS),
 ∃ (L : Ly),
 Rep B s L (1 : Nat) h' ∧
 List.length (CS.out s) ≤ (1000000 : Nat) ∧
 (CS.over s = false → Q (IV.bool true) h) ∧
 (CS.over s = true →
 ∀ (i : Option Nat) (e : Nat) (h'_1 : Heap),
 (∀ (k : Nat), k < Heap.next h' → Heap.get h'_1 k = Heap.get h' k) →
 Heap.next h' ≤ Heap.next h'_1 →
 ∃ (B : Bi),
 ∃ (s_1 : CS),
 ∃ (L : Ly),
 Rep B s_1 L (1 : Nat) h'_1 ∧
 ∃ (B : Bi),
 ∃ (s_2 : CS),
 ∃ (L : Ly),
 Rep B s_2 L (1 : Nat) h'_1 ∧
 ∃ (B : Bi),
 ∃ (s_3 : CS),
 ∃ (L : Ly),
 Rep B s_3 L (1 : Nat) h'_1 ∧
 (VB B ∧
 (∀ (x : Int), x ∈ Bi.w B → u32b x) ∧
 WF B s_3 ∧
 List.length (CS.out s_3) ≤ (1000000 : Nat) ∧ List.length (CS.frames s_3) ≤ (1000000 : Nat)) ∧
 ∀ (L' : Ly) (h' : Heap),
 Rep B (stepS B s_3) L' (1 : Nat) h' →
 Frm L L' h'_1 h' →
 brS (!CS.over s_3) (Q (IV.bool false) h)
 (∃ (B : Bi),
 ∃ (s_4 : CS),
 ∃ (L : Ly),
 Rep B s_4 L (1 : Nat) h' ∧
 (VB B ∧
 (∀ (x : Int), x ∈ Bi.w B → u32b x) ∧
 WF B s_4 ∧
 List.length (CS.out s_4) ≤ (1000000 : Nat) ∧
 List.length (CS.frames s_4) ≤ (1000000 : Nat)) ∧
 ∀ (L' : Ly) (h'_2 : Heap),
 Rep B (stepS B s_4) L' (1 : Nat) h'_2 →
 Frm L L' h' h'_2 →
 brS (!CS.over s_4) (Q (IV.bool false) h)
 (∃ (B : Bi),
 ∃ (s_5 : CS),
 ∃ (L : Ly),
 Rep B s_5 L (1 : Nat) h'_2 ∧
 List.length (CS.out s_5) ≤ (1000000 : Nat) ∧
 (CS.over s_5 = false → Q (IV.bool false) h) ∧
 (CS.over s_5 = true →
 ∀ (i : Option Nat) (e : Nat) (h' : Heap),
 (∀ (k : Nat),
 k < Heap.next h'_2 → Heap.get h' k = Heap.get h'_2 k) →
 Heap.next h'_2 ≤ Heap.next h' →
 ∃ (o : List Int),
 ∃ (o' : List Int),
 (List.length (CS.out s) = List.length o ∧
 ints (CS.out s) = ints o) ∧
 (List.length (CS.out s_5) = List.length o' ∧
 ints (CS.out s_5) = ints o') ∧
 List.length o ≤ (4611686018427387904 : Nat) ∧
 brS
 (sameO (CS.kind s) (CS.code s) o (CS.val s)
 (CS.kind s_5) (CS.code s_5) o' (CS.val s_5))
 (∃ (B : Bi),
 ∃ (s : CS),
 ∃ (L : Ly),
 Rep B s L (1 : Nat) h' ∧
 brS (CS.pc s == CS.pc s_1)
 (∃ (B : Bi),
 ∃ (s : CS),
 ∃ (L : Ly),
 Rep B s L (1 : Nat) h' ∧
 brS (CS.fuel s == CS.fuel s_2)
 (Q (IV.bool true) h)
 (Q (IV.bool false) h))
 (Q (IV.bool false) h))
 (Q (IV.bool false) h)))))))
 (∃ (B : Bi),
 ∃ (s : CS),
 ∃ (L : Ly),
 Rep B s L (1 : Nat) (Prod.fst (Prod.snd (Prod.snd (Prod.snd x)))) ∧
 List.length (CS.out s) ≤ (1000000 : Nat) ∧
 (CS.over s = false → Q (IV.bool true) h) ∧
 (CS.over s = true →
 ∀ (i : Option Nat) (e : Nat) (h' : Heap),
 (∀ (k : Nat), k < Heap.next (Prod.fst (Prod.snd (Prod.snd (Prod.snd x)))) → Heap.get h' k = Heap.get (Prod.fst (Prod.snd (Prod.snd (Prod.snd x)))) k) →
 Heap.next (Prod.fst (Prod.snd (Prod.snd (Prod.snd x)))) ≤ Heap.next h' →
 ∃ (B : Bi),
 ∃ (s_1 : CS),
 ∃ (L : Ly),
 Rep B s_1 L (1 : Nat) h' ∧
 ∃ (B : Bi),
 ∃ (s_2 : CS),
 ∃ (L : Ly),
 Rep B s_2 L (1 : Nat) h' ∧
 ∃ (B : Bi),
 ∃ (s_3 : CS),
 ∃ (L : Ly),
 Rep B s_3 L (1 : Nat) h' ∧
 (VB B ∧
 (∀ (x : Int), x ∈ Bi.w B → u32b x) ∧
 WF B s_3 ∧ List.length (CS.out s_3) ≤ (1000000 : Nat) ∧ List.length (CS.frames s_3) ≤ (1000000 : Nat)) ∧
 ∀ (L' : Ly) (h'_1 : Heap),
 Rep B (stepS B s_3) L' (1 : Nat) h'_1 →
 Frm L L' h' h'_1 →
 brS (!CS.over s_3) (Q (IV.bool false) h)
 (∃ (B : Bi),
 ∃ (s_4 : CS),
 ∃ (L : Ly),
 Rep B s_4 L (1 : Nat) h'_1 ∧
 (VB B ∧
 (∀ (x : Int), x ∈ Bi.w B → u32b x) ∧
 WF B s_4 ∧
 List.length (CS.out s_4) ≤ (1000000 : Nat) ∧ List.length (CS.frames s_4) ≤ (1000000 : Nat)) ∧
 ∀ (L' : Ly) (h' : Heap),
 Rep B (stepS B s_4) L' (1 : Nat) h' →
 Frm L L' h'_1 h' →
 brS (!CS.over s_4) (Q (IV.bool false) h)
 (∃ (B : Bi),
 ∃ (s_5 : CS),
 ∃ (L : Ly),
 Rep B s_5 L (1 : Nat) h' ∧
 List.length (CS.out s_5) ≤ (1000000 : Nat) ∧
 (CS.over s_5 = false → Q (IV.bool false) h) ∧
 (CS.over s_5 = true →
 ∀ (i : Option Nat) (e : Nat) (h'_2 : Heap),
 (∀ (k : Nat), k < Heap.next h' → Heap.get h'_2 k = Heap.get h' k) →
 Heap.next h' ≤ Heap.next h'_2 →
 ∃ (o : List Int),
 ∃ (o' : List Int),
 (List.length (CS.out s) = List.length o ∧ ints (CS.out s) = ints o) ∧
 (List.length (CS.out s_5) = List.length o' ∧
 ints (CS.out s_5) = ints o') ∧
 List.length o ≤ (4611686018427387904 : Nat) ∧
 brS
 (sameO (CS.kind s) (CS.code s) o (CS.val s) (CS.kind s_5)
 (CS.code s_5) o' (CS.val s_5))
 (∃ (B : Bi),
 ∃ (s : CS),
 ∃ (L : Ly),
 Rep B s L (1 : Nat) h'_2 ∧
 brS (CS.pc s == CS.pc s_1)
 (∃ (B : Bi),
 ∃ (s : CS),
 ∃ (L : Ly),
 Rep B s L (1 : Nat) h'_2 ∧
 brS (CS.fuel s == CS.fuel s_2)
 (Q (IV.bool true) h) (Q (IV.bool false) h))
 (Q (IV.bool false) h))
 (Q (IV.bool false) h))))))))))) := by kernel_rfl
set_option maxHeartbeats 8000000 in
set_option maxRecDepth 100000 in
theorem sLEnds : ∀ xs h Q, kLEnds xs h Q → CallW env 7 xs h Q := by
  intro xs h Q hk
  unfold kLEnds at hk
  split at hk
  · rename_i e1 n1 c1 f a b w fuel 
    obtain ⟨l, ⟨rfl, rfl⟩, hl, hk⟩ := hk
    refine dF_run (okInts31) (vLEnds l e1 f a b w fuel h Q) ?_
    obtain ⟨hl1, hl2⟩ := hl
    refine needS_intro (by simp only [pureL, pureB, pureL_ints, Bool.and_true]) ⟨l, ⟨rfl, rfl⟩, ⟨hl1, hl2⟩, fun w1 m hv hw _ => ⟨by omega, arg2 (x := word a w) (y := word b w) (f01 f) fun n0 hn ht => ?_⟩⟩
    have mk : ∀ (f' x y fuel : Int), (f' = 0 ∨ f' = 1) → (0 ≤ fuel ∧ fuel ≤ 1000) → newErr ⟨w1, [0, m], [2, 1], [5, 2], [3, 2]⟩ f' (aL f' x y) fuel = 0 := fun f' x y fuel h1 h2 => err2 hv h1 h2
    refine ⟨w1, [0, m], [2, 1], [5, 2], [3, 2], aL (f % 2) (word a w) (word b w), ⟨rfl, rfl⟩, ⟨rfl, rfl⟩, ⟨rfl, rfl⟩, ⟨rfl, rfl⟩, ⟨rfl, rfl⟩, ⟨hn, ht⟩, hw, fun he => absurd (mk _ _ _ _ (f01 f) (by omega)) he, fun he L0 h0 hr0 _ _ => ?_⟩
    have ok := err_ok he
    have wf0 := wf_init hv ok.2.1 ok.2.2.2.2 (fuel % 12)
    refine ⟨⟨(⟨w1, [0, m], [2, 1], [5, 2], [3, 2]⟩, initS ⟨w1, [0, m], [2, 1], [5, 2], [3, 2]⟩ (f % 2) (aL (f % 2) (word a w) (word b w)) (fuel % 12), 0, h0, L0), (by first | rfl | trivial), (by first | rfl | trivial), (by first | rfl | trivial), ⟨hv, hw, wf0, Nat.le_refl _, Nat.le_refl _, Nat.zero_le _, hr0⟩, trivial⟩, fun x _ hx => ?_⟩
    clear hv hw
    obtain ⟨B, s, k, hp, L⟩ := x
    obtain ⟨hv, hw, wf, hfl, hol, hk80, hr⟩ := hx
    simp only at hv hw wf hfl hol hk80 hr
    have ls := lens_step B s
    have wf1 := wf_step hv hw wf
    refine brS_intro (fun y => ?_) (fun y => ?_)
    · rw [decide_eq_true_eq] at y
      have y : (k : Int) < 80 := y
      refine ⟨B, s, L, hr, ⟨hv, hw, wf, by omega, by omega⟩, fun L' h' hr' _ => brS_intro (fun z => ?_) (fun z => ?_)⟩
      · exact ⟨(B, stepS B s, k + 1, h', L'), (by first | rfl | trivial), (by simp only; rw [IntWalk.i64_in _ (by omega)]; rfl), (by first | rfl | trivial), ⟨hv, hw, wf1, (by simp only; omega), (by simp only; omega), (by simp only; omega), hr'⟩, (by simp only; omega)⟩
      · exact ⟨B, stepS B s, L', hr', by omega, fun _ => hk, fun ho i e h1 hs hn => by
            have r1 := Rep.same hr' hs hn
            have so : stepS B (stepS B s) = stepS B s := step_over ho
            exact ⟨B, _, _, r1, B, _, _, r1, B, _, _, r1, ⟨hv, hw, wf1, by omega, by omega⟩, fun L2 h2 r2 _ => by
              rw [so] at r2
              exact brS_intro (fun z => absurd z (by simp [ho])) (fun _ => ⟨B, _, _, r2, ⟨hv, hw, wf1, by omega, by omega⟩, fun L3 h3 r3 _ => by
                rw [so] at r3
                exact brS_intro (fun z => absurd z (by simp [ho])) (fun _ => ⟨B, _, _, r3, by omega, fun z => absurd z (by simp [ho]), fun _ i' e' h4 hs4 hn4 => by
                  have r4 := Rep.same r3 hs4 hn4
                  exact ⟨_, _, ⟨rfl, rfl⟩, ⟨rfl, rfl⟩, by omega, brS_intro (fun _ => ⟨B, _, _, r4, brS_intro (fun _ => ⟨B, _, _, r4, brS_intro (fun _ => hk) (fun z => absurd z (by simp))⟩) (fun z => absurd z (by simp))⟩) (fun z => absurd z (by rw [sameO_refl]; simp))⟩⟩)⟩)⟩⟩
    · exact ⟨B, s, L, hr, by omega, fun _ => hk, fun ho i e h1 hs hn => by
          have r1 := Rep.same hr hs hn
          have so : stepS B (s) = s := step_over ho
          exact ⟨B, _, _, r1, B, _, _, r1, B, _, _, r1, ⟨hv, hw, wf, by omega, by omega⟩, fun L2 h2 r2 _ => by
            rw [so] at r2
            exact brS_intro (fun z => absurd z (by simp [ho])) (fun _ => ⟨B, _, _, r2, ⟨hv, hw, wf, by omega, by omega⟩, fun L3 h3 r3 _ => by
              rw [so] at r3
              exact brS_intro (fun z => absurd z (by simp [ho])) (fun _ => ⟨B, _, _, r3, by omega, fun z => absurd z (by simp [ho]), fun _ i' e' h4 hs4 hn4 => by
                have r4 := Rep.same r3 hs4 hn4
                exact ⟨_, _, ⟨rfl, rfl⟩, ⟨rfl, rfl⟩, by omega, brS_intro (fun _ => ⟨B, _, _, r4, brS_intro (fun _ => ⟨B, _, _, r4, brS_intro (fun _ => hk) (fun z => absurd z (by simp))⟩) (fun z => absurd z (by simp))⟩) (fun z => absurd z (by rw [sameO_refl]; simp))⟩⟩)⟩)⟩⟩
  · exact hk.elim
def cLEnds := addC 7 kLEnds cInts31
theorem okLEnds : Sound env cLEnds := sound_add sLEnds (okInts31)

def kLFuel (xs : List IV) (h : Heap) (K : IV → Heap → Prop) : Prop := match xs with
  | [.vslice none e1 n1 1 c1, .int .i64 f, .int .i64 a, .int .i64 b, .int .i64 w, .int .i64 fuel, .int .i64 more] => ∃ l : List Int, (n1 = l.length ∧ c1 = l.map (IV.int .i64)) ∧ (l.length < 4611686018427387904 ∧ ∀ a ∈ l, -9223372036854775808 ≤ a ∧ a ≤ 9223372036854775807) ∧ K (.bool true) h
  | _ => False
set_option maxRecDepth 100000 in
theorem vLFuel (l : List Int) (e1 : Nat) (f a b w fuel more : Int) (h : Heap) (Q : IV → Heap → Prop) : dF (stdS cLEnds) env 6 noU noI noI [.vslice none e1 (l).length 1 ((l).map (IV.int .i64)), .int .i64 f, .int .i64 a, .int .i64 b, .int .i64 w, .int .i64 fuel, .int .i64 more] h Q = (
  needS (pureL [IV.vslice none (0 : Nat) (List.length l) (1 : Nat) (List.map (IV.int IntKind.i64) l), IV.int IntKind.i64 f, IV.int IntKind.i64 a, IV.int IntKind.i64 b, IV.int IntKind.i64 w, IV.int IntKind.i64 fuel, IV.int IntKind.i64 more])
 (∃ (l_1 : List Int),
 (List.length l = List.length l_1 ∧ List.map (IV.int IntKind.i64) l = List.map (IV.int IntKind.i64) l_1) ∧
 (List.length l_1 < (4611686018427387904 : Nat) ∧ ∀ (a : Int), a ∈ l_1 → (-9223372036854775808 : Int) ≤ a ∧ a ≤ (9223372036854775807 : Int)) ∧
 ∀ (w_1 : List Int) (m : Int),
 VB (Bi.mk w_1 [(0 : Int), m] [(2 : Int), (1 : Int)] [(5 : Int), (2 : Int)] [(3 : Int), (2 : Int)]) →
 (∀ (x : Int), x ∈ w_1 → u32b x) →
 List.length w_1 ≤ (1000 : Nat) →
 ((0 : Int) < (2 : Int) ∧ (2 : Int) < (4611686018427387904 : Int)) ∧
 needS (decide ((0 : Int) ≤ f % (2 : Int)) && decide (f % (2 : Int) < (2 : Int)))
 (ldIS IntKind.i64 [IV.int IntKind.i64 (2 : Int), IV.int IntKind.i64 (1 : Int)] (Int.toNat (f % (2 : Int)) * (1 : Nat)) fun (n0 : Int) =>
 needS (true && (decide ((0 : Int) ≤ n0) && decide (n0 ≤ (2 : Int))))
 (∃ (w_2 : List Int),
 ∃ (e : List Int),
 ∃ (p : List Int),
 ∃ (s : List Int),
 ∃ (a_4 : List Int),
 ∃ (args : List Int),
 (List.length w_1 = List.length w_2 ∧ List.map (IV.int IntKind.u32) w_1 = List.map (IV.int IntKind.u32) w_2) ∧
 ((2 : Nat) = List.length e ∧ [IV.int IntKind.i64 (0 : Int), IV.int IntKind.i64 m] = List.map (IV.int IntKind.i64) e) ∧
 ((2 : Nat) = List.length p ∧ [IV.int IntKind.i64 (2 : Int), IV.int IntKind.i64 (1 : Int)] = List.map (IV.int IntKind.i64) p) ∧
 ((2 : Nat) = List.length s ∧ [IV.int IntKind.i64 (5 : Int), IV.int IntKind.i64 (2 : Int)] = List.map (IV.int IntKind.i64) s) ∧
 ((2 : Nat) = List.length a_4 ∧ [IV.int IntKind.i64 (3 : Int), IV.int IntKind.i64 (2 : Int)] = List.map (IV.int IntKind.i64) a_4) ∧
 (Int.toNat n0 - (0 : Nat) = List.length args ∧
 List.take ((Int.toNat n0 - (0 : Nat)) * (1 : Nat)) [IV.int IntKind.i64 (word a w), IV.int IntKind.i64 (word b w)] = List.map (IV.int IntKind.i64) args) ∧
 (∀ (x : Int), x ∈ w_2 → u32b x) ∧
 (200 : Int) ≤ (1000 : Int) ∧
 ∃ (w_3 : List Int),
 ∃ (e_1 : List Int),
 ∃ (p_1 : List Int),
 ∃ (s_1 : List Int),
 ∃ (a_5 : List Int),
 ∃ (args_1 : List Int),
 (List.length w_1 = List.length w_3 ∧ List.map (IV.int IntKind.u32) w_1 = List.map (IV.int IntKind.u32) w_3) ∧
 ((2 : Nat) = List.length e_1 ∧ [IV.int IntKind.i64 (0 : Int), IV.int IntKind.i64 m] = List.map (IV.int IntKind.i64) e_1) ∧
 ((2 : Nat) = List.length p_1 ∧ [IV.int IntKind.i64 (2 : Int), IV.int IntKind.i64 (1 : Int)] = List.map (IV.int IntKind.i64) p_1) ∧
 ((2 : Nat) = List.length s_1 ∧ [IV.int IntKind.i64 (5 : Int), IV.int IntKind.i64 (2 : Int)] = List.map (IV.int IntKind.i64) s_1) ∧
 ((2 : Nat) = List.length a_5 ∧ [IV.int IntKind.i64 (3 : Int), IV.int IntKind.i64 (2 : Int)] = List.map (IV.int IntKind.i64) a_5) ∧
 (Int.toNat n0 - (0 : Nat) = List.length args_1 ∧
 List.take ((Int.toNat n0 - (0 : Nat)) * (1 : Nat)) [IV.int IntKind.i64 (word a w), IV.int IntKind.i64 (word b w)] = List.map (IV.int IntKind.i64) args_1) ∧
 (∀ (x : Int), x ∈ w_3 → u32b x) ∧
 (200 : Int) ≤ (1000 : Int) ∧
 brS (!Prod.snd (Prod.snd (Prod.snd (Prod.snd (runR (Bi.mk w_2 e p s a_4) (f % (2 : Int)) args (fuel % (12 : Int)) (200 : Int)))))) (Q (IV.bool true) h)
 (brS
 (!Prod.snd
 (Prod.snd
 (Prod.snd
 (Prod.snd
 (runR (Bi.mk w_3 e_1 p_1 s_1 a_5) (f % (2 : Int)) args_1 (IntKind.wrap IntKind.i64 (fuel % (12 : Int) + more % (12 : Int))) (200 : Int))))))
 (Q (IV.bool true) h)
 (brS (Prod.fst (runR (Bi.mk w_2 e p s a_4) (f % (2 : Int)) args (fuel % (12 : Int)) (200 : Int)) != (3 : Int))
 (∃ (o : List Int),
 ∃ (o' : List Int),
 (List.length (Prod.fst (Prod.snd (Prod.snd (runR (Bi.mk w_2 e p s a_4) (f % (2 : Int)) args (fuel % (12 : Int)) (200 : Int))))) = List.length o ∧
 ints (Prod.fst (Prod.snd (Prod.snd (runR (Bi.mk w_2 e p s a_4) (f % (2 : Int)) args (fuel % (12 : Int)) (200 : Int))))) = ints o) ∧
 (List.length
 (Prod.fst
 (Prod.snd
 (Prod.snd
 (runR (Bi.mk w_3 e_1 p_1 s_1 a_5) (f % (2 : Int)) args_1 (IntKind.wrap IntKind.i64 (fuel % (12 : Int) + more % (12 : Int)))
 (200 : Int))))) =
 List.length o' ∧
 ints
 (Prod.fst
 (Prod.snd
 (Prod.snd
 (runR (Bi.mk w_3 e_1 p_1 s_1 a_5) (f % (2 : Int)) args_1 (IntKind.wrap IntKind.i64 (fuel % (12 : Int) + more % (12 : Int)))
 (200 : Int))))) =
 ints o') ∧
 List.length o ≤ (4611686018427387904 : Nat) ∧
 brS
 (sameO (Prod.fst (runR (Bi.mk w_2 e p s a_4) (f % (2 : Int)) args (fuel % (12 : Int)) (200 : Int)))
 (Prod.fst (Prod.snd (runR (Bi.mk w_2 e p s a_4) (f % (2 : Int)) args (fuel % (12 : Int)) (200 : Int)))) o
 (Prod.fst (Prod.snd (Prod.snd (Prod.snd (runR (Bi.mk w_2 e p s a_4) (f % (2 : Int)) args (fuel % (12 : Int)) (200 : Int))))))
 (Prod.fst
 (runR (Bi.mk w_3 e_1 p_1 s_1 a_5) (f % (2 : Int)) args_1 (IntKind.wrap IntKind.i64 (fuel % (12 : Int) + more % (12 : Int))) (200 : Int)))
 (Prod.fst
 (Prod.snd
 (runR (Bi.mk w_3 e_1 p_1 s_1 a_5) (f % (2 : Int)) args_1 (IntKind.wrap IntKind.i64 (fuel % (12 : Int) + more % (12 : Int)))
 (200 : Int))))
 o'
 (Prod.fst
 (Prod.snd
 (Prod.snd
 (Prod.snd
 (runR (Bi.mk w_3 e_1 p_1 s_1 a_5) (f % (2 : Int)) args_1 (IntKind.wrap IntKind.i64 (fuel % (12 : Int) + more % (12 : Int)))
 (200 : Int)))))))
 (Q (IV.bool true) h) (Q (IV.bool false) h))
 (brS
 (decide
 ((↑(List.length
 (Prod.fst
 (Prod.snd
 (Prod.snd
 (runR (Bi.mk w_3 e_1 p_1 s_1 a_5) (f % (2 : Int)) args_1 (IntKind.wrap IntKind.i64 (fuel % (12 : Int) + more % (12 : Int)))
 (200 : Int)))))) :
 Int) <
 (↑(List.length (Prod.fst (Prod.snd (Prod.snd (runR (Bi.mk w_2 e p s a_4) (f % (2 : Int)) args (fuel % (12 : Int)) (200 : Int)))))) : Int)))
 (Q (IV.bool false) h)
 (∃ (l : List Int),
 (List.length (Prod.fst (Prod.snd (Prod.snd (runR (Bi.mk w_2 e p s a_4) (f % (2 : Int)) args (fuel % (12 : Int)) (200 : Int))))) = List.length l ∧
 ints (Prod.fst (Prod.snd (Prod.snd (runR (Bi.mk w_2 e p s a_4) (f % (2 : Int)) args (fuel % (12 : Int)) (200 : Int))))) =
 List.map (IV.int IntKind.i64) l) ∧
 List.length l < (1000000000 : Nat) ∧
 needS
 (true &&
 (decide
 ((0 : Int) ≤
 (↑(List.length (Prod.fst (Prod.snd (Prod.snd (runR (Bi.mk w_2 e p s a_4) (f % (2 : Int)) args (fuel % (12 : Int)) (200 : Int)))))) :
 Int)) &&
 decide
 ((↑(List.length (Prod.fst (Prod.snd (Prod.snd (runR (Bi.mk w_2 e p s a_4) (f % (2 : Int)) args (fuel % (12 : Int)) (200 : Int)))))) :
 Int) ≤
 (↑(List.length
 (Prod.fst
 (Prod.snd
 (Prod.snd
 (runR (Bi.mk w_3 e_1 p_1 s_1 a_5) (f % (2 : Int)) args_1 (IntKind.wrap IntKind.i64 (fuel % (12 : Int) + more % (12 : Int)))
 (200 : Int)))))) :
 Int))))
 (∃ (l_2 : List Int),
 (Int.toNat
 (↑(List.length (Prod.fst (Prod.snd (Prod.snd (runR (Bi.mk w_2 e p s a_4) (f % (2 : Int)) args (fuel % (12 : Int)) (200 : Int)))))) :
 Int) -
 (0 : Nat) =
 List.length l_2 ∧
 List.take
 ((Int.toNat
 (↑(List.length
 (Prod.fst (Prod.snd (Prod.snd (runR (Bi.mk w_2 e p s a_4) (f % (2 : Int)) args (fuel % (12 : Int)) (200 : Int)))))) :
 Int) -
 (0 : Nat)) *
 (1 : Nat))
 (List.drop (0 : Nat)
 (ints
 (Prod.fst
 (Prod.snd
 (Prod.snd
 (runR (Bi.mk w_3 e_1 p_1 s_1 a_5) (f % (2 : Int)) args_1 (IntKind.wrap IntKind.i64 (fuel % (12 : Int) + more % (12 : Int)))
 (200 : Int))))))) =
 List.map (IV.int IntKind.i64) l_2) ∧
 List.length l_2 < (1000000000 : Nat) ∧
 ∃ (l_3 : List Int),
 ∃ (m : List Int),
 (List.length l = List.length l_3 ∧ List.map (IV.int IntKind.i64) l = List.map (IV.int IntKind.i64) l_3) ∧
 (List.length l_2 = List.length m ∧ List.map (IV.int IntKind.i64) l_2 = List.map (IV.int IntKind.i64) m) ∧
 List.length l_3 < (4611686018427387904 : Nat) ∧ brS (l_3 == m) (Q (IV.bool true) h) (Q (IV.bool false) h)))))))))) := by kernel_rfl
set_option maxHeartbeats 8000000 in
set_option maxRecDepth 100000 in
theorem sLFuel : ∀ xs h Q, kLFuel xs h Q → CallW env 6 xs h Q := by
  intro xs h Q hk
  unfold kLFuel at hk
  split at hk
  · rename_i e1 n1 c1 f a b w fuel more
    obtain ⟨l, ⟨rfl, rfl⟩, hl, hk⟩ := hk
    refine dF_run (okLEnds) (vLFuel l e1 f a b w fuel more h Q) ?_
    obtain ⟨hl1, hl2⟩ := hl
    refine needS_intro (by simp only [pureL, pureB, pureL_ints, Bool.and_true]) ⟨l, ⟨rfl, rfl⟩, ⟨hl1, hl2⟩, fun w1 m hv hw _ => ⟨by omega, arg2 (x := word a w) (y := word b w) (f01 f) fun n0 hn ht => ?_⟩⟩
    have mk : ∀ (f' x y fuel : Int), (f' = 0 ∨ f' = 1) → (0 ≤ fuel ∧ fuel ≤ 1000) → newErr ⟨w1, [0, m], [2, 1], [5, 2], [3, 2]⟩ f' (aL f' x y) fuel = 0 := fun f' x y fuel h1 h2 => err2 hv h1 h2
    have e2 : IntKind.i64.wrap (fuel % 12 + more % 12) = fuel % 12 + more % 12 := IntWalk.i64_in _ (by omega)
    rw [e2]
    refine ⟨w1, [0, m], [2, 1], [5, 2], [3, 2], aL (f % 2) (word a w) (word b w), ⟨rfl, rfl⟩, ⟨rfl, rfl⟩, ⟨rfl, rfl⟩, ⟨rfl, rfl⟩, ⟨rfl, rfl⟩, ⟨hn, ht⟩, hw, by omega, w1, [0, m], [2, 1], [5, 2], [3, 2], aL (f % 2) (word a w) (word b w), ⟨rfl, rfl⟩, ⟨rfl, rfl⟩, ⟨rfl, rfl⟩, ⟨rfl, rfl⟩, ⟨rfl, rfl⟩, ⟨hn, ht⟩, hw, by omega, brS_intro (fun _ => hk) (fun o1 => brS_intro (fun _ => hk) (fun o2 => ?_))⟩
    rw [Bool.not_eq_false'] at o1 o2
    have q1 := runR_len (B := ⟨w1, [0, m], [2, 1], [5, 2], [3, 2]⟩) (f := f % 2) (fuel := fuel % 12) (most := 200) (args := aL (f % 2) (word a w) (word b w)) (by omega)
    have q2 := runR_len (B := ⟨w1, [0, m], [2, 1], [5, 2], [3, 2]⟩) (f := f % 2) (fuel := fuel % 12 + more % 12) (most := 200) (args := aL (f % 2) (word a w) (word b w)) (by omega)
    have mf := more_fuel (mk _ _ _ _ (f01 f) (by omega)) (mk _ _ _ _ (f01 f) (by omega)) (by omega) (by omega) (by omega) o1 o2
    clear o1 o2
    generalize runR ⟨w1, [0, m], [2, 1], [5, 2], [3, 2]⟩ (f % 2) (aL (f % 2) (word a w) (word b w)) (fuel % 12) 200 = R1 at *
    generalize runR ⟨w1, [0, m], [2, 1], [5, 2], [3, 2]⟩ (f % 2) (aL (f % 2) (word a w) (word b w)) (fuel % 12 + more % 12) 200 = R2 at *
    have pre : R1.2.2.1 <+: R2.2.2.1 := by
      rcases mf with e | ⟨_, e⟩
      · rw [e]; exact List.prefix_refl _
      · exact e
    have pl := pre.length_le
    refine brS_intro (fun c => ?_) (fun c => brS_intro (fun c2 => ?_) (fun c2 => ?_))
    · refine ⟨_, _, ⟨rfl, rfl⟩, ⟨rfl, rfl⟩, by omega, brS_intro (fun _ => hk) (fun z => ?_)⟩
      rcases mf with e | ⟨e, _⟩
      · rw [e, sameO_refl] at z; simp at z
      · rw [e] at c; simp at c
    · rw [decide_eq_true_eq] at c2
      omega
    · refine ⟨R1.2.2.1, ⟨rfl, rfl⟩, by omega, needS_intro (by simp; omega) ⟨R1.2.2.1, ⟨by omega, ?_⟩, by omega, R1.2.2.1, R1.2.2.1, ⟨rfl, rfl⟩, ⟨rfl, rfl⟩, by omega, brS_intro (fun _ => hk) (fun z => absurd z (by simp))⟩⟩
      rw [Int.toNat_natCast, Nat.sub_zero, Nat.mul_one, List.drop_zero]
      unfold ints
      rw [← List.map_take, ← List.prefix_iff_eq_take.1 pre]
  · exact hk.elim
def cLFuel := addC 6 kLFuel cLEnds
theorem okLFuel : Sound env cLFuel := sound_add sLFuel (okLEnds)

def inI : Inv' := atX (Bi × CS × List Int × Nat × Heap × Ly) (fun x => [(14, .v (.vslice none 0 x.2.2.1.length 1 (x.2.2.1.map (IV.int .i64)))), (19, .v (.ptr 1 0)), (21, .v (.int .i64 x.2.2.2.1))]) (fun _ => []) (fun x => x.2.2.2.2.1) (fun x => (∀ k : Nat, k < 8 → rg x.2.1 k = if h : k < x.2.2.1.length then x.2.2.1[k] else 0) ∧ x.2.1.frames.length = 1 ∧ x.2.2.2.1 ≤ 8 ∧ x.2.2.1.length ≤ 8 ∧ Rep x.1 x.2.1 x.2.2.2.2.2 1 x.2.2.2.2.1) (fun x => 8 - x.2.2.2.1)
def kLInputs (xs : List IV) (h : Heap) (K : IV → Heap → Prop) : Prop := match xs with
  | [.vslice none e1 n1 1 c1, .int .i64 f, .int .i64 a, .int .i64 b, .int .i64 w, .int .i64 fuel] => ∃ l : List Int, (n1 = l.length ∧ c1 = l.map (IV.int .i64)) ∧ (l.length < 4611686018427387904 ∧ ∀ a ∈ l, -9223372036854775808 ≤ a ∧ a ≤ 9223372036854775807) ∧ K (.bool true) h
  | _ => False
set_option maxRecDepth 100000 in
theorem vLInputs (l : List Int) (e1 : Nat) (f a b w fuel : Int) (h : Heap) (Q : IV → Heap → Prop) : dF (stdS cLFuel) env 8 noU (ic1 12 inI) noI [.vslice none e1 (l).length 1 ((l).map (IV.int .i64)), .int .i64 f, .int .i64 a, .int .i64 b, .int .i64 w, .int .i64 fuel] h Q = (
  needS (pureL [IV.vslice none (0 : Nat) (List.length l) (1 : Nat) (List.map (IV.int IntKind.i64) l), IV.int IntKind.i64 f, IV.int IntKind.i64 a, IV.int IntKind.i64 b, IV.int IntKind.i64 w, IV.int IntKind.i64 fuel])
 (∃ (l_1 : List Int),
 (List.length l = List.length l_1 ∧ List.map (IV.int IntKind.i64) l = List.map (IV.int IntKind.i64) l_1) ∧
 (List.length l_1 < (4611686018427387904 : Nat) ∧ ∀ (a : Int), a ∈ l_1 → (-9223372036854775808 : Int) ≤ a ∧ a ≤ (9223372036854775807 : Int)) ∧
 ∀ (w_1 : List Int) (m : Int),
 VB (Bi.mk w_1 [(0 : Int), m] [(2 : Int), (1 : Int)] [(5 : Int), (2 : Int)] [(3 : Int), (2 : Int)]) →
 (∀ (x : Int), x ∈ w_1 → u32b x) →
 List.length w_1 ≤ (1000 : Nat) →
 ((0 : Int) < (2 : Int) ∧ (2 : Int) < (4611686018427387904 : Int)) ∧
 needS (decide ((0 : Int) ≤ f % (2 : Int)) && decide (f % (2 : Int) < (2 : Int)))
 (ldIS IntKind.i64 [IV.int IntKind.i64 (2 : Int), IV.int IntKind.i64 (1 : Int)] (Int.toNat (f % (2 : Int)) * (1 : Nat)) fun (n0 : Int) =>
 needS (true && (decide ((0 : Int) ≤ n0) && decide (n0 ≤ (2 : Int))))
 (∃ (w_2 : List Int),
 ∃ (e : List Int),
 ∃ (p : List Int),
 ∃ (s : List Int),
 ∃ (a_4 : List Int),
 ∃ (args : List Int),
 (List.length w_1 = List.length w_2 ∧ List.map (IV.int IntKind.u32) w_1 = List.map (IV.int IntKind.u32) w_2) ∧
 ((2 : Nat) = List.length e ∧ [IV.int IntKind.i64 (0 : Int), IV.int IntKind.i64 m] = List.map (IV.int IntKind.i64) e) ∧
 ((2 : Nat) = List.length p ∧ [IV.int IntKind.i64 (2 : Int), IV.int IntKind.i64 (1 : Int)] = List.map (IV.int IntKind.i64) p) ∧
 ((2 : Nat) = List.length s ∧ [IV.int IntKind.i64 (5 : Int), IV.int IntKind.i64 (2 : Int)] = List.map (IV.int IntKind.i64) s) ∧
 ((2 : Nat) = List.length a_4 ∧ [IV.int IntKind.i64 (3 : Int), IV.int IntKind.i64 (2 : Int)] = List.map (IV.int IntKind.i64) a_4) ∧
 (Int.toNat n0 - (0 : Nat) = List.length args ∧
 List.take ((Int.toNat n0 - (0 : Nat)) * (1 : Nat)) [IV.int IntKind.i64 (word a w), IV.int IntKind.i64 (word b w)] = List.map (IV.int IntKind.i64) args) ∧
 (∀ (x : Int), x ∈ w_2 → u32b x) ∧
 (100 : Int) ≤ (1000 : Int) ∧
 needS (decide ((0 : Int) ≤ IntKind.wrap IntKind.i64 ((1 : Int) - f % (2 : Int))) && decide (IntKind.wrap IntKind.i64 ((1 : Int) - f % (2 : Int)) < (2 : Int)))
 (ldIS IntKind.i64 [IV.int IntKind.i64 (2 : Int), IV.int IntKind.i64 (1 : Int)] (Int.toNat (IntKind.wrap IntKind.i64 ((1 : Int) - f % (2 : Int))) * (1 : Nat)) fun (n1 : Int) =>
 needS (true && (decide ((0 : Int) ≤ n1) && decide (n1 ≤ (2 : Int))))
 (∃ (w_3 : List Int),
 ∃ (e_1 : List Int),
 ∃ (p_1 : List Int),
 ∃ (s_1 : List Int),
 ∃ (a_5 : List Int),
 ∃ (args_1 : List Int),
 (List.length w_1 = List.length w_3 ∧ List.map (IV.int IntKind.u32) w_1 = List.map (IV.int IntKind.u32) w_3) ∧
 ((2 : Nat) = List.length e_1 ∧ [IV.int IntKind.i64 (0 : Int), IV.int IntKind.i64 m] = List.map (IV.int IntKind.i64) e_1) ∧
 ((2 : Nat) = List.length p_1 ∧ [IV.int IntKind.i64 (2 : Int), IV.int IntKind.i64 (1 : Int)] = List.map (IV.int IntKind.i64) p_1) ∧
 ((2 : Nat) = List.length s_1 ∧ [IV.int IntKind.i64 (5 : Int), IV.int IntKind.i64 (2 : Int)] = List.map (IV.int IntKind.i64) s_1) ∧
 ((2 : Nat) = List.length a_5 ∧ [IV.int IntKind.i64 (3 : Int), IV.int IntKind.i64 (2 : Int)] = List.map (IV.int IntKind.i64) a_5) ∧
 (Int.toNat n1 - (0 : Nat) = List.length args_1 ∧
 List.take ((Int.toNat n1 - (0 : Nat)) * (1 : Nat)) [IV.int IntKind.i64 (word b w), IV.int IntKind.i64 (word a w)] = List.map (IV.int IntKind.i64) args_1) ∧
 (∀ (x : Int), x ∈ w_3 → u32b x) ∧
 (100 : Int) ≤ (1000 : Int) ∧
 ∃ (w_4 : List Int),
 ∃ (e_2 : List Int),
 ∃ (p_2 : List Int),
 ∃ (s_2 : List Int),
 ∃ (a_6 : List Int),
 ∃ (args_2 : List Int),
 (List.length w_1 = List.length w_4 ∧ List.map (IV.int IntKind.u32) w_1 = List.map (IV.int IntKind.u32) w_4) ∧
 ((2 : Nat) = List.length e_2 ∧ [IV.int IntKind.i64 (0 : Int), IV.int IntKind.i64 m] = List.map (IV.int IntKind.i64) e_2) ∧
 ((2 : Nat) = List.length p_2 ∧ [IV.int IntKind.i64 (2 : Int), IV.int IntKind.i64 (1 : Int)] = List.map (IV.int IntKind.i64) p_2) ∧
 ((2 : Nat) = List.length s_2 ∧ [IV.int IntKind.i64 (5 : Int), IV.int IntKind.i64 (2 : Int)] = List.map (IV.int IntKind.i64) s_2) ∧
 ((2 : Nat) = List.length a_6 ∧ [IV.int IntKind.i64 (3 : Int), IV.int IntKind.i64 (2 : Int)] = List.map (IV.int IntKind.i64) a_6) ∧
 (Int.toNat n0 - (0 : Nat) = List.length args_2 ∧
 List.take ((Int.toNat n0 - (0 : Nat)) * (1 : Nat)) [IV.int IntKind.i64 (word a w), IV.int IntKind.i64 (word b w)] =
 List.map (IV.int IntKind.i64) args_2) ∧
 (∀ (x : Int), x ∈ w_4 → u32b x) ∧
 (100 : Int) ≤ (1000 : Int) ∧
 ∃ (w_5 : List Int),
 ∃ (e_3 : List Int),
 ∃ (p_3 : List Int),
 ∃ (s_3 : List Int),
 ∃ (a_7 : List Int),
 ∃ (args_3 : List Int),
 (List.length w_1 = List.length w_5 ∧ List.map (IV.int IntKind.u32) w_1 = List.map (IV.int IntKind.u32) w_5) ∧
 ((2 : Nat) = List.length e_3 ∧
 [IV.int IntKind.i64 (0 : Int), IV.int IntKind.i64 m] = List.map (IV.int IntKind.i64) e_3) ∧
 ((2 : Nat) = List.length p_3 ∧
 [IV.int IntKind.i64 (2 : Int), IV.int IntKind.i64 (1 : Int)] = List.map (IV.int IntKind.i64) p_3) ∧
 ((2 : Nat) = List.length s_3 ∧
 [IV.int IntKind.i64 (5 : Int), IV.int IntKind.i64 (2 : Int)] = List.map (IV.int IntKind.i64) s_3) ∧
 ((2 : Nat) = List.length a_7 ∧
 [IV.int IntKind.i64 (3 : Int), IV.int IntKind.i64 (2 : Int)] = List.map (IV.int IntKind.i64) a_7) ∧
 (Int.toNat n0 - (0 : Nat) = List.length args_3 ∧
 List.take ((Int.toNat n0 - (0 : Nat)) * (1 : Nat))
 [IV.int IntKind.i64 (word a w), IV.int IntKind.i64 (word b w)] =
 List.map (IV.int IntKind.i64) args_3) ∧
 (∀ (x : Int), x ∈ w_5 → u32b x) ∧
 (newErr (Bi.mk w_5 e_3 p_3 s_3 a_7) (f % (2 : Int)) args_3 (fuel % (12 : Int)) ≠ (0 : Int) →
 brS (newErr (Bi.mk w_5 e_3 p_3 s_3 a_7) (f % (2 : Int)) args_3 (fuel % (12 : Int)) != (0 : Int))
 (Q (IV.bool false) h) (Q (IV.bool false) h)) ∧
 (newErr (Bi.mk w_5 e_3 p_3 s_3 a_7) (f % (2 : Int)) args_3 (fuel % (12 : Int)) = (0 : Int) →
 ∀ (L : Ly) (h' : Heap),
 Rep (Bi.mk w_5 e_3 p_3 s_3 a_7)
 (initS (Bi.mk w_5 e_3 p_3 s_3 a_7) (f % (2 : Int)) args_3 (fuel % (12 : Int))) L
 ((0 : Nat) + (1 : Nat)) h' →
 (∀ (k : Nat), k < (0 : Nat) → Heap.get h' k = IObj.dead ∧ Ly.r L k = Role.other) →
 (0 : Nat) ≤ Heap.next h' →
 brS
 (!Prod.snd
 (Prod.snd
 (Prod.snd
 (Prod.snd
 (runR (Bi.mk w_2 e p s a_4) (f % (2 : Int)) args (fuel % (12 : Int))
 (100 : Int))))) ==
 Prod.snd
 (Prod.snd
 (Prod.snd
 (Prod.snd
 (runR (Bi.mk w_4 e_2 p_2 s_2 a_6) (f % (2 : Int)) args_2
 (fuel % (12 : Int)) (100 : Int))))))
 (Q (IV.bool false) h)
 (∃ (o : List Int),
 ∃ (o' : List Int),
 (List.length
 (Prod.fst
 (Prod.snd
 (Prod.snd
 (runR (Bi.mk w_2 e p s a_4) (f % (2 : Int)) args (fuel % (12 : Int))
 (100 : Int))))) =
 List.length o ∧
 ints
 (Prod.fst
 (Prod.snd
 (Prod.snd
 (runR (Bi.mk w_2 e p s a_4) (f % (2 : Int)) args (fuel % (12 : Int))
 (100 : Int))))) =
 ints o) ∧
 (List.length
 (Prod.fst
 (Prod.snd
 (Prod.snd
 (runR (Bi.mk w_4 e_2 p_2 s_2 a_6) (f % (2 : Int)) args_2
 (fuel % (12 : Int)) (100 : Int))))) =
 List.length o' ∧
 ints
 (Prod.fst
 (Prod.snd
 (Prod.snd
 (runR (Bi.mk w_4 e_2 p_2 s_2 a_6) (f % (2 : Int)) args_2
 (fuel % (12 : Int)) (100 : Int))))) =
 ints o') ∧
 List.length o ≤ (4611686018427387904 : Nat) ∧
 brS
 (!sameO
 (Prod.fst
 (runR (Bi.mk w_2 e p s a_4) (f % (2 : Int)) args (fuel % (12 : Int))
 (100 : Int)))
 (Prod.fst
 (Prod.snd
 (runR (Bi.mk w_2 e p s a_4) (f % (2 : Int)) args
 (fuel % (12 : Int)) (100 : Int))))
 o
 (Prod.fst
 (Prod.snd
 (Prod.snd
 (Prod.snd
 (runR (Bi.mk w_2 e p s a_4) (f % (2 : Int)) args
 (fuel % (12 : Int)) (100 : Int))))))
 (Prod.fst
 (runR (Bi.mk w_4 e_2 p_2 s_2 a_6) (f % (2 : Int)) args_2
 (fuel % (12 : Int)) (100 : Int)))
 (Prod.fst
 (Prod.snd
 (runR (Bi.mk w_4 e_2 p_2 s_2 a_6) (f % (2 : Int)) args_2
 (fuel % (12 : Int)) (100 : Int))))
 o'
 (Prod.fst
 (Prod.snd
 (Prod.snd
 (Prod.snd
 (runR (Bi.mk w_4 e_2 p_2 s_2 a_6) (f % (2 : Int)) args_2
 (fuel % (12 : Int)) (100 : Int)))))))
 (Q (IV.bool false) h)
 ((∃ (x : Bi × CS × List Int × Nat × Heap × Ly),
 some
 (TV.v
 (IV.vslice none
 ((0 : Nat) - ((2 : Nat) - Int.toNat n0) * (1 : Nat))
 (Int.toNat n0 - (0 : Nat)) (1 : Nat)
 (List.take ((Int.toNat n0 - (0 : Nat)) * (1 : Nat))
 [IV.int IntKind.i64 (word a w),
 IV.int IntKind.i64 (word b w)]))) =
 some
 (TV.v
 (IV.vslice none (0 : Nat)
 (List.length (Prod.fst (Prod.snd (Prod.snd x)))) (1 : Nat)
 (List.map (IV.int IntKind.i64)
 (Prod.fst (Prod.snd (Prod.snd x)))))) ∧
 some (TV.v (IV.ptr ((0 : Nat) + (1 : Nat)) (0 : Nat))) =
 some (TV.v (IV.ptr (1 : Nat) (0 : Nat))) ∧
 some (TV.v (IV.int IntKind.i64 (0 : Int))) =
 some
 (TV.v
 (IV.int IntKind.i64
 (↑(Prod.fst (Prod.snd (Prod.snd (Prod.snd x)))) :
 Int))) ∧
 h' = Prod.fst (Prod.snd (Prod.snd (Prod.snd (Prod.snd x)))) ∧
 ((∀ (k : Nat),
 k < (8 : Nat) →
 rg (Prod.fst (Prod.snd x)) (↑k : Int) =
 if h :
 k <
 List.length
 (Prod.fst (Prod.snd (Prod.snd x))) then
 (Prod.fst (Prod.snd (Prod.snd x)))[k]
 else (0 : Int)) ∧
 List.length (CS.frames (Prod.fst (Prod.snd x))) =
 (1 : Nat) ∧
 Prod.fst (Prod.snd (Prod.snd (Prod.snd x))) ≤
 (8 : Nat) ∧
 List.length (Prod.fst (Prod.snd (Prod.snd x))) ≤
 (8 : Nat) ∧
 Rep (Prod.fst x) (Prod.fst (Prod.snd x))
 (Prod.snd
 (Prod.snd (Prod.snd (Prod.snd (Prod.snd x)))))
 (1 : Nat)
 (Prod.fst
 (Prod.snd
 (Prod.snd (Prod.snd (Prod.snd x)))))) ∧
 True) ∧
 ∀ (x : Bi × CS × List Int × Nat × Heap × Ly) (b : FF),
 (∀ (k : Nat),
 k < (8 : Nat) →
 rg (Prod.fst (Prod.snd x)) (↑k : Int) =
 if h :
 k < List.length (Prod.fst (Prod.snd (Prod.snd x))) then
 (Prod.fst (Prod.snd (Prod.snd x)))[k]
 else (0 : Int)) ∧
 List.length (CS.frames (Prod.fst (Prod.snd x))) = (1 : Nat) ∧
 Prod.fst (Prod.snd (Prod.snd (Prod.snd x))) ≤ (8 : Nat) ∧
 List.length (Prod.fst (Prod.snd (Prod.snd x))) ≤ (8 : Nat) ∧
 Rep (Prod.fst x) (Prod.fst (Prod.snd x))
 (Prod.snd (Prod.snd (Prod.snd (Prod.snd (Prod.snd x)))))
 (1 : Nat)
 (Prod.fst (Prod.snd (Prod.snd (Prod.snd (Prod.snd x))))) →
 brS
 (decide
 ((↑(Prod.fst (Prod.snd (Prod.snd (Prod.snd x)))) : Int) <
 (8 : Int)))
 (brS
 (decide
 ((↑(Prod.fst (Prod.snd (Prod.snd (Prod.snd x)))) : Int) <
 (↑(List.length (Prod.fst (Prod.snd (Prod.snd x)))) : Int)))
 (needS
 (decide
 ((0 : Int) ≤
 (↑(Prod.fst (Prod.snd (Prod.snd (Prod.snd x)))) :
 Int)) &&
 decide
 ((↑(Prod.fst (Prod.snd (Prod.snd (Prod.snd x)))) : Int) <
 (↑(List.length (Prod.fst (Prod.snd (Prod.snd x)))) :
 Int)))
 (ldIS IntKind.i64
 (List.map (IV.int IntKind.i64)
 (Prod.fst (Prod.snd (Prod.snd x))))
 (Int.toNat
 (↑(Prod.fst (Prod.snd (Prod.snd (Prod.snd x)))) : Int) *
 (1 : Nat))
 fun (n2 : Int) =>
 ∃ (B : Bi),
 ∃ (s : CS),
 ∃ (L : Ly),
 Rep B s L (1 : Nat)
 (Prod.fst
 (Prod.snd (Prod.snd (Prod.snd (Prod.snd x))))) ∧
 brS
 ((if
 (0 : Int) ≤
 (↑(Prod.fst
 (Prod.snd
 (Prod.snd (Prod.snd x)))) :
 Int) ∧
 (↑(Prod.fst
 (Prod.snd
 (Prod.snd (Prod.snd x)))) :
 Int) ≤
 (7 : Int) then
 rg s
 (↑(Prod.fst
 (Prod.snd (Prod.snd (Prod.snd x)))) :
 Int)
 else (0 : Int)) !=
 n2)
 (Q (IV.bool false) h)
 (∃ (x_1 : Bi × CS × List Int × Nat × Heap × Ly),
 some
 (TV.v
 (IV.vslice none (0 : Nat)
 (List.length
 (Prod.fst (Prod.snd (Prod.snd x))))
 (1 : Nat)
 (List.map (IV.int IntKind.i64)
 (Prod.fst
 (Prod.snd (Prod.snd x)))))) =
 some
 (TV.v
 (IV.vslice none (0 : Nat)
 (List.length
 (Prod.fst
 (Prod.snd (Prod.snd x_1))))
 (1 : Nat)
 (List.map (IV.int IntKind.i64)
 (Prod.fst
 (Prod.snd (Prod.snd x_1)))))) ∧
 some (TV.v (IV.ptr (1 : Nat) (0 : Nat))) =
 some (TV.v (IV.ptr (1 : Nat) (0 : Nat))) ∧
 some
 (TV.v
 (IV.int IntKind.i64
 (IntKind.wrap IntKind.i64
 ((↑(Prod.fst
 (Prod.snd
 (Prod.snd
 (Prod.snd x)))) :
 Int) +
 (1 : Int))))) =
 some
 (TV.v
 (IV.int IntKind.i64
 (↑(Prod.fst
 (Prod.snd
 (Prod.snd
 (Prod.snd x_1)))) :
 Int))) ∧
 Prod.fst
 (Prod.snd
 (Prod.snd
 (Prod.snd (Prod.snd x)))) =
 Prod.fst
 (Prod.snd
 (Prod.snd
 (Prod.snd (Prod.snd x_1)))) ∧
 ((∀ (k : Nat),
 k < (8 : Nat) →
 rg (Prod.fst (Prod.snd x_1))
 (↑k : Int) =
 if h :
 k <
 List.length
 (Prod.fst
 (Prod.snd
 (Prod.snd
 x_1))) then
 (Prod.fst
 (Prod.snd
 (Prod.snd x_1)))[k]
 else (0 : Int)) ∧
 List.length
 (CS.frames
 (Prod.fst (Prod.snd x_1))) =
 (1 : Nat) ∧
 Prod.fst
 (Prod.snd
 (Prod.snd
 (Prod.snd x_1))) ≤
 (8 : Nat) ∧
 List.length
 (Prod.fst
 (Prod.snd
 (Prod.snd x_1))) ≤
 (8 : Nat) ∧
 Rep (Prod.fst x_1)
 (Prod.fst (Prod.snd x_1))
 (Prod.snd
 (Prod.snd
 (Prod.snd
 (Prod.snd
 (Prod.snd x_1)))))
 (1 : Nat)
 (Prod.fst
 (Prod.snd
 (Prod.snd
 (Prod.snd
 (Prod.snd
 x_1)))))) ∧
 (8 : Nat) -
 Prod.fst
 (Prod.snd
 (Prod.snd (Prod.snd x_1))) <
 (8 : Nat) -
 Prod.fst
 (Prod.snd
 (Prod.snd (Prod.snd x))))))
 (∃ (B : Bi),
 ∃ (s : CS),
 ∃ (L : Ly),
 Rep B s L (1 : Nat)
 (Prod.fst
 (Prod.snd (Prod.snd (Prod.snd (Prod.snd x))))) ∧
 brS
 ((if
 (0 : Int) ≤
 (↑(Prod.fst
 (Prod.snd (Prod.snd (Prod.snd x)))) :
 Int) ∧
 (↑(Prod.fst
 (Prod.snd (Prod.snd (Prod.snd x)))) :
 Int) ≤
 (7 : Int) then
 rg s
 (↑(Prod.fst
 (Prod.snd (Prod.snd (Prod.snd x)))) :
 Int)
 else (0 : Int)) !=
 (0 : Int))
 (Q (IV.bool false) h)
 (∃ (x_1 : Bi × CS × List Int × Nat × Heap × Ly),
 some
 (TV.v
 (IV.vslice none (0 : Nat)
 (List.length
 (Prod.fst (Prod.snd (Prod.snd x))))
 (1 : Nat)
 (List.map (IV.int IntKind.i64)
 (Prod.fst (Prod.snd (Prod.snd x)))))) =
 some
 (TV.v
 (IV.vslice none (0 : Nat)
 (List.length
 (Prod.fst (Prod.snd (Prod.snd x_1))))
 (1 : Nat)
 (List.map (IV.int IntKind.i64)
 (Prod.fst
 (Prod.snd (Prod.snd x_1)))))) ∧
 some (TV.v (IV.ptr (1 : Nat) (0 : Nat))) =
 some (TV.v (IV.ptr (1 : Nat) (0 : Nat))) ∧
 some
 (TV.v
 (IV.int IntKind.i64
 (IntKind.wrap IntKind.i64
 ((↑(Prod.fst
 (Prod.snd
 (Prod.snd
 (Prod.snd x)))) :
 Int) +
 (1 : Int))))) =
 some
 (TV.v
 (IV.int IntKind.i64
 (↑(Prod.fst
 (Prod.snd
 (Prod.snd (Prod.snd x_1)))) :
 Int))) ∧
 Prod.fst
 (Prod.snd
 (Prod.snd (Prod.snd (Prod.snd x)))) =
 Prod.fst
 (Prod.snd
 (Prod.snd
 (Prod.snd (Prod.snd x_1)))) ∧
 ((∀ (k : Nat),
 k < (8 : Nat) →
 rg (Prod.fst (Prod.snd x_1))
 (↑k : Int) =
 if h :
 k <
 List.length
 (Prod.fst
 (Prod.snd
 (Prod.snd x_1))) then
 (Prod.fst
 (Prod.snd
 (Prod.snd x_1)))[k]
 else (0 : Int)) ∧
 List.length
 (CS.frames
 (Prod.fst (Prod.snd x_1))) =
 (1 : Nat) ∧
 Prod.fst
 (Prod.snd
 (Prod.snd (Prod.snd x_1))) ≤
 (8 : Nat) ∧
 List.length
 (Prod.fst
 (Prod.snd (Prod.snd x_1))) ≤
 (8 : Nat) ∧
 Rep (Prod.fst x_1)
 (Prod.fst (Prod.snd x_1))
 (Prod.snd
 (Prod.snd
 (Prod.snd
 (Prod.snd
 (Prod.snd x_1)))))
 (1 : Nat)
 (Prod.fst
 (Prod.snd
 (Prod.snd
 (Prod.snd
 (Prod.snd x_1)))))) ∧
 (8 : Nat) -
 Prod.fst
 (Prod.snd
 (Prod.snd (Prod.snd x_1))) <
 (8 : Nat) -
 Prod.fst
 (Prod.snd
 (Prod.snd (Prod.snd x))))))
 (∃ (B : Bi),
 ∃ (s : CS),
 ∃ (L : Ly),
 Rep B s L (1 : Nat)
 (Prod.fst
 (Prod.snd (Prod.snd (Prod.snd (Prod.snd x))))) ∧
 brS ((↑(List.length (CS.frames s)) : Int) == (1 : Int))
 (Q (IV.bool true) h) (Q (IV.bool false) h))))))))))) := by kernel_rfl
set_option maxHeartbeats 8000000 in
set_option maxRecDepth 100000 in
theorem sLInputs : ∀ xs h Q, kLInputs xs h Q → CallW env 8 xs h Q := by
  intro xs h Q hk
  unfold kLInputs at hk
  split at hk
  · rename_i e1 n1 c1 f a b w fuel 
    obtain ⟨l, ⟨rfl, rfl⟩, hl, hk⟩ := hk
    refine dF_run (okLFuel) (vLInputs l e1 f a b w fuel h Q) ?_
    obtain ⟨hl1, hl2⟩ := hl
    refine needS_intro (by simp only [pureL, pureB, pureL_ints, Bool.and_true]) ⟨l, ⟨rfl, rfl⟩, ⟨hl1, hl2⟩, fun w1 m hv hw _ => ⟨by omega, arg2 (x := word a w) (y := word b w) (f01 f) fun n0 hn ht => ?_⟩⟩
    have mk : ∀ (f' x y fuel : Int), (f' = 0 ∨ f' = 1) → (0 ≤ fuel ∧ fuel ≤ 1000) → newErr ⟨w1, [0, m], [2, 1], [5, 2], [3, 2]⟩ f' (aL f' x y) fuel = 0 := fun f' x y fuel h1 h2 => err2 hv h1 h2
    have tn : ∀ x : Nat, (x : Int).toNat = x := Int.toNat_natCast
    have e1 : IntKind.i64.wrap (1 - f % 2) = 1 - f % 2 := IntWalk.i64_in _ (by omega)
    rw [e1]
    refine ⟨w1, [0, m], [2, 1], [5, 2], [3, 2], aL (f % 2) (word a w) (word b w), ⟨rfl, rfl⟩, ⟨rfl, rfl⟩, ⟨rfl, rfl⟩, ⟨rfl, rfl⟩, ⟨rfl, rfl⟩, ⟨hn, ht⟩, hw, by omega, arg2 (x := word b w) (y := word a w) (by omega) fun n1 hn1 ht1 => ⟨w1, [0, m], [2, 1], [5, 2], [3, 2], aL (1 - f % 2) (word b w) (word a w), ⟨rfl, rfl⟩, ⟨rfl, rfl⟩, ⟨rfl, rfl⟩, ⟨rfl, rfl⟩, ⟨rfl, rfl⟩, ⟨hn1, ht1⟩, hw, by omega, w1, [0, m], [2, 1], [5, 2], [3, 2], aL (f % 2) (word a w) (word b w), ⟨rfl, rfl⟩, ⟨rfl, rfl⟩, ⟨rfl, rfl⟩, ⟨rfl, rfl⟩, ⟨rfl, rfl⟩, ⟨hn, ht⟩, hw, by omega, w1, [0, m], [2, 1], [5, 2], [3, 2], aL (f % 2) (word a w) (word b w), ⟨rfl, rfl⟩, ⟨rfl, rfl⟩, ⟨rfl, rfl⟩, ⟨rfl, rfl⟩, ⟨rfl, rfl⟩, ⟨hn, ht⟩, hw, fun he => absurd (mk _ _ _ _ (f01 f) (by omega)) he, fun he L0 h0 hr0 _ _ => ?_⟩⟩
    have q1 := runR_len (B := ⟨w1, [0, m], [2, 1], [5, 2], [3, 2]⟩) (f := f % 2) (fuel := fuel % 12) (most := 100) (args := aL (f % 2) (word a w) (word b w)) (by omega)
    refine brS_intro (fun z => absurd z (by simp)) (fun _ => ⟨_, _, ⟨rfl, rfl⟩, ⟨rfl, rfl⟩, (by omega), brS_intro (fun z => absurd z (by rw [sameO_refl]; simp)) (fun _ => ?_)⟩)
    refine ⟨⟨(⟨w1, [0, m], [2, 1], [5, 2], [3, 2]⟩, initS ⟨w1, [0, m], [2, 1], [5, 2], [3, 2]⟩ (f % 2) (aL (f % 2) (word a w) (word b w)) (fuel % 12), aL (f % 2) (word a w) (word b w), 0, h0, L0), (by simp only; rw [ht, hn]; simp), (by first | rfl | trivial), (by first | rfl | trivial), (by first | rfl | trivial), ⟨fun k hk => init_reg k hk (aL_len _ _ _), rfl, Nat.zero_le _, aL_len _ _ _, hr0⟩, trivial⟩, fun x _ hx => ?_⟩
    obtain ⟨B, s, args, k, hp, L⟩ := x
    obtain ⟨hg, hf, hk8, hal, hr⟩ := hx
    simp only at hg hf hk8 hal hr
    refine brS_intro (fun y => ?_) (fun y => ⟨B, s, L, hr, brS_intro (fun _ => hk) (fun z => absurd z (by simp [hf]))⟩)
    have y : (k : Int) < 8 := by simpa using y
    have hkk := hg k (by omega)
    have ee : (if 0 ≤ (k : Int) ∧ (k : Int) ≤ 7 then rg s k else 0) = rg s k := if_pos (by omega)
    have hwr : IntKind.i64.wrap ((k : Int) + 1) = ((k + 1 : Nat) : Int) := by rw [IntWalk.i64_in _ (by omega)]; rfl
    refine brS_intro (fun c => ?_) (fun c => ?_)
    · have c : (k : Int) < args.length := by simpa using c
      have hlt : k < args.length := by omega
      refine needS_intro (by simp; omega) ?_
      simp only [tn, Nat.mul_one]
      exact ldIS_map hlt ⟨B, s, L, hr, brS_intro (fun z => absurd z (by rw [ee, hkk, dif_pos hlt]; simp)) (fun _ => ⟨(B, s, args, k + 1, hp, L), (by first | rfl | trivial), (by first | rfl | trivial), (by simp only; rw [hwr]), (by first | rfl | trivial), ⟨hg, hf, (by simp only; omega), hal, hr⟩, (by simp only; omega)⟩)⟩
    · have c : ¬ (k : Int) < args.length := by simpa using c
      have hlt : ¬ k < args.length := by omega
      exact ⟨B, s, L, hr, brS_intro (fun z => absurd z (by rw [ee, hkk, dif_neg hlt]; simp)) (fun _ => ⟨(B, s, args, k + 1, hp, L), (by first | rfl | trivial), (by first | rfl | trivial), (by simp only; rw [hwr]), (by first | rfl | trivial), ⟨hg, hf, (by simp only; omega), hal, hr⟩, (by simp only; omega)⟩)⟩
  · exact hk.elim
def cLInputs := addC 8 kLInputs cLFuel
theorem okLInputs : Sound env cLInputs := sound_add sLInputs (okLFuel)

end Go.Proofs.YtlenjfbmpekabaaDoor

end
