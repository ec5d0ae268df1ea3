/-
  Machine words: the law on valid binaries.
  Conditions: none.
-/
import Derived.Test.YtlenjfbmpekabaaDoorX31
import Derived.KernelRfl
set_option linter.unusedVariables false
set_option linter.unusedSimpArgs false
namespace Go.Proofs.YtlenjfbmpekabaaDoor
open Go.Pv Go.M29 Go.M30
theorem bool_ne {r r' : Bool} {G : Prop} (h : r = true ↔ G) (h' : r' = true ↔ G) : ¬ (!(r == r')) = true := by
  have : r = r' := by
    cases r <;> cases r'
    · rfl
    · exact absurd (h.2 (h'.1 rfl)) (by simp)
    · exact absurd (h'.2 (h.1 rfl)) (by simp)
    · rfl
  subst this
  cases r <;> simp
def kEVL (xs : List IV) (h : Heap) (K : IV → Heap → Prop) : Prop := match xs with
  | [.agg [.vslice none e1 n1 1 c1, .vslice none e2 n2 1 c2, .vslice none e3 n3 1 c3, .vslice none e4 n4 1 c4, .vslice none e5 n5 1 c5], .vslice none e6 n6 1 c6, .int .i64 how, .int .i64 at_, .int .i64 by'] => ∃ w e p s a l : List Int, (n1 = w.length ∧ c1 = w.map (IV.int .u32)) ∧ (n2 = e.length ∧ c2 = e.map (IV.int .i64)) ∧ (n3 = p.length ∧ c3 = p.map (IV.int .i64)) ∧ (n4 = s.length ∧ c4 = s.map (IV.int .i64)) ∧ (n5 = a.length ∧ c5 = a.map (IV.int .i64)) ∧ (n6 = l.length ∧ c6 = l.map (IV.int .i64)) ∧ ((∀ x ∈ w, u32b x) ∧ (∀ a ∈ l, -9223372036854775808 ≤ a ∧ a ≤ 9223372036854775807) ∧ l.length < 4611686018427387904) ∧ K (.bool true) h
  | _ => False
set_option maxRecDepth 100000 in
theorem vEVL (w e p s a l : List Int) (e1 e2 e3 e4 e5 e6 : Nat) (how at_ by' : Int) (h : Heap) (Q : IV → Heap → Prop) : dF (stdS cBinary) env 3 (fun k => match Nat.beq k 6 with | true => 4 | false => 0) noI noI [.agg [.vslice none e1 (w).length 1 ((w).map (IV.int .u32)), .vslice none e2 (e).length 1 ((e).map (IV.int .i64)), .vslice none e3 (p).length 1 ((p).map (IV.int .i64)), .vslice none e4 (s).length 1 ((s).map (IV.int .i64)), .vslice none e5 (a).length 1 ((a).map (IV.int .i64))], .vslice none e6 (l).length 1 ((l).map (IV.int .i64)), .int .i64 how, .int .i64 at_, .int .i64 by'] h Q = (
  needS
 (pureL
 [IV.agg
 [IV.vslice none (0 : Nat) (List.length w) (1 : Nat) (List.map (IV.int IntKind.u32) w), IV.vslice none (0 : Nat) (List.length e) (1 : Nat) (List.map (IV.int IntKind.i64) e),
 IV.vslice none (0 : Nat) (List.length p) (1 : Nat) (List.map (IV.int IntKind.i64) p), IV.vslice none (0 : Nat) (List.length s) (1 : Nat) (List.map (IV.int IntKind.i64) s),
 IV.vslice none (0 : Nat) (List.length a) (1 : Nat) (List.map (IV.int IntKind.i64) a)],
 IV.vslice none (0 : Nat) (List.length l) (1 : Nat) (List.map (IV.int IntKind.i64) l), IV.int IntKind.i64 how, IV.int IntKind.i64 at_, IV.int IntKind.i64 by'])
 (∃ (l_1 : List Int),
 (List.length l = List.length l_1 ∧ List.map (IV.int IntKind.i64) l = List.map (IV.int IntKind.i64) l_1) ∧
 (List.length l_1 < (4611686018427387904 : Nat) ∧ ∀ (a : Int), a ∈ l_1 → (-9223372036854775808 : Int) ≤ a ∧ a ≤ (9223372036854775807 : Int)) ∧
 ∀ (w_1 : List Int) (m : Int),
 VB (Bi.mk w_1 [(0 : Int), m] [(2 : Int), (1 : Int)] [(5 : Int), (2 : Int)] [(3 : Int), (2 : Int)]) →
 (∀ (x : Int), x ∈ w_1 → u32b x) →
 List.length w_1 ≤ (1000 : Nat) →
 brS (decide ((↑(List.length w) : Int) > (100 : Int))) (Q (IV.bool true) h)
 (brS (decide ((↑(List.length e) : Int) > (20 : Int))) (Q (IV.bool true) h)
 (∃ (w_2 : List Int),
 ∃ (e_1 : List Int),
 ∃ (p_1 : List Int),
 ∃ (s_1 : List Int),
 ∃ (a_4 : List Int),
 (List.length w_1 = List.length w_2 ∧ List.map (IV.int IntKind.u32) w_1 = List.map (IV.int IntKind.u32) w_2) ∧
 ((2 : Nat) = List.length e_1 ∧ [IV.int IntKind.i64 (0 : Int), IV.int IntKind.i64 m] = List.map (IV.int IntKind.i64) e_1) ∧
 ((2 : Nat) = List.length p_1 ∧ [IV.int IntKind.i64 (2 : Int), IV.int IntKind.i64 (1 : Int)] = List.map (IV.int IntKind.i64) p_1) ∧
 ((2 : Nat) = List.length s_1 ∧ [IV.int IntKind.i64 (5 : Int), IV.int IntKind.i64 (2 : Int)] = List.map (IV.int IntKind.i64) s_1) ∧
 ((2 : Nat) = List.length a_4 ∧ [IV.int IntKind.i64 (3 : Int), IV.int IntKind.i64 (2 : Int)] = List.map (IV.int IntKind.i64) a_4) ∧
 ((∀ (x : Int), x ∈ w_2 → u32b x) ∧ List.length w_2 ≤ (1000000 : Nat) ∧ (1 : Nat) ≤ List.length e_1 ∧ (2 : Nat) ≤ List.length a_4 ∧ List.length a_4 ≤ (100 : Nat)) ∧
 ∀ (w' e' p' s' a' : List Int),
 (∀ (x : Int), x ∈ w' → u32b x) →
 List.length w' ≤ List.length w_2 →
 ∃ (w_3 : List Int),
 ∃ (e_2 : List Int),
 ∃ (p_2 : List Int),
 ∃ (s_2 : List Int),
 ∃ (a_7 : List Int),
 (List.length w = List.length w_3 ∧ List.map (IV.int IntKind.u32) w = List.map (IV.int IntKind.u32) w_3) ∧
 (List.length e = List.length e_2 ∧ List.map (IV.int IntKind.i64) e = List.map (IV.int IntKind.i64) e_2) ∧
 (List.length p = List.length p_2 ∧ List.map (IV.int IntKind.i64) p = List.map (IV.int IntKind.i64) p_2) ∧
 (List.length s = List.length s_2 ∧ List.map (IV.int IntKind.i64) s = List.map (IV.int IntKind.i64) s_2) ∧
 (List.length a = List.length a_7 ∧ List.map (IV.int IntKind.i64) a = List.map (IV.int IntKind.i64) a_7) ∧
 (∀ (x : Int), x ∈ w_3 → u32b x) ∧
 ∀ (r : Bool),
 (r = true ↔ VB (Bi.mk w_3 e_2 p_2 s_2 a_7)) →
 ∃ (w_4 : List Int),
 ∃ (e_3 : List Int),
 ∃ (p_3 : List Int),
 ∃ (s_3 : List Int),
 ∃ (a_9 : List Int),
 (List.length w = List.length w_4 ∧ List.map (IV.int IntKind.u32) w = List.map (IV.int IntKind.u32) w_4) ∧
 (List.length e = List.length e_3 ∧ List.map (IV.int IntKind.i64) e = List.map (IV.int IntKind.i64) e_3) ∧
 (List.length p = List.length p_3 ∧ List.map (IV.int IntKind.i64) p = List.map (IV.int IntKind.i64) p_3) ∧
 (List.length s = List.length s_3 ∧ List.map (IV.int IntKind.i64) s = List.map (IV.int IntKind.i64) s_3) ∧
 (List.length a = List.length a_9 ∧ List.map (IV.int IntKind.i64) a = List.map (IV.int IntKind.i64) a_9) ∧
 ((∀ (x : Int), x ∈ w_4 → u32b x) ∧ List.length w_4 ≤ (1000000 : Nat)) ∧
 ∀ (r_1 : Bool),
 (r_1 = true ↔ VB (Bi.mk w_4 e_3 p_3 s_3 a_9)) →
 brS (!r == r_1) (Q (IV.bool false) h)
 (∃ (w : List Int),
 ∃ (e : List Int),
 ∃ (p : List Int),
 ∃ (s : List Int),
 ∃ (a : List Int),
 (List.length w_1 = List.length w ∧ List.map (IV.int IntKind.u32) w_1 = List.map (IV.int IntKind.u32) w) ∧
 ((2 : Nat) = List.length e ∧ [IV.int IntKind.i64 (0 : Int), IV.int IntKind.i64 m] = List.map (IV.int IntKind.i64) e) ∧
 ((2 : Nat) = List.length p ∧
 [IV.int IntKind.i64 (2 : Int), IV.int IntKind.i64 (1 : Int)] = List.map (IV.int IntKind.i64) p) ∧
 ((2 : Nat) = List.length s ∧
 [IV.int IntKind.i64 (5 : Int), IV.int IntKind.i64 (2 : Int)] = List.map (IV.int IntKind.i64) s) ∧
 ((2 : Nat) = List.length a ∧
 [IV.int IntKind.i64 (3 : Int), IV.int IntKind.i64 (2 : Int)] = List.map (IV.int IntKind.i64) a) ∧
 (∀ (x : Int), x ∈ w → u32b x) ∧
 ∀ (r : Bool),
 (r = true ↔ VB (Bi.mk w e p s a)) →
 ∃ (w : List Int),
 ∃ (e : List Int),
 ∃ (p : List Int),
 ∃ (s : List Int),
 ∃ (a : List Int),
 (List.length w_1 = List.length w ∧
 List.map (IV.int IntKind.u32) w_1 = List.map (IV.int IntKind.u32) w) ∧
 ((2 : Nat) = List.length e ∧
 [IV.int IntKind.i64 (0 : Int), IV.int IntKind.i64 m] = List.map (IV.int IntKind.i64) e) ∧
 ((2 : Nat) = List.length p ∧
 [IV.int IntKind.i64 (2 : Int), IV.int IntKind.i64 (1 : Int)] =
 List.map (IV.int IntKind.i64) p) ∧
 ((2 : Nat) = List.length s ∧
 [IV.int IntKind.i64 (5 : Int), IV.int IntKind.i64 (2 : Int)] =
 List.map (IV.int IntKind.i64) s) ∧
 ((2 : Nat) = List.length a ∧
 [IV.int IntKind.i64 (3 : Int), IV.int IntKind.i64 (2 : Int)] =
 List.map (IV.int IntKind.i64) a) ∧
 ((∀ (x : Int), x ∈ w → u32b x) ∧ List.length w ≤ (1000000 : Nat)) ∧
 ∀ (r_2 : Bool),
 (r_2 = true ↔ VB (Bi.mk w e p s a)) →
 brS (!r == r_2) (Q (IV.bool false) h)
 (∃ (w : List Int),
 ∃ (e : List Int),
 ∃ (p : List Int),
 ∃ (s : List Int),
 ∃ (a : List Int),
 (List.length w' = List.length w ∧
 List.map (IV.int IntKind.u32) w' = List.map (IV.int IntKind.u32) w) ∧
 (List.length e' = List.length e ∧
 List.map (IV.int IntKind.i64) e' =
 List.map (IV.int IntKind.i64) e) ∧
 (List.length p' = List.length p ∧
 List.map (IV.int IntKind.i64) p' =
 List.map (IV.int IntKind.i64) p) ∧
 (List.length s' = List.length s ∧
 List.map (IV.int IntKind.i64) s' =
 List.map (IV.int IntKind.i64) s) ∧
 (List.length a' = List.length a ∧
 List.map (IV.int IntKind.i64) a' =
 List.map (IV.int IntKind.i64) a) ∧
 (∀ (x : Int), x ∈ w → u32b x) ∧
 ∀ (r : Bool),
 (r = true ↔ VB (Bi.mk w e p s a)) →
 ∃ (w : List Int),
 ∃ (e : List Int),
 ∃ (p : List Int),
 ∃ (s : List Int),
 ∃ (a : List Int),
 (List.length w' = List.length w ∧
 List.map (IV.int IntKind.u32) w' =
 List.map (IV.int IntKind.u32) w) ∧
 (List.length e' = List.length e ∧
 List.map (IV.int IntKind.i64) e' =
 List.map (IV.int IntKind.i64) e) ∧
 (List.length p' = List.length p ∧
 List.map (IV.int IntKind.i64) p' =
 List.map (IV.int IntKind.i64) p) ∧
 (List.length s' = List.length s ∧
 List.map (IV.int IntKind.i64) s' =
 List.map (IV.int IntKind.i64) s) ∧
 (List.length a' = List.length a ∧
 List.map (IV.int IntKind.i64) a' =
 List.map (IV.int IntKind.i64) a) ∧
 ((∀ (x : Int), x ∈ w → u32b x) ∧
 List.length w ≤ (1000000 : Nat)) ∧
 ∀ (r_3 : Bool),
 (r_3 = true ↔
 VB (Bi.mk w e p s a)) →
 brS (!r == r_3)
 (Q (IV.bool false) h)
 (∃ (w : List Int),
 ∃ (e : List Int),
 ∃ (p : List Int),
 ∃ (s : List Int),
 ∃ (a : List Int),
 (List.length w_1 =
 List.length
 w ∧
 List.map
 (IV.int
 IntKind.u32)
 w_1 =
 List.map
 (IV.int
 IntKind.u32)
 w) ∧
 ((2 : Nat) =
 List.length
 e ∧
 [IV.int
 IntKind.i64
 (0 :
 Int),
 IV.int
 IntKind.i64
 m] =
 List.map
 (IV.int
 IntKind.i64)
 e) ∧
 ((2 : Nat) =
 List.length
 p ∧
 [IV.int
 IntKind.i64
 (2 :
 Int),
 IV.int
 IntKind.i64
 (1 :
 Int)] =
 List.map
 (IV.int
 IntKind.i64)
 p) ∧
 ((2 : Nat) =
 List.length
 s ∧
 [IV.int
 IntKind.i64
 (5 :
 Int),
 IV.int
 IntKind.i64
 (2 :
 Int)] =
 List.map
 (IV.int
 IntKind.i64)
 s) ∧
 ((2 : Nat) =
 List.length
 a ∧
 [IV.int
 IntKind.i64
 (3 :
 Int),
 IV.int
 IntKind.i64
 (2 :
 Int)] =
 List.map
 (IV.int
 IntKind.i64)
 a) ∧
 (∀
 (x :
 Int),
 x ∈
 w →
 u32b
 x) ∧
 ∀
 (r :
 Bool),
 (r =
 true ↔
 VB
 (Bi.mk
 w
 e
 p
 s
 a)) →
 brS
 r
 (Q
 (IV.bool
 true)
 h)
 (Q
 (IV.bool
 false)
 h)))))))) := by kernel_rfl
set_option maxHeartbeats 8000000 in
theorem sEVL : ∀ xs h Q, kEVL xs h Q → CallW env 3 xs h Q := by
  intro xs h Q hk
  unfold kEVL at hk
  split at hk
  · rename_i e1 n1 c1 e2 n2 c2 e3 n3 c3 e4 n4 c4 e5 n5 c5 e6 n6 c6 how at_ by'
    obtain ⟨w, e, p, s, a, l, ⟨rfl, rfl⟩, ⟨rfl, rfl⟩, ⟨rfl, rfl⟩, ⟨rfl, rfl⟩, ⟨rfl, rfl⟩, ⟨rfl, rfl⟩, hb, hk⟩ := hk
    refine dF_run (okBinary) (vEVL w e p s a l e1 e2 e3 e4 e5 e6 how at_ by' h Q) ?_
    obtain ⟨hw, hi, hl⟩ := hb
    refine needS_intro (by simp only [pureL, pureB, pureL_ints, Bool.and_true]) ⟨l, ⟨rfl, rfl⟩, ⟨hl, hi⟩, fun w1 m hvb hw1 hl1 => brS_intro (fun _ => hk) (fun c1 => brS_intro (fun _ => hk) (fun c2 => ⟨w1, [0, m], [2, 1], [5, 2], [3, 2], ⟨rfl, rfl⟩, ⟨rfl, rfl⟩, ⟨rfl, rfl⟩, ⟨rfl, rfl⟩, ⟨rfl, rfl⟩, ⟨hw1, by omega, by simp, by simp, by simp⟩, fun w' e' p' s' a' hw' hl' => ?_⟩))⟩
    rw [decide_eq_false_iff_not] at c1
    exact ⟨w, e, p, s, a, ⟨rfl, rfl⟩, ⟨rfl, rfl⟩, ⟨rfl, rfl⟩, ⟨rfl, rfl⟩, ⟨rfl, rfl⟩, hw, fun r hr => ⟨w, e, p, s, a, ⟨rfl, rfl⟩, ⟨rfl, rfl⟩, ⟨rfl, rfl⟩, ⟨rfl, rfl⟩, ⟨rfl, rfl⟩, ⟨hw, by omega⟩, fun r' hr' => brS_intro (fun c => absurd c (bool_ne hr hr')) (fun _ => ⟨w1, [0, m], [2, 1], [5, 2], [3, 2], ⟨rfl, rfl⟩, ⟨rfl, rfl⟩, ⟨rfl, rfl⟩, ⟨rfl, rfl⟩, ⟨rfl, rfl⟩, hw1, fun r hr => ⟨w1, [0, m], [2, 1], [5, 2], [3, 2], ⟨rfl, rfl⟩, ⟨rfl, rfl⟩, ⟨rfl, rfl⟩, ⟨rfl, rfl⟩, ⟨rfl, rfl⟩, ⟨hw1, by omega⟩, fun r' hr' => brS_intro (fun c => absurd c (bool_ne hr hr')) (fun _ => ⟨w', e', p', s', a', ⟨rfl, rfl⟩, ⟨rfl, rfl⟩, ⟨rfl, rfl⟩, ⟨rfl, rfl⟩, ⟨rfl, rfl⟩, hw', fun r hr => ⟨w', e', p', s', a', ⟨rfl, rfl⟩, ⟨rfl, rfl⟩, ⟨rfl, rfl⟩, ⟨rfl, rfl⟩, ⟨rfl, rfl⟩, ⟨hw', by omega⟩, fun r' hr' => brS_intro (fun c => absurd c (bool_ne hr hr')) (fun _ => ⟨w1, [0, m], [2, 1], [5, 2], [3, 2], ⟨rfl, rfl⟩, ⟨rfl, rfl⟩, ⟨rfl, rfl⟩, ⟨rfl, rfl⟩, ⟨rfl, rfl⟩, hw1, fun r hr => brS_intro (fun _ => hk) (fun c => absurd (hr.2 hvb) (by rw [c]; simp))⟩)⟩⟩)⟩⟩)⟩⟩
  · exact hk.elim
def cEVL := addC 3 kEVL cBinary
theorem okEVL : Sound env cEVL := sound_add sEVL (okBinary)

end Go.Proofs.YtlenjfbmpekabaaDoor
