/-
  The example of chapter 23: the runs put together.
  Conditions: none.
-/
import Derived.Test.YtpehgcbjjemhpaaGreatRA23
import Derived.Test.YtpehgcbjjemhpaaGreatRB23
import Derived.Test.YtpehgcbjjemhpaaGreatRC23
import Derived.Test.YtpehgcbjjemhpaaGreatRD23
import Derived.Test.YtpehgcbjjemhpaaGreatRE23
import Derived.Test.YtpehgcbjjemhpaaGreatRM23
import Derived.Test.YtpehgcbjjemhpaaGreatRN23
import Derived.KernelRfl
set_option linter.unusedVariables false
set_option linter.unusedSimpArgs false
namespace Go.Proofs.YtpehgcbjjemhpaaGreat
open Go.Pv Go.M23
def kRules (xs : List IV) (h : Heap) (K : IV → Heap → Prop) : Prop := match xs with
  | [] => K rls h
  | _ => False
theorem sRules : ∀ xs h Q, kRules xs h Q → CallW env 5 xs h Q := by
  intro xs h Q hk
  unfold kRules at hk
  split at hk
  · exact ⟨300, _, h, by kernel_rfl, hk⟩
  · exact hk.elim
def cRules := addC 5 kRules noC
theorem okRules : Sound env cRules := sound_add sRules (sound_no env)

def kNewC (xs : List IV) (h : Heap) (K : IV → Heap → Prop) : Prop := match xs with
  | [r, i, l, n] => (h = Heap.empty ∧ i = ninv ∧ l = nlen ∧ n = nds) ∧ (r = rls ∨ r = nrl) ∧ K (.ptr 1 0) (h1 r)
  | _ => False
theorem sNewC : ∀ xs h Q, kNewC xs h Q → CallW env 7 xs h Q := by
  intro xs h Q hk
  unfold kNewC at hk
  split at hk
  · rename_i r i l n
    obtain ⟨⟨rfl, rfl, rfl, rfl⟩, hr, hk⟩ := hk
    rcases hr with rfl | rfl
    · exact goN Q hk
    · exact goM Q hk
  · exact hk.elim
def cNewC := addC 7 kNewC cRules
theorem okNewC : Sound env cNewC := sound_add sNewC (okRules)

def kStep (xs : List IV) (h : Heap) (K : IV → Heap → Prop) : Prop := match xs with
  | [p, s] => p = .ptr 1 0 ∧ ∃ (r : IV) (b : Bool), h = h1 r ∧ ((r = rls ∧ s = stA ∧ b = true) ∨ (r = rls ∧ s = stB ∧ b = true) ∨ (r = nrl ∧ s = stC ∧ b = true) ∨ (r = rls ∧ s = stD ∧ b = false) ∨ (r = nrl ∧ s = stA ∧ b = false)) ∧ ∀ h2, K (.bool b) h2
  | _ => False
theorem sStep : ∀ xs h Q, kStep xs h Q → CallW env 8 xs h Q := by
  intro xs h Q hk
  unfold kStep at hk
  split at hk
  · rename_i p s
    obtain ⟨rfl, r, b, rfl, hc, hk⟩ := hk
    rcases hc with ⟨rfl, rfl, rfl⟩ | ⟨rfl, rfl, rfl⟩ | ⟨rfl, rfl, rfl⟩ | ⟨rfl, rfl, rfl⟩ | ⟨rfl, rfl, rfl⟩
    · exact goA Q hk
    · exact goB Q hk
    · exact goC Q hk
    · exact goD Q hk
    · exact goE Q hk
  · exact hk.elim
def cStep := addC 8 kStep cNewC
theorem okStep : Sound env cStep := sound_add sStep (okNewC)

def kCSA (xs : List IV) (h : Heap) (K : IV → Heap → Prop) : Prop := match xs with
  | [r, i, l, n, s] => (r = rls ∧ i = ninv ∧ l = nlen ∧ n = nds ∧ s = stA) ∧ K (.bool true) h
  | _ => False
set_option maxRecDepth 100000 in
theorem vCSA  (h : Heap) (Q : IV → Heap → Prop) : dF (stdS cStep) env 4 noU noI noI [rls, ninv, nlen, nds, stA] h Q = (
  (Heap.mk PT.nil (0 : Nat) = Heap.mk PT.nil (0 : Nat) ∧
 IV.vslice none (0 : Nat) (0 : Nat) (3 : Nat) [] = ninv ∧
 IV.vslice none (0 : Nat) (0 : Nat) (1 : Nat) [] = nlen ∧
 IV.vslice none (0 : Nat) (8 : Nat) (3 : Nat)
 [IV.int IntKind.i64 (2 : Int), IV.int IntKind.i64 (0 : Int), IV.vslice none (0 : Nat) (0 : Nat) (1 : Nat) [], IV.int IntKind.i64 (1 : Int), IV.int IntKind.i64 (5 : Int), IV.vslice none (0 : Nat) (0 : Nat) (1 : Nat) [],
 IV.int IntKind.i64 (4 : Int), IV.int IntKind.i64 (0 : Int), IV.vslice none (0 : Nat) (2 : Nat) (1 : Nat) [IV.int IntKind.i64 (0 : Int), IV.int IntKind.i64 (1 : Int)], IV.int IntKind.i64 (4 : Int), IV.int IntKind.i64 (0 : Int),
 IV.vslice none (0 : Nat) (2 : Nat) (1 : Nat) [IV.int IntKind.i64 (1 : Int), IV.int IntKind.i64 (0 : Int)], IV.int IntKind.i64 (1 : Int), IV.int IntKind.i64 (0 : Int), IV.vslice none (0 : Nat) (0 : Nat) (1 : Nat) [],
 IV.int IntKind.i64 (16 : Int), IV.int IntKind.i64 (0 : Int), IV.vslice none (0 : Nat) (2 : Nat) (1 : Nat) [IV.int IntKind.i64 (1 : Int), IV.int IntKind.i64 (4 : Int)], IV.int IntKind.i64 (1 : Int),
 IV.int IntKind.i64 (1 : Int), IV.vslice none (0 : Nat) (0 : Nat) (1 : Nat) [], IV.int IntKind.i64 (16 : Int), IV.int IntKind.i64 (0 : Int),
 IV.vslice none (0 : Nat) (2 : Nat) (1 : Nat) [IV.int IntKind.i64 (0 : Int), IV.int IntKind.i64 (4 : Int)]] =
 nds) ∧
 (IV.vslice none (0 : Nat) (2 : Nat) (14 : Nat)
 [IV.str [(116 : UInt8), (117 : UInt8), (114 : UInt8), (110 : UInt8)], IV.int IntKind.i64 (0 : Int), IV.int IntKind.i64 (4 : Int), IV.int IntKind.i64 (0 : Int), IV.int IntKind.i64 (0 : Int),
 IV.vslice none (0 : Nat) (2 : Nat) (5 : Nat)
 [IV.int IntKind.i64 (1 : Int), IV.int IntKind.i64 (0 : Int), IV.int IntKind.i64 (0 : Int), IV.int IntKind.i64 (0 : Int), IV.vslice none (0 : Nat) (0 : Nat) (5 : Nat) [], IV.int IntKind.i64 (2 : Int),
 IV.int IntKind.i64 (0 : Int), IV.int IntKind.i64 (0 : Int), IV.int IntKind.i64 (0 : Int), IV.vslice none (0 : Nat) (0 : Nat) (5 : Nat) []],
 IV.int IntKind.i64 (0 : Int), IV.int IntKind.i64 (4 : Int), IV.int IntKind.i64 (0 : Int), IV.int IntKind.i64 (0 : Int),
 IV.vslice none (0 : Nat) (2 : Nat) (5 : Nat)
 [IV.int IntKind.i64 (2 : Int), IV.int IntKind.i64 (0 : Int), IV.int IntKind.i64 (0 : Int), IV.int IntKind.i64 (0 : Int), IV.vslice none (0 : Nat) (0 : Nat) (5 : Nat) [], IV.int IntKind.i64 (1 : Int),
 IV.int IntKind.i64 (0 : Int), IV.int IntKind.i64 (0 : Int), IV.int IntKind.i64 (0 : Int), IV.vslice none (0 : Nat) (0 : Nat) (5 : Nat) []],
 IV.vslice none (0 : Nat) (0 : Nat) (4 : Nat) [], IV.int IntKind.i64 (2 : Int), IV.int IntKind.i64 (0 : Int), IV.str [(111 : UInt8), (110 : UInt8), (101 : UInt8)], IV.int IntKind.i64 (0 : Int), IV.int IntKind.i64 (16 : Int),
 IV.int IntKind.i64 (0 : Int), IV.int IntKind.i64 (0 : Int),
 IV.vslice none (0 : Nat) (2 : Nat) (5 : Nat)
 [IV.int IntKind.i64 (1 : Int), IV.int IntKind.i64 (0 : Int), IV.int IntKind.i64 (0 : Int), IV.int IntKind.i64 (0 : Int), IV.vslice none (0 : Nat) (0 : Nat) (5 : Nat) [], IV.int IntKind.i64 (0 : Int),
 IV.int IntKind.i64 (1 : Int), IV.int IntKind.i64 (0 : Int), IV.int IntKind.i64 (0 : Int), IV.vslice none (0 : Nat) (0 : Nat) (5 : Nat) []],
 IV.int IntKind.i64 (0 : Int), IV.int IntKind.i64 (1 : Int), IV.int IntKind.i64 (1 : Int), IV.int IntKind.i64 (0 : Int), IV.vslice none (0 : Nat) (0 : Nat) (5 : Nat) [],
 IV.vslice none (0 : Nat) (1 : Nat) (4 : Nat) [IV.int IntKind.i64 (1 : Int), IV.int IntKind.i64 (1 : Int), IV.int IntKind.i64 (0 : Int), IV.int IntKind.i64 (0 : Int)], IV.int IntKind.i64 (1 : Int), IV.int IntKind.i64 (0 : Int)] =
 rls ∨
 IV.vslice none (0 : Nat) (2 : Nat) (14 : Nat)
 [IV.str [(116 : UInt8), (117 : UInt8), (114 : UInt8), (110 : UInt8)], IV.int IntKind.i64 (0 : Int), IV.int IntKind.i64 (4 : Int), IV.int IntKind.i64 (0 : Int), IV.int IntKind.i64 (0 : Int),
 IV.vslice none (0 : Nat) (2 : Nat) (5 : Nat)
 [IV.int IntKind.i64 (1 : Int), IV.int IntKind.i64 (0 : Int), IV.int IntKind.i64 (0 : Int), IV.int IntKind.i64 (0 : Int), IV.vslice none (0 : Nat) (0 : Nat) (5 : Nat) [], IV.int IntKind.i64 (2 : Int),
 IV.int IntKind.i64 (0 : Int), IV.int IntKind.i64 (0 : Int), IV.int IntKind.i64 (0 : Int), IV.vslice none (0 : Nat) (0 : Nat) (5 : Nat) []],
 IV.int IntKind.i64 (0 : Int), IV.int IntKind.i64 (4 : Int), IV.int IntKind.i64 (0 : Int), IV.int IntKind.i64 (0 : Int),
 IV.vslice none (0 : Nat) (2 : Nat) (5 : Nat)
 [IV.int IntKind.i64 (2 : Int), IV.int IntKind.i64 (0 : Int), IV.int IntKind.i64 (0 : Int), IV.int IntKind.i64 (0 : Int), IV.vslice none (0 : Nat) (0 : Nat) (5 : Nat) [], IV.int IntKind.i64 (1 : Int),
 IV.int IntKind.i64 (0 : Int), IV.int IntKind.i64 (0 : Int), IV.int IntKind.i64 (0 : Int), IV.vslice none (0 : Nat) (0 : Nat) (5 : Nat) []],
 IV.vslice none (0 : Nat) (0 : Nat) (4 : Nat) [], IV.int IntKind.i64 (2 : Int), IV.int IntKind.i64 (0 : Int), IV.str [(111 : UInt8), (110 : UInt8), (101 : UInt8)], IV.int IntKind.i64 (0 : Int), IV.int IntKind.i64 (16 : Int),
 IV.int IntKind.i64 (0 : Int), IV.int IntKind.i64 (0 : Int),
 IV.vslice none (0 : Nat) (2 : Nat) (5 : Nat)
 [IV.int IntKind.i64 (1 : Int), IV.int IntKind.i64 (0 : Int), IV.int IntKind.i64 (0 : Int), IV.int IntKind.i64 (0 : Int), IV.vslice none (0 : Nat) (0 : Nat) (5 : Nat) [], IV.int IntKind.i64 (0 : Int),
 IV.int IntKind.i64 (1 : Int), IV.int IntKind.i64 (0 : Int), IV.int IntKind.i64 (0 : Int), IV.vslice none (0 : Nat) (0 : Nat) (5 : Nat) []],
 IV.int IntKind.i64 (0 : Int), IV.int IntKind.i64 (1 : Int), IV.int IntKind.i64 (1 : Int), IV.int IntKind.i64 (0 : Int), IV.vslice none (0 : Nat) (0 : Nat) (5 : Nat) [],
 IV.vslice none (0 : Nat) (1 : Nat) (4 : Nat) [IV.int IntKind.i64 (1 : Int), IV.int IntKind.i64 (1 : Int), IV.int IntKind.i64 (0 : Int), IV.int IntKind.i64 (0 : Int)], IV.int IntKind.i64 (1 : Int), IV.int IntKind.i64 (0 : Int)] =
 nrl) ∧
 IV.ptr (1 : Nat) (0 : Nat) = IV.ptr (1 : Nat) (0 : Nat) ∧
 ∃ (r : IV),
 ∃ (b : Bool),
 Heap.mk
 (PT.node
 (PT.node (PT.node PT.nil (some (IObj.map [])) PT.nil)
 (some
 (IObj.cells
 [IV.vslice none (0 : Nat) (2 : Nat) (14 : Nat)
 [IV.str [(116 : UInt8), (117 : UInt8), (114 : UInt8), (110 : UInt8)], IV.int IntKind.i64 (0 : Int), IV.int IntKind.i64 (4 : Int), IV.int IntKind.i64 (0 : Int), IV.int IntKind.i64 (0 : Int),
 IV.vslice none (0 : Nat) (2 : Nat) (5 : Nat)
 [IV.int IntKind.i64 (1 : Int), IV.int IntKind.i64 (0 : Int), IV.int IntKind.i64 (0 : Int), IV.int IntKind.i64 (0 : Int), IV.vslice none (0 : Nat) (0 : Nat) (5 : Nat) [], IV.int IntKind.i64 (2 : Int),
 IV.int IntKind.i64 (0 : Int), IV.int IntKind.i64 (0 : Int), IV.int IntKind.i64 (0 : Int), IV.vslice none (0 : Nat) (0 : Nat) (5 : Nat) []],
 IV.int IntKind.i64 (0 : Int), IV.int IntKind.i64 (4 : Int), IV.int IntKind.i64 (0 : Int), IV.int IntKind.i64 (0 : Int),
 IV.vslice none (0 : Nat) (2 : Nat) (5 : Nat)
 [IV.int IntKind.i64 (2 : Int), IV.int IntKind.i64 (0 : Int), IV.int IntKind.i64 (0 : Int), IV.int IntKind.i64 (0 : Int), IV.vslice none (0 : Nat) (0 : Nat) (5 : Nat) [], IV.int IntKind.i64 (1 : Int),
 IV.int IntKind.i64 (0 : Int), IV.int IntKind.i64 (0 : Int), IV.int IntKind.i64 (0 : Int), IV.vslice none (0 : Nat) (0 : Nat) (5 : Nat) []],
 IV.vslice none (0 : Nat) (0 : Nat) (4 : Nat) [], IV.int IntKind.i64 (2 : Int), IV.int IntKind.i64 (0 : Int), IV.str [(111 : UInt8), (110 : UInt8), (101 : UInt8)], IV.int IntKind.i64 (0 : Int),
 IV.int IntKind.i64 (16 : Int), IV.int IntKind.i64 (0 : Int), IV.int IntKind.i64 (0 : Int),
 IV.vslice none (0 : Nat) (2 : Nat) (5 : Nat)
 [IV.int IntKind.i64 (1 : Int), IV.int IntKind.i64 (0 : Int), IV.int IntKind.i64 (0 : Int), IV.int IntKind.i64 (0 : Int), IV.vslice none (0 : Nat) (0 : Nat) (5 : Nat) [], IV.int IntKind.i64 (0 : Int),
 IV.int IntKind.i64 (1 : Int), IV.int IntKind.i64 (0 : Int), IV.int IntKind.i64 (0 : Int), IV.vslice none (0 : Nat) (0 : Nat) (5 : Nat) []],
 IV.int IntKind.i64 (0 : Int), IV.int IntKind.i64 (1 : Int), IV.int IntKind.i64 (1 : Int), IV.int IntKind.i64 (0 : Int), IV.vslice none (0 : Nat) (0 : Nat) (5 : Nat) [],
 IV.vslice none (0 : Nat) (1 : Nat) (4 : Nat) [IV.int IntKind.i64 (1 : Int), IV.int IntKind.i64 (1 : Int), IV.int IntKind.i64 (0 : Int), IV.int IntKind.i64 (0 : Int)], IV.int IntKind.i64 (1 : Int),
 IV.int IntKind.i64 (0 : Int)],
 nlen, nds, IV.hslice (0 : Nat) (0 : Nat) (8 : Nat) (1 : Nat), IV.hslice (5 : Nat) (0 : Nat) (8 : Nat) (2 : Nat)]))
 (PT.node PT.nil
 (some
 (IObj.cells
 [IV.int IntKind.i64 (-9223372036854775808 : Int), IV.int IntKind.i64 (9223372036854775807 : Int), IV.int IntKind.i64 (5 : Int), IV.int IntKind.i64 (5 : Int), IV.int IntKind.i64 (-9223372036854775808 : Int),
 IV.int IntKind.i64 (9223372036854775807 : Int), IV.int IntKind.i64 (-9223372036854775808 : Int), IV.int IntKind.i64 (9223372036854775807 : Int), IV.int IntKind.i64 (0 : Int), IV.int IntKind.i64 (0 : Int),
 IV.int IntKind.i64 (1 : Int), IV.int IntKind.i64 (1 : Int), IV.int IntKind.i64 (1 : Int), IV.int IntKind.i64 (1 : Int), IV.int IntKind.i64 (0 : Int), IV.int IntKind.i64 (1 : Int)]))
 PT.nil))
 (some
 (IObj.cells
 [IV.int IntKind.i64 (1 : Int), IV.int IntKind.i64 (1 : Int), IV.int IntKind.i64 (1 : Int), IV.int IntKind.i64 (1 : Int), IV.int IntKind.i64 (1 : Int), IV.int IntKind.i64 (1 : Int), IV.int IntKind.i64 (1 : Int),
 IV.int IntKind.i64 (1 : Int)]))
 (PT.node (PT.node PT.nil (some (IObj.map [])) PT.nil)
 (some
 (IObj.cells
 [nds,
 IV.vslice none (0 : Nat) (8 : Nat) (1 : Nat)
 [IV.int IntKind.i64 (1 : Int), IV.int IntKind.i64 (1 : Int), IV.int IntKind.i64 (1 : Int), IV.int IntKind.i64 (1 : Int), IV.int IntKind.i64 (1 : Int), IV.int IntKind.i64 (1 : Int), IV.int IntKind.i64 (1 : Int),
 IV.int IntKind.i64 (1 : Int)],
 IV.map (3 : Nat), IV.nilmap]))
 (PT.node PT.nil (some (IObj.cells [IV.bool false, IV.bool false, IV.bool false, IV.bool false, IV.bool false, IV.bool false, IV.bool false, IV.bool false])) PT.nil)))
 (7 : Nat) =
 Heap.mk
 (PT.node
 (PT.node (PT.node PT.nil (some (IObj.map [])) PT.nil) (some (IObj.cells [r, nlen, nds, IV.hslice (0 : Nat) (0 : Nat) (8 : Nat) (1 : Nat), IV.hslice (5 : Nat) (0 : Nat) (8 : Nat) (2 : Nat)]))
 (PT.node PT.nil
 (some
 (IObj.cells
 [IV.int IntKind.i64 (-9223372036854775808 : Int), IV.int IntKind.i64 (9223372036854775807 : Int), IV.int IntKind.i64 (5 : Int), IV.int IntKind.i64 (5 : Int), IV.int IntKind.i64 (-9223372036854775808 : Int),
 IV.int IntKind.i64 (9223372036854775807 : Int), IV.int IntKind.i64 (-9223372036854775808 : Int), IV.int IntKind.i64 (9223372036854775807 : Int), IV.int IntKind.i64 (0 : Int), IV.int IntKind.i64 (0 : Int),
 IV.int IntKind.i64 (1 : Int), IV.int IntKind.i64 (1 : Int), IV.int IntKind.i64 (1 : Int), IV.int IntKind.i64 (1 : Int), IV.int IntKind.i64 (0 : Int), IV.int IntKind.i64 (1 : Int)]))
 PT.nil))
 (some
 (IObj.cells
 [IV.int IntKind.i64 (1 : Int), IV.int IntKind.i64 (1 : Int), IV.int IntKind.i64 (1 : Int), IV.int IntKind.i64 (1 : Int), IV.int IntKind.i64 (1 : Int), IV.int IntKind.i64 (1 : Int), IV.int IntKind.i64 (1 : Int),
 IV.int IntKind.i64 (1 : Int)]))
 (PT.node (PT.node PT.nil (some (IObj.map [])) PT.nil)
 (some
 (IObj.cells
 [nds,
 IV.vslice none (0 : Nat) (8 : Nat) (1 : Nat)
 [IV.int IntKind.i64 (1 : Int), IV.int IntKind.i64 (1 : Int), IV.int IntKind.i64 (1 : Int), IV.int IntKind.i64 (1 : Int), IV.int IntKind.i64 (1 : Int), IV.int IntKind.i64 (1 : Int), IV.int IntKind.i64 (1 : Int),
 IV.int IntKind.i64 (1 : Int)],
 IV.map (3 : Nat), IV.nilmap]))
 (PT.node PT.nil (some (IObj.cells [IV.bool false, IV.bool false, IV.bool false, IV.bool false, IV.bool false, IV.bool false, IV.bool false, IV.bool false])) PT.nil)))
 (7 : Nat) ∧
 (r = rls ∧
 IV.agg
 [IV.int IntKind.i64 (2 : Int), IV.int IntKind.i64 (3 : Int), IV.int IntKind.i64 (1 : Int), IV.vslice none (0 : Nat) (2 : Nat) (1 : Nat) [IV.int IntKind.i64 (0 : Int), IV.int IntKind.i64 (1 : Int)],
 IV.vslice none (0 : Nat) (0 : Nat) (1 : Nat) []] =
 stA ∧
 b = true ∨
 r = rls ∧
 IV.agg
 [IV.int IntKind.i64 (2 : Int), IV.int IntKind.i64 (3 : Int), IV.int IntKind.i64 (1 : Int), IV.vslice none (0 : Nat) (2 : Nat) (1 : Nat) [IV.int IntKind.i64 (0 : Int), IV.int IntKind.i64 (1 : Int)],
 IV.vslice none (0 : Nat) (0 : Nat) (1 : Nat) []] =
 stB ∧
 b = true ∨
 r = nrl ∧
 IV.agg
 [IV.int IntKind.i64 (2 : Int), IV.int IntKind.i64 (3 : Int), IV.int IntKind.i64 (1 : Int), IV.vslice none (0 : Nat) (2 : Nat) (1 : Nat) [IV.int IntKind.i64 (0 : Int), IV.int IntKind.i64 (1 : Int)],
 IV.vslice none (0 : Nat) (0 : Nat) (1 : Nat) []] =
 stC ∧
 b = true ∨
 r = rls ∧
 IV.agg
 [IV.int IntKind.i64 (2 : Int), IV.int IntKind.i64 (3 : Int), IV.int IntKind.i64 (1 : Int), IV.vslice none (0 : Nat) (2 : Nat) (1 : Nat) [IV.int IntKind.i64 (0 : Int), IV.int IntKind.i64 (1 : Int)],
 IV.vslice none (0 : Nat) (0 : Nat) (1 : Nat) []] =
 stD ∧
 b = false ∨
 r = nrl ∧
 IV.agg
 [IV.int IntKind.i64 (2 : Int), IV.int IntKind.i64 (3 : Int), IV.int IntKind.i64 (1 : Int), IV.vslice none (0 : Nat) (2 : Nat) (1 : Nat) [IV.int IntKind.i64 (0 : Int), IV.int IntKind.i64 (1 : Int)],
 IV.vslice none (0 : Nat) (0 : Nat) (1 : Nat) []] =
 stA ∧
 b = false) ∧
 ∀ (h2 : Heap), Q (IV.bool b) h) := by kernel_rfl
theorem sCSA : ∀ xs h Q, kCSA xs h Q → CallW env 4 xs h Q := by
  intro xs h Q hk
  unfold kCSA at hk
  split at hk
  · rename_i r i l n s
    obtain ⟨⟨rfl, rfl, rfl, rfl, rfl⟩, hk⟩ := hk
    refine dF_run (okStep) (vCSA  h Q) ?_
    exact ⟨⟨rfl, rfl, rfl, rfl⟩, .inl rfl, rfl, rls, true, rfl, .inl ⟨rfl, rfl, rfl⟩, fun h2 => hk⟩
  · exact hk.elim
def cCSA := addC 4 kCSA cStep
theorem okCSA : Sound env cCSA := sound_add sCSA (okStep)

def kCSB (xs : List IV) (h : Heap) (K : IV → Heap → Prop) : Prop := match xs with
  | [r, i, l, n, s] => (r = rls ∧ i = ninv ∧ l = nlen ∧ n = nds ∧ s = stB) ∧ K (.bool true) h
  | _ => False
set_option maxRecDepth 100000 in
theorem vCSB  (h : Heap) (Q : IV → Heap → Prop) : dF (stdS cCSA) env 4 noU noI noI [rls, ninv, nlen, nds, stB] h Q = (
  (Heap.mk PT.nil (0 : Nat) = Heap.mk PT.nil (0 : Nat) ∧
 IV.vslice none (0 : Nat) (0 : Nat) (3 : Nat) [] = ninv ∧
 IV.vslice none (0 : Nat) (0 : Nat) (1 : Nat) [] = nlen ∧
 IV.vslice none (0 : Nat) (8 : Nat) (3 : Nat)
 [IV.int IntKind.i64 (2 : Int), IV.int IntKind.i64 (0 : Int), IV.vslice none (0 : Nat) (0 : Nat) (1 : Nat) [], IV.int IntKind.i64 (1 : Int), IV.int IntKind.i64 (5 : Int), IV.vslice none (0 : Nat) (0 : Nat) (1 : Nat) [],
 IV.int IntKind.i64 (4 : Int), IV.int IntKind.i64 (0 : Int), IV.vslice none (0 : Nat) (2 : Nat) (1 : Nat) [IV.int IntKind.i64 (0 : Int), IV.int IntKind.i64 (1 : Int)], IV.int IntKind.i64 (4 : Int), IV.int IntKind.i64 (0 : Int),
 IV.vslice none (0 : Nat) (2 : Nat) (1 : Nat) [IV.int IntKind.i64 (1 : Int), IV.int IntKind.i64 (0 : Int)], IV.int IntKind.i64 (1 : Int), IV.int IntKind.i64 (0 : Int), IV.vslice none (0 : Nat) (0 : Nat) (1 : Nat) [],
 IV.int IntKind.i64 (16 : Int), IV.int IntKind.i64 (0 : Int), IV.vslice none (0 : Nat) (2 : Nat) (1 : Nat) [IV.int IntKind.i64 (1 : Int), IV.int IntKind.i64 (4 : Int)], IV.int IntKind.i64 (1 : Int),
 IV.int IntKind.i64 (1 : Int), IV.vslice none (0 : Nat) (0 : Nat) (1 : Nat) [], IV.int IntKind.i64 (16 : Int), IV.int IntKind.i64 (0 : Int),
 IV.vslice none (0 : Nat) (2 : Nat) (1 : Nat) [IV.int IntKind.i64 (0 : Int), IV.int IntKind.i64 (4 : Int)]] =
 nds) ∧
 (IV.vslice none (0 : Nat) (2 : Nat) (14 : Nat)
 [IV.str [(116 : UInt8), (117 : UInt8), (114 : UInt8), (110 : UInt8)], IV.int IntKind.i64 (0 : Int), IV.int IntKind.i64 (4 : Int), IV.int IntKind.i64 (0 : Int), IV.int IntKind.i64 (0 : Int),
 IV.vslice none (0 : Nat) (2 : Nat) (5 : Nat)
 [IV.int IntKind.i64 (1 : Int), IV.int IntKind.i64 (0 : Int), IV.int IntKind.i64 (0 : Int), IV.int IntKind.i64 (0 : Int), IV.vslice none (0 : Nat) (0 : Nat) (5 : Nat) [], IV.int IntKind.i64 (2 : Int),
 IV.int IntKind.i64 (0 : Int), IV.int IntKind.i64 (0 : Int), IV.int IntKind.i64 (0 : Int), IV.vslice none (0 : Nat) (0 : Nat) (5 : Nat) []],
 IV.int IntKind.i64 (0 : Int), IV.int IntKind.i64 (4 : Int), IV.int IntKind.i64 (0 : Int), IV.int IntKind.i64 (0 : Int),
 IV.vslice none (0 : Nat) (2 : Nat) (5 : Nat)
 [IV.int IntKind.i64 (2 : Int), IV.int IntKind.i64 (0 : Int), IV.int IntKind.i64 (0 : Int), IV.int IntKind.i64 (0 : Int), IV.vslice none (0 : Nat) (0 : Nat) (5 : Nat) [], IV.int IntKind.i64 (1 : Int),
 IV.int IntKind.i64 (0 : Int), IV.int IntKind.i64 (0 : Int), IV.int IntKind.i64 (0 : Int), IV.vslice none (0 : Nat) (0 : Nat) (5 : Nat) []],
 IV.vslice none (0 : Nat) (0 : Nat) (4 : Nat) [], IV.int IntKind.i64 (2 : Int), IV.int IntKind.i64 (0 : Int), IV.str [(111 : UInt8), (110 : UInt8), (101 : UInt8)], IV.int IntKind.i64 (0 : Int), IV.int IntKind.i64 (16 : Int),
 IV.int IntKind.i64 (0 : Int), IV.int IntKind.i64 (0 : Int),
 IV.vslice none (0 : Nat) (2 : Nat) (5 : Nat)
 [IV.int IntKind.i64 (1 : Int), IV.int IntKind.i64 (0 : Int), IV.int IntKind.i64 (0 : Int), IV.int IntKind.i64 (0 : Int), IV.vslice none (0 : Nat) (0 : Nat) (5 : Nat) [], IV.int IntKind.i64 (0 : Int),
 IV.int IntKind.i64 (1 : Int), IV.int IntKind.i64 (0 : Int), IV.int IntKind.i64 (0 : Int), IV.vslice none (0 : Nat) (0 : Nat) (5 : Nat) []],
 IV.int IntKind.i64 (0 : Int), IV.int IntKind.i64 (1 : Int), IV.int IntKind.i64 (1 : Int), IV.int IntKind.i64 (0 : Int), IV.vslice none (0 : Nat) (0 : Nat) (5 : Nat) [],
 IV.vslice none (0 : Nat) (1 : Nat) (4 : Nat) [IV.int IntKind.i64 (1 : Int), IV.int IntKind.i64 (1 : Int), IV.int IntKind.i64 (0 : Int), IV.int IntKind.i64 (0 : Int)], IV.int IntKind.i64 (1 : Int), IV.int IntKind.i64 (0 : Int)] =
 rls ∨
 IV.vslice none (0 : Nat) (2 : Nat) (14 : Nat)
 [IV.str [(116 : UInt8), (117 : UInt8), (114 : UInt8), (110 : UInt8)], IV.int IntKind.i64 (0 : Int), IV.int IntKind.i64 (4 : Int), IV.int IntKind.i64 (0 : Int), IV.int IntKind.i64 (0 : Int),
 IV.vslice none (0 : Nat) (2 : Nat) (5 : Nat)
 [IV.int IntKind.i64 (1 : Int), IV.int IntKind.i64 (0 : Int), IV.int IntKind.i64 (0 : Int), IV.int IntKind.i64 (0 : Int), IV.vslice none (0 : Nat) (0 : Nat) (5 : Nat) [], IV.int IntKind.i64 (2 : Int),
 IV.int IntKind.i64 (0 : Int), IV.int IntKind.i64 (0 : Int), IV.int IntKind.i64 (0 : Int), IV.vslice none (0 : Nat) (0 : Nat) (5 : Nat) []],
 IV.int IntKind.i64 (0 : Int), IV.int IntKind.i64 (4 : Int), IV.int IntKind.i64 (0 : Int), IV.int IntKind.i64 (0 : Int),
 IV.vslice none (0 : Nat) (2 : Nat) (5 : Nat)
 [IV.int IntKind.i64 (2 : Int), IV.int IntKind.i64 (0 : Int), IV.int IntKind.i64 (0 : Int), IV.int IntKind.i64 (0 : Int), IV.vslice none (0 : Nat) (0 : Nat) (5 : Nat) [], IV.int IntKind.i64 (1 : Int),
 IV.int IntKind.i64 (0 : Int), IV.int IntKind.i64 (0 : Int), IV.int IntKind.i64 (0 : Int), IV.vslice none (0 : Nat) (0 : Nat) (5 : Nat) []],
 IV.vslice none (0 : Nat) (0 : Nat) (4 : Nat) [], IV.int IntKind.i64 (2 : Int), IV.int IntKind.i64 (0 : Int), IV.str [(111 : UInt8), (110 : UInt8), (101 : UInt8)], IV.int IntKind.i64 (0 : Int), IV.int IntKind.i64 (16 : Int),
 IV.int IntKind.i64 (0 : Int), IV.int IntKind.i64 (0 : Int),
 IV.vslice none (0 : Nat) (2 : Nat) (5 : Nat)
 [IV.int IntKind.i64 (1 : Int), IV.int IntKind.i64 (0 : Int), IV.int IntKind.i64 (0 : Int), IV.int IntKind.i64 (0 : Int), IV.vslice none (0 : Nat) (0 : Nat) (5 : Nat) [], IV.int IntKind.i64 (0 : Int),
 IV.int IntKind.i64 (1 : Int), IV.int IntKind.i64 (0 : Int), IV.int IntKind.i64 (0 : Int), IV.vslice none (0 : Nat) (0 : Nat) (5 : Nat) []],
 IV.int IntKind.i64 (0 : Int), IV.int IntKind.i64 (1 : Int), IV.int IntKind.i64 (1 : Int), IV.int IntKind.i64 (0 : Int), IV.vslice none (0 : Nat) (0 : Nat) (5 : Nat) [],
 IV.vslice none (0 : Nat) (1 : Nat) (4 : Nat) [IV.int IntKind.i64 (1 : Int), IV.int IntKind.i64 (1 : Int), IV.int IntKind.i64 (0 : Int), IV.int IntKind.i64 (0 : Int)], IV.int IntKind.i64 (1 : Int), IV.int IntKind.i64 (0 : Int)] =
 nrl) ∧
 IV.ptr (1 : Nat) (0 : Nat) = IV.ptr (1 : Nat) (0 : Nat) ∧
 ∃ (r : IV),
 ∃ (b : Bool),
 Heap.mk
 (PT.node
 (PT.node (PT.node PT.nil (some (IObj.map [])) PT.nil)
 (some
 (IObj.cells
 [IV.vslice none (0 : Nat) (2 : Nat) (14 : Nat)
 [IV.str [(116 : UInt8), (117 : UInt8), (114 : UInt8), (110 : UInt8)], IV.int IntKind.i64 (0 : Int), IV.int IntKind.i64 (4 : Int), IV.int IntKind.i64 (0 : Int), IV.int IntKind.i64 (0 : Int),
 IV.vslice none (0 : Nat) (2 : Nat) (5 : Nat)
 [IV.int IntKind.i64 (1 : Int), IV.int IntKind.i64 (0 : Int), IV.int IntKind.i64 (0 : Int), IV.int IntKind.i64 (0 : Int), IV.vslice none (0 : Nat) (0 : Nat) (5 : Nat) [], IV.int IntKind.i64 (2 : Int),
 IV.int IntKind.i64 (0 : Int), IV.int IntKind.i64 (0 : Int), IV.int IntKind.i64 (0 : Int), IV.vslice none (0 : Nat) (0 : Nat) (5 : Nat) []],
 IV.int IntKind.i64 (0 : Int), IV.int IntKind.i64 (4 : Int), IV.int IntKind.i64 (0 : Int), IV.int IntKind.i64 (0 : Int),
 IV.vslice none (0 : Nat) (2 : Nat) (5 : Nat)
 [IV.int IntKind.i64 (2 : Int), IV.int IntKind.i64 (0 : Int), IV.int IntKind.i64 (0 : Int), IV.int IntKind.i64 (0 : Int), IV.vslice none (0 : Nat) (0 : Nat) (5 : Nat) [], IV.int IntKind.i64 (1 : Int),
 IV.int IntKind.i64 (0 : Int), IV.int IntKind.i64 (0 : Int), IV.int IntKind.i64 (0 : Int), IV.vslice none (0 : Nat) (0 : Nat) (5 : Nat) []],
 IV.vslice none (0 : Nat) (0 : Nat) (4 : Nat) [], IV.int IntKind.i64 (2 : Int), IV.int IntKind.i64 (0 : Int), IV.str [(111 : UInt8), (110 : UInt8), (101 : UInt8)], IV.int IntKind.i64 (0 : Int),
 IV.int IntKind.i64 (16 : Int), IV.int IntKind.i64 (0 : Int), IV.int IntKind.i64 (0 : Int),
 IV.vslice none (0 : Nat) (2 : Nat) (5 : Nat)
 [IV.int IntKind.i64 (1 : Int), IV.int IntKind.i64 (0 : Int), IV.int IntKind.i64 (0 : Int), IV.int IntKind.i64 (0 : Int), IV.vslice none (0 : Nat) (0 : Nat) (5 : Nat) [], IV.int IntKind.i64 (0 : Int),
 IV.int IntKind.i64 (1 : Int), IV.int IntKind.i64 (0 : Int), IV.int IntKind.i64 (0 : Int), IV.vslice none (0 : Nat) (0 : Nat) (5 : Nat) []],
 IV.int IntKind.i64 (0 : Int), IV.int IntKind.i64 (1 : Int), IV.int IntKind.i64 (1 : Int), IV.int IntKind.i64 (0 : Int), IV.vslice none (0 : Nat) (0 : Nat) (5 : Nat) [],
 IV.vslice none (0 : Nat) (1 : Nat) (4 : Nat) [IV.int IntKind.i64 (1 : Int), IV.int IntKind.i64 (1 : Int), IV.int IntKind.i64 (0 : Int), IV.int IntKind.i64 (0 : Int)], IV.int IntKind.i64 (1 : Int),
 IV.int IntKind.i64 (0 : Int)],
 nlen, nds, IV.hslice (0 : Nat) (0 : Nat) (8 : Nat) (1 : Nat), IV.hslice (5 : Nat) (0 : Nat) (8 : Nat) (2 : Nat)]))
 (PT.node PT.nil
 (some
 (IObj.cells
 [IV.int IntKind.i64 (-9223372036854775808 : Int), IV.int IntKind.i64 (9223372036854775807 : Int), IV.int IntKind.i64 (5 : Int), IV.int IntKind.i64 (5 : Int), IV.int IntKind.i64 (-9223372036854775808 : Int),
 IV.int IntKind.i64 (9223372036854775807 : Int), IV.int IntKind.i64 (-9223372036854775808 : Int), IV.int IntKind.i64 (9223372036854775807 : Int), IV.int IntKind.i64 (0 : Int), IV.int IntKind.i64 (0 : Int),
 IV.int IntKind.i64 (1 : Int), IV.int IntKind.i64 (1 : Int), IV.int IntKind.i64 (1 : Int), IV.int IntKind.i64 (1 : Int), IV.int IntKind.i64 (0 : Int), IV.int IntKind.i64 (1 : Int)]))
 PT.nil))
 (some
 (IObj.cells
 [IV.int IntKind.i64 (1 : Int), IV.int IntKind.i64 (1 : Int), IV.int IntKind.i64 (1 : Int), IV.int IntKind.i64 (1 : Int), IV.int IntKind.i64 (1 : Int), IV.int IntKind.i64 (1 : Int), IV.int IntKind.i64 (1 : Int),
 IV.int IntKind.i64 (1 : Int)]))
 (PT.node (PT.node PT.nil (some (IObj.map [])) PT.nil)
 (some
 (IObj.cells
 [nds,
 IV.vslice none (0 : Nat) (8 : Nat) (1 : Nat)
 [IV.int IntKind.i64 (1 : Int), IV.int IntKind.i64 (1 : Int), IV.int IntKind.i64 (1 : Int), IV.int IntKind.i64 (1 : Int), IV.int IntKind.i64 (1 : Int), IV.int IntKind.i64 (1 : Int), IV.int IntKind.i64 (1 : Int),
 IV.int IntKind.i64 (1 : Int)],
 IV.map (3 : Nat), IV.nilmap]))
 (PT.node PT.nil (some (IObj.cells [IV.bool false, IV.bool false, IV.bool false, IV.bool false, IV.bool false, IV.bool false, IV.bool false, IV.bool false])) PT.nil)))
 (7 : Nat) =
 Heap.mk
 (PT.node
 (PT.node (PT.node PT.nil (some (IObj.map [])) PT.nil) (some (IObj.cells [r, nlen, nds, IV.hslice (0 : Nat) (0 : Nat) (8 : Nat) (1 : Nat), IV.hslice (5 : Nat) (0 : Nat) (8 : Nat) (2 : Nat)]))
 (PT.node PT.nil
 (some
 (IObj.cells
 [IV.int IntKind.i64 (-9223372036854775808 : Int), IV.int IntKind.i64 (9223372036854775807 : Int), IV.int IntKind.i64 (5 : Int), IV.int IntKind.i64 (5 : Int), IV.int IntKind.i64 (-9223372036854775808 : Int),
 IV.int IntKind.i64 (9223372036854775807 : Int), IV.int IntKind.i64 (-9223372036854775808 : Int), IV.int IntKind.i64 (9223372036854775807 : Int), IV.int IntKind.i64 (0 : Int), IV.int IntKind.i64 (0 : Int),
 IV.int IntKind.i64 (1 : Int), IV.int IntKind.i64 (1 : Int), IV.int IntKind.i64 (1 : Int), IV.int IntKind.i64 (1 : Int), IV.int IntKind.i64 (0 : Int), IV.int IntKind.i64 (1 : Int)]))
 PT.nil))
 (some
 (IObj.cells
 [IV.int IntKind.i64 (1 : Int), IV.int IntKind.i64 (1 : Int), IV.int IntKind.i64 (1 : Int), IV.int IntKind.i64 (1 : Int), IV.int IntKind.i64 (1 : Int), IV.int IntKind.i64 (1 : Int), IV.int IntKind.i64 (1 : Int),
 IV.int IntKind.i64 (1 : Int)]))
 (PT.node (PT.node PT.nil (some (IObj.map [])) PT.nil)
 (some
 (IObj.cells
 [nds,
 IV.vslice none (0 : Nat) (8 : Nat) (1 : Nat)
 [IV.int IntKind.i64 (1 : Int), IV.int IntKind.i64 (1 : Int), IV.int IntKind.i64 (1 : Int), IV.int IntKind.i64 (1 : Int), IV.int IntKind.i64 (1 : Int), IV.int IntKind.i64 (1 : Int), IV.int IntKind.i64 (1 : Int),
 IV.int IntKind.i64 (1 : Int)],
 IV.map (3 : Nat), IV.nilmap]))
 (PT.node PT.nil (some (IObj.cells [IV.bool false, IV.bool false, IV.bool false, IV.bool false, IV.bool false, IV.bool false, IV.bool false, IV.bool false])) PT.nil)))
 (7 : Nat) ∧
 (r = rls ∧
 IV.agg
 [IV.int IntKind.i64 (5 : Int), IV.int IntKind.i64 (6 : Int), IV.int IntKind.i64 (2 : Int), IV.vslice none (0 : Nat) (1 : Nat) (1 : Nat) [IV.int IntKind.i64 (1 : Int)],
 IV.vslice none (0 : Nat) (0 : Nat) (1 : Nat) []] =
 stA ∧
 b = true ∨
 r = rls ∧
 IV.agg
 [IV.int IntKind.i64 (5 : Int), IV.int IntKind.i64 (6 : Int), IV.int IntKind.i64 (2 : Int), IV.vslice none (0 : Nat) (1 : Nat) (1 : Nat) [IV.int IntKind.i64 (1 : Int)],
 IV.vslice none (0 : Nat) (0 : Nat) (1 : Nat) []] =
 stB ∧
 b = true ∨
 r = nrl ∧
 IV.agg
 [IV.int IntKind.i64 (5 : Int), IV.int IntKind.i64 (6 : Int), IV.int IntKind.i64 (2 : Int), IV.vslice none (0 : Nat) (1 : Nat) (1 : Nat) [IV.int IntKind.i64 (1 : Int)],
 IV.vslice none (0 : Nat) (0 : Nat) (1 : Nat) []] =
 stC ∧
 b = true ∨
 r = rls ∧
 IV.agg
 [IV.int IntKind.i64 (5 : Int), IV.int IntKind.i64 (6 : Int), IV.int IntKind.i64 (2 : Int), IV.vslice none (0 : Nat) (1 : Nat) (1 : Nat) [IV.int IntKind.i64 (1 : Int)],
 IV.vslice none (0 : Nat) (0 : Nat) (1 : Nat) []] =
 stD ∧
 b = false ∨
 r = nrl ∧
 IV.agg
 [IV.int IntKind.i64 (5 : Int), IV.int IntKind.i64 (6 : Int), IV.int IntKind.i64 (2 : Int), IV.vslice none (0 : Nat) (1 : Nat) (1 : Nat) [IV.int IntKind.i64 (1 : Int)],
 IV.vslice none (0 : Nat) (0 : Nat) (1 : Nat) []] =
 stA ∧
 b = false) ∧
 ∀ (h2 : Heap), Q (IV.bool b) h) := by kernel_rfl
theorem sCSB : ∀ xs h Q, kCSB xs h Q → CallW env 4 xs h Q := by
  intro xs h Q hk
  unfold kCSB at hk
  split at hk
  · rename_i r i l n s
    obtain ⟨⟨rfl, rfl, rfl, rfl, rfl⟩, hk⟩ := hk
    refine dF_run (okCSA) (vCSB  h Q) ?_
    exact ⟨⟨rfl, rfl, rfl, rfl⟩, .inl rfl, rfl, rls, true, rfl, .inr (.inl ⟨rfl, rfl, rfl⟩), fun h2 => hk⟩
  · exact hk.elim
def cCSB := addC 4 kCSB cCSA
theorem okCSB : Sound env cCSB := sound_add sCSB (okCSA)

def kCSC (xs : List IV) (h : Heap) (K : IV → Heap → Prop) : Prop := match xs with
  | [r, i, l, n, s] => (r = nrl ∧ i = ninv ∧ l = nlen ∧ n = nds ∧ s = stC) ∧ K (.bool true) h
  | _ => False
set_option maxRecDepth 100000 in
theorem vCSC  (h : Heap) (Q : IV → Heap → Prop) : dF (stdS cCSB) env 4 noU noI noI [nrl, ninv, nlen, nds, stC] h Q = (
  (Heap.mk PT.nil (0 : Nat) = Heap.mk PT.nil (0 : Nat) ∧
 IV.vslice none (0 : Nat) (0 : Nat) (3 : Nat) [] = ninv ∧
 IV.vslice none (0 : Nat) (0 : Nat) (1 : Nat) [] = nlen ∧
 IV.vslice none (0 : Nat) (8 : Nat) (3 : Nat)
 [IV.int IntKind.i64 (2 : Int), IV.int IntKind.i64 (0 : Int), IV.vslice none (0 : Nat) (0 : Nat) (1 : Nat) [], IV.int IntKind.i64 (1 : Int), IV.int IntKind.i64 (5 : Int), IV.vslice none (0 : Nat) (0 : Nat) (1 : Nat) [],
 IV.int IntKind.i64 (4 : Int), IV.int IntKind.i64 (0 : Int), IV.vslice none (0 : Nat) (2 : Nat) (1 : Nat) [IV.int IntKind.i64 (0 : Int), IV.int IntKind.i64 (1 : Int)], IV.int IntKind.i64 (4 : Int), IV.int IntKind.i64 (0 : Int),
 IV.vslice none (0 : Nat) (2 : Nat) (1 : Nat) [IV.int IntKind.i64 (1 : Int), IV.int IntKind.i64 (0 : Int)], IV.int IntKind.i64 (1 : Int), IV.int IntKind.i64 (0 : Int), IV.vslice none (0 : Nat) (0 : Nat) (1 : Nat) [],
 IV.int IntKind.i64 (16 : Int), IV.int IntKind.i64 (0 : Int), IV.vslice none (0 : Nat) (2 : Nat) (1 : Nat) [IV.int IntKind.i64 (1 : Int), IV.int IntKind.i64 (4 : Int)], IV.int IntKind.i64 (1 : Int),
 IV.int IntKind.i64 (1 : Int), IV.vslice none (0 : Nat) (0 : Nat) (1 : Nat) [], IV.int IntKind.i64 (16 : Int), IV.int IntKind.i64 (0 : Int),
 IV.vslice none (0 : Nat) (2 : Nat) (1 : Nat) [IV.int IntKind.i64 (0 : Int), IV.int IntKind.i64 (4 : Int)]] =
 nds) ∧
 (IV.vslice none (0 : Nat) (0 : Nat) (14 : Nat) [] = rls ∨ IV.vslice none (0 : Nat) (0 : Nat) (14 : Nat) [] = nrl) ∧
 IV.ptr (1 : Nat) (0 : Nat) = IV.ptr (1 : Nat) (0 : Nat) ∧
 ∃ (r : IV),
 ∃ (b : Bool),
 Heap.mk
 (PT.node
 (PT.node (PT.node PT.nil (some (IObj.map [])) PT.nil)
 (some (IObj.cells [IV.vslice none (0 : Nat) (0 : Nat) (14 : Nat) [], nlen, nds, IV.hslice (0 : Nat) (0 : Nat) (8 : Nat) (1 : Nat), IV.hslice (5 : Nat) (0 : Nat) (8 : Nat) (2 : Nat)]))
 (PT.node PT.nil
 (some
 (IObj.cells
 [IV.int IntKind.i64 (-9223372036854775808 : Int), IV.int IntKind.i64 (9223372036854775807 : Int), IV.int IntKind.i64 (5 : Int), IV.int IntKind.i64 (5 : Int), IV.int IntKind.i64 (-9223372036854775808 : Int),
 IV.int IntKind.i64 (9223372036854775807 : Int), IV.int IntKind.i64 (-9223372036854775808 : Int), IV.int IntKind.i64 (9223372036854775807 : Int), IV.int IntKind.i64 (0 : Int), IV.int IntKind.i64 (0 : Int),
 IV.int IntKind.i64 (1 : Int), IV.int IntKind.i64 (1 : Int), IV.int IntKind.i64 (1 : Int), IV.int IntKind.i64 (1 : Int), IV.int IntKind.i64 (0 : Int), IV.int IntKind.i64 (1 : Int)]))
 PT.nil))
 (some
 (IObj.cells
 [IV.int IntKind.i64 (1 : Int), IV.int IntKind.i64 (1 : Int), IV.int IntKind.i64 (1 : Int), IV.int IntKind.i64 (1 : Int), IV.int IntKind.i64 (1 : Int), IV.int IntKind.i64 (1 : Int), IV.int IntKind.i64 (1 : Int),
 IV.int IntKind.i64 (1 : Int)]))
 (PT.node (PT.node PT.nil (some (IObj.map [])) PT.nil)
 (some
 (IObj.cells
 [nds,
 IV.vslice none (0 : Nat) (8 : Nat) (1 : Nat)
 [IV.int IntKind.i64 (1 : Int), IV.int IntKind.i64 (1 : Int), IV.int IntKind.i64 (1 : Int), IV.int IntKind.i64 (1 : Int), IV.int IntKind.i64 (1 : Int), IV.int IntKind.i64 (1 : Int), IV.int IntKind.i64 (1 : Int),
 IV.int IntKind.i64 (1 : Int)],
 IV.map (3 : Nat), IV.nilmap]))
 (PT.node PT.nil (some (IObj.cells [IV.bool false, IV.bool false, IV.bool false, IV.bool false, IV.bool false, IV.bool false, IV.bool false, IV.bool false])) PT.nil)))
 (7 : Nat) =
 Heap.mk
 (PT.node
 (PT.node (PT.node PT.nil (some (IObj.map [])) PT.nil) (some (IObj.cells [r, nlen, nds, IV.hslice (0 : Nat) (0 : Nat) (8 : Nat) (1 : Nat), IV.hslice (5 : Nat) (0 : Nat) (8 : Nat) (2 : Nat)]))
 (PT.node PT.nil
 (some
 (IObj.cells
 [IV.int IntKind.i64 (-9223372036854775808 : Int), IV.int IntKind.i64 (9223372036854775807 : Int), IV.int IntKind.i64 (5 : Int), IV.int IntKind.i64 (5 : Int), IV.int IntKind.i64 (-9223372036854775808 : Int),
 IV.int IntKind.i64 (9223372036854775807 : Int), IV.int IntKind.i64 (-9223372036854775808 : Int), IV.int IntKind.i64 (9223372036854775807 : Int), IV.int IntKind.i64 (0 : Int), IV.int IntKind.i64 (0 : Int),
 IV.int IntKind.i64 (1 : Int), IV.int IntKind.i64 (1 : Int), IV.int IntKind.i64 (1 : Int), IV.int IntKind.i64 (1 : Int), IV.int IntKind.i64 (0 : Int), IV.int IntKind.i64 (1 : Int)]))
 PT.nil))
 (some
 (IObj.cells
 [IV.int IntKind.i64 (1 : Int), IV.int IntKind.i64 (1 : Int), IV.int IntKind.i64 (1 : Int), IV.int IntKind.i64 (1 : Int), IV.int IntKind.i64 (1 : Int), IV.int IntKind.i64 (1 : Int), IV.int IntKind.i64 (1 : Int),
 IV.int IntKind.i64 (1 : Int)]))
 (PT.node (PT.node PT.nil (some (IObj.map [])) PT.nil)
 (some
 (IObj.cells
 [nds,
 IV.vslice none (0 : Nat) (8 : Nat) (1 : Nat)
 [IV.int IntKind.i64 (1 : Int), IV.int IntKind.i64 (1 : Int), IV.int IntKind.i64 (1 : Int), IV.int IntKind.i64 (1 : Int), IV.int IntKind.i64 (1 : Int), IV.int IntKind.i64 (1 : Int), IV.int IntKind.i64 (1 : Int),
 IV.int IntKind.i64 (1 : Int)],
 IV.map (3 : Nat), IV.nilmap]))
 (PT.node PT.nil (some (IObj.cells [IV.bool false, IV.bool false, IV.bool false, IV.bool false, IV.bool false, IV.bool false, IV.bool false, IV.bool false])) PT.nil)))
 (7 : Nat) ∧
 (r = rls ∧ IV.agg [IV.int IntKind.i64 (5 : Int), IV.int IntKind.i64 (6 : Int), IV.int IntKind.i64 (-1 : Int), IV.vslice none (0 : Nat) (0 : Nat) (1 : Nat) [], IV.vslice none (0 : Nat) (0 : Nat) (1 : Nat) []] = stA ∧ b = true ∨
 r = rls ∧
 IV.agg [IV.int IntKind.i64 (5 : Int), IV.int IntKind.i64 (6 : Int), IV.int IntKind.i64 (-1 : Int), IV.vslice none (0 : Nat) (0 : Nat) (1 : Nat) [], IV.vslice none (0 : Nat) (0 : Nat) (1 : Nat) []] = stB ∧ b = true ∨
 r = nrl ∧
 IV.agg [IV.int IntKind.i64 (5 : Int), IV.int IntKind.i64 (6 : Int), IV.int IntKind.i64 (-1 : Int), IV.vslice none (0 : Nat) (0 : Nat) (1 : Nat) [], IV.vslice none (0 : Nat) (0 : Nat) (1 : Nat) []] = stC ∧ b = true ∨
 r = rls ∧
 IV.agg [IV.int IntKind.i64 (5 : Int), IV.int IntKind.i64 (6 : Int), IV.int IntKind.i64 (-1 : Int), IV.vslice none (0 : Nat) (0 : Nat) (1 : Nat) [], IV.vslice none (0 : Nat) (0 : Nat) (1 : Nat) []] = stD ∧ b = false ∨
 r = nrl ∧
 IV.agg [IV.int IntKind.i64 (5 : Int), IV.int IntKind.i64 (6 : Int), IV.int IntKind.i64 (-1 : Int), IV.vslice none (0 : Nat) (0 : Nat) (1 : Nat) [], IV.vslice none (0 : Nat) (0 : Nat) (1 : Nat) []] = stA ∧
 b = false) ∧
 ∀ (h2 : Heap), Q (IV.bool b) h) := by kernel_rfl
theorem sCSC : ∀ xs h Q, kCSC xs h Q → CallW env 4 xs h Q := by
  intro xs h Q hk
  unfold kCSC at hk
  split at hk
  · rename_i r i l n s
    obtain ⟨⟨rfl, rfl, rfl, rfl, rfl⟩, hk⟩ := hk
    refine dF_run (okCSB) (vCSC  h Q) ?_
    exact ⟨⟨rfl, rfl, rfl, rfl⟩, .inr rfl, rfl, nrl, true, rfl, .inr (.inr (.inl ⟨rfl, rfl, rfl⟩)), fun h2 => hk⟩
  · exact hk.elim
def cCSC := addC 4 kCSC cCSB
theorem okCSC : Sound env cCSC := sound_add sCSC (okCSB)

def kCSD (xs : List IV) (h : Heap) (K : IV → Heap → Prop) : Prop := match xs with
  | [r, i, l, n, s] => (r = rls ∧ i = ninv ∧ l = nlen ∧ n = nds ∧ s = stD) ∧ K (.bool false) h
  | _ => False
set_option maxRecDepth 100000 in
theorem vCSD  (h : Heap) (Q : IV → Heap → Prop) : dF (stdS cCSC) env 4 noU noI noI [rls, ninv, nlen, nds, stD] h Q = (
  (Heap.mk PT.nil (0 : Nat) = Heap.mk PT.nil (0 : Nat) ∧
 IV.vslice none (0 : Nat) (0 : Nat) (3 : Nat) [] = ninv ∧
 IV.vslice none (0 : Nat) (0 : Nat) (1 : Nat) [] = nlen ∧
 IV.vslice none (0 : Nat) (8 : Nat) (3 : Nat)
 [IV.int IntKind.i64 (2 : Int), IV.int IntKind.i64 (0 : Int), IV.vslice none (0 : Nat) (0 : Nat) (1 : Nat) [], IV.int IntKind.i64 (1 : Int), IV.int IntKind.i64 (5 : Int), IV.vslice none (0 : Nat) (0 : Nat) (1 : Nat) [],
 IV.int IntKind.i64 (4 : Int), IV.int IntKind.i64 (0 : Int), IV.vslice none (0 : Nat) (2 : Nat) (1 : Nat) [IV.int IntKind.i64 (0 : Int), IV.int IntKind.i64 (1 : Int)], IV.int IntKind.i64 (4 : Int), IV.int IntKind.i64 (0 : Int),
 IV.vslice none (0 : Nat) (2 : Nat) (1 : Nat) [IV.int IntKind.i64 (1 : Int), IV.int IntKind.i64 (0 : Int)], IV.int IntKind.i64 (1 : Int), IV.int IntKind.i64 (0 : Int), IV.vslice none (0 : Nat) (0 : Nat) (1 : Nat) [],
 IV.int IntKind.i64 (16 : Int), IV.int IntKind.i64 (0 : Int), IV.vslice none (0 : Nat) (2 : Nat) (1 : Nat) [IV.int IntKind.i64 (1 : Int), IV.int IntKind.i64 (4 : Int)], IV.int IntKind.i64 (1 : Int),
 IV.int IntKind.i64 (1 : Int), IV.vslice none (0 : Nat) (0 : Nat) (1 : Nat) [], IV.int IntKind.i64 (16 : Int), IV.int IntKind.i64 (0 : Int),
 IV.vslice none (0 : Nat) (2 : Nat) (1 : Nat) [IV.int IntKind.i64 (0 : Int), IV.int IntKind.i64 (4 : Int)]] =
 nds) ∧
 (IV.vslice none (0 : Nat) (2 : Nat) (14 : Nat)
 [IV.str [(116 : UInt8), (117 : UInt8), (114 : UInt8), (110 : UInt8)], IV.int IntKind.i64 (0 : Int), IV.int IntKind.i64 (4 : Int), IV.int IntKind.i64 (0 : Int), IV.int IntKind.i64 (0 : Int),
 IV.vslice none (0 : Nat) (2 : Nat) (5 : Nat)
 [IV.int IntKind.i64 (1 : Int), IV.int IntKind.i64 (0 : Int), IV.int IntKind.i64 (0 : Int), IV.int IntKind.i64 (0 : Int), IV.vslice none (0 : Nat) (0 : Nat) (5 : Nat) [], IV.int IntKind.i64 (2 : Int),
 IV.int IntKind.i64 (0 : Int), IV.int IntKind.i64 (0 : Int), IV.int IntKind.i64 (0 : Int), IV.vslice none (0 : Nat) (0 : Nat) (5 : Nat) []],
 IV.int IntKind.i64 (0 : Int), IV.int IntKind.i64 (4 : Int), IV.int IntKind.i64 (0 : Int), IV.int IntKind.i64 (0 : Int),
 IV.vslice none (0 : Nat) (2 : Nat) (5 : Nat)
 [IV.int IntKind.i64 (2 : Int), IV.int IntKind.i64 (0 : Int), IV.int IntKind.i64 (0 : Int), IV.int IntKind.i64 (0 : Int), IV.vslice none (0 : Nat) (0 : Nat) (5 : Nat) [], IV.int IntKind.i64 (1 : Int),
 IV.int IntKind.i64 (0 : Int), IV.int IntKind.i64 (0 : Int), IV.int IntKind.i64 (0 : Int), IV.vslice none (0 : Nat) (0 : Nat) (5 : Nat) []],
 IV.vslice none (0 : Nat) (0 : Nat) (4 : Nat) [], IV.int IntKind.i64 (2 : Int), IV.int IntKind.i64 (0 : Int), IV.str [(111 : UInt8), (110 : UInt8), (101 : UInt8)], IV.int IntKind.i64 (0 : Int), IV.int IntKind.i64 (16 : Int),
 IV.int IntKind.i64 (0 : Int), IV.int IntKind.i64 (0 : Int),
 IV.vslice none (0 : Nat) (2 : Nat) (5 : Nat)
 [IV.int IntKind.i64 (1 : Int), IV.int IntKind.i64 (0 : Int), IV.int IntKind.i64 (0 : Int), IV.int IntKind.i64 (0 : Int), IV.vslice none (0 : Nat) (0 : Nat) (5 : Nat) [], IV.int IntKind.i64 (0 : Int),
 IV.int IntKind.i64 (1 : Int), IV.int IntKind.i64 (0 : Int), IV.int IntKind.i64 (0 : Int), IV.vslice none (0 : Nat) (0 : Nat) (5 : Nat) []],
 IV.int IntKind.i64 (0 : Int), IV.int IntKind.i64 (1 : Int), IV.int IntKind.i64 (1 : Int), IV.int IntKind.i64 (0 : Int), IV.vslice none (0 : Nat) (0 : Nat) (5 : Nat) [],
 IV.vslice none (0 : Nat) (1 : Nat) (4 : Nat) [IV.int IntKind.i64 (1 : Int), IV.int IntKind.i64 (1 : Int), IV.int IntKind.i64 (0 : Int), IV.int IntKind.i64 (0 : Int)], IV.int IntKind.i64 (1 : Int), IV.int IntKind.i64 (0 : Int)] =
 rls ∨
 IV.vslice none (0 : Nat) (2 : Nat) (14 : Nat)
 [IV.str [(116 : UInt8), (117 : UInt8), (114 : UInt8), (110 : UInt8)], IV.int IntKind.i64 (0 : Int), IV.int IntKind.i64 (4 : Int), IV.int IntKind.i64 (0 : Int), IV.int IntKind.i64 (0 : Int),
 IV.vslice none (0 : Nat) (2 : Nat) (5 : Nat)
 [IV.int IntKind.i64 (1 : Int), IV.int IntKind.i64 (0 : Int), IV.int IntKind.i64 (0 : Int), IV.int IntKind.i64 (0 : Int), IV.vslice none (0 : Nat) (0 : Nat) (5 : Nat) [], IV.int IntKind.i64 (2 : Int),
 IV.int IntKind.i64 (0 : Int), IV.int IntKind.i64 (0 : Int), IV.int IntKind.i64 (0 : Int), IV.vslice none (0 : Nat) (0 : Nat) (5 : Nat) []],
 IV.int IntKind.i64 (0 : Int), IV.int IntKind.i64 (4 : Int), IV.int IntKind.i64 (0 : Int), IV.int IntKind.i64 (0 : Int),
 IV.vslice none (0 : Nat) (2 : Nat) (5 : Nat)
 [IV.int IntKind.i64 (2 : Int), IV.int IntKind.i64 (0 : Int), IV.int IntKind.i64 (0 : Int), IV.int IntKind.i64 (0 : Int), IV.vslice none (0 : Nat) (0 : Nat) (5 : Nat) [], IV.int IntKind.i64 (1 : Int),
 IV.int IntKind.i64 (0 : Int), IV.int IntKind.i64 (0 : Int), IV.int IntKind.i64 (0 : Int), IV.vslice none (0 : Nat) (0 : Nat) (5 : Nat) []],
 IV.vslice none (0 : Nat) (0 : Nat) (4 : Nat) [], IV.int IntKind.i64 (2 : Int), IV.int IntKind.i64 (0 : Int), IV.str [(111 : UInt8), (110 : UInt8), (101 : UInt8)], IV.int IntKind.i64 (0 : Int), IV.int IntKind.i64 (16 : Int),
 IV.int IntKind.i64 (0 : Int), IV.int IntKind.i64 (0 : Int),
 IV.vslice none (0 : Nat) (2 : Nat) (5 : Nat)
 [IV.int IntKind.i64 (1 : Int), IV.int IntKind.i64 (0 : Int), IV.int IntKind.i64 (0 : Int), IV.int IntKind.i64 (0 : Int), IV.vslice none (0 : Nat) (0 : Nat) (5 : Nat) [], IV.int IntKind.i64 (0 : Int),
 IV.int IntKind.i64 (1 : Int), IV.int IntKind.i64 (0 : Int), IV.int IntKind.i64 (0 : Int), IV.vslice none (0 : Nat) (0 : Nat) (5 : Nat) []],
 IV.int IntKind.i64 (0 : Int), IV.int IntKind.i64 (1 : Int), IV.int IntKind.i64 (1 : Int), IV.int IntKind.i64 (0 : Int), IV.vslice none (0 : Nat) (0 : Nat) (5 : Nat) [],
 IV.vslice none (0 : Nat) (1 : Nat) (4 : Nat) [IV.int IntKind.i64 (1 : Int), IV.int IntKind.i64 (1 : Int), IV.int IntKind.i64 (0 : Int), IV.int IntKind.i64 (0 : Int)], IV.int IntKind.i64 (1 : Int), IV.int IntKind.i64 (0 : Int)] =
 nrl) ∧
 IV.ptr (1 : Nat) (0 : Nat) = IV.ptr (1 : Nat) (0 : Nat) ∧
 ∃ (r : IV),
 ∃ (b : Bool),
 Heap.mk
 (PT.node
 (PT.node (PT.node PT.nil (some (IObj.map [])) PT.nil)
 (some
 (IObj.cells
 [IV.vslice none (0 : Nat) (2 : Nat) (14 : Nat)
 [IV.str [(116 : UInt8), (117 : UInt8), (114 : UInt8), (110 : UInt8)], IV.int IntKind.i64 (0 : Int), IV.int IntKind.i64 (4 : Int), IV.int IntKind.i64 (0 : Int), IV.int IntKind.i64 (0 : Int),
 IV.vslice none (0 : Nat) (2 : Nat) (5 : Nat)
 [IV.int IntKind.i64 (1 : Int), IV.int IntKind.i64 (0 : Int), IV.int IntKind.i64 (0 : Int), IV.int IntKind.i64 (0 : Int), IV.vslice none (0 : Nat) (0 : Nat) (5 : Nat) [], IV.int IntKind.i64 (2 : Int),
 IV.int IntKind.i64 (0 : Int), IV.int IntKind.i64 (0 : Int), IV.int IntKind.i64 (0 : Int), IV.vslice none (0 : Nat) (0 : Nat) (5 : Nat) []],
 IV.int IntKind.i64 (0 : Int), IV.int IntKind.i64 (4 : Int), IV.int IntKind.i64 (0 : Int), IV.int IntKind.i64 (0 : Int),
 IV.vslice none (0 : Nat) (2 : Nat) (5 : Nat)
 [IV.int IntKind.i64 (2 : Int), IV.int IntKind.i64 (0 : Int), IV.int IntKind.i64 (0 : Int), IV.int IntKind.i64 (0 : Int), IV.vslice none (0 : Nat) (0 : Nat) (5 : Nat) [], IV.int IntKind.i64 (1 : Int),
 IV.int IntKind.i64 (0 : Int), IV.int IntKind.i64 (0 : Int), IV.int IntKind.i64 (0 : Int), IV.vslice none (0 : Nat) (0 : Nat) (5 : Nat) []],
 IV.vslice none (0 : Nat) (0 : Nat) (4 : Nat) [], IV.int IntKind.i64 (2 : Int), IV.int IntKind.i64 (0 : Int), IV.str [(111 : UInt8), (110 : UInt8), (101 : UInt8)], IV.int IntKind.i64 (0 : Int),
 IV.int IntKind.i64 (16 : Int), IV.int IntKind.i64 (0 : Int), IV.int IntKind.i64 (0 : Int),
 IV.vslice none (0 : Nat) (2 : Nat) (5 : Nat)
 [IV.int IntKind.i64 (1 : Int), IV.int IntKind.i64 (0 : Int), IV.int IntKind.i64 (0 : Int), IV.int IntKind.i64 (0 : Int), IV.vslice none (0 : Nat) (0 : Nat) (5 : Nat) [], IV.int IntKind.i64 (0 : Int),
 IV.int IntKind.i64 (1 : Int), IV.int IntKind.i64 (0 : Int), IV.int IntKind.i64 (0 : Int), IV.vslice none (0 : Nat) (0 : Nat) (5 : Nat) []],
 IV.int IntKind.i64 (0 : Int), IV.int IntKind.i64 (1 : Int), IV.int IntKind.i64 (1 : Int), IV.int IntKind.i64 (0 : Int), IV.vslice none (0 : Nat) (0 : Nat) (5 : Nat) [],
 IV.vslice none (0 : Nat) (1 : Nat) (4 : Nat) [IV.int IntKind.i64 (1 : Int), IV.int IntKind.i64 (1 : Int), IV.int IntKind.i64 (0 : Int), IV.int IntKind.i64 (0 : Int)], IV.int IntKind.i64 (1 : Int),
 IV.int IntKind.i64 (0 : Int)],
 nlen, nds, IV.hslice (0 : Nat) (0 : Nat) (8 : Nat) (1 : Nat), IV.hslice (5 : Nat) (0 : Nat) (8 : Nat) (2 : Nat)]))
 (PT.node PT.nil
 (some
 (IObj.cells
 [IV.int IntKind.i64 (-9223372036854775808 : Int), IV.int IntKind.i64 (9223372036854775807 : Int), IV.int IntKind.i64 (5 : Int), IV.int IntKind.i64 (5 : Int), IV.int IntKind.i64 (-9223372036854775808 : Int),
 IV.int IntKind.i64 (9223372036854775807 : Int), IV.int IntKind.i64 (-9223372036854775808 : Int), IV.int IntKind.i64 (9223372036854775807 : Int), IV.int IntKind.i64 (0 : Int), IV.int IntKind.i64 (0 : Int),
 IV.int IntKind.i64 (1 : Int), IV.int IntKind.i64 (1 : Int), IV.int IntKind.i64 (1 : Int), IV.int IntKind.i64 (1 : Int), IV.int IntKind.i64 (0 : Int), IV.int IntKind.i64 (1 : Int)]))
 PT.nil))
 (some
 (IObj.cells
 [IV.int IntKind.i64 (1 : Int), IV.int IntKind.i64 (1 : Int), IV.int IntKind.i64 (1 : Int), IV.int IntKind.i64 (1 : Int), IV.int IntKind.i64 (1 : Int), IV.int IntKind.i64 (1 : Int), IV.int IntKind.i64 (1 : Int),
 IV.int IntKind.i64 (1 : Int)]))
 (PT.node (PT.node PT.nil (some (IObj.map [])) PT.nil)
 (some
 (IObj.cells
 [nds,
 IV.vslice none (0 : Nat) (8 : Nat) (1 : Nat)
 [IV.int IntKind.i64 (1 : Int), IV.int IntKind.i64 (1 : Int), IV.int IntKind.i64 (1 : Int), IV.int IntKind.i64 (1 : Int), IV.int IntKind.i64 (1 : Int), IV.int IntKind.i64 (1 : Int), IV.int IntKind.i64 (1 : Int),
 IV.int IntKind.i64 (1 : Int)],
 IV.map (3 : Nat), IV.nilmap]))
 (PT.node PT.nil (some (IObj.cells [IV.bool false, IV.bool false, IV.bool false, IV.bool false, IV.bool false, IV.bool false, IV.bool false, IV.bool false])) PT.nil)))
 (7 : Nat) =
 Heap.mk
 (PT.node
 (PT.node (PT.node PT.nil (some (IObj.map [])) PT.nil) (some (IObj.cells [r, nlen, nds, IV.hslice (0 : Nat) (0 : Nat) (8 : Nat) (1 : Nat), IV.hslice (5 : Nat) (0 : Nat) (8 : Nat) (2 : Nat)]))
 (PT.node PT.nil
 (some
 (IObj.cells
 [IV.int IntKind.i64 (-9223372036854775808 : Int), IV.int IntKind.i64 (9223372036854775807 : Int), IV.int IntKind.i64 (5 : Int), IV.int IntKind.i64 (5 : Int), IV.int IntKind.i64 (-9223372036854775808 : Int),
 IV.int IntKind.i64 (9223372036854775807 : Int), IV.int IntKind.i64 (-9223372036854775808 : Int), IV.int IntKind.i64 (9223372036854775807 : Int), IV.int IntKind.i64 (0 : Int), IV.int IntKind.i64 (0 : Int),
 IV.int IntKind.i64 (1 : Int), IV.int IntKind.i64 (1 : Int), IV.int IntKind.i64 (1 : Int), IV.int IntKind.i64 (1 : Int), IV.int IntKind.i64 (0 : Int), IV.int IntKind.i64 (1 : Int)]))
 PT.nil))
 (some
 (IObj.cells
 [IV.int IntKind.i64 (1 : Int), IV.int IntKind.i64 (1 : Int), IV.int IntKind.i64 (1 : Int), IV.int IntKind.i64 (1 : Int), IV.int IntKind.i64 (1 : Int), IV.int IntKind.i64 (1 : Int), IV.int IntKind.i64 (1 : Int),
 IV.int IntKind.i64 (1 : Int)]))
 (PT.node (PT.node PT.nil (some (IObj.map [])) PT.nil)
 (some
 (IObj.cells
 [nds,
 IV.vslice none (0 : Nat) (8 : Nat) (1 : Nat)
 [IV.int IntKind.i64 (1 : Int), IV.int IntKind.i64 (1 : Int), IV.int IntKind.i64 (1 : Int), IV.int IntKind.i64 (1 : Int), IV.int IntKind.i64 (1 : Int), IV.int IntKind.i64 (1 : Int), IV.int IntKind.i64 (1 : Int),
 IV.int IntKind.i64 (1 : Int)],
 IV.map (3 : Nat), IV.nilmap]))
 (PT.node PT.nil (some (IObj.cells [IV.bool false, IV.bool false, IV.bool false, IV.bool false, IV.bool false, IV.bool false, IV.bool false, IV.bool false])) PT.nil)))
 (7 : Nat) ∧
 (r = rls ∧
 IV.agg
 [IV.int IntKind.i64 (7 : Int), IV.int IntKind.i64 (6 : Int), IV.int IntKind.i64 (2 : Int), IV.vslice none (0 : Nat) (1 : Nat) (1 : Nat) [IV.int IntKind.i64 (0 : Int)],
 IV.vslice none (0 : Nat) (0 : Nat) (1 : Nat) []] =
 stA ∧
 b = true ∨
 r = rls ∧
 IV.agg
 [IV.int IntKind.i64 (7 : Int), IV.int IntKind.i64 (6 : Int), IV.int IntKind.i64 (2 : Int), IV.vslice none (0 : Nat) (1 : Nat) (1 : Nat) [IV.int IntKind.i64 (0 : Int)],
 IV.vslice none (0 : Nat) (0 : Nat) (1 : Nat) []] =
 stB ∧
 b = true ∨
 r = nrl ∧
 IV.agg
 [IV.int IntKind.i64 (7 : Int), IV.int IntKind.i64 (6 : Int), IV.int IntKind.i64 (2 : Int), IV.vslice none (0 : Nat) (1 : Nat) (1 : Nat) [IV.int IntKind.i64 (0 : Int)],
 IV.vslice none (0 : Nat) (0 : Nat) (1 : Nat) []] =
 stC ∧
 b = true ∨
 r = rls ∧
 IV.agg
 [IV.int IntKind.i64 (7 : Int), IV.int IntKind.i64 (6 : Int), IV.int IntKind.i64 (2 : Int), IV.vslice none (0 : Nat) (1 : Nat) (1 : Nat) [IV.int IntKind.i64 (0 : Int)],
 IV.vslice none (0 : Nat) (0 : Nat) (1 : Nat) []] =
 stD ∧
 b = false ∨
 r = nrl ∧
 IV.agg
 [IV.int IntKind.i64 (7 : Int), IV.int IntKind.i64 (6 : Int), IV.int IntKind.i64 (2 : Int), IV.vslice none (0 : Nat) (1 : Nat) (1 : Nat) [IV.int IntKind.i64 (0 : Int)],
 IV.vslice none (0 : Nat) (0 : Nat) (1 : Nat) []] =
 stA ∧
 b = false) ∧
 ∀ (h2 : Heap), Q (IV.bool b) h) := by kernel_rfl
theorem sCSD : ∀ xs h Q, kCSD xs h Q → CallW env 4 xs h Q := by
  intro xs h Q hk
  unfold kCSD at hk
  split at hk
  · rename_i r i l n s
    obtain ⟨⟨rfl, rfl, rfl, rfl, rfl⟩, hk⟩ := hk
    refine dF_run (okCSC) (vCSD  h Q) ?_
    exact ⟨⟨rfl, rfl, rfl, rfl⟩, .inl rfl, rfl, rls, false, rfl, .inr (.inr (.inr (.inl ⟨rfl, rfl, rfl⟩))), fun h2 => hk⟩
  · exact hk.elim
def cCSD := addC 4 kCSD cCSC
theorem okCSD : Sound env cCSD := sound_add sCSD (okCSC)

def kCSE (xs : List IV) (h : Heap) (K : IV → Heap → Prop) : Prop := match xs with
  | [r, i, l, n, s] => (r = nrl ∧ i = ninv ∧ l = nlen ∧ n = nds ∧ s = stA) ∧ K (.bool false) h
  | _ => False
set_option maxRecDepth 100000 in
theorem vCSE  (h : Heap) (Q : IV → Heap → Prop) : dF (stdS cCSD) env 4 noU noI noI [nrl, ninv, nlen, nds, stA] h Q = (
  (Heap.mk PT.nil (0 : Nat) = Heap.mk PT.nil (0 : Nat) ∧
 IV.vslice none (0 : Nat) (0 : Nat) (3 : Nat) [] = ninv ∧
 IV.vslice none (0 : Nat) (0 : Nat) (1 : Nat) [] = nlen ∧
 IV.vslice none (0 : Nat) (8 : Nat) (3 : Nat)
 [IV.int IntKind.i64 (2 : Int), IV.int IntKind.i64 (0 : Int), IV.vslice none (0 : Nat) (0 : Nat) (1 : Nat) [], IV.int IntKind.i64 (1 : Int), IV.int IntKind.i64 (5 : Int), IV.vslice none (0 : Nat) (0 : Nat) (1 : Nat) [],
 IV.int IntKind.i64 (4 : Int), IV.int IntKind.i64 (0 : Int), IV.vslice none (0 : Nat) (2 : Nat) (1 : Nat) [IV.int IntKind.i64 (0 : Int), IV.int IntKind.i64 (1 : Int)], IV.int IntKind.i64 (4 : Int), IV.int IntKind.i64 (0 : Int),
 IV.vslice none (0 : Nat) (2 : Nat) (1 : Nat) [IV.int IntKind.i64 (1 : Int), IV.int IntKind.i64 (0 : Int)], IV.int IntKind.i64 (1 : Int), IV.int IntKind.i64 (0 : Int), IV.vslice none (0 : Nat) (0 : Nat) (1 : Nat) [],
 IV.int IntKind.i64 (16 : Int), IV.int IntKind.i64 (0 : Int), IV.vslice none (0 : Nat) (2 : Nat) (1 : Nat) [IV.int IntKind.i64 (1 : Int), IV.int IntKind.i64 (4 : Int)], IV.int IntKind.i64 (1 : Int),
 IV.int IntKind.i64 (1 : Int), IV.vslice none (0 : Nat) (0 : Nat) (1 : Nat) [], IV.int IntKind.i64 (16 : Int), IV.int IntKind.i64 (0 : Int),
 IV.vslice none (0 : Nat) (2 : Nat) (1 : Nat) [IV.int IntKind.i64 (0 : Int), IV.int IntKind.i64 (4 : Int)]] =
 nds) ∧
 (IV.vslice none (0 : Nat) (0 : Nat) (14 : Nat) [] = rls ∨ IV.vslice none (0 : Nat) (0 : Nat) (14 : Nat) [] = nrl) ∧
 IV.ptr (1 : Nat) (0 : Nat) = IV.ptr (1 : Nat) (0 : Nat) ∧
 ∃ (r : IV),
 ∃ (b : Bool),
 Heap.mk
 (PT.node
 (PT.node (PT.node PT.nil (some (IObj.map [])) PT.nil)
 (some (IObj.cells [IV.vslice none (0 : Nat) (0 : Nat) (14 : Nat) [], nlen, nds, IV.hslice (0 : Nat) (0 : Nat) (8 : Nat) (1 : Nat), IV.hslice (5 : Nat) (0 : Nat) (8 : Nat) (2 : Nat)]))
 (PT.node PT.nil
 (some
 (IObj.cells
 [IV.int IntKind.i64 (-9223372036854775808 : Int), IV.int IntKind.i64 (9223372036854775807 : Int), IV.int IntKind.i64 (5 : Int), IV.int IntKind.i64 (5 : Int), IV.int IntKind.i64 (-9223372036854775808 : Int),
 IV.int IntKind.i64 (9223372036854775807 : Int), IV.int IntKind.i64 (-9223372036854775808 : Int), IV.int IntKind.i64 (9223372036854775807 : Int), IV.int IntKind.i64 (0 : Int), IV.int IntKind.i64 (0 : Int),
 IV.int IntKind.i64 (1 : Int), IV.int IntKind.i64 (1 : Int), IV.int IntKind.i64 (1 : Int), IV.int IntKind.i64 (1 : Int), IV.int IntKind.i64 (0 : Int), IV.int IntKind.i64 (1 : Int)]))
 PT.nil))
 (some
 (IObj.cells
 [IV.int IntKind.i64 (1 : Int), IV.int IntKind.i64 (1 : Int), IV.int IntKind.i64 (1 : Int), IV.int IntKind.i64 (1 : Int), IV.int IntKind.i64 (1 : Int), IV.int IntKind.i64 (1 : Int), IV.int IntKind.i64 (1 : Int),
 IV.int IntKind.i64 (1 : Int)]))
 (PT.node (PT.node PT.nil (some (IObj.map [])) PT.nil)
 (some
 (IObj.cells
 [nds,
 IV.vslice none (0 : Nat) (8 : Nat) (1 : Nat)
 [IV.int IntKind.i64 (1 : Int), IV.int IntKind.i64 (1 : Int), IV.int IntKind.i64 (1 : Int), IV.int IntKind.i64 (1 : Int), IV.int IntKind.i64 (1 : Int), IV.int IntKind.i64 (1 : Int), IV.int IntKind.i64 (1 : Int),
 IV.int IntKind.i64 (1 : Int)],
 IV.map (3 : Nat), IV.nilmap]))
 (PT.node PT.nil (some (IObj.cells [IV.bool false, IV.bool false, IV.bool false, IV.bool false, IV.bool false, IV.bool false, IV.bool false, IV.bool false])) PT.nil)))
 (7 : Nat) =
 Heap.mk
 (PT.node
 (PT.node (PT.node PT.nil (some (IObj.map [])) PT.nil) (some (IObj.cells [r, nlen, nds, IV.hslice (0 : Nat) (0 : Nat) (8 : Nat) (1 : Nat), IV.hslice (5 : Nat) (0 : Nat) (8 : Nat) (2 : Nat)]))
 (PT.node PT.nil
 (some
 (IObj.cells
 [IV.int IntKind.i64 (-9223372036854775808 : Int), IV.int IntKind.i64 (9223372036854775807 : Int), IV.int IntKind.i64 (5 : Int), IV.int IntKind.i64 (5 : Int), IV.int IntKind.i64 (-9223372036854775808 : Int),
 IV.int IntKind.i64 (9223372036854775807 : Int), IV.int IntKind.i64 (-9223372036854775808 : Int), IV.int IntKind.i64 (9223372036854775807 : Int), IV.int IntKind.i64 (0 : Int), IV.int IntKind.i64 (0 : Int),
 IV.int IntKind.i64 (1 : Int), IV.int IntKind.i64 (1 : Int), IV.int IntKind.i64 (1 : Int), IV.int IntKind.i64 (1 : Int), IV.int IntKind.i64 (0 : Int), IV.int IntKind.i64 (1 : Int)]))
 PT.nil))
 (some
 (IObj.cells
 [IV.int IntKind.i64 (1 : Int), IV.int IntKind.i64 (1 : Int), IV.int IntKind.i64 (1 : Int), IV.int IntKind.i64 (1 : Int), IV.int IntKind.i64 (1 : Int), IV.int IntKind.i64 (1 : Int), IV.int IntKind.i64 (1 : Int),
 IV.int IntKind.i64 (1 : Int)]))
 (PT.node (PT.node PT.nil (some (IObj.map [])) PT.nil)
 (some
 (IObj.cells
 [nds,
 IV.vslice none (0 : Nat) (8 : Nat) (1 : Nat)
 [IV.int IntKind.i64 (1 : Int), IV.int IntKind.i64 (1 : Int), IV.int IntKind.i64 (1 : Int), IV.int IntKind.i64 (1 : Int), IV.int IntKind.i64 (1 : Int), IV.int IntKind.i64 (1 : Int), IV.int IntKind.i64 (1 : Int),
 IV.int IntKind.i64 (1 : Int)],
 IV.map (3 : Nat), IV.nilmap]))
 (PT.node PT.nil (some (IObj.cells [IV.bool false, IV.bool false, IV.bool false, IV.bool false, IV.bool false, IV.bool false, IV.bool false, IV.bool false])) PT.nil)))
 (7 : Nat) ∧
 (r = rls ∧
 IV.agg
 [IV.int IntKind.i64 (2 : Int), IV.int IntKind.i64 (3 : Int), IV.int IntKind.i64 (1 : Int), IV.vslice none (0 : Nat) (2 : Nat) (1 : Nat) [IV.int IntKind.i64 (0 : Int), IV.int IntKind.i64 (1 : Int)],
 IV.vslice none (0 : Nat) (0 : Nat) (1 : Nat) []] =
 stA ∧
 b = true ∨
 r = rls ∧
 IV.agg
 [IV.int IntKind.i64 (2 : Int), IV.int IntKind.i64 (3 : Int), IV.int IntKind.i64 (1 : Int), IV.vslice none (0 : Nat) (2 : Nat) (1 : Nat) [IV.int IntKind.i64 (0 : Int), IV.int IntKind.i64 (1 : Int)],
 IV.vslice none (0 : Nat) (0 : Nat) (1 : Nat) []] =
 stB ∧
 b = true ∨
 r = nrl ∧
 IV.agg
 [IV.int IntKind.i64 (2 : Int), IV.int IntKind.i64 (3 : Int), IV.int IntKind.i64 (1 : Int), IV.vslice none (0 : Nat) (2 : Nat) (1 : Nat) [IV.int IntKind.i64 (0 : Int), IV.int IntKind.i64 (1 : Int)],
 IV.vslice none (0 : Nat) (0 : Nat) (1 : Nat) []] =
 stC ∧
 b = true ∨
 r = rls ∧
 IV.agg
 [IV.int IntKind.i64 (2 : Int), IV.int IntKind.i64 (3 : Int), IV.int IntKind.i64 (1 : Int), IV.vslice none (0 : Nat) (2 : Nat) (1 : Nat) [IV.int IntKind.i64 (0 : Int), IV.int IntKind.i64 (1 : Int)],
 IV.vslice none (0 : Nat) (0 : Nat) (1 : Nat) []] =
 stD ∧
 b = false ∨
 r = nrl ∧
 IV.agg
 [IV.int IntKind.i64 (2 : Int), IV.int IntKind.i64 (3 : Int), IV.int IntKind.i64 (1 : Int), IV.vslice none (0 : Nat) (2 : Nat) (1 : Nat) [IV.int IntKind.i64 (0 : Int), IV.int IntKind.i64 (1 : Int)],
 IV.vslice none (0 : Nat) (0 : Nat) (1 : Nat) []] =
 stA ∧
 b = false) ∧
 ∀ (h2 : Heap), Q (IV.bool b) h) := by kernel_rfl
theorem sCSE : ∀ xs h Q, kCSE xs h Q → CallW env 4 xs h Q := by
  intro xs h Q hk
  unfold kCSE at hk
  split at hk
  · rename_i r i l n s
    obtain ⟨⟨rfl, rfl, rfl, rfl, rfl⟩, hk⟩ := hk
    refine dF_run (okCSD) (vCSE  h Q) ?_
    exact ⟨⟨rfl, rfl, rfl, rfl⟩, .inr rfl, rfl, nrl, false, rfl, .inr (.inr (.inr (.inr ⟨rfl, rfl, rfl⟩))), fun h2 => hk⟩
  · exact hk.elim
def cCSE := addC 4 kCSE cCSD
theorem okCSE : Sound env cCSE := sound_add sCSE (okCSD)

def kCStep (xs : List IV) (h : Heap) (K : IV → Heap → Prop) : Prop := match xs with
  | [r, i, l, n, s] => (i = ninv ∧ l = nlen ∧ n = nds) ∧ ∃ b : Bool, ((r = rls ∧ s = stA ∧ b = true) ∨ (r = rls ∧ s = stB ∧ b = true) ∨ (r = nrl ∧ s = stC ∧ b = true) ∨ (r = rls ∧ s = stD ∧ b = false) ∨ (r = nrl ∧ s = stA ∧ b = false)) ∧ K (.bool b) h
  | _ => False
theorem sCStep : ∀ xs h Q, kCStep xs h Q → CallW env 4 xs h Q := by
  intro xs h Q hk
  unfold kCStep at hk
  split at hk
  · rename_i r i l n s
    obtain ⟨⟨rfl, rfl, rfl⟩, b, hc, hk⟩ := hk
    rcases hc with ⟨rfl, rfl, rfl⟩ | ⟨rfl, rfl, rfl⟩ | ⟨rfl, rfl, rfl⟩ | ⟨rfl, rfl, rfl⟩ | ⟨rfl, rfl, rfl⟩
    · exact sCSA _ _ _ ⟨⟨rfl, rfl, rfl, rfl, rfl⟩, hk⟩
    · exact sCSB _ _ _ ⟨⟨rfl, rfl, rfl, rfl, rfl⟩, hk⟩
    · exact sCSC _ _ _ ⟨⟨rfl, rfl, rfl, rfl, rfl⟩, hk⟩
    · exact sCSD _ _ _ ⟨⟨rfl, rfl, rfl, rfl, rfl⟩, hk⟩
    · exact sCSE _ _ _ ⟨⟨rfl, rfl, rfl, rfl, rfl⟩, hk⟩
  · exact hk.elim
def cCStep := addC 4 kCStep cCSE
theorem okCStep : Sound env cCStep := sound_add sCStep (okCSE)

def kConn (xs : List IV) (h : Heap) (K : IV → Heap → Prop) : Prop := match xs with
  | [p] => p = prf ∧ K (.bool true) h
  | _ => False
theorem sConn : ∀ xs h Q, kConn xs h Q → CallW env 18 xs h Q := by
  intro xs h Q hk
  unfold kConn at hk
  split at hk
  · rename_i p
    obtain ⟨rfl, hk⟩ := hk
    exact ⟨300, _, h, by kernel_rfl, hk⟩
  · exact hk.elim
def cConn := addC 18 kConn cCStep
theorem okConn : Sound env cConn := sound_add sConn (okCStep)

def kChR (xs : List IV) (h : Heap) (K : IV → Heap → Prop) : Prop := match xs with
  | [r, i, l, p] => (h = Heap.empty ∧ r = rls ∧ i = ninv ∧ l = nlen ∧ p = prf) ∧ ∀ h2, K (.bool true) h2
  | _ => False
set_option maxRecDepth 100000 in
theorem vChR  (h : Heap) (Q : IV → Heap → Prop) : dF (stdS cConn) env 10 (fun _ => 9) noI noI [rls, ninv, nlen, prf] Heap.empty Q = (
  (Heap.mk PT.nil (0 : Nat) = Heap.mk PT.nil (0 : Nat) ∧
 ninv = ninv ∧
 nlen = nlen ∧
 IV.vslice none (0 : Nat) (8 : Nat) (3 : Nat)
 [IV.int IntKind.i64 (2 : Int), IV.int IntKind.i64 (0 : Int), IV.vslice none (0 : Nat) (0 : Nat) (1 : Nat) [], IV.int IntKind.i64 (1 : Int), IV.int IntKind.i64 (5 : Int), IV.vslice none (0 : Nat) (0 : Nat) (1 : Nat) [],
 IV.int IntKind.i64 (4 : Int), IV.int IntKind.i64 (0 : Int), IV.vslice none (0 : Nat) (2 : Nat) (1 : Nat) [IV.int IntKind.i64 (0 : Int), IV.int IntKind.i64 (1 : Int)], IV.int IntKind.i64 (4 : Int), IV.int IntKind.i64 (0 : Int),
 IV.vslice none (0 : Nat) (2 : Nat) (1 : Nat) [IV.int IntKind.i64 (1 : Int), IV.int IntKind.i64 (0 : Int)], IV.int IntKind.i64 (1 : Int), IV.int IntKind.i64 (0 : Int), IV.vslice none (0 : Nat) (0 : Nat) (1 : Nat) [],
 IV.int IntKind.i64 (16 : Int), IV.int IntKind.i64 (0 : Int), IV.vslice none (0 : Nat) (2 : Nat) (1 : Nat) [IV.int IntKind.i64 (1 : Int), IV.int IntKind.i64 (4 : Int)], IV.int IntKind.i64 (1 : Int),
 IV.int IntKind.i64 (1 : Int), IV.vslice none (0 : Nat) (0 : Nat) (1 : Nat) [], IV.int IntKind.i64 (16 : Int), IV.int IntKind.i64 (0 : Int),
 IV.vslice none (0 : Nat) (2 : Nat) (1 : Nat) [IV.int IntKind.i64 (0 : Int), IV.int IntKind.i64 (4 : Int)]] =
 nds) ∧
 (rls = rls ∨ rls = nrl) ∧
 IV.ptr (1 : Nat) (0 : Nat) = IV.ptr (1 : Nat) (0 : Nat) ∧
 ∃ (r : IV),
 ∃ (b : Bool),
 Heap.mk
 (PT.node
 (PT.node (PT.node PT.nil (some (IObj.map [])) PT.nil) (some (IObj.cells [rls, nlen, nds, IV.hslice (0 : Nat) (0 : Nat) (8 : Nat) (1 : Nat), IV.hslice (5 : Nat) (0 : Nat) (8 : Nat) (2 : Nat)]))
 (PT.node PT.nil
 (some
 (IObj.cells
 [IV.int IntKind.i64 (-9223372036854775808 : Int), IV.int IntKind.i64 (9223372036854775807 : Int), IV.int IntKind.i64 (5 : Int), IV.int IntKind.i64 (5 : Int), IV.int IntKind.i64 (-9223372036854775808 : Int),
 IV.int IntKind.i64 (9223372036854775807 : Int), IV.int IntKind.i64 (-9223372036854775808 : Int), IV.int IntKind.i64 (9223372036854775807 : Int), IV.int IntKind.i64 (0 : Int), IV.int IntKind.i64 (0 : Int),
 IV.int IntKind.i64 (1 : Int), IV.int IntKind.i64 (1 : Int), IV.int IntKind.i64 (1 : Int), IV.int IntKind.i64 (1 : Int), IV.int IntKind.i64 (0 : Int), IV.int IntKind.i64 (1 : Int)]))
 PT.nil))
 (some
 (IObj.cells
 [IV.int IntKind.i64 (1 : Int), IV.int IntKind.i64 (1 : Int), IV.int IntKind.i64 (1 : Int), IV.int IntKind.i64 (1 : Int), IV.int IntKind.i64 (1 : Int), IV.int IntKind.i64 (1 : Int), IV.int IntKind.i64 (1 : Int),
 IV.int IntKind.i64 (1 : Int)]))
 (PT.node (PT.node PT.nil (some (IObj.map [])) PT.nil)
 (some
 (IObj.cells
 [nds,
 IV.vslice none (0 : Nat) (8 : Nat) (1 : Nat)
 [IV.int IntKind.i64 (1 : Int), IV.int IntKind.i64 (1 : Int), IV.int IntKind.i64 (1 : Int), IV.int IntKind.i64 (1 : Int), IV.int IntKind.i64 (1 : Int), IV.int IntKind.i64 (1 : Int), IV.int IntKind.i64 (1 : Int),
 IV.int IntKind.i64 (1 : Int)],
 IV.map (3 : Nat), IV.nilmap]))
 (PT.node PT.nil (some (IObj.cells [IV.bool false, IV.bool false, IV.bool false, IV.bool false, IV.bool false, IV.bool false, IV.bool false, IV.bool false])) PT.nil)))
 (7 : Nat) =
 Heap.mk
 (PT.node
 (PT.node (PT.node PT.nil (some (IObj.map [])) PT.nil) (some (IObj.cells [r, nlen, nds, IV.hslice (0 : Nat) (0 : Nat) (8 : Nat) (1 : Nat), IV.hslice (5 : Nat) (0 : Nat) (8 : Nat) (2 : Nat)]))
 (PT.node PT.nil
 (some
 (IObj.cells
 [IV.int IntKind.i64 (-9223372036854775808 : Int), IV.int IntKind.i64 (9223372036854775807 : Int), IV.int IntKind.i64 (5 : Int), IV.int IntKind.i64 (5 : Int), IV.int IntKind.i64 (-9223372036854775808 : Int),
 IV.int IntKind.i64 (9223372036854775807 : Int), IV.int IntKind.i64 (-9223372036854775808 : Int), IV.int IntKind.i64 (9223372036854775807 : Int), IV.int IntKind.i64 (0 : Int), IV.int IntKind.i64 (0 : Int),
 IV.int IntKind.i64 (1 : Int), IV.int IntKind.i64 (1 : Int), IV.int IntKind.i64 (1 : Int), IV.int IntKind.i64 (1 : Int), IV.int IntKind.i64 (0 : Int), IV.int IntKind.i64 (1 : Int)]))
 PT.nil))
 (some
 (IObj.cells
 [IV.int IntKind.i64 (1 : Int), IV.int IntKind.i64 (1 : Int), IV.int IntKind.i64 (1 : Int), IV.int IntKind.i64 (1 : Int), IV.int IntKind.i64 (1 : Int), IV.int IntKind.i64 (1 : Int), IV.int IntKind.i64 (1 : Int),
 IV.int IntKind.i64 (1 : Int)]))
 (PT.node (PT.node PT.nil (some (IObj.map [])) PT.nil)
 (some
 (IObj.cells
 [nds,
 IV.vslice none (0 : Nat) (8 : Nat) (1 : Nat)
 [IV.int IntKind.i64 (1 : Int), IV.int IntKind.i64 (1 : Int), IV.int IntKind.i64 (1 : Int), IV.int IntKind.i64 (1 : Int), IV.int IntKind.i64 (1 : Int), IV.int IntKind.i64 (1 : Int), IV.int IntKind.i64 (1 : Int),
 IV.int IntKind.i64 (1 : Int)],
 IV.map (3 : Nat), IV.nilmap]))
 (PT.node PT.nil (some (IObj.cells [IV.bool false, IV.bool false, IV.bool false, IV.bool false, IV.bool false, IV.bool false, IV.bool false, IV.bool false])) PT.nil)))
 (7 : Nat) ∧
 (r = rls ∧
 IV.agg
 [IV.int IntKind.i64 (2 : Int), IV.int IntKind.i64 (3 : Int), IV.int IntKind.i64 (1 : Int), IV.vslice none (0 : Nat) (2 : Nat) (1 : Nat) [IV.int IntKind.i64 (0 : Int), IV.int IntKind.i64 (1 : Int)],
 IV.vslice none (0 : Nat) (0 : Nat) (1 : Nat) []] =
 stA ∧
 b = true ∨
 r = rls ∧
 IV.agg
 [IV.int IntKind.i64 (2 : Int), IV.int IntKind.i64 (3 : Int), IV.int IntKind.i64 (1 : Int), IV.vslice none (0 : Nat) (2 : Nat) (1 : Nat) [IV.int IntKind.i64 (0 : Int), IV.int IntKind.i64 (1 : Int)],
 IV.vslice none (0 : Nat) (0 : Nat) (1 : Nat) []] =
 stB ∧
 b = true ∨
 r = nrl ∧
 IV.agg
 [IV.int IntKind.i64 (2 : Int), IV.int IntKind.i64 (3 : Int), IV.int IntKind.i64 (1 : Int), IV.vslice none (0 : Nat) (2 : Nat) (1 : Nat) [IV.int IntKind.i64 (0 : Int), IV.int IntKind.i64 (1 : Int)],
 IV.vslice none (0 : Nat) (0 : Nat) (1 : Nat) []] =
 stC ∧
 b = true ∨
 r = rls ∧
 IV.agg
 [IV.int IntKind.i64 (2 : Int), IV.int IntKind.i64 (3 : Int), IV.int IntKind.i64 (1 : Int), IV.vslice none (0 : Nat) (2 : Nat) (1 : Nat) [IV.int IntKind.i64 (0 : Int), IV.int IntKind.i64 (1 : Int)],
 IV.vslice none (0 : Nat) (0 : Nat) (1 : Nat) []] =
 stD ∧
 b = false ∨
 r = nrl ∧
 IV.agg
 [IV.int IntKind.i64 (2 : Int), IV.int IntKind.i64 (3 : Int), IV.int IntKind.i64 (1 : Int), IV.vslice none (0 : Nat) (2 : Nat) (1 : Nat) [IV.int IntKind.i64 (0 : Int), IV.int IntKind.i64 (1 : Int)],
 IV.vslice none (0 : Nat) (0 : Nat) (1 : Nat) []] =
 stA ∧
 b = false) ∧
 ∀ (h2 : Heap),
 brS (!b) (Q (IV.bool false) h2)
 (IV.agg
 [IV.vslice none (0 : Nat) (8 : Nat) (3 : Nat)
 [IV.int IntKind.i64 (2 : Int), IV.int IntKind.i64 (0 : Int), IV.vslice none (0 : Nat) (0 : Nat) (1 : Nat) [], IV.int IntKind.i64 (1 : Int), IV.int IntKind.i64 (5 : Int),
 IV.vslice none (0 : Nat) (0 : Nat) (1 : Nat) [], IV.int IntKind.i64 (4 : Int), IV.int IntKind.i64 (0 : Int),
 IV.vslice none (0 : Nat) (2 : Nat) (1 : Nat) [IV.int IntKind.i64 (0 : Int), IV.int IntKind.i64 (1 : Int)], IV.int IntKind.i64 (4 : Int), IV.int IntKind.i64 (0 : Int),
 IV.vslice none (0 : Nat) (2 : Nat) (1 : Nat) [IV.int IntKind.i64 (1 : Int), IV.int IntKind.i64 (0 : Int)], IV.int IntKind.i64 (1 : Int), IV.int IntKind.i64 (0 : Int),
 IV.vslice none (0 : Nat) (0 : Nat) (1 : Nat) [], IV.int IntKind.i64 (16 : Int), IV.int IntKind.i64 (0 : Int),
 IV.vslice none (0 : Nat) (2 : Nat) (1 : Nat) [IV.int IntKind.i64 (1 : Int), IV.int IntKind.i64 (4 : Int)], IV.int IntKind.i64 (1 : Int), IV.int IntKind.i64 (1 : Int),
 IV.vslice none (0 : Nat) (0 : Nat) (1 : Nat) [], IV.int IntKind.i64 (16 : Int), IV.int IntKind.i64 (0 : Int),
 IV.vslice none (0 : Nat) (2 : Nat) (1 : Nat) [IV.int IntKind.i64 (0 : Int), IV.int IntKind.i64 (4 : Int)]],
 IV.vslice none (0 : Nat) (1 : Nat) (5 : Nat)
 [IV.int IntKind.i64 (2 : Int), IV.int IntKind.i64 (3 : Int), IV.int IntKind.i64 (1 : Int), IV.vslice none (0 : Nat) (2 : Nat) (1 : Nat) [IV.int IntKind.i64 (0 : Int), IV.int IntKind.i64 (1 : Int)],
 IV.vslice none (0 : Nat) (0 : Nat) (1 : Nat) []],
 IV.int IntKind.i64 (3 : Int), IV.int IntKind.i64 (2 : Int)] =
 prf ∧
 Q (IV.bool true) h2)) := by kernel_rfl
theorem sChR : ∀ xs h Q, kChR xs h Q → CallW env 10 xs h Q := by
  intro xs h Q hk
  unfold kChR at hk
  split at hk
  · rename_i r i l p
    obtain ⟨⟨rfl, rfl, rfl, rfl, rfl⟩, hk⟩ := hk
    refine dF_run (okConn) (vChR  Heap.empty Q) ?_
    exact ⟨⟨rfl, rfl, rfl, rfl⟩, .inl rfl, rfl, rls, true, rfl, .inl ⟨rfl, rfl, rfl⟩, fun h2 => brS_intro (fun c => by cases c) (fun _ => ⟨rfl, hk h2⟩)⟩
  · exact hk.elim
def cChR := addC 10 kChR cConn
theorem okChR : Sound env cChR := sound_add sChR (okConn)

def kChN (xs : List IV) (h : Heap) (K : IV → Heap → Prop) : Prop := match xs with
  | [r, i, l, p] => (h = Heap.empty ∧ r = nrl ∧ i = ninv ∧ l = nlen ∧ p = prf) ∧ ∀ h2, K (.bool false) h2
  | _ => False
set_option maxRecDepth 100000 in
theorem vChN  (h : Heap) (Q : IV → Heap → Prop) : dF (stdS cChR) env 10 (fun _ => 9) noI noI [nrl, ninv, nlen, prf] Heap.empty Q = (
  (Heap.mk PT.nil (0 : Nat) = Heap.mk PT.nil (0 : Nat) ∧
 ninv = ninv ∧
 nlen = nlen ∧
 IV.vslice none (0 : Nat) (8 : Nat) (3 : Nat)
 [IV.int IntKind.i64 (2 : Int), IV.int IntKind.i64 (0 : Int), IV.vslice none (0 : Nat) (0 : Nat) (1 : Nat) [], IV.int IntKind.i64 (1 : Int), IV.int IntKind.i64 (5 : Int), IV.vslice none (0 : Nat) (0 : Nat) (1 : Nat) [],
 IV.int IntKind.i64 (4 : Int), IV.int IntKind.i64 (0 : Int), IV.vslice none (0 : Nat) (2 : Nat) (1 : Nat) [IV.int IntKind.i64 (0 : Int), IV.int IntKind.i64 (1 : Int)], IV.int IntKind.i64 (4 : Int), IV.int IntKind.i64 (0 : Int),
 IV.vslice none (0 : Nat) (2 : Nat) (1 : Nat) [IV.int IntKind.i64 (1 : Int), IV.int IntKind.i64 (0 : Int)], IV.int IntKind.i64 (1 : Int), IV.int IntKind.i64 (0 : Int), IV.vslice none (0 : Nat) (0 : Nat) (1 : Nat) [],
 IV.int IntKind.i64 (16 : Int), IV.int IntKind.i64 (0 : Int), IV.vslice none (0 : Nat) (2 : Nat) (1 : Nat) [IV.int IntKind.i64 (1 : Int), IV.int IntKind.i64 (4 : Int)], IV.int IntKind.i64 (1 : Int),
 IV.int IntKind.i64 (1 : Int), IV.vslice none (0 : Nat) (0 : Nat) (1 : Nat) [], IV.int IntKind.i64 (16 : Int), IV.int IntKind.i64 (0 : Int),
 IV.vslice none (0 : Nat) (2 : Nat) (1 : Nat) [IV.int IntKind.i64 (0 : Int), IV.int IntKind.i64 (4 : Int)]] =
 nds) ∧
 (nrl = rls ∨ nrl = nrl) ∧
 IV.ptr (1 : Nat) (0 : Nat) = IV.ptr (1 : Nat) (0 : Nat) ∧
 ∃ (r : IV),
 ∃ (b : Bool),
 Heap.mk
 (PT.node
 (PT.node (PT.node PT.nil (some (IObj.map [])) PT.nil) (some (IObj.cells [nrl, nlen, nds, IV.hslice (0 : Nat) (0 : Nat) (8 : Nat) (1 : Nat), IV.hslice (5 : Nat) (0 : Nat) (8 : Nat) (2 : Nat)]))
 (PT.node PT.nil
 (some
 (IObj.cells
 [IV.int IntKind.i64 (-9223372036854775808 : Int), IV.int IntKind.i64 (9223372036854775807 : Int), IV.int IntKind.i64 (5 : Int), IV.int IntKind.i64 (5 : Int), IV.int IntKind.i64 (-9223372036854775808 : Int),
 IV.int IntKind.i64 (9223372036854775807 : Int), IV.int IntKind.i64 (-9223372036854775808 : Int), IV.int IntKind.i64 (9223372036854775807 : Int), IV.int IntKind.i64 (0 : Int), IV.int IntKind.i64 (0 : Int),
 IV.int IntKind.i64 (1 : Int), IV.int IntKind.i64 (1 : Int), IV.int IntKind.i64 (1 : Int), IV.int IntKind.i64 (1 : Int), IV.int IntKind.i64 (0 : Int), IV.int IntKind.i64 (1 : Int)]))
 PT.nil))
 (some
 (IObj.cells
 [IV.int IntKind.i64 (1 : Int), IV.int IntKind.i64 (1 : Int), IV.int IntKind.i64 (1 : Int), IV.int IntKind.i64 (1 : Int), IV.int IntKind.i64 (1 : Int), IV.int IntKind.i64 (1 : Int), IV.int IntKind.i64 (1 : Int),
 IV.int IntKind.i64 (1 : Int)]))
 (PT.node (PT.node PT.nil (some (IObj.map [])) PT.nil)
 (some
 (IObj.cells
 [nds,
 IV.vslice none (0 : Nat) (8 : Nat) (1 : Nat)
 [IV.int IntKind.i64 (1 : Int), IV.int IntKind.i64 (1 : Int), IV.int IntKind.i64 (1 : Int), IV.int IntKind.i64 (1 : Int), IV.int IntKind.i64 (1 : Int), IV.int IntKind.i64 (1 : Int), IV.int IntKind.i64 (1 : Int),
 IV.int IntKind.i64 (1 : Int)],
 IV.map (3 : Nat), IV.nilmap]))
 (PT.node PT.nil (some (IObj.cells [IV.bool false, IV.bool false, IV.bool false, IV.bool false, IV.bool false, IV.bool false, IV.bool false, IV.bool false])) PT.nil)))
 (7 : Nat) =
 Heap.mk
 (PT.node
 (PT.node (PT.node PT.nil (some (IObj.map [])) PT.nil) (some (IObj.cells [r, nlen, nds, IV.hslice (0 : Nat) (0 : Nat) (8 : Nat) (1 : Nat), IV.hslice (5 : Nat) (0 : Nat) (8 : Nat) (2 : Nat)]))
 (PT.node PT.nil
 (some
 (IObj.cells
 [IV.int IntKind.i64 (-9223372036854775808 : Int), IV.int IntKind.i64 (9223372036854775807 : Int), IV.int IntKind.i64 (5 : Int), IV.int IntKind.i64 (5 : Int), IV.int IntKind.i64 (-9223372036854775808 : Int),
 IV.int IntKind.i64 (9223372036854775807 : Int), IV.int IntKind.i64 (-9223372036854775808 : Int), IV.int IntKind.i64 (9223372036854775807 : Int), IV.int IntKind.i64 (0 : Int), IV.int IntKind.i64 (0 : Int),
 IV.int IntKind.i64 (1 : Int), IV.int IntKind.i64 (1 : Int), IV.int IntKind.i64 (1 : Int), IV.int IntKind.i64 (1 : Int), IV.int IntKind.i64 (0 : Int), IV.int IntKind.i64 (1 : Int)]))
 PT.nil))
 (some
 (IObj.cells
 [IV.int IntKind.i64 (1 : Int), IV.int IntKind.i64 (1 : Int), IV.int IntKind.i64 (1 : Int), IV.int IntKind.i64 (1 : Int), IV.int IntKind.i64 (1 : Int), IV.int IntKind.i64 (1 : Int), IV.int IntKind.i64 (1 : Int),
 IV.int IntKind.i64 (1 : Int)]))
 (PT.node (PT.node PT.nil (some (IObj.map [])) PT.nil)
 (some
 (IObj.cells
 [nds,
 IV.vslice none (0 : Nat) (8 : Nat) (1 : Nat)
 [IV.int IntKind.i64 (1 : Int), IV.int IntKind.i64 (1 : Int), IV.int IntKind.i64 (1 : Int), IV.int IntKind.i64 (1 : Int), IV.int IntKind.i64 (1 : Int), IV.int IntKind.i64 (1 : Int), IV.int IntKind.i64 (1 : Int),
 IV.int IntKind.i64 (1 : Int)],
 IV.map (3 : Nat), IV.nilmap]))
 (PT.node PT.nil (some (IObj.cells [IV.bool false, IV.bool false, IV.bool false, IV.bool false, IV.bool false, IV.bool false, IV.bool false, IV.bool false])) PT.nil)))
 (7 : Nat) ∧
 (r = rls ∧
 IV.agg
 [IV.int IntKind.i64 (2 : Int), IV.int IntKind.i64 (3 : Int), IV.int IntKind.i64 (1 : Int), IV.vslice none (0 : Nat) (2 : Nat) (1 : Nat) [IV.int IntKind.i64 (0 : Int), IV.int IntKind.i64 (1 : Int)],
 IV.vslice none (0 : Nat) (0 : Nat) (1 : Nat) []] =
 stA ∧
 b = true ∨
 r = rls ∧
 IV.agg
 [IV.int IntKind.i64 (2 : Int), IV.int IntKind.i64 (3 : Int), IV.int IntKind.i64 (1 : Int), IV.vslice none (0 : Nat) (2 : Nat) (1 : Nat) [IV.int IntKind.i64 (0 : Int), IV.int IntKind.i64 (1 : Int)],
 IV.vslice none (0 : Nat) (0 : Nat) (1 : Nat) []] =
 stB ∧
 b = true ∨
 r = nrl ∧
 IV.agg
 [IV.int IntKind.i64 (2 : Int), IV.int IntKind.i64 (3 : Int), IV.int IntKind.i64 (1 : Int), IV.vslice none (0 : Nat) (2 : Nat) (1 : Nat) [IV.int IntKind.i64 (0 : Int), IV.int IntKind.i64 (1 : Int)],
 IV.vslice none (0 : Nat) (0 : Nat) (1 : Nat) []] =
 stC ∧
 b = true ∨
 r = rls ∧
 IV.agg
 [IV.int IntKind.i64 (2 : Int), IV.int IntKind.i64 (3 : Int), IV.int IntKind.i64 (1 : Int), IV.vslice none (0 : Nat) (2 : Nat) (1 : Nat) [IV.int IntKind.i64 (0 : Int), IV.int IntKind.i64 (1 : Int)],
 IV.vslice none (0 : Nat) (0 : Nat) (1 : Nat) []] =
 stD ∧
 b = false ∨
 r = nrl ∧
 IV.agg
 [IV.int IntKind.i64 (2 : Int), IV.int IntKind.i64 (3 : Int), IV.int IntKind.i64 (1 : Int), IV.vslice none (0 : Nat) (2 : Nat) (1 : Nat) [IV.int IntKind.i64 (0 : Int), IV.int IntKind.i64 (1 : Int)],
 IV.vslice none (0 : Nat) (0 : Nat) (1 : Nat) []] =
 stA ∧
 b = false) ∧
 ∀ (h2 : Heap),
 brS (!b) (Q (IV.bool false) h2)
 (IV.agg
 [IV.vslice none (0 : Nat) (8 : Nat) (3 : Nat)
 [IV.int IntKind.i64 (2 : Int), IV.int IntKind.i64 (0 : Int), IV.vslice none (0 : Nat) (0 : Nat) (1 : Nat) [], IV.int IntKind.i64 (1 : Int), IV.int IntKind.i64 (5 : Int),
 IV.vslice none (0 : Nat) (0 : Nat) (1 : Nat) [], IV.int IntKind.i64 (4 : Int), IV.int IntKind.i64 (0 : Int),
 IV.vslice none (0 : Nat) (2 : Nat) (1 : Nat) [IV.int IntKind.i64 (0 : Int), IV.int IntKind.i64 (1 : Int)], IV.int IntKind.i64 (4 : Int), IV.int IntKind.i64 (0 : Int),
 IV.vslice none (0 : Nat) (2 : Nat) (1 : Nat) [IV.int IntKind.i64 (1 : Int), IV.int IntKind.i64 (0 : Int)], IV.int IntKind.i64 (1 : Int), IV.int IntKind.i64 (0 : Int),
 IV.vslice none (0 : Nat) (0 : Nat) (1 : Nat) [], IV.int IntKind.i64 (16 : Int), IV.int IntKind.i64 (0 : Int),
 IV.vslice none (0 : Nat) (2 : Nat) (1 : Nat) [IV.int IntKind.i64 (1 : Int), IV.int IntKind.i64 (4 : Int)], IV.int IntKind.i64 (1 : Int), IV.int IntKind.i64 (1 : Int),
 IV.vslice none (0 : Nat) (0 : Nat) (1 : Nat) [], IV.int IntKind.i64 (16 : Int), IV.int IntKind.i64 (0 : Int),
 IV.vslice none (0 : Nat) (2 : Nat) (1 : Nat) [IV.int IntKind.i64 (0 : Int), IV.int IntKind.i64 (4 : Int)]],
 IV.vslice none (0 : Nat) (1 : Nat) (5 : Nat)
 [IV.int IntKind.i64 (2 : Int), IV.int IntKind.i64 (3 : Int), IV.int IntKind.i64 (1 : Int), IV.vslice none (0 : Nat) (2 : Nat) (1 : Nat) [IV.int IntKind.i64 (0 : Int), IV.int IntKind.i64 (1 : Int)],
 IV.vslice none (0 : Nat) (0 : Nat) (1 : Nat) []],
 IV.int IntKind.i64 (3 : Int), IV.int IntKind.i64 (2 : Int)] =
 prf ∧
 Q (IV.bool true) h2)) := by kernel_rfl
theorem sChN : ∀ xs h Q, kChN xs h Q → CallW env 10 xs h Q := by
  intro xs h Q hk
  unfold kChN at hk
  split at hk
  · rename_i r i l p
    obtain ⟨⟨rfl, rfl, rfl, rfl, rfl⟩, hk⟩ := hk
    refine dF_run (okChR) (vChN  Heap.empty Q) ?_
    exact ⟨⟨rfl, rfl, rfl, rfl⟩, .inr rfl, rfl, nrl, false, rfl, .inr (.inr (.inr (.inr ⟨rfl, rfl, rfl⟩))), fun h2 => brS_intro (fun _ => hk h2) (fun c => by cases c)⟩
  · exact hk.elim
def cChN := addC 10 kChN cChR
theorem okChN : Sound env cChN := sound_add sChN (okChR)

def kCheck (xs : List IV) (h : Heap) (K : IV → Heap → Prop) : Prop := match xs with
  | [r, i, l, p] => (h = Heap.empty ∧ i = ninv ∧ l = nlen ∧ p = prf) ∧ ∃ b : Bool, ((r = rls ∧ b = true) ∨ (r = nrl ∧ b = false)) ∧ ∀ h2, K (.bool b) h2
  | _ => False
theorem sCheck : ∀ xs h Q, kCheck xs h Q → CallW env 10 xs h Q := by
  intro xs h Q hk
  unfold kCheck at hk
  split at hk
  · rename_i r i l p
    obtain ⟨⟨rfl, rfl, rfl, rfl⟩, b, hc, hk⟩ := hk
    rcases hc with ⟨rfl, rfl⟩ | ⟨rfl, rfl⟩
    · exact sChR _ _ _ ⟨⟨rfl, rfl, rfl, rfl, rfl⟩, hk⟩
    · exact sChN _ _ _ ⟨⟨rfl, rfl, rfl, rfl, rfl⟩, hk⟩
  · exact hk.elim
def cCheck := addC 10 kCheck cChN
theorem okCheck : Sound env cCheck := sound_add sCheck (okChN)

def kCPR (xs : List IV) (h : Heap) (K : IV → Heap → Prop) : Prop := match xs with
  | [r, i, l, p] => (r = rls ∧ i = ninv ∧ l = nlen ∧ p = prf) ∧ K (.bool true) h
  | _ => False
set_option maxRecDepth 100000 in
theorem vCPR  (h : Heap) (Q : IV → Heap → Prop) : dF (stdS cCheck) env 6 noU noI noI [rls, ninv, nlen, prf] h Q = (
  (Heap.mk PT.nil (0 : Nat) = Heap.mk PT.nil (0 : Nat) ∧
 IV.vslice none (0 : Nat) (0 : Nat) (3 : Nat) [] = ninv ∧
 IV.vslice none (0 : Nat) (0 : Nat) (1 : Nat) [] = nlen ∧
 IV.agg
 [IV.vslice none (0 : Nat) (8 : Nat) (3 : Nat)
 [IV.int IntKind.i64 (2 : Int), IV.int IntKind.i64 (0 : Int), IV.vslice none (0 : Nat) (0 : Nat) (1 : Nat) [], IV.int IntKind.i64 (1 : Int), IV.int IntKind.i64 (5 : Int), IV.vslice none (0 : Nat) (0 : Nat) (1 : Nat) [],
 IV.int IntKind.i64 (4 : Int), IV.int IntKind.i64 (0 : Int), IV.vslice none (0 : Nat) (2 : Nat) (1 : Nat) [IV.int IntKind.i64 (0 : Int), IV.int IntKind.i64 (1 : Int)], IV.int IntKind.i64 (4 : Int),
 IV.int IntKind.i64 (0 : Int), IV.vslice none (0 : Nat) (2 : Nat) (1 : Nat) [IV.int IntKind.i64 (1 : Int), IV.int IntKind.i64 (0 : Int)], IV.int IntKind.i64 (1 : Int), IV.int IntKind.i64 (0 : Int),
 IV.vslice none (0 : Nat) (0 : Nat) (1 : Nat) [], IV.int IntKind.i64 (16 : Int), IV.int IntKind.i64 (0 : Int), IV.vslice none (0 : Nat) (2 : Nat) (1 : Nat) [IV.int IntKind.i64 (1 : Int), IV.int IntKind.i64 (4 : Int)],
 IV.int IntKind.i64 (1 : Int), IV.int IntKind.i64 (1 : Int), IV.vslice none (0 : Nat) (0 : Nat) (1 : Nat) [], IV.int IntKind.i64 (16 : Int), IV.int IntKind.i64 (0 : Int),
 IV.vslice none (0 : Nat) (2 : Nat) (1 : Nat) [IV.int IntKind.i64 (0 : Int), IV.int IntKind.i64 (4 : Int)]],
 IV.vslice none (0 : Nat) (1 : Nat) (5 : Nat)
 [IV.int IntKind.i64 (2 : Int), IV.int IntKind.i64 (3 : Int), IV.int IntKind.i64 (1 : Int), IV.vslice none (0 : Nat) (2 : Nat) (1 : Nat) [IV.int IntKind.i64 (0 : Int), IV.int IntKind.i64 (1 : Int)],
 IV.vslice none (0 : Nat) (0 : Nat) (1 : Nat) []],
 IV.int IntKind.i64 (3 : Int), IV.int IntKind.i64 (2 : Int)] =
 prf) ∧
 ∃ (b : Bool),
 (IV.vslice none (0 : Nat) (2 : Nat) (14 : Nat)
 [IV.str [(116 : UInt8), (117 : UInt8), (114 : UInt8), (110 : UInt8)], IV.int IntKind.i64 (0 : Int), IV.int IntKind.i64 (4 : Int), IV.int IntKind.i64 (0 : Int), IV.int IntKind.i64 (0 : Int),
 IV.vslice none (0 : Nat) (2 : Nat) (5 : Nat)
 [IV.int IntKind.i64 (1 : Int), IV.int IntKind.i64 (0 : Int), IV.int IntKind.i64 (0 : Int), IV.int IntKind.i64 (0 : Int), IV.vslice none (0 : Nat) (0 : Nat) (5 : Nat) [], IV.int IntKind.i64 (2 : Int),
 IV.int IntKind.i64 (0 : Int), IV.int IntKind.i64 (0 : Int), IV.int IntKind.i64 (0 : Int), IV.vslice none (0 : Nat) (0 : Nat) (5 : Nat) []],
 IV.int IntKind.i64 (0 : Int), IV.int IntKind.i64 (4 : Int), IV.int IntKind.i64 (0 : Int), IV.int IntKind.i64 (0 : Int),
 IV.vslice none (0 : Nat) (2 : Nat) (5 : Nat)
 [IV.int IntKind.i64 (2 : Int), IV.int IntKind.i64 (0 : Int), IV.int IntKind.i64 (0 : Int), IV.int IntKind.i64 (0 : Int), IV.vslice none (0 : Nat) (0 : Nat) (5 : Nat) [], IV.int IntKind.i64 (1 : Int),
 IV.int IntKind.i64 (0 : Int), IV.int IntKind.i64 (0 : Int), IV.int IntKind.i64 (0 : Int), IV.vslice none (0 : Nat) (0 : Nat) (5 : Nat) []],
 IV.vslice none (0 : Nat) (0 : Nat) (4 : Nat) [], IV.int IntKind.i64 (2 : Int), IV.int IntKind.i64 (0 : Int), IV.str [(111 : UInt8), (110 : UInt8), (101 : UInt8)], IV.int IntKind.i64 (0 : Int), IV.int IntKind.i64 (16 : Int),
 IV.int IntKind.i64 (0 : Int), IV.int IntKind.i64 (0 : Int),
 IV.vslice none (0 : Nat) (2 : Nat) (5 : Nat)
 [IV.int IntKind.i64 (1 : Int), IV.int IntKind.i64 (0 : Int), IV.int IntKind.i64 (0 : Int), IV.int IntKind.i64 (0 : Int), IV.vslice none (0 : Nat) (0 : Nat) (5 : Nat) [], IV.int IntKind.i64 (0 : Int),
 IV.int IntKind.i64 (1 : Int), IV.int IntKind.i64 (0 : Int), IV.int IntKind.i64 (0 : Int), IV.vslice none (0 : Nat) (0 : Nat) (5 : Nat) []],
 IV.int IntKind.i64 (0 : Int), IV.int IntKind.i64 (1 : Int), IV.int IntKind.i64 (1 : Int), IV.int IntKind.i64 (0 : Int), IV.vslice none (0 : Nat) (0 : Nat) (5 : Nat) [],
 IV.vslice none (0 : Nat) (1 : Nat) (4 : Nat) [IV.int IntKind.i64 (1 : Int), IV.int IntKind.i64 (1 : Int), IV.int IntKind.i64 (0 : Int), IV.int IntKind.i64 (0 : Int)], IV.int IntKind.i64 (1 : Int),
 IV.int IntKind.i64 (0 : Int)] =
 rls ∧
 b = true ∨
 IV.vslice none (0 : Nat) (2 : Nat) (14 : Nat)
 [IV.str [(116 : UInt8), (117 : UInt8), (114 : UInt8), (110 : UInt8)], IV.int IntKind.i64 (0 : Int), IV.int IntKind.i64 (4 : Int), IV.int IntKind.i64 (0 : Int), IV.int IntKind.i64 (0 : Int),
 IV.vslice none (0 : Nat) (2 : Nat) (5 : Nat)
 [IV.int IntKind.i64 (1 : Int), IV.int IntKind.i64 (0 : Int), IV.int IntKind.i64 (0 : Int), IV.int IntKind.i64 (0 : Int), IV.vslice none (0 : Nat) (0 : Nat) (5 : Nat) [], IV.int IntKind.i64 (2 : Int),
 IV.int IntKind.i64 (0 : Int), IV.int IntKind.i64 (0 : Int), IV.int IntKind.i64 (0 : Int), IV.vslice none (0 : Nat) (0 : Nat) (5 : Nat) []],
 IV.int IntKind.i64 (0 : Int), IV.int IntKind.i64 (4 : Int), IV.int IntKind.i64 (0 : Int), IV.int IntKind.i64 (0 : Int),
 IV.vslice none (0 : Nat) (2 : Nat) (5 : Nat)
 [IV.int IntKind.i64 (2 : Int), IV.int IntKind.i64 (0 : Int), IV.int IntKind.i64 (0 : Int), IV.int IntKind.i64 (0 : Int), IV.vslice none (0 : Nat) (0 : Nat) (5 : Nat) [], IV.int IntKind.i64 (1 : Int),
 IV.int IntKind.i64 (0 : Int), IV.int IntKind.i64 (0 : Int), IV.int IntKind.i64 (0 : Int), IV.vslice none (0 : Nat) (0 : Nat) (5 : Nat) []],
 IV.vslice none (0 : Nat) (0 : Nat) (4 : Nat) [], IV.int IntKind.i64 (2 : Int), IV.int IntKind.i64 (0 : Int), IV.str [(111 : UInt8), (110 : UInt8), (101 : UInt8)], IV.int IntKind.i64 (0 : Int), IV.int IntKind.i64 (16 : Int),
 IV.int IntKind.i64 (0 : Int), IV.int IntKind.i64 (0 : Int),
 IV.vslice none (0 : Nat) (2 : Nat) (5 : Nat)
 [IV.int IntKind.i64 (1 : Int), IV.int IntKind.i64 (0 : Int), IV.int IntKind.i64 (0 : Int), IV.int IntKind.i64 (0 : Int), IV.vslice none (0 : Nat) (0 : Nat) (5 : Nat) [], IV.int IntKind.i64 (0 : Int),
 IV.int IntKind.i64 (1 : Int), IV.int IntKind.i64 (0 : Int), IV.int IntKind.i64 (0 : Int), IV.vslice none (0 : Nat) (0 : Nat) (5 : Nat) []],
 IV.int IntKind.i64 (0 : Int), IV.int IntKind.i64 (1 : Int), IV.int IntKind.i64 (1 : Int), IV.int IntKind.i64 (0 : Int), IV.vslice none (0 : Nat) (0 : Nat) (5 : Nat) [],
 IV.vslice none (0 : Nat) (1 : Nat) (4 : Nat) [IV.int IntKind.i64 (1 : Int), IV.int IntKind.i64 (1 : Int), IV.int IntKind.i64 (0 : Int), IV.int IntKind.i64 (0 : Int)], IV.int IntKind.i64 (1 : Int),
 IV.int IntKind.i64 (0 : Int)] =
 nrl ∧
 b = false) ∧
 ∀ (h2 : Heap), Q (IV.bool b) h) := by kernel_rfl
theorem sCPR : ∀ xs h Q, kCPR xs h Q → CallW env 6 xs h Q := by
  intro xs h Q hk
  unfold kCPR at hk
  split at hk
  · rename_i r i l p
    obtain ⟨⟨rfl, rfl, rfl, rfl⟩, hk⟩ := hk
    refine dF_run (okCheck) (vCPR  h Q) ?_
    exact ⟨⟨rfl, rfl, rfl, rfl⟩, true, .inl ⟨rfl, rfl⟩, fun h2 => hk⟩
  · exact hk.elim
def cCPR := addC 6 kCPR cCheck
theorem okCPR : Sound env cCPR := sound_add sCPR (okCheck)

def kCPN (xs : List IV) (h : Heap) (K : IV → Heap → Prop) : Prop := match xs with
  | [r, i, l, p] => (r = nrl ∧ i = ninv ∧ l = nlen ∧ p = prf) ∧ K (.bool false) h
  | _ => False
set_option maxRecDepth 100000 in
theorem vCPN  (h : Heap) (Q : IV → Heap → Prop) : dF (stdS cCPR) env 6 noU noI noI [nrl, ninv, nlen, prf] h Q = (
  (Heap.mk PT.nil (0 : Nat) = Heap.mk PT.nil (0 : Nat) ∧
 IV.vslice none (0 : Nat) (0 : Nat) (3 : Nat) [] = ninv ∧
 IV.vslice none (0 : Nat) (0 : Nat) (1 : Nat) [] = nlen ∧
 IV.agg
 [IV.vslice none (0 : Nat) (8 : Nat) (3 : Nat)
 [IV.int IntKind.i64 (2 : Int), IV.int IntKind.i64 (0 : Int), IV.vslice none (0 : Nat) (0 : Nat) (1 : Nat) [], IV.int IntKind.i64 (1 : Int), IV.int IntKind.i64 (5 : Int), IV.vslice none (0 : Nat) (0 : Nat) (1 : Nat) [],
 IV.int IntKind.i64 (4 : Int), IV.int IntKind.i64 (0 : Int), IV.vslice none (0 : Nat) (2 : Nat) (1 : Nat) [IV.int IntKind.i64 (0 : Int), IV.int IntKind.i64 (1 : Int)], IV.int IntKind.i64 (4 : Int),
 IV.int IntKind.i64 (0 : Int), IV.vslice none (0 : Nat) (2 : Nat) (1 : Nat) [IV.int IntKind.i64 (1 : Int), IV.int IntKind.i64 (0 : Int)], IV.int IntKind.i64 (1 : Int), IV.int IntKind.i64 (0 : Int),
 IV.vslice none (0 : Nat) (0 : Nat) (1 : Nat) [], IV.int IntKind.i64 (16 : Int), IV.int IntKind.i64 (0 : Int), IV.vslice none (0 : Nat) (2 : Nat) (1 : Nat) [IV.int IntKind.i64 (1 : Int), IV.int IntKind.i64 (4 : Int)],
 IV.int IntKind.i64 (1 : Int), IV.int IntKind.i64 (1 : Int), IV.vslice none (0 : Nat) (0 : Nat) (1 : Nat) [], IV.int IntKind.i64 (16 : Int), IV.int IntKind.i64 (0 : Int),
 IV.vslice none (0 : Nat) (2 : Nat) (1 : Nat) [IV.int IntKind.i64 (0 : Int), IV.int IntKind.i64 (4 : Int)]],
 IV.vslice none (0 : Nat) (1 : Nat) (5 : Nat)
 [IV.int IntKind.i64 (2 : Int), IV.int IntKind.i64 (3 : Int), IV.int IntKind.i64 (1 : Int), IV.vslice none (0 : Nat) (2 : Nat) (1 : Nat) [IV.int IntKind.i64 (0 : Int), IV.int IntKind.i64 (1 : Int)],
 IV.vslice none (0 : Nat) (0 : Nat) (1 : Nat) []],
 IV.int IntKind.i64 (3 : Int), IV.int IntKind.i64 (2 : Int)] =
 prf) ∧
 ∃ (b : Bool), (IV.vslice none (0 : Nat) (0 : Nat) (14 : Nat) [] = rls ∧ b = true ∨ IV.vslice none (0 : Nat) (0 : Nat) (14 : Nat) [] = nrl ∧ b = false) ∧ ∀ (h2 : Heap), Q (IV.bool b) h) := by kernel_rfl
theorem sCPN : ∀ xs h Q, kCPN xs h Q → CallW env 6 xs h Q := by
  intro xs h Q hk
  unfold kCPN at hk
  split at hk
  · rename_i r i l p
    obtain ⟨⟨rfl, rfl, rfl, rfl⟩, hk⟩ := hk
    refine dF_run (okCPR) (vCPN  h Q) ?_
    exact ⟨⟨rfl, rfl, rfl, rfl⟩, false, .inr ⟨rfl, rfl⟩, fun h2 => hk⟩
  · exact hk.elim
def cCPN := addC 6 kCPN cCPR
theorem okCPN : Sound env cCPN := sound_add sCPN (okCPR)

def kCProof (xs : List IV) (h : Heap) (K : IV → Heap → Prop) : Prop := match xs with
  | [r, i, l, p] => (i = ninv ∧ l = nlen ∧ p = prf) ∧ ∃ b : Bool, ((r = rls ∧ b = true) ∨ (r = nrl ∧ b = false)) ∧ K (.bool b) h
  | _ => False
theorem sCProof : ∀ xs h Q, kCProof xs h Q → CallW env 6 xs h Q := by
  intro xs h Q hk
  unfold kCProof at hk
  split at hk
  · rename_i r i l p
    obtain ⟨⟨rfl, rfl, rfl⟩, b, hc, hk⟩ := hk
    rcases hc with ⟨rfl, rfl⟩ | ⟨rfl, rfl⟩
    · exact sCPR _ _ _ ⟨⟨rfl, rfl, rfl, rfl⟩, hk⟩
    · exact sCPN _ _ _ ⟨⟨rfl, rfl, rfl, rfl⟩, hk⟩
  · exact hk.elim
def cCProof := addC 6 kCProof cCPN
theorem okCProof : Sound env cCProof := sound_add sCProof (okCPN)

def kREx (xs : List IV) (h : Heap) (K : IV → Heap → Prop) : Prop := match xs with
  | [] => K (.bool true) h
  | _ => False
set_option maxRecDepth 100000 in
theorem vREx  (h : Heap) (Q : IV → Heap → Prop) : dF (stdS cCProof) env 3 noU noI noI [] h Q = (
  (IV.vslice none (0 : Nat) (0 : Nat) (3 : Nat) [] = ninv ∧
 IV.vslice none (0 : Nat) (0 : Nat) (1 : Nat) [] = nlen ∧
 IV.vslice none (0 : Nat) (8 : Nat) (3 : Nat)
 [IV.int IntKind.i64 (2 : Int), IV.int IntKind.i64 (0 : Int), IV.vslice none (0 : Nat) (0 : Nat) (1 : Nat) [], IV.int IntKind.i64 (1 : Int), IV.int IntKind.i64 (5 : Int), IV.vslice none (0 : Nat) (0 : Nat) (1 : Nat) [],
 IV.int IntKind.i64 (4 : Int), IV.int IntKind.i64 (0 : Int), IV.vslice none (0 : Nat) (2 : Nat) (1 : Nat) [IV.int IntKind.i64 (0 : Int), IV.int IntKind.i64 (1 : Int)], IV.int IntKind.i64 (4 : Int), IV.int IntKind.i64 (0 : Int),
 IV.vslice none (0 : Nat) (2 : Nat) (1 : Nat) [IV.int IntKind.i64 (1 : Int), IV.int IntKind.i64 (0 : Int)], IV.int IntKind.i64 (1 : Int), IV.int IntKind.i64 (0 : Int), IV.vslice none (0 : Nat) (0 : Nat) (1 : Nat) [],
 IV.int IntKind.i64 (16 : Int), IV.int IntKind.i64 (0 : Int), IV.vslice none (0 : Nat) (2 : Nat) (1 : Nat) [IV.int IntKind.i64 (1 : Int), IV.int IntKind.i64 (4 : Int)], IV.int IntKind.i64 (1 : Int), IV.int IntKind.i64 (1 : Int),
 IV.vslice none (0 : Nat) (0 : Nat) (1 : Nat) [], IV.int IntKind.i64 (16 : Int), IV.int IntKind.i64 (0 : Int), IV.vslice none (0 : Nat) (2 : Nat) (1 : Nat) [IV.int IntKind.i64 (0 : Int), IV.int IntKind.i64 (4 : Int)]] =
 nds) ∧
 ∃ (b : Bool),
 (IV.vslice none (0 : Nat) (2 : Nat) (14 : Nat)
 [IV.str [(116 : UInt8), (117 : UInt8), (114 : UInt8), (110 : UInt8)], IV.int IntKind.i64 (0 : Int), IV.int IntKind.i64 (4 : Int), IV.int IntKind.i64 (0 : Int), IV.int IntKind.i64 (0 : Int),
 IV.vslice none (0 : Nat) (2 : Nat) (5 : Nat)
 [IV.int IntKind.i64 (1 : Int), IV.int IntKind.i64 (0 : Int), IV.int IntKind.i64 (0 : Int), IV.int IntKind.i64 (0 : Int), IV.vslice none (0 : Nat) (0 : Nat) (5 : Nat) [], IV.int IntKind.i64 (2 : Int),
 IV.int IntKind.i64 (0 : Int), IV.int IntKind.i64 (0 : Int), IV.int IntKind.i64 (0 : Int), IV.vslice none (0 : Nat) (0 : Nat) (5 : Nat) []],
 IV.int IntKind.i64 (0 : Int), IV.int IntKind.i64 (4 : Int), IV.int IntKind.i64 (0 : Int), IV.int IntKind.i64 (0 : Int),
 IV.vslice none (0 : Nat) (2 : Nat) (5 : Nat)
 [IV.int IntKind.i64 (2 : Int), IV.int IntKind.i64 (0 : Int), IV.int IntKind.i64 (0 : Int), IV.int IntKind.i64 (0 : Int), IV.vslice none (0 : Nat) (0 : Nat) (5 : Nat) [], IV.int IntKind.i64 (1 : Int),
 IV.int IntKind.i64 (0 : Int), IV.int IntKind.i64 (0 : Int), IV.int IntKind.i64 (0 : Int), IV.vslice none (0 : Nat) (0 : Nat) (5 : Nat) []],
 IV.vslice none (0 : Nat) (0 : Nat) (4 : Nat) [], IV.int IntKind.i64 (2 : Int), IV.int IntKind.i64 (0 : Int), IV.str [(111 : UInt8), (110 : UInt8), (101 : UInt8)], IV.int IntKind.i64 (0 : Int), IV.int IntKind.i64 (16 : Int),
 IV.int IntKind.i64 (0 : Int), IV.int IntKind.i64 (0 : Int),
 IV.vslice none (0 : Nat) (2 : Nat) (5 : Nat)
 [IV.int IntKind.i64 (1 : Int), IV.int IntKind.i64 (0 : Int), IV.int IntKind.i64 (0 : Int), IV.int IntKind.i64 (0 : Int), IV.vslice none (0 : Nat) (0 : Nat) (5 : Nat) [], IV.int IntKind.i64 (0 : Int),
 IV.int IntKind.i64 (1 : Int), IV.int IntKind.i64 (0 : Int), IV.int IntKind.i64 (0 : Int), IV.vslice none (0 : Nat) (0 : Nat) (5 : Nat) []],
 IV.int IntKind.i64 (0 : Int), IV.int IntKind.i64 (1 : Int), IV.int IntKind.i64 (1 : Int), IV.int IntKind.i64 (0 : Int), IV.vslice none (0 : Nat) (0 : Nat) (5 : Nat) [],
 IV.vslice none (0 : Nat) (1 : Nat) (4 : Nat) [IV.int IntKind.i64 (1 : Int), IV.int IntKind.i64 (1 : Int), IV.int IntKind.i64 (0 : Int), IV.int IntKind.i64 (0 : Int)], IV.int IntKind.i64 (1 : Int),
 IV.int IntKind.i64 (0 : Int)] =
 rls ∧
 IV.agg
 [IV.int IntKind.i64 (2 : Int), IV.int IntKind.i64 (3 : Int), IV.int IntKind.i64 (1 : Int), IV.vslice none (0 : Nat) (2 : Nat) (1 : Nat) [IV.int IntKind.i64 (0 : Int), IV.int IntKind.i64 (1 : Int)],
 IV.vslice none (0 : Nat) (0 : Nat) (1 : Nat) []] =
 stA ∧
 b = true ∨
 IV.vslice none (0 : Nat) (2 : Nat) (14 : Nat)
 [IV.str [(116 : UInt8), (117 : UInt8), (114 : UInt8), (110 : UInt8)], IV.int IntKind.i64 (0 : Int), IV.int IntKind.i64 (4 : Int), IV.int IntKind.i64 (0 : Int), IV.int IntKind.i64 (0 : Int),
 IV.vslice none (0 : Nat) (2 : Nat) (5 : Nat)
 [IV.int IntKind.i64 (1 : Int), IV.int IntKind.i64 (0 : Int), IV.int IntKind.i64 (0 : Int), IV.int IntKind.i64 (0 : Int), IV.vslice none (0 : Nat) (0 : Nat) (5 : Nat) [], IV.int IntKind.i64 (2 : Int),
 IV.int IntKind.i64 (0 : Int), IV.int IntKind.i64 (0 : Int), IV.int IntKind.i64 (0 : Int), IV.vslice none (0 : Nat) (0 : Nat) (5 : Nat) []],
 IV.int IntKind.i64 (0 : Int), IV.int IntKind.i64 (4 : Int), IV.int IntKind.i64 (0 : Int), IV.int IntKind.i64 (0 : Int),
 IV.vslice none (0 : Nat) (2 : Nat) (5 : Nat)
 [IV.int IntKind.i64 (2 : Int), IV.int IntKind.i64 (0 : Int), IV.int IntKind.i64 (0 : Int), IV.int IntKind.i64 (0 : Int), IV.vslice none (0 : Nat) (0 : Nat) (5 : Nat) [], IV.int IntKind.i64 (1 : Int),
 IV.int IntKind.i64 (0 : Int), IV.int IntKind.i64 (0 : Int), IV.int IntKind.i64 (0 : Int), IV.vslice none (0 : Nat) (0 : Nat) (5 : Nat) []],
 IV.vslice none (0 : Nat) (0 : Nat) (4 : Nat) [], IV.int IntKind.i64 (2 : Int), IV.int IntKind.i64 (0 : Int), IV.str [(111 : UInt8), (110 : UInt8), (101 : UInt8)], IV.int IntKind.i64 (0 : Int),
 IV.int IntKind.i64 (16 : Int), IV.int IntKind.i64 (0 : Int), IV.int IntKind.i64 (0 : Int),
 IV.vslice none (0 : Nat) (2 : Nat) (5 : Nat)
 [IV.int IntKind.i64 (1 : Int), IV.int IntKind.i64 (0 : Int), IV.int IntKind.i64 (0 : Int), IV.int IntKind.i64 (0 : Int), IV.vslice none (0 : Nat) (0 : Nat) (5 : Nat) [], IV.int IntKind.i64 (0 : Int),
 IV.int IntKind.i64 (1 : Int), IV.int IntKind.i64 (0 : Int), IV.int IntKind.i64 (0 : Int), IV.vslice none (0 : Nat) (0 : Nat) (5 : Nat) []],
 IV.int IntKind.i64 (0 : Int), IV.int IntKind.i64 (1 : Int), IV.int IntKind.i64 (1 : Int), IV.int IntKind.i64 (0 : Int), IV.vslice none (0 : Nat) (0 : Nat) (5 : Nat) [],
 IV.vslice none (0 : Nat) (1 : Nat) (4 : Nat) [IV.int IntKind.i64 (1 : Int), IV.int IntKind.i64 (1 : Int), IV.int IntKind.i64 (0 : Int), IV.int IntKind.i64 (0 : Int)], IV.int IntKind.i64 (1 : Int),
 IV.int IntKind.i64 (0 : Int)] =
 rls ∧
 IV.agg
 [IV.int IntKind.i64 (2 : Int), IV.int IntKind.i64 (3 : Int), IV.int IntKind.i64 (1 : Int), IV.vslice none (0 : Nat) (2 : Nat) (1 : Nat) [IV.int IntKind.i64 (0 : Int), IV.int IntKind.i64 (1 : Int)],
 IV.vslice none (0 : Nat) (0 : Nat) (1 : Nat) []] =
 stB ∧
 b = true ∨
 IV.vslice none (0 : Nat) (2 : Nat) (14 : Nat)
 [IV.str [(116 : UInt8), (117 : UInt8), (114 : UInt8), (110 : UInt8)], IV.int IntKind.i64 (0 : Int), IV.int IntKind.i64 (4 : Int), IV.int IntKind.i64 (0 : Int), IV.int IntKind.i64 (0 : Int),
 IV.vslice none (0 : Nat) (2 : Nat) (5 : Nat)
 [IV.int IntKind.i64 (1 : Int), IV.int IntKind.i64 (0 : Int), IV.int IntKind.i64 (0 : Int), IV.int IntKind.i64 (0 : Int), IV.vslice none (0 : Nat) (0 : Nat) (5 : Nat) [], IV.int IntKind.i64 (2 : Int),
 IV.int IntKind.i64 (0 : Int), IV.int IntKind.i64 (0 : Int), IV.int IntKind.i64 (0 : Int), IV.vslice none (0 : Nat) (0 : Nat) (5 : Nat) []],
 IV.int IntKind.i64 (0 : Int), IV.int IntKind.i64 (4 : Int), IV.int IntKind.i64 (0 : Int), IV.int IntKind.i64 (0 : Int),
 IV.vslice none (0 : Nat) (2 : Nat) (5 : Nat)
 [IV.int IntKind.i64 (2 : Int), IV.int IntKind.i64 (0 : Int), IV.int IntKind.i64 (0 : Int), IV.int IntKind.i64 (0 : Int), IV.vslice none (0 : Nat) (0 : Nat) (5 : Nat) [], IV.int IntKind.i64 (1 : Int),
 IV.int IntKind.i64 (0 : Int), IV.int IntKind.i64 (0 : Int), IV.int IntKind.i64 (0 : Int), IV.vslice none (0 : Nat) (0 : Nat) (5 : Nat) []],
 IV.vslice none (0 : Nat) (0 : Nat) (4 : Nat) [], IV.int IntKind.i64 (2 : Int), IV.int IntKind.i64 (0 : Int), IV.str [(111 : UInt8), (110 : UInt8), (101 : UInt8)], IV.int IntKind.i64 (0 : Int),
 IV.int IntKind.i64 (16 : Int), IV.int IntKind.i64 (0 : Int), IV.int IntKind.i64 (0 : Int),
 IV.vslice none (0 : Nat) (2 : Nat) (5 : Nat)
 [IV.int IntKind.i64 (1 : Int), IV.int IntKind.i64 (0 : Int), IV.int IntKind.i64 (0 : Int), IV.int IntKind.i64 (0 : Int), IV.vslice none (0 : Nat) (0 : Nat) (5 : Nat) [], IV.int IntKind.i64 (0 : Int),
 IV.int IntKind.i64 (1 : Int), IV.int IntKind.i64 (0 : Int), IV.int IntKind.i64 (0 : Int), IV.vslice none (0 : Nat) (0 : Nat) (5 : Nat) []],
 IV.int IntKind.i64 (0 : Int), IV.int IntKind.i64 (1 : Int), IV.int IntKind.i64 (1 : Int), IV.int IntKind.i64 (0 : Int), IV.vslice none (0 : Nat) (0 : Nat) (5 : Nat) [],
 IV.vslice none (0 : Nat) (1 : Nat) (4 : Nat) [IV.int IntKind.i64 (1 : Int), IV.int IntKind.i64 (1 : Int), IV.int IntKind.i64 (0 : Int), IV.int IntKind.i64 (0 : Int)], IV.int IntKind.i64 (1 : Int),
 IV.int IntKind.i64 (0 : Int)] =
 nrl ∧
 IV.agg
 [IV.int IntKind.i64 (2 : Int), IV.int IntKind.i64 (3 : Int), IV.int IntKind.i64 (1 : Int), IV.vslice none (0 : Nat) (2 : Nat) (1 : Nat) [IV.int IntKind.i64 (0 : Int), IV.int IntKind.i64 (1 : Int)],
 IV.vslice none (0 : Nat) (0 : Nat) (1 : Nat) []] =
 stC ∧
 b = true ∨
 IV.vslice none (0 : Nat) (2 : Nat) (14 : Nat)
 [IV.str [(116 : UInt8), (117 : UInt8), (114 : UInt8), (110 : UInt8)], IV.int IntKind.i64 (0 : Int), IV.int IntKind.i64 (4 : Int), IV.int IntKind.i64 (0 : Int), IV.int IntKind.i64 (0 : Int),
 IV.vslice none (0 : Nat) (2 : Nat) (5 : Nat)
 [IV.int IntKind.i64 (1 : Int), IV.int IntKind.i64 (0 : Int), IV.int IntKind.i64 (0 : Int), IV.int IntKind.i64 (0 : Int), IV.vslice none (0 : Nat) (0 : Nat) (5 : Nat) [], IV.int IntKind.i64 (2 : Int),
 IV.int IntKind.i64 (0 : Int), IV.int IntKind.i64 (0 : Int), IV.int IntKind.i64 (0 : Int), IV.vslice none (0 : Nat) (0 : Nat) (5 : Nat) []],
 IV.int IntKind.i64 (0 : Int), IV.int IntKind.i64 (4 : Int), IV.int IntKind.i64 (0 : Int), IV.int IntKind.i64 (0 : Int),
 IV.vslice none (0 : Nat) (2 : Nat) (5 : Nat)
 [IV.int IntKind.i64 (2 : Int), IV.int IntKind.i64 (0 : Int), IV.int IntKind.i64 (0 : Int), IV.int IntKind.i64 (0 : Int), IV.vslice none (0 : Nat) (0 : Nat) (5 : Nat) [], IV.int IntKind.i64 (1 : Int),
 IV.int IntKind.i64 (0 : Int), IV.int IntKind.i64 (0 : Int), IV.int IntKind.i64 (0 : Int), IV.vslice none (0 : Nat) (0 : Nat) (5 : Nat) []],
 IV.vslice none (0 : Nat) (0 : Nat) (4 : Nat) [], IV.int IntKind.i64 (2 : Int), IV.int IntKind.i64 (0 : Int), IV.str [(111 : UInt8), (110 : UInt8), (101 : UInt8)], IV.int IntKind.i64 (0 : Int),
 IV.int IntKind.i64 (16 : Int), IV.int IntKind.i64 (0 : Int), IV.int IntKind.i64 (0 : Int),
 IV.vslice none (0 : Nat) (2 : Nat) (5 : Nat)
 [IV.int IntKind.i64 (1 : Int), IV.int IntKind.i64 (0 : Int), IV.int IntKind.i64 (0 : Int), IV.int IntKind.i64 (0 : Int), IV.vslice none (0 : Nat) (0 : Nat) (5 : Nat) [], IV.int IntKind.i64 (0 : Int),
 IV.int IntKind.i64 (1 : Int), IV.int IntKind.i64 (0 : Int), IV.int IntKind.i64 (0 : Int), IV.vslice none (0 : Nat) (0 : Nat) (5 : Nat) []],
 IV.int IntKind.i64 (0 : Int), IV.int IntKind.i64 (1 : Int), IV.int IntKind.i64 (1 : Int), IV.int IntKind.i64 (0 : Int), IV.vslice none (0 : Nat) (0 : Nat) (5 : Nat) [],
 IV.vslice none (0 : Nat) (1 : Nat) (4 : Nat) [IV.int IntKind.i64 (1 : Int), IV.int IntKind.i64 (1 : Int), IV.int IntKind.i64 (0 : Int), IV.int IntKind.i64 (0 : Int)], IV.int IntKind.i64 (1 : Int),
 IV.int IntKind.i64 (0 : Int)] =
 rls ∧
 IV.agg
 [IV.int IntKind.i64 (2 : Int), IV.int IntKind.i64 (3 : Int), IV.int IntKind.i64 (1 : Int), IV.vslice none (0 : Nat) (2 : Nat) (1 : Nat) [IV.int IntKind.i64 (0 : Int), IV.int IntKind.i64 (1 : Int)],
 IV.vslice none (0 : Nat) (0 : Nat) (1 : Nat) []] =
 stD ∧
 b = false ∨
 IV.vslice none (0 : Nat) (2 : Nat) (14 : Nat)
 [IV.str [(116 : UInt8), (117 : UInt8), (114 : UInt8), (110 : UInt8)], IV.int IntKind.i64 (0 : Int), IV.int IntKind.i64 (4 : Int), IV.int IntKind.i64 (0 : Int), IV.int IntKind.i64 (0 : Int),
 IV.vslice none (0 : Nat) (2 : Nat) (5 : Nat)
 [IV.int IntKind.i64 (1 : Int), IV.int IntKind.i64 (0 : Int), IV.int IntKind.i64 (0 : Int), IV.int IntKind.i64 (0 : Int), IV.vslice none (0 : Nat) (0 : Nat) (5 : Nat) [], IV.int IntKind.i64 (2 : Int),
 IV.int IntKind.i64 (0 : Int), IV.int IntKind.i64 (0 : Int), IV.int IntKind.i64 (0 : Int), IV.vslice none (0 : Nat) (0 : Nat) (5 : Nat) []],
 IV.int IntKind.i64 (0 : Int), IV.int IntKind.i64 (4 : Int), IV.int IntKind.i64 (0 : Int), IV.int IntKind.i64 (0 : Int),
 IV.vslice none (0 : Nat) (2 : Nat) (5 : Nat)
 [IV.int IntKind.i64 (2 : Int), IV.int IntKind.i64 (0 : Int), IV.int IntKind.i64 (0 : Int), IV.int IntKind.i64 (0 : Int), IV.vslice none (0 : Nat) (0 : Nat) (5 : Nat) [], IV.int IntKind.i64 (1 : Int),
 IV.int IntKind.i64 (0 : Int), IV.int IntKind.i64 (0 : Int), IV.int IntKind.i64 (0 : Int), IV.vslice none (0 : Nat) (0 : Nat) (5 : Nat) []],
 IV.vslice none (0 : Nat) (0 : Nat) (4 : Nat) [], IV.int IntKind.i64 (2 : Int), IV.int IntKind.i64 (0 : Int), IV.str [(111 : UInt8), (110 : UInt8), (101 : UInt8)], IV.int IntKind.i64 (0 : Int),
 IV.int IntKind.i64 (16 : Int), IV.int IntKind.i64 (0 : Int), IV.int IntKind.i64 (0 : Int),
 IV.vslice none (0 : Nat) (2 : Nat) (5 : Nat)
 [IV.int IntKind.i64 (1 : Int), IV.int IntKind.i64 (0 : Int), IV.int IntKind.i64 (0 : Int), IV.int IntKind.i64 (0 : Int), IV.vslice none (0 : Nat) (0 : Nat) (5 : Nat) [], IV.int IntKind.i64 (0 : Int),
 IV.int IntKind.i64 (1 : Int), IV.int IntKind.i64 (0 : Int), IV.int IntKind.i64 (0 : Int), IV.vslice none (0 : Nat) (0 : Nat) (5 : Nat) []],
 IV.int IntKind.i64 (0 : Int), IV.int IntKind.i64 (1 : Int), IV.int IntKind.i64 (1 : Int), IV.int IntKind.i64 (0 : Int), IV.vslice none (0 : Nat) (0 : Nat) (5 : Nat) [],
 IV.vslice none (0 : Nat) (1 : Nat) (4 : Nat) [IV.int IntKind.i64 (1 : Int), IV.int IntKind.i64 (1 : Int), IV.int IntKind.i64 (0 : Int), IV.int IntKind.i64 (0 : Int)], IV.int IntKind.i64 (1 : Int),
 IV.int IntKind.i64 (0 : Int)] =
 nrl ∧
 IV.agg
 [IV.int IntKind.i64 (2 : Int), IV.int IntKind.i64 (3 : Int), IV.int IntKind.i64 (1 : Int), IV.vslice none (0 : Nat) (2 : Nat) (1 : Nat) [IV.int IntKind.i64 (0 : Int), IV.int IntKind.i64 (1 : Int)],
 IV.vslice none (0 : Nat) (0 : Nat) (1 : Nat) []] =
 stA ∧
 b = false) ∧
 brS b
 ((IV.vslice none (0 : Nat) (0 : Nat) (3 : Nat) [] = ninv ∧
 IV.vslice none (0 : Nat) (0 : Nat) (1 : Nat) [] = nlen ∧
 IV.vslice none (0 : Nat) (8 : Nat) (3 : Nat)
 [IV.int IntKind.i64 (2 : Int), IV.int IntKind.i64 (0 : Int), IV.vslice none (0 : Nat) (0 : Nat) (1 : Nat) [], IV.int IntKind.i64 (1 : Int), IV.int IntKind.i64 (5 : Int), IV.vslice none (0 : Nat) (0 : Nat) (1 : Nat) [],
 IV.int IntKind.i64 (4 : Int), IV.int IntKind.i64 (0 : Int), IV.vslice none (0 : Nat) (2 : Nat) (1 : Nat) [IV.int IntKind.i64 (0 : Int), IV.int IntKind.i64 (1 : Int)], IV.int IntKind.i64 (4 : Int),
 IV.int IntKind.i64 (0 : Int), IV.vslice none (0 : Nat) (2 : Nat) (1 : Nat) [IV.int IntKind.i64 (1 : Int), IV.int IntKind.i64 (0 : Int)], IV.int IntKind.i64 (1 : Int), IV.int IntKind.i64 (0 : Int),
 IV.vslice none (0 : Nat) (0 : Nat) (1 : Nat) [], IV.int IntKind.i64 (16 : Int), IV.int IntKind.i64 (0 : Int), IV.vslice none (0 : Nat) (2 : Nat) (1 : Nat) [IV.int IntKind.i64 (1 : Int), IV.int IntKind.i64 (4 : Int)],
 IV.int IntKind.i64 (1 : Int), IV.int IntKind.i64 (1 : Int), IV.vslice none (0 : Nat) (0 : Nat) (1 : Nat) [], IV.int IntKind.i64 (16 : Int), IV.int IntKind.i64 (0 : Int),
 IV.vslice none (0 : Nat) (2 : Nat) (1 : Nat) [IV.int IntKind.i64 (0 : Int), IV.int IntKind.i64 (4 : Int)]] =
 nds) ∧
 ∃ (b : Bool),
 (IV.vslice none (0 : Nat) (2 : Nat) (14 : Nat)
 [IV.str [(116 : UInt8), (117 : UInt8), (114 : UInt8), (110 : UInt8)], IV.int IntKind.i64 (0 : Int), IV.int IntKind.i64 (4 : Int), IV.int IntKind.i64 (0 : Int), IV.int IntKind.i64 (0 : Int),
 IV.vslice none (0 : Nat) (2 : Nat) (5 : Nat)
 [IV.int IntKind.i64 (1 : Int), IV.int IntKind.i64 (0 : Int), IV.int IntKind.i64 (0 : Int), IV.int IntKind.i64 (0 : Int), IV.vslice none (0 : Nat) (0 : Nat) (5 : Nat) [], IV.int IntKind.i64 (2 : Int),
 IV.int IntKind.i64 (0 : Int), IV.int IntKind.i64 (0 : Int), IV.int IntKind.i64 (0 : Int), IV.vslice none (0 : Nat) (0 : Nat) (5 : Nat) []],
 IV.int IntKind.i64 (0 : Int), IV.int IntKind.i64 (4 : Int), IV.int IntKind.i64 (0 : Int), IV.int IntKind.i64 (0 : Int),
 IV.vslice none (0 : Nat) (2 : Nat) (5 : Nat)
 [IV.int IntKind.i64 (2 : Int), IV.int IntKind.i64 (0 : Int), IV.int IntKind.i64 (0 : Int), IV.int IntKind.i64 (0 : Int), IV.vslice none (0 : Nat) (0 : Nat) (5 : Nat) [], IV.int IntKind.i64 (1 : Int),
 IV.int IntKind.i64 (0 : Int), IV.int IntKind.i64 (0 : Int), IV.int IntKind.i64 (0 : Int), IV.vslice none (0 : Nat) (0 : Nat) (5 : Nat) []],
 IV.vslice none (0 : Nat) (0 : Nat) (4 : Nat) [], IV.int IntKind.i64 (2 : Int), IV.int IntKind.i64 (0 : Int), IV.str [(111 : UInt8), (110 : UInt8), (101 : UInt8)], IV.int IntKind.i64 (0 : Int),
 IV.int IntKind.i64 (16 : Int), IV.int IntKind.i64 (0 : Int), IV.int IntKind.i64 (0 : Int),
 IV.vslice none (0 : Nat) (2 : Nat) (5 : Nat)
 [IV.int IntKind.i64 (1 : Int), IV.int IntKind.i64 (0 : Int), IV.int IntKind.i64 (0 : Int), IV.int IntKind.i64 (0 : Int), IV.vslice none (0 : Nat) (0 : Nat) (5 : Nat) [], IV.int IntKind.i64 (0 : Int),
 IV.int IntKind.i64 (1 : Int), IV.int IntKind.i64 (0 : Int), IV.int IntKind.i64 (0 : Int), IV.vslice none (0 : Nat) (0 : Nat) (5 : Nat) []],
 IV.int IntKind.i64 (0 : Int), IV.int IntKind.i64 (1 : Int), IV.int IntKind.i64 (1 : Int), IV.int IntKind.i64 (0 : Int), IV.vslice none (0 : Nat) (0 : Nat) (5 : Nat) [],
 IV.vslice none (0 : Nat) (1 : Nat) (4 : Nat) [IV.int IntKind.i64 (1 : Int), IV.int IntKind.i64 (1 : Int), IV.int IntKind.i64 (0 : Int), IV.int IntKind.i64 (0 : Int)], IV.int IntKind.i64 (1 : Int),
 IV.int IntKind.i64 (0 : Int)] =
 rls ∧
 IV.agg
 [IV.int IntKind.i64 (5 : Int), IV.int IntKind.i64 (6 : Int), IV.int IntKind.i64 (2 : Int), IV.vslice none (0 : Nat) (1 : Nat) (1 : Nat) [IV.int IntKind.i64 (1 : Int)],
 IV.vslice none (0 : Nat) (0 : Nat) (1 : Nat) []] =
 stA ∧
 b = true ∨
 IV.vslice none (0 : Nat) (2 : Nat) (14 : Nat)
 [IV.str [(116 : UInt8), (117 : UInt8), (114 : UInt8), (110 : UInt8)], IV.int IntKind.i64 (0 : Int), IV.int IntKind.i64 (4 : Int), IV.int IntKind.i64 (0 : Int), IV.int IntKind.i64 (0 : Int),
 IV.vslice none (0 : Nat) (2 : Nat) (5 : Nat)
 [IV.int IntKind.i64 (1 : Int), IV.int IntKind.i64 (0 : Int), IV.int IntKind.i64 (0 : Int), IV.int IntKind.i64 (0 : Int), IV.vslice none (0 : Nat) (0 : Nat) (5 : Nat) [], IV.int IntKind.i64 (2 : Int),
 IV.int IntKind.i64 (0 : Int), IV.int IntKind.i64 (0 : Int), IV.int IntKind.i64 (0 : Int), IV.vslice none (0 : Nat) (0 : Nat) (5 : Nat) []],
 IV.int IntKind.i64 (0 : Int), IV.int IntKind.i64 (4 : Int), IV.int IntKind.i64 (0 : Int), IV.int IntKind.i64 (0 : Int),
 IV.vslice none (0 : Nat) (2 : Nat) (5 : Nat)
 [IV.int IntKind.i64 (2 : Int), IV.int IntKind.i64 (0 : Int), IV.int IntKind.i64 (0 : Int), IV.int IntKind.i64 (0 : Int), IV.vslice none (0 : Nat) (0 : Nat) (5 : Nat) [], IV.int IntKind.i64 (1 : Int),
 IV.int IntKind.i64 (0 : Int), IV.int IntKind.i64 (0 : Int), IV.int IntKind.i64 (0 : Int), IV.vslice none (0 : Nat) (0 : Nat) (5 : Nat) []],
 IV.vslice none (0 : Nat) (0 : Nat) (4 : Nat) [], IV.int IntKind.i64 (2 : Int), IV.int IntKind.i64 (0 : Int), IV.str [(111 : UInt8), (110 : UInt8), (101 : UInt8)], IV.int IntKind.i64 (0 : Int),
 IV.int IntKind.i64 (16 : Int), IV.int IntKind.i64 (0 : Int), IV.int IntKind.i64 (0 : Int),
 IV.vslice none (0 : Nat) (2 : Nat) (5 : Nat)
 [IV.int IntKind.i64 (1 : Int), IV.int IntKind.i64 (0 : Int), IV.int IntKind.i64 (0 : Int), IV.int IntKind.i64 (0 : Int), IV.vslice none (0 : Nat) (0 : Nat) (5 : Nat) [], IV.int IntKind.i64 (0 : Int),
 IV.int IntKind.i64 (1 : Int), IV.int IntKind.i64 (0 : Int), IV.int IntKind.i64 (0 : Int), IV.vslice none (0 : Nat) (0 : Nat) (5 : Nat) []],
 IV.int IntKind.i64 (0 : Int), IV.int IntKind.i64 (1 : Int), IV.int IntKind.i64 (1 : Int), IV.int IntKind.i64 (0 : Int), IV.vslice none (0 : Nat) (0 : Nat) (5 : Nat) [],
 IV.vslice none (0 : Nat) (1 : Nat) (4 : Nat) [IV.int IntKind.i64 (1 : Int), IV.int IntKind.i64 (1 : Int), IV.int IntKind.i64 (0 : Int), IV.int IntKind.i64 (0 : Int)], IV.int IntKind.i64 (1 : Int),
 IV.int IntKind.i64 (0 : Int)] =
 rls ∧
 IV.agg
 [IV.int IntKind.i64 (5 : Int), IV.int IntKind.i64 (6 : Int), IV.int IntKind.i64 (2 : Int), IV.vslice none (0 : Nat) (1 : Nat) (1 : Nat) [IV.int IntKind.i64 (1 : Int)],
 IV.vslice none (0 : Nat) (0 : Nat) (1 : Nat) []] =
 stB ∧
 b = true ∨
 IV.vslice none (0 : Nat) (2 : Nat) (14 : Nat)
 [IV.str [(116 : UInt8), (117 : UInt8), (114 : UInt8), (110 : UInt8)], IV.int IntKind.i64 (0 : Int), IV.int IntKind.i64 (4 : Int), IV.int IntKind.i64 (0 : Int), IV.int IntKind.i64 (0 : Int),
 IV.vslice none (0 : Nat) (2 : Nat) (5 : Nat)
 [IV.int IntKind.i64 (1 : Int), IV.int IntKind.i64 (0 : Int), IV.int IntKind.i64 (0 : Int), IV.int IntKind.i64 (0 : Int), IV.vslice none (0 : Nat) (0 : Nat) (5 : Nat) [], IV.int IntKind.i64 (2 : Int),
 IV.int IntKind.i64 (0 : Int), IV.int IntKind.i64 (0 : Int), IV.int IntKind.i64 (0 : Int), IV.vslice none (0 : Nat) (0 : Nat) (5 : Nat) []],
 IV.int IntKind.i64 (0 : Int), IV.int IntKind.i64 (4 : Int), IV.int IntKind.i64 (0 : Int), IV.int IntKind.i64 (0 : Int),
 IV.vslice none (0 : Nat) (2 : Nat) (5 : Nat)
 [IV.int IntKind.i64 (2 : Int), IV.int IntKind.i64 (0 : Int), IV.int IntKind.i64 (0 : Int), IV.int IntKind.i64 (0 : Int), IV.vslice none (0 : Nat) (0 : Nat) (5 : Nat) [], IV.int IntKind.i64 (1 : Int),
 IV.int IntKind.i64 (0 : Int), IV.int IntKind.i64 (0 : Int), IV.int IntKind.i64 (0 : Int), IV.vslice none (0 : Nat) (0 : Nat) (5 : Nat) []],
 IV.vslice none (0 : Nat) (0 : Nat) (4 : Nat) [], IV.int IntKind.i64 (2 : Int), IV.int IntKind.i64 (0 : Int), IV.str [(111 : UInt8), (110 : UInt8), (101 : UInt8)], IV.int IntKind.i64 (0 : Int),
 IV.int IntKind.i64 (16 : Int), IV.int IntKind.i64 (0 : Int), IV.int IntKind.i64 (0 : Int),
 IV.vslice none (0 : Nat) (2 : Nat) (5 : Nat)
 [IV.int IntKind.i64 (1 : Int), IV.int IntKind.i64 (0 : Int), IV.int IntKind.i64 (0 : Int), IV.int IntKind.i64 (0 : Int), IV.vslice none (0 : Nat) (0 : Nat) (5 : Nat) [], IV.int IntKind.i64 (0 : Int),
 IV.int IntKind.i64 (1 : Int), IV.int IntKind.i64 (0 : Int), IV.int IntKind.i64 (0 : Int), IV.vslice none (0 : Nat) (0 : Nat) (5 : Nat) []],
 IV.int IntKind.i64 (0 : Int), IV.int IntKind.i64 (1 : Int), IV.int IntKind.i64 (1 : Int), IV.int IntKind.i64 (0 : Int), IV.vslice none (0 : Nat) (0 : Nat) (5 : Nat) [],
 IV.vslice none (0 : Nat) (1 : Nat) (4 : Nat) [IV.int IntKind.i64 (1 : Int), IV.int IntKind.i64 (1 : Int), IV.int IntKind.i64 (0 : Int), IV.int IntKind.i64 (0 : Int)], IV.int IntKind.i64 (1 : Int),
 IV.int IntKind.i64 (0 : Int)] =
 nrl ∧
 IV.agg
 [IV.int IntKind.i64 (5 : Int), IV.int IntKind.i64 (6 : Int), IV.int IntKind.i64 (2 : Int), IV.vslice none (0 : Nat) (1 : Nat) (1 : Nat) [IV.int IntKind.i64 (1 : Int)],
 IV.vslice none (0 : Nat) (0 : Nat) (1 : Nat) []] =
 stC ∧
 b = true ∨
 IV.vslice none (0 : Nat) (2 : Nat) (14 : Nat)
 [IV.str [(116 : UInt8), (117 : UInt8), (114 : UInt8), (110 : UInt8)], IV.int IntKind.i64 (0 : Int), IV.int IntKind.i64 (4 : Int), IV.int IntKind.i64 (0 : Int), IV.int IntKind.i64 (0 : Int),
 IV.vslice none (0 : Nat) (2 : Nat) (5 : Nat)
 [IV.int IntKind.i64 (1 : Int), IV.int IntKind.i64 (0 : Int), IV.int IntKind.i64 (0 : Int), IV.int IntKind.i64 (0 : Int), IV.vslice none (0 : Nat) (0 : Nat) (5 : Nat) [], IV.int IntKind.i64 (2 : Int),
 IV.int IntKind.i64 (0 : Int), IV.int IntKind.i64 (0 : Int), IV.int IntKind.i64 (0 : Int), IV.vslice none (0 : Nat) (0 : Nat) (5 : Nat) []],
 IV.int IntKind.i64 (0 : Int), IV.int IntKind.i64 (4 : Int), IV.int IntKind.i64 (0 : Int), IV.int IntKind.i64 (0 : Int),
 IV.vslice none (0 : Nat) (2 : Nat) (5 : Nat)
 [IV.int IntKind.i64 (2 : Int), IV.int IntKind.i64 (0 : Int), IV.int IntKind.i64 (0 : Int), IV.int IntKind.i64 (0 : Int), IV.vslice none (0 : Nat) (0 : Nat) (5 : Nat) [], IV.int IntKind.i64 (1 : Int),
 IV.int IntKind.i64 (0 : Int), IV.int IntKind.i64 (0 : Int), IV.int IntKind.i64 (0 : Int), IV.vslice none (0 : Nat) (0 : Nat) (5 : Nat) []],
 IV.vslice none (0 : Nat) (0 : Nat) (4 : Nat) [], IV.int IntKind.i64 (2 : Int), IV.int IntKind.i64 (0 : Int), IV.str [(111 : UInt8), (110 : UInt8), (101 : UInt8)], IV.int IntKind.i64 (0 : Int),
 IV.int IntKind.i64 (16 : Int), IV.int IntKind.i64 (0 : Int), IV.int IntKind.i64 (0 : Int),
 IV.vslice none (0 : Nat) (2 : Nat) (5 : Nat)
 [IV.int IntKind.i64 (1 : Int), IV.int IntKind.i64 (0 : Int), IV.int IntKind.i64 (0 : Int), IV.int IntKind.i64 (0 : Int), IV.vslice none (0 : Nat) (0 : Nat) (5 : Nat) [], IV.int IntKind.i64 (0 : Int),
 IV.int IntKind.i64 (1 : Int), IV.int IntKind.i64 (0 : Int), IV.int IntKind.i64 (0 : Int), IV.vslice none (0 : Nat) (0 : Nat) (5 : Nat) []],
 IV.int IntKind.i64 (0 : Int), IV.int IntKind.i64 (1 : Int), IV.int IntKind.i64 (1 : Int), IV.int IntKind.i64 (0 : Int), IV.vslice none (0 : Nat) (0 : Nat) (5 : Nat) [],
 IV.vslice none (0 : Nat) (1 : Nat) (4 : Nat) [IV.int IntKind.i64 (1 : Int), IV.int IntKind.i64 (1 : Int), IV.int IntKind.i64 (0 : Int), IV.int IntKind.i64 (0 : Int)], IV.int IntKind.i64 (1 : Int),
 IV.int IntKind.i64 (0 : Int)] =
 rls ∧
 IV.agg
 [IV.int IntKind.i64 (5 : Int), IV.int IntKind.i64 (6 : Int), IV.int IntKind.i64 (2 : Int), IV.vslice none (0 : Nat) (1 : Nat) (1 : Nat) [IV.int IntKind.i64 (1 : Int)],
 IV.vslice none (0 : Nat) (0 : Nat) (1 : Nat) []] =
 stD ∧
 b = false ∨
 IV.vslice none (0 : Nat) (2 : Nat) (14 : Nat)
 [IV.str [(116 : UInt8), (117 : UInt8), (114 : UInt8), (110 : UInt8)], IV.int IntKind.i64 (0 : Int), IV.int IntKind.i64 (4 : Int), IV.int IntKind.i64 (0 : Int), IV.int IntKind.i64 (0 : Int),
 IV.vslice none (0 : Nat) (2 : Nat) (5 : Nat)
 [IV.int IntKind.i64 (1 : Int), IV.int IntKind.i64 (0 : Int), IV.int IntKind.i64 (0 : Int), IV.int IntKind.i64 (0 : Int), IV.vslice none (0 : Nat) (0 : Nat) (5 : Nat) [], IV.int IntKind.i64 (2 : Int),
 IV.int IntKind.i64 (0 : Int), IV.int IntKind.i64 (0 : Int), IV.int IntKind.i64 (0 : Int), IV.vslice none (0 : Nat) (0 : Nat) (5 : Nat) []],
 IV.int IntKind.i64 (0 : Int), IV.int IntKind.i64 (4 : Int), IV.int IntKind.i64 (0 : Int), IV.int IntKind.i64 (0 : Int),
 IV.vslice none (0 : Nat) (2 : Nat) (5 : Nat)
 [IV.int IntKind.i64 (2 : Int), IV.int IntKind.i64 (0 : Int), IV.int IntKind.i64 (0 : Int), IV.int IntKind.i64 (0 : Int), IV.vslice none (0 : Nat) (0 : Nat) (5 : Nat) [], IV.int IntKind.i64 (1 : Int),
 IV.int IntKind.i64 (0 : Int), IV.int IntKind.i64 (0 : Int), IV.int IntKind.i64 (0 : Int), IV.vslice none (0 : Nat) (0 : Nat) (5 : Nat) []],
 IV.vslice none (0 : Nat) (0 : Nat) (4 : Nat) [], IV.int IntKind.i64 (2 : Int), IV.int IntKind.i64 (0 : Int), IV.str [(111 : UInt8), (110 : UInt8), (101 : UInt8)], IV.int IntKind.i64 (0 : Int),
 IV.int IntKind.i64 (16 : Int), IV.int IntKind.i64 (0 : Int), IV.int IntKind.i64 (0 : Int),
 IV.vslice none (0 : Nat) (2 : Nat) (5 : Nat)
 [IV.int IntKind.i64 (1 : Int), IV.int IntKind.i64 (0 : Int), IV.int IntKind.i64 (0 : Int), IV.int IntKind.i64 (0 : Int), IV.vslice none (0 : Nat) (0 : Nat) (5 : Nat) [], IV.int IntKind.i64 (0 : Int),
 IV.int IntKind.i64 (1 : Int), IV.int IntKind.i64 (0 : Int), IV.int IntKind.i64 (0 : Int), IV.vslice none (0 : Nat) (0 : Nat) (5 : Nat) []],
 IV.int IntKind.i64 (0 : Int), IV.int IntKind.i64 (1 : Int), IV.int IntKind.i64 (1 : Int), IV.int IntKind.i64 (0 : Int), IV.vslice none (0 : Nat) (0 : Nat) (5 : Nat) [],
 IV.vslice none (0 : Nat) (1 : Nat) (4 : Nat) [IV.int IntKind.i64 (1 : Int), IV.int IntKind.i64 (1 : Int), IV.int IntKind.i64 (0 : Int), IV.int IntKind.i64 (0 : Int)], IV.int IntKind.i64 (1 : Int),
 IV.int IntKind.i64 (0 : Int)] =
 nrl ∧
 IV.agg
 [IV.int IntKind.i64 (5 : Int), IV.int IntKind.i64 (6 : Int), IV.int IntKind.i64 (2 : Int), IV.vslice none (0 : Nat) (1 : Nat) (1 : Nat) [IV.int IntKind.i64 (1 : Int)],
 IV.vslice none (0 : Nat) (0 : Nat) (1 : Nat) []] =
 stA ∧
 b = false) ∧
 brS b
 ((IV.vslice none (0 : Nat) (0 : Nat) (3 : Nat) [] = ninv ∧
 IV.vslice none (0 : Nat) (0 : Nat) (1 : Nat) [] = nlen ∧
 IV.vslice none (0 : Nat) (8 : Nat) (3 : Nat)
 [IV.int IntKind.i64 (2 : Int), IV.int IntKind.i64 (0 : Int), IV.vslice none (0 : Nat) (0 : Nat) (1 : Nat) [], IV.int IntKind.i64 (1 : Int), IV.int IntKind.i64 (5 : Int),
 IV.vslice none (0 : Nat) (0 : Nat) (1 : Nat) [], IV.int IntKind.i64 (4 : Int), IV.int IntKind.i64 (0 : Int),
 IV.vslice none (0 : Nat) (2 : Nat) (1 : Nat) [IV.int IntKind.i64 (0 : Int), IV.int IntKind.i64 (1 : Int)], IV.int IntKind.i64 (4 : Int), IV.int IntKind.i64 (0 : Int),
 IV.vslice none (0 : Nat) (2 : Nat) (1 : Nat) [IV.int IntKind.i64 (1 : Int), IV.int IntKind.i64 (0 : Int)], IV.int IntKind.i64 (1 : Int), IV.int IntKind.i64 (0 : Int),
 IV.vslice none (0 : Nat) (0 : Nat) (1 : Nat) [], IV.int IntKind.i64 (16 : Int), IV.int IntKind.i64 (0 : Int),
 IV.vslice none (0 : Nat) (2 : Nat) (1 : Nat) [IV.int IntKind.i64 (1 : Int), IV.int IntKind.i64 (4 : Int)], IV.int IntKind.i64 (1 : Int), IV.int IntKind.i64 (1 : Int),
 IV.vslice none (0 : Nat) (0 : Nat) (1 : Nat) [], IV.int IntKind.i64 (16 : Int), IV.int IntKind.i64 (0 : Int),
 IV.vslice none (0 : Nat) (2 : Nat) (1 : Nat) [IV.int IntKind.i64 (0 : Int), IV.int IntKind.i64 (4 : Int)]] =
 nds) ∧
 ∃ (b : Bool),
 (IV.vslice none (0 : Nat) (0 : Nat) (14 : Nat) [] = rls ∧
 IV.agg [IV.int IntKind.i64 (5 : Int), IV.int IntKind.i64 (6 : Int), IV.int IntKind.i64 (-1 : Int), IV.vslice none (0 : Nat) (0 : Nat) (1 : Nat) [], IV.vslice none (0 : Nat) (0 : Nat) (1 : Nat) []] = stA ∧
 b = true ∨
 IV.vslice none (0 : Nat) (0 : Nat) (14 : Nat) [] = rls ∧
 IV.agg [IV.int IntKind.i64 (5 : Int), IV.int IntKind.i64 (6 : Int), IV.int IntKind.i64 (-1 : Int), IV.vslice none (0 : Nat) (0 : Nat) (1 : Nat) [], IV.vslice none (0 : Nat) (0 : Nat) (1 : Nat) []] = stB ∧
 b = true ∨
 IV.vslice none (0 : Nat) (0 : Nat) (14 : Nat) [] = nrl ∧
 IV.agg [IV.int IntKind.i64 (5 : Int), IV.int IntKind.i64 (6 : Int), IV.int IntKind.i64 (-1 : Int), IV.vslice none (0 : Nat) (0 : Nat) (1 : Nat) [], IV.vslice none (0 : Nat) (0 : Nat) (1 : Nat) []] = stC ∧
 b = true ∨
 IV.vslice none (0 : Nat) (0 : Nat) (14 : Nat) [] = rls ∧
 IV.agg [IV.int IntKind.i64 (5 : Int), IV.int IntKind.i64 (6 : Int), IV.int IntKind.i64 (-1 : Int), IV.vslice none (0 : Nat) (0 : Nat) (1 : Nat) [], IV.vslice none (0 : Nat) (0 : Nat) (1 : Nat) []] = stD ∧
 b = false ∨
 IV.vslice none (0 : Nat) (0 : Nat) (14 : Nat) [] = nrl ∧
 IV.agg [IV.int IntKind.i64 (5 : Int), IV.int IntKind.i64 (6 : Int), IV.int IntKind.i64 (-1 : Int), IV.vslice none (0 : Nat) (0 : Nat) (1 : Nat) [], IV.vslice none (0 : Nat) (0 : Nat) (1 : Nat) []] = stA ∧
 b = false) ∧
 brS b
 ((IV.vslice none (0 : Nat) (0 : Nat) (3 : Nat) [] = ninv ∧
 IV.vslice none (0 : Nat) (0 : Nat) (1 : Nat) [] = nlen ∧
 IV.vslice none (0 : Nat) (8 : Nat) (3 : Nat)
 [IV.int IntKind.i64 (2 : Int), IV.int IntKind.i64 (0 : Int), IV.vslice none (0 : Nat) (0 : Nat) (1 : Nat) [], IV.int IntKind.i64 (1 : Int), IV.int IntKind.i64 (5 : Int),
 IV.vslice none (0 : Nat) (0 : Nat) (1 : Nat) [], IV.int IntKind.i64 (4 : Int), IV.int IntKind.i64 (0 : Int),
 IV.vslice none (0 : Nat) (2 : Nat) (1 : Nat) [IV.int IntKind.i64 (0 : Int), IV.int IntKind.i64 (1 : Int)], IV.int IntKind.i64 (4 : Int), IV.int IntKind.i64 (0 : Int),
 IV.vslice none (0 : Nat) (2 : Nat) (1 : Nat) [IV.int IntKind.i64 (1 : Int), IV.int IntKind.i64 (0 : Int)], IV.int IntKind.i64 (1 : Int), IV.int IntKind.i64 (0 : Int),
 IV.vslice none (0 : Nat) (0 : Nat) (1 : Nat) [], IV.int IntKind.i64 (16 : Int), IV.int IntKind.i64 (0 : Int),
 IV.vslice none (0 : Nat) (2 : Nat) (1 : Nat) [IV.int IntKind.i64 (1 : Int), IV.int IntKind.i64 (4 : Int)], IV.int IntKind.i64 (1 : Int), IV.int IntKind.i64 (1 : Int),
 IV.vslice none (0 : Nat) (0 : Nat) (1 : Nat) [], IV.int IntKind.i64 (16 : Int), IV.int IntKind.i64 (0 : Int),
 IV.vslice none (0 : Nat) (2 : Nat) (1 : Nat) [IV.int IntKind.i64 (0 : Int), IV.int IntKind.i64 (4 : Int)]] =
 nds) ∧
 ∃ (b : Bool),
 (IV.vslice none (0 : Nat) (2 : Nat) (14 : Nat)
 [IV.str [(116 : UInt8), (117 : UInt8), (114 : UInt8), (110 : UInt8)], IV.int IntKind.i64 (0 : Int), IV.int IntKind.i64 (4 : Int), IV.int IntKind.i64 (0 : Int), IV.int IntKind.i64 (0 : Int),
 IV.vslice none (0 : Nat) (2 : Nat) (5 : Nat)
 [IV.int IntKind.i64 (1 : Int), IV.int IntKind.i64 (0 : Int), IV.int IntKind.i64 (0 : Int), IV.int IntKind.i64 (0 : Int), IV.vslice none (0 : Nat) (0 : Nat) (5 : Nat) [],
 IV.int IntKind.i64 (2 : Int), IV.int IntKind.i64 (0 : Int), IV.int IntKind.i64 (0 : Int), IV.int IntKind.i64 (0 : Int), IV.vslice none (0 : Nat) (0 : Nat) (5 : Nat) []],
 IV.int IntKind.i64 (0 : Int), IV.int IntKind.i64 (4 : Int), IV.int IntKind.i64 (0 : Int), IV.int IntKind.i64 (0 : Int),
 IV.vslice none (0 : Nat) (2 : Nat) (5 : Nat)
 [IV.int IntKind.i64 (2 : Int), IV.int IntKind.i64 (0 : Int), IV.int IntKind.i64 (0 : Int), IV.int IntKind.i64 (0 : Int), IV.vslice none (0 : Nat) (0 : Nat) (5 : Nat) [],
 IV.int IntKind.i64 (1 : Int), IV.int IntKind.i64 (0 : Int), IV.int IntKind.i64 (0 : Int), IV.int IntKind.i64 (0 : Int), IV.vslice none (0 : Nat) (0 : Nat) (5 : Nat) []],
 IV.vslice none (0 : Nat) (0 : Nat) (4 : Nat) [], IV.int IntKind.i64 (2 : Int), IV.int IntKind.i64 (0 : Int), IV.str [(111 : UInt8), (110 : UInt8), (101 : UInt8)], IV.int IntKind.i64 (0 : Int),
 IV.int IntKind.i64 (16 : Int), IV.int IntKind.i64 (0 : Int), IV.int IntKind.i64 (0 : Int),
 IV.vslice none (0 : Nat) (2 : Nat) (5 : Nat)
 [IV.int IntKind.i64 (1 : Int), IV.int IntKind.i64 (0 : Int), IV.int IntKind.i64 (0 : Int), IV.int IntKind.i64 (0 : Int), IV.vslice none (0 : Nat) (0 : Nat) (5 : Nat) [],
 IV.int IntKind.i64 (0 : Int), IV.int IntKind.i64 (1 : Int), IV.int IntKind.i64 (0 : Int), IV.int IntKind.i64 (0 : Int), IV.vslice none (0 : Nat) (0 : Nat) (5 : Nat) []],
 IV.int IntKind.i64 (0 : Int), IV.int IntKind.i64 (1 : Int), IV.int IntKind.i64 (1 : Int), IV.int IntKind.i64 (0 : Int), IV.vslice none (0 : Nat) (0 : Nat) (5 : Nat) [],
 IV.vslice none (0 : Nat) (1 : Nat) (4 : Nat) [IV.int IntKind.i64 (1 : Int), IV.int IntKind.i64 (1 : Int), IV.int IntKind.i64 (0 : Int), IV.int IntKind.i64 (0 : Int)], IV.int IntKind.i64 (1 : Int),
 IV.int IntKind.i64 (0 : Int)] =
 rls ∧
 IV.agg
 [IV.int IntKind.i64 (7 : Int), IV.int IntKind.i64 (6 : Int), IV.int IntKind.i64 (2 : Int), IV.vslice none (0 : Nat) (1 : Nat) (1 : Nat) [IV.int IntKind.i64 (0 : Int)],
 IV.vslice none (0 : Nat) (0 : Nat) (1 : Nat) []] =
 stA ∧
 b = true ∨
 IV.vslice none (0 : Nat) (2 : Nat) (14 : Nat)
 [IV.str [(116 : UInt8), (117 : UInt8), (114 : UInt8), (110 : UInt8)], IV.int IntKind.i64 (0 : Int), IV.int IntKind.i64 (4 : Int), IV.int IntKind.i64 (0 : Int), IV.int IntKind.i64 (0 : Int),
 IV.vslice none (0 : Nat) (2 : Nat) (5 : Nat)
 [IV.int IntKind.i64 (1 : Int), IV.int IntKind.i64 (0 : Int), IV.int IntKind.i64 (0 : Int), IV.int IntKind.i64 (0 : Int), IV.vslice none (0 : Nat) (0 : Nat) (5 : Nat) [],
 IV.int IntKind.i64 (2 : Int), IV.int IntKind.i64 (0 : Int), IV.int IntKind.i64 (0 : Int), IV.int IntKind.i64 (0 : Int), IV.vslice none (0 : Nat) (0 : Nat) (5 : Nat) []],
 IV.int IntKind.i64 (0 : Int), IV.int IntKind.i64 (4 : Int), IV.int IntKind.i64 (0 : Int), IV.int IntKind.i64 (0 : Int),
 IV.vslice none (0 : Nat) (2 : Nat) (5 : Nat)
 [IV.int IntKind.i64 (2 : Int), IV.int IntKind.i64 (0 : Int), IV.int IntKind.i64 (0 : Int), IV.int IntKind.i64 (0 : Int), IV.vslice none (0 : Nat) (0 : Nat) (5 : Nat) [],
 IV.int IntKind.i64 (1 : Int), IV.int IntKind.i64 (0 : Int), IV.int IntKind.i64 (0 : Int), IV.int IntKind.i64 (0 : Int), IV.vslice none (0 : Nat) (0 : Nat) (5 : Nat) []],
 IV.vslice none (0 : Nat) (0 : Nat) (4 : Nat) [], IV.int IntKind.i64 (2 : Int), IV.int IntKind.i64 (0 : Int), IV.str [(111 : UInt8), (110 : UInt8), (101 : UInt8)], IV.int IntKind.i64 (0 : Int),
 IV.int IntKind.i64 (16 : Int), IV.int IntKind.i64 (0 : Int), IV.int IntKind.i64 (0 : Int),
 IV.vslice none (0 : Nat) (2 : Nat) (5 : Nat)
 [IV.int IntKind.i64 (1 : Int), IV.int IntKind.i64 (0 : Int), IV.int IntKind.i64 (0 : Int), IV.int IntKind.i64 (0 : Int), IV.vslice none (0 : Nat) (0 : Nat) (5 : Nat) [],
 IV.int IntKind.i64 (0 : Int), IV.int IntKind.i64 (1 : Int), IV.int IntKind.i64 (0 : Int), IV.int IntKind.i64 (0 : Int), IV.vslice none (0 : Nat) (0 : Nat) (5 : Nat) []],
 IV.int IntKind.i64 (0 : Int), IV.int IntKind.i64 (1 : Int), IV.int IntKind.i64 (1 : Int), IV.int IntKind.i64 (0 : Int), IV.vslice none (0 : Nat) (0 : Nat) (5 : Nat) [],
 IV.vslice none (0 : Nat) (1 : Nat) (4 : Nat) [IV.int IntKind.i64 (1 : Int), IV.int IntKind.i64 (1 : Int), IV.int IntKind.i64 (0 : Int), IV.int IntKind.i64 (0 : Int)], IV.int IntKind.i64 (1 : Int),
 IV.int IntKind.i64 (0 : Int)] =
 rls ∧
 IV.agg
 [IV.int IntKind.i64 (7 : Int), IV.int IntKind.i64 (6 : Int), IV.int IntKind.i64 (2 : Int), IV.vslice none (0 : Nat) (1 : Nat) (1 : Nat) [IV.int IntKind.i64 (0 : Int)],
 IV.vslice none (0 : Nat) (0 : Nat) (1 : Nat) []] =
 stB ∧
 b = true ∨
 IV.vslice none (0 : Nat) (2 : Nat) (14 : Nat)
 [IV.str [(116 : UInt8), (117 : UInt8), (114 : UInt8), (110 : UInt8)], IV.int IntKind.i64 (0 : Int), IV.int IntKind.i64 (4 : Int), IV.int IntKind.i64 (0 : Int), IV.int IntKind.i64 (0 : Int),
 IV.vslice none (0 : Nat) (2 : Nat) (5 : Nat)
 [IV.int IntKind.i64 (1 : Int), IV.int IntKind.i64 (0 : Int), IV.int IntKind.i64 (0 : Int), IV.int IntKind.i64 (0 : Int), IV.vslice none (0 : Nat) (0 : Nat) (5 : Nat) [],
 IV.int IntKind.i64 (2 : Int), IV.int IntKind.i64 (0 : Int), IV.int IntKind.i64 (0 : Int), IV.int IntKind.i64 (0 : Int), IV.vslice none (0 : Nat) (0 : Nat) (5 : Nat) []],
 IV.int IntKind.i64 (0 : Int), IV.int IntKind.i64 (4 : Int), IV.int IntKind.i64 (0 : Int), IV.int IntKind.i64 (0 : Int),
 IV.vslice none (0 : Nat) (2 : Nat) (5 : Nat)
 [IV.int IntKind.i64 (2 : Int), IV.int IntKind.i64 (0 : Int), IV.int IntKind.i64 (0 : Int), IV.int IntKind.i64 (0 : Int), IV.vslice none (0 : Nat) (0 : Nat) (5 : Nat) [],
 IV.int IntKind.i64 (1 : Int), IV.int IntKind.i64 (0 : Int), IV.int IntKind.i64 (0 : Int), IV.int IntKind.i64 (0 : Int), IV.vslice none (0 : Nat) (0 : Nat) (5 : Nat) []],
 IV.vslice none (0 : Nat) (0 : Nat) (4 : Nat) [], IV.int IntKind.i64 (2 : Int), IV.int IntKind.i64 (0 : Int), IV.str [(111 : UInt8), (110 : UInt8), (101 : UInt8)], IV.int IntKind.i64 (0 : Int),
 IV.int IntKind.i64 (16 : Int), IV.int IntKind.i64 (0 : Int), IV.int IntKind.i64 (0 : Int),
 IV.vslice none (0 : Nat) (2 : Nat) (5 : Nat)
 [IV.int IntKind.i64 (1 : Int), IV.int IntKind.i64 (0 : Int), IV.int IntKind.i64 (0 : Int), IV.int IntKind.i64 (0 : Int), IV.vslice none (0 : Nat) (0 : Nat) (5 : Nat) [],
 IV.int IntKind.i64 (0 : Int), IV.int IntKind.i64 (1 : Int), IV.int IntKind.i64 (0 : Int), IV.int IntKind.i64 (0 : Int), IV.vslice none (0 : Nat) (0 : Nat) (5 : Nat) []],
 IV.int IntKind.i64 (0 : Int), IV.int IntKind.i64 (1 : Int), IV.int IntKind.i64 (1 : Int), IV.int IntKind.i64 (0 : Int), IV.vslice none (0 : Nat) (0 : Nat) (5 : Nat) [],
 IV.vslice none (0 : Nat) (1 : Nat) (4 : Nat) [IV.int IntKind.i64 (1 : Int), IV.int IntKind.i64 (1 : Int), IV.int IntKind.i64 (0 : Int), IV.int IntKind.i64 (0 : Int)], IV.int IntKind.i64 (1 : Int),
 IV.int IntKind.i64 (0 : Int)] =
 nrl ∧
 IV.agg
 [IV.int IntKind.i64 (7 : Int), IV.int IntKind.i64 (6 : Int), IV.int IntKind.i64 (2 : Int), IV.vslice none (0 : Nat) (1 : Nat) (1 : Nat) [IV.int IntKind.i64 (0 : Int)],
 IV.vslice none (0 : Nat) (0 : Nat) (1 : Nat) []] =
 stC ∧
 b = true ∨
 IV.vslice none (0 : Nat) (2 : Nat) (14 : Nat)
 [IV.str [(116 : UInt8), (117 : UInt8), (114 : UInt8), (110 : UInt8)], IV.int IntKind.i64 (0 : Int), IV.int IntKind.i64 (4 : Int), IV.int IntKind.i64 (0 : Int), IV.int IntKind.i64 (0 : Int),
 IV.vslice none (0 : Nat) (2 : Nat) (5 : Nat)
 [IV.int IntKind.i64 (1 : Int), IV.int IntKind.i64 (0 : Int), IV.int IntKind.i64 (0 : Int), IV.int IntKind.i64 (0 : Int), IV.vslice none (0 : Nat) (0 : Nat) (5 : Nat) [],
 IV.int IntKind.i64 (2 : Int), IV.int IntKind.i64 (0 : Int), IV.int IntKind.i64 (0 : Int), IV.int IntKind.i64 (0 : Int), IV.vslice none (0 : Nat) (0 : Nat) (5 : Nat) []],
 IV.int IntKind.i64 (0 : Int), IV.int IntKind.i64 (4 : Int), IV.int IntKind.i64 (0 : Int), IV.int IntKind.i64 (0 : Int),
 IV.vslice none (0 : Nat) (2 : Nat) (5 : Nat)
 [IV.int IntKind.i64 (2 : Int), IV.int IntKind.i64 (0 : Int), IV.int IntKind.i64 (0 : Int), IV.int IntKind.i64 (0 : Int), IV.vslice none (0 : Nat) (0 : Nat) (5 : Nat) [],
 IV.int IntKind.i64 (1 : Int), IV.int IntKind.i64 (0 : Int), IV.int IntKind.i64 (0 : Int), IV.int IntKind.i64 (0 : Int), IV.vslice none (0 : Nat) (0 : Nat) (5 : Nat) []],
 IV.vslice none (0 : Nat) (0 : Nat) (4 : Nat) [], IV.int IntKind.i64 (2 : Int), IV.int IntKind.i64 (0 : Int), IV.str [(111 : UInt8), (110 : UInt8), (101 : UInt8)], IV.int IntKind.i64 (0 : Int),
 IV.int IntKind.i64 (16 : Int), IV.int IntKind.i64 (0 : Int), IV.int IntKind.i64 (0 : Int),
 IV.vslice none (0 : Nat) (2 : Nat) (5 : Nat)
 [IV.int IntKind.i64 (1 : Int), IV.int IntKind.i64 (0 : Int), IV.int IntKind.i64 (0 : Int), IV.int IntKind.i64 (0 : Int), IV.vslice none (0 : Nat) (0 : Nat) (5 : Nat) [],
 IV.int IntKind.i64 (0 : Int), IV.int IntKind.i64 (1 : Int), IV.int IntKind.i64 (0 : Int), IV.int IntKind.i64 (0 : Int), IV.vslice none (0 : Nat) (0 : Nat) (5 : Nat) []],
 IV.int IntKind.i64 (0 : Int), IV.int IntKind.i64 (1 : Int), IV.int IntKind.i64 (1 : Int), IV.int IntKind.i64 (0 : Int), IV.vslice none (0 : Nat) (0 : Nat) (5 : Nat) [],
 IV.vslice none (0 : Nat) (1 : Nat) (4 : Nat) [IV.int IntKind.i64 (1 : Int), IV.int IntKind.i64 (1 : Int), IV.int IntKind.i64 (0 : Int), IV.int IntKind.i64 (0 : Int)],
 IV.int IntKind.i64 (1 : Int), IV.int IntKind.i64 (0 : Int)] =
 rls ∧
 IV.agg
 [IV.int IntKind.i64 (7 : Int), IV.int IntKind.i64 (6 : Int), IV.int IntKind.i64 (2 : Int), IV.vslice none (0 : Nat) (1 : Nat) (1 : Nat) [IV.int IntKind.i64 (0 : Int)],
 IV.vslice none (0 : Nat) (0 : Nat) (1 : Nat) []] =
 stD ∧
 b = false ∨
 IV.vslice none (0 : Nat) (2 : Nat) (14 : Nat)
 [IV.str [(116 : UInt8), (117 : UInt8), (114 : UInt8), (110 : UInt8)], IV.int IntKind.i64 (0 : Int), IV.int IntKind.i64 (4 : Int), IV.int IntKind.i64 (0 : Int), IV.int IntKind.i64 (0 : Int),
 IV.vslice none (0 : Nat) (2 : Nat) (5 : Nat)
 [IV.int IntKind.i64 (1 : Int), IV.int IntKind.i64 (0 : Int), IV.int IntKind.i64 (0 : Int), IV.int IntKind.i64 (0 : Int), IV.vslice none (0 : Nat) (0 : Nat) (5 : Nat) [],
 IV.int IntKind.i64 (2 : Int), IV.int IntKind.i64 (0 : Int), IV.int IntKind.i64 (0 : Int), IV.int IntKind.i64 (0 : Int), IV.vslice none (0 : Nat) (0 : Nat) (5 : Nat) []],
 IV.int IntKind.i64 (0 : Int), IV.int IntKind.i64 (4 : Int), IV.int IntKind.i64 (0 : Int), IV.int IntKind.i64 (0 : Int),
 IV.vslice none (0 : Nat) (2 : Nat) (5 : Nat)
 [IV.int IntKind.i64 (2 : Int), IV.int IntKind.i64 (0 : Int), IV.int IntKind.i64 (0 : Int), IV.int IntKind.i64 (0 : Int), IV.vslice none (0 : Nat) (0 : Nat) (5 : Nat) [],
 IV.int IntKind.i64 (1 : Int), IV.int IntKind.i64 (0 : Int), IV.int IntKind.i64 (0 : Int), IV.int IntKind.i64 (0 : Int), IV.vslice none (0 : Nat) (0 : Nat) (5 : Nat) []],
 IV.vslice none (0 : Nat) (0 : Nat) (4 : Nat) [], IV.int IntKind.i64 (2 : Int), IV.int IntKind.i64 (0 : Int), IV.str [(111 : UInt8), (110 : UInt8), (101 : UInt8)], IV.int IntKind.i64 (0 : Int),
 IV.int IntKind.i64 (16 : Int), IV.int IntKind.i64 (0 : Int), IV.int IntKind.i64 (0 : Int),
 IV.vslice none (0 : Nat) (2 : Nat) (5 : Nat)
 [IV.int IntKind.i64 (1 : Int), IV.int IntKind.i64 (0 : Int), IV.int IntKind.i64 (0 : Int), IV.int IntKind.i64 (0 : Int), IV.vslice none (0 : Nat) (0 : Nat) (5 : Nat) [],
 IV.int IntKind.i64 (0 : Int), IV.int IntKind.i64 (1 : Int), IV.int IntKind.i64 (0 : Int), IV.int IntKind.i64 (0 : Int), IV.vslice none (0 : Nat) (0 : Nat) (5 : Nat) []],
 IV.int IntKind.i64 (0 : Int), IV.int IntKind.i64 (1 : Int), IV.int IntKind.i64 (1 : Int), IV.int IntKind.i64 (0 : Int), IV.vslice none (0 : Nat) (0 : Nat) (5 : Nat) [],
 IV.vslice none (0 : Nat) (1 : Nat) (4 : Nat) [IV.int IntKind.i64 (1 : Int), IV.int IntKind.i64 (1 : Int), IV.int IntKind.i64 (0 : Int), IV.int IntKind.i64 (0 : Int)],
 IV.int IntKind.i64 (1 : Int), IV.int IntKind.i64 (0 : Int)] =
 nrl ∧
 IV.agg
 [IV.int IntKind.i64 (7 : Int), IV.int IntKind.i64 (6 : Int), IV.int IntKind.i64 (2 : Int), IV.vslice none (0 : Nat) (1 : Nat) (1 : Nat) [IV.int IntKind.i64 (0 : Int)],
 IV.vslice none (0 : Nat) (0 : Nat) (1 : Nat) []] =
 stA ∧
 b = false) ∧
 brS (!b)
 ((IV.vslice none (0 : Nat) (0 : Nat) (3 : Nat) [] = ninv ∧
 IV.vslice none (0 : Nat) (0 : Nat) (1 : Nat) [] = nlen ∧
 IV.vslice none (0 : Nat) (8 : Nat) (3 : Nat)
 [IV.int IntKind.i64 (2 : Int), IV.int IntKind.i64 (0 : Int), IV.vslice none (0 : Nat) (0 : Nat) (1 : Nat) [], IV.int IntKind.i64 (1 : Int), IV.int IntKind.i64 (5 : Int),
 IV.vslice none (0 : Nat) (0 : Nat) (1 : Nat) [], IV.int IntKind.i64 (4 : Int), IV.int IntKind.i64 (0 : Int),
 IV.vslice none (0 : Nat) (2 : Nat) (1 : Nat) [IV.int IntKind.i64 (0 : Int), IV.int IntKind.i64 (1 : Int)], IV.int IntKind.i64 (4 : Int), IV.int IntKind.i64 (0 : Int),
 IV.vslice none (0 : Nat) (2 : Nat) (1 : Nat) [IV.int IntKind.i64 (1 : Int), IV.int IntKind.i64 (0 : Int)], IV.int IntKind.i64 (1 : Int), IV.int IntKind.i64 (0 : Int),
 IV.vslice none (0 : Nat) (0 : Nat) (1 : Nat) [], IV.int IntKind.i64 (16 : Int), IV.int IntKind.i64 (0 : Int),
 IV.vslice none (0 : Nat) (2 : Nat) (1 : Nat) [IV.int IntKind.i64 (1 : Int), IV.int IntKind.i64 (4 : Int)], IV.int IntKind.i64 (1 : Int), IV.int IntKind.i64 (1 : Int),
 IV.vslice none (0 : Nat) (0 : Nat) (1 : Nat) [], IV.int IntKind.i64 (16 : Int), IV.int IntKind.i64 (0 : Int),
 IV.vslice none (0 : Nat) (2 : Nat) (1 : Nat) [IV.int IntKind.i64 (0 : Int), IV.int IntKind.i64 (4 : Int)]] =
 nds) ∧
 ∃ (b : Bool),
 (IV.vslice none (0 : Nat) (0 : Nat) (14 : Nat) [] = rls ∧
 IV.agg
 [IV.int IntKind.i64 (2 : Int), IV.int IntKind.i64 (3 : Int), IV.int IntKind.i64 (1 : Int),
 IV.vslice none (0 : Nat) (2 : Nat) (1 : Nat) [IV.int IntKind.i64 (0 : Int), IV.int IntKind.i64 (1 : Int)], IV.vslice none (0 : Nat) (0 : Nat) (1 : Nat) []] =
 stA ∧
 b = true ∨
 IV.vslice none (0 : Nat) (0 : Nat) (14 : Nat) [] = rls ∧
 IV.agg
 [IV.int IntKind.i64 (2 : Int), IV.int IntKind.i64 (3 : Int), IV.int IntKind.i64 (1 : Int),
 IV.vslice none (0 : Nat) (2 : Nat) (1 : Nat) [IV.int IntKind.i64 (0 : Int), IV.int IntKind.i64 (1 : Int)], IV.vslice none (0 : Nat) (0 : Nat) (1 : Nat) []] =
 stB ∧
 b = true ∨
 IV.vslice none (0 : Nat) (0 : Nat) (14 : Nat) [] = nrl ∧
 IV.agg
 [IV.int IntKind.i64 (2 : Int), IV.int IntKind.i64 (3 : Int), IV.int IntKind.i64 (1 : Int),
 IV.vslice none (0 : Nat) (2 : Nat) (1 : Nat) [IV.int IntKind.i64 (0 : Int), IV.int IntKind.i64 (1 : Int)], IV.vslice none (0 : Nat) (0 : Nat) (1 : Nat) []] =
 stC ∧
 b = true ∨
 IV.vslice none (0 : Nat) (0 : Nat) (14 : Nat) [] = rls ∧
 IV.agg
 [IV.int IntKind.i64 (2 : Int), IV.int IntKind.i64 (3 : Int), IV.int IntKind.i64 (1 : Int),
 IV.vslice none (0 : Nat) (2 : Nat) (1 : Nat) [IV.int IntKind.i64 (0 : Int), IV.int IntKind.i64 (1 : Int)], IV.vslice none (0 : Nat) (0 : Nat) (1 : Nat) []] =
 stD ∧
 b = false ∨
 IV.vslice none (0 : Nat) (0 : Nat) (14 : Nat) [] = nrl ∧
 IV.agg
 [IV.int IntKind.i64 (2 : Int), IV.int IntKind.i64 (3 : Int), IV.int IntKind.i64 (1 : Int),
 IV.vslice none (0 : Nat) (2 : Nat) (1 : Nat) [IV.int IntKind.i64 (0 : Int), IV.int IntKind.i64 (1 : Int)], IV.vslice none (0 : Nat) (0 : Nat) (1 : Nat) []] =
 stA ∧
 b = false) ∧
 brS (!b)
 ((IV.vslice none (0 : Nat) (0 : Nat) (3 : Nat) [] = ninv ∧
 IV.vslice none (0 : Nat) (0 : Nat) (1 : Nat) [] = nlen ∧
 IV.agg
 [IV.vslice none (0 : Nat) (8 : Nat) (3 : Nat)
 [IV.int IntKind.i64 (2 : Int), IV.int IntKind.i64 (0 : Int), IV.vslice none (0 : Nat) (0 : Nat) (1 : Nat) [], IV.int IntKind.i64 (1 : Int), IV.int IntKind.i64 (5 : Int),
 IV.vslice none (0 : Nat) (0 : Nat) (1 : Nat) [], IV.int IntKind.i64 (4 : Int), IV.int IntKind.i64 (0 : Int),
 IV.vslice none (0 : Nat) (2 : Nat) (1 : Nat) [IV.int IntKind.i64 (0 : Int), IV.int IntKind.i64 (1 : Int)], IV.int IntKind.i64 (4 : Int), IV.int IntKind.i64 (0 : Int),
 IV.vslice none (0 : Nat) (2 : Nat) (1 : Nat) [IV.int IntKind.i64 (1 : Int), IV.int IntKind.i64 (0 : Int)], IV.int IntKind.i64 (1 : Int), IV.int IntKind.i64 (0 : Int),
 IV.vslice none (0 : Nat) (0 : Nat) (1 : Nat) [], IV.int IntKind.i64 (16 : Int), IV.int IntKind.i64 (0 : Int),
 IV.vslice none (0 : Nat) (2 : Nat) (1 : Nat) [IV.int IntKind.i64 (1 : Int), IV.int IntKind.i64 (4 : Int)], IV.int IntKind.i64 (1 : Int), IV.int IntKind.i64 (1 : Int),
 IV.vslice none (0 : Nat) (0 : Nat) (1 : Nat) [], IV.int IntKind.i64 (16 : Int), IV.int IntKind.i64 (0 : Int),
 IV.vslice none (0 : Nat) (2 : Nat) (1 : Nat) [IV.int IntKind.i64 (0 : Int), IV.int IntKind.i64 (4 : Int)]],
 IV.vslice none (0 : Nat) (1 : Nat) (5 : Nat)
 [IV.int IntKind.i64 (2 : Int), IV.int IntKind.i64 (3 : Int), IV.int IntKind.i64 (1 : Int),
 IV.vslice none (0 : Nat) (2 : Nat) (1 : Nat) [IV.int IntKind.i64 (0 : Int), IV.int IntKind.i64 (1 : Int)], IV.vslice none (0 : Nat) (0 : Nat) (1 : Nat) []],
 IV.int IntKind.i64 (3 : Int), IV.int IntKind.i64 (2 : Int)] =
 prf) ∧
 ∃ (b : Bool),
 (IV.vslice none (0 : Nat) (2 : Nat) (14 : Nat)
 [IV.str [(116 : UInt8), (117 : UInt8), (114 : UInt8), (110 : UInt8)], IV.int IntKind.i64 (0 : Int), IV.int IntKind.i64 (4 : Int), IV.int IntKind.i64 (0 : Int),
 IV.int IntKind.i64 (0 : Int),
 IV.vslice none (0 : Nat) (2 : Nat) (5 : Nat)
 [IV.int IntKind.i64 (1 : Int), IV.int IntKind.i64 (0 : Int), IV.int IntKind.i64 (0 : Int), IV.int IntKind.i64 (0 : Int), IV.vslice none (0 : Nat) (0 : Nat) (5 : Nat) [],
 IV.int IntKind.i64 (2 : Int), IV.int IntKind.i64 (0 : Int), IV.int IntKind.i64 (0 : Int), IV.int IntKind.i64 (0 : Int), IV.vslice none (0 : Nat) (0 : Nat) (5 : Nat) []],
 IV.int IntKind.i64 (0 : Int), IV.int IntKind.i64 (4 : Int), IV.int IntKind.i64 (0 : Int), IV.int IntKind.i64 (0 : Int),
 IV.vslice none (0 : Nat) (2 : Nat) (5 : Nat)
 [IV.int IntKind.i64 (2 : Int), IV.int IntKind.i64 (0 : Int), IV.int IntKind.i64 (0 : Int), IV.int IntKind.i64 (0 : Int), IV.vslice none (0 : Nat) (0 : Nat) (5 : Nat) [],
 IV.int IntKind.i64 (1 : Int), IV.int IntKind.i64 (0 : Int), IV.int IntKind.i64 (0 : Int), IV.int IntKind.i64 (0 : Int), IV.vslice none (0 : Nat) (0 : Nat) (5 : Nat) []],
 IV.vslice none (0 : Nat) (0 : Nat) (4 : Nat) [], IV.int IntKind.i64 (2 : Int), IV.int IntKind.i64 (0 : Int), IV.str [(111 : UInt8), (110 : UInt8), (101 : UInt8)],
 IV.int IntKind.i64 (0 : Int), IV.int IntKind.i64 (16 : Int), IV.int IntKind.i64 (0 : Int), IV.int IntKind.i64 (0 : Int),
 IV.vslice none (0 : Nat) (2 : Nat) (5 : Nat)
 [IV.int IntKind.i64 (1 : Int), IV.int IntKind.i64 (0 : Int), IV.int IntKind.i64 (0 : Int), IV.int IntKind.i64 (0 : Int), IV.vslice none (0 : Nat) (0 : Nat) (5 : Nat) [],
 IV.int IntKind.i64 (0 : Int), IV.int IntKind.i64 (1 : Int), IV.int IntKind.i64 (0 : Int), IV.int IntKind.i64 (0 : Int), IV.vslice none (0 : Nat) (0 : Nat) (5 : Nat) []],
 IV.int IntKind.i64 (0 : Int), IV.int IntKind.i64 (1 : Int), IV.int IntKind.i64 (1 : Int), IV.int IntKind.i64 (0 : Int), IV.vslice none (0 : Nat) (0 : Nat) (5 : Nat) [],
 IV.vslice none (0 : Nat) (1 : Nat) (4 : Nat) [IV.int IntKind.i64 (1 : Int), IV.int IntKind.i64 (1 : Int), IV.int IntKind.i64 (0 : Int), IV.int IntKind.i64 (0 : Int)],
 IV.int IntKind.i64 (1 : Int), IV.int IntKind.i64 (0 : Int)] =
 rls ∧
 b = true ∨
 IV.vslice none (0 : Nat) (2 : Nat) (14 : Nat)
 [IV.str [(116 : UInt8), (117 : UInt8), (114 : UInt8), (110 : UInt8)], IV.int IntKind.i64 (0 : Int), IV.int IntKind.i64 (4 : Int), IV.int IntKind.i64 (0 : Int),
 IV.int IntKind.i64 (0 : Int),
 IV.vslice none (0 : Nat) (2 : Nat) (5 : Nat)
 [IV.int IntKind.i64 (1 : Int), IV.int IntKind.i64 (0 : Int), IV.int IntKind.i64 (0 : Int), IV.int IntKind.i64 (0 : Int), IV.vslice none (0 : Nat) (0 : Nat) (5 : Nat) [],
 IV.int IntKind.i64 (2 : Int), IV.int IntKind.i64 (0 : Int), IV.int IntKind.i64 (0 : Int), IV.int IntKind.i64 (0 : Int), IV.vslice none (0 : Nat) (0 : Nat) (5 : Nat) []],
 IV.int IntKind.i64 (0 : Int), IV.int IntKind.i64 (4 : Int), IV.int IntKind.i64 (0 : Int), IV.int IntKind.i64 (0 : Int),
 IV.vslice none (0 : Nat) (2 : Nat) (5 : Nat)
 [IV.int IntKind.i64 (2 : Int), IV.int IntKind.i64 (0 : Int), IV.int IntKind.i64 (0 : Int), IV.int IntKind.i64 (0 : Int), IV.vslice none (0 : Nat) (0 : Nat) (5 : Nat) [],
 IV.int IntKind.i64 (1 : Int), IV.int IntKind.i64 (0 : Int), IV.int IntKind.i64 (0 : Int), IV.int IntKind.i64 (0 : Int), IV.vslice none (0 : Nat) (0 : Nat) (5 : Nat) []],
 IV.vslice none (0 : Nat) (0 : Nat) (4 : Nat) [], IV.int IntKind.i64 (2 : Int), IV.int IntKind.i64 (0 : Int), IV.str [(111 : UInt8), (110 : UInt8), (101 : UInt8)],
 IV.int IntKind.i64 (0 : Int), IV.int IntKind.i64 (16 : Int), IV.int IntKind.i64 (0 : Int), IV.int IntKind.i64 (0 : Int),
 IV.vslice none (0 : Nat) (2 : Nat) (5 : Nat)
 [IV.int IntKind.i64 (1 : Int), IV.int IntKind.i64 (0 : Int), IV.int IntKind.i64 (0 : Int), IV.int IntKind.i64 (0 : Int), IV.vslice none (0 : Nat) (0 : Nat) (5 : Nat) [],
 IV.int IntKind.i64 (0 : Int), IV.int IntKind.i64 (1 : Int), IV.int IntKind.i64 (0 : Int), IV.int IntKind.i64 (0 : Int), IV.vslice none (0 : Nat) (0 : Nat) (5 : Nat) []],
 IV.int IntKind.i64 (0 : Int), IV.int IntKind.i64 (1 : Int), IV.int IntKind.i64 (1 : Int), IV.int IntKind.i64 (0 : Int), IV.vslice none (0 : Nat) (0 : Nat) (5 : Nat) [],
 IV.vslice none (0 : Nat) (1 : Nat) (4 : Nat) [IV.int IntKind.i64 (1 : Int), IV.int IntKind.i64 (1 : Int), IV.int IntKind.i64 (0 : Int), IV.int IntKind.i64 (0 : Int)],
 IV.int IntKind.i64 (1 : Int), IV.int IntKind.i64 (0 : Int)] =
 nrl ∧
 b = false) ∧
 brS b
 ((IV.vslice none (0 : Nat) (0 : Nat) (3 : Nat) [] = ninv ∧
 IV.vslice none (0 : Nat) (0 : Nat) (1 : Nat) [] = nlen ∧
 IV.agg
 [IV.vslice none (0 : Nat) (8 : Nat) (3 : Nat)
 [IV.int IntKind.i64 (2 : Int), IV.int IntKind.i64 (0 : Int), IV.vslice none (0 : Nat) (0 : Nat) (1 : Nat) [], IV.int IntKind.i64 (1 : Int), IV.int IntKind.i64 (5 : Int),
 IV.vslice none (0 : Nat) (0 : Nat) (1 : Nat) [], IV.int IntKind.i64 (4 : Int), IV.int IntKind.i64 (0 : Int),
 IV.vslice none (0 : Nat) (2 : Nat) (1 : Nat) [IV.int IntKind.i64 (0 : Int), IV.int IntKind.i64 (1 : Int)], IV.int IntKind.i64 (4 : Int), IV.int IntKind.i64 (0 : Int),
 IV.vslice none (0 : Nat) (2 : Nat) (1 : Nat) [IV.int IntKind.i64 (1 : Int), IV.int IntKind.i64 (0 : Int)], IV.int IntKind.i64 (1 : Int), IV.int IntKind.i64 (0 : Int),
 IV.vslice none (0 : Nat) (0 : Nat) (1 : Nat) [], IV.int IntKind.i64 (16 : Int), IV.int IntKind.i64 (0 : Int),
 IV.vslice none (0 : Nat) (2 : Nat) (1 : Nat) [IV.int IntKind.i64 (1 : Int), IV.int IntKind.i64 (4 : Int)], IV.int IntKind.i64 (1 : Int), IV.int IntKind.i64 (1 : Int),
 IV.vslice none (0 : Nat) (0 : Nat) (1 : Nat) [], IV.int IntKind.i64 (16 : Int), IV.int IntKind.i64 (0 : Int),
 IV.vslice none (0 : Nat) (2 : Nat) (1 : Nat) [IV.int IntKind.i64 (0 : Int), IV.int IntKind.i64 (4 : Int)]],
 IV.vslice none (0 : Nat) (1 : Nat) (5 : Nat)
 [IV.int IntKind.i64 (2 : Int), IV.int IntKind.i64 (3 : Int), IV.int IntKind.i64 (1 : Int),
 IV.vslice none (0 : Nat) (2 : Nat) (1 : Nat) [IV.int IntKind.i64 (0 : Int), IV.int IntKind.i64 (1 : Int)], IV.vslice none (0 : Nat) (0 : Nat) (1 : Nat) []],
 IV.int IntKind.i64 (3 : Int), IV.int IntKind.i64 (2 : Int)] =
 prf) ∧
 ∃ (b : Bool), (IV.vslice none (0 : Nat) (0 : Nat) (14 : Nat) [] = rls ∧ b = true ∨ IV.vslice none (0 : Nat) (0 : Nat) (14 : Nat) [] = nrl ∧ b = false) ∧ Q (IV.bool !b) h)
 (Q (IV.bool false) h))
 (Q (IV.bool false) h))
 (Q (IV.bool false) h))
 (Q (IV.bool false) h))
 (Q (IV.bool false) h))
 (Q (IV.bool false) h)) := by kernel_rfl
set_option maxHeartbeats 4000000 in
theorem sREx : ∀ xs h Q, kREx xs h Q → CallW env 3 xs h Q := by
  intro xs h Q hk
  unfold kREx at hk
  split at hk
  · skip
    refine dF_run (okCProof) (vREx  h Q) ?_
    refine ⟨⟨rfl, rfl, rfl⟩, true, .inl ⟨rfl, rfl, rfl⟩, brS_intro (fun _ => ?_) (fun c => by cases c)⟩
    refine ⟨⟨rfl, rfl, rfl⟩, true, .inr (.inl ⟨rfl, rfl, rfl⟩), brS_intro (fun _ => ?_) (fun c => by cases c)⟩
    refine ⟨⟨rfl, rfl, rfl⟩, true, .inr (.inr (.inl ⟨rfl, rfl, rfl⟩)), brS_intro (fun _ => ?_) (fun c => by cases c)⟩
    refine ⟨⟨rfl, rfl, rfl⟩, false, .inr (.inr (.inr (.inl ⟨rfl, rfl, rfl⟩))), brS_intro (fun _ => ?_) (fun c => by cases c)⟩
    refine ⟨⟨rfl, rfl, rfl⟩, false, .inr (.inr (.inr (.inr ⟨rfl, rfl, rfl⟩))), brS_intro (fun _ => ?_) (fun c => by cases c)⟩
    refine ⟨⟨rfl, rfl, rfl⟩, true, .inl ⟨rfl, rfl⟩, brS_intro (fun _ => ?_) (fun c => by cases c)⟩
    exact ⟨⟨rfl, rfl, rfl⟩, false, .inr ⟨rfl, rfl⟩, hk⟩
  · exact hk.elim
def cREx := addC 3 kREx cCProof
theorem okREx : Sound env cREx := sound_add sREx (okCProof)

end Go.Proofs.YtpehgcbjjemhpaaGreat
