import Derived.Test.YtgfllfgdojiioaaGreatI14s
import Derived.Test.YtgfllfgdojiioaaGreatPvVS
import Derived.Test.YtgfllfgdojiioaaGreatV14
import Derived.KernelRfl
set_option linter.unusedVariables false
set_option linter.unusedSimpArgs false
namespace Go.Proofs.YtgfllfgdojiioaaGreat
open Go.Pv Go.M14
def kParse (xs : List IV) (h : Heap) (K : IV -> Heap -> Prop) : Prop := match xs with
 | [x] => x = src /\ K (.tuple [prg, .agg [.int .i64 0, .int .i64 0]]) h
 | _ => False
theorem sParse : ∀ xs h Q, kParse xs h Q -> CallW env 23 xs h Q := by
 intro xs h Q hk
 unfold kParse at hk
 split at hk
 ·rename_i x
  obtain ⟨rfl, hk⟩ := hk
  exact ⟨300, _, h, by kernel_rfl, hk⟩
 ·exact hk.elim
def cParse := addC 23 kParse cBin
theorem okParse : Sound env cParse := sound_add sParse (okBin)
def kLower (xs : List IV) (h : Heap) (K : IV -> Heap -> Prop) : Prop := match xs with
 | [x] => x = prg /\ K (.tuple [unit, nerr]) h
 | _ => False
theorem sLower : ∀ xs h Q, kLower xs h Q -> CallW env 24 xs h Q := by
 intro xs h Q hk
 unfold kLower at hk
 split at hk
 ·rename_i x
  obtain ⟨rfl, hk⟩ := hk
  exact ⟨300, _, h, by kernel_rfl, hk⟩
 ·exact hk.elim
def cLower := addC 24 kLower cParse
theorem okLower : Sound env cLower := sound_add sLower (okParse)
def kInvs (xs : List IV) (h : Heap) (K : IV -> Heap -> Prop) : Prop := match xs with
 | [x] => x = gph /\ K inv h
 | _ => False
theorem sInvs : ∀ xs h Q, kInvs xs h Q -> CallW env 25 xs h Q := by
 intro xs h Q hk
 unfold kInvs at hk
 split at hk
 ·rename_i x
  obtain ⟨rfl, hk⟩ := hk
  exact ⟨300, _, h, by kernel_rfl, hk⟩
 ·exact hk.elim
def cInvs := addC 25 kInvs cLower
theorem okInvs : Sound env cInvs := sound_add sInvs (okLower)
def kInd (xs : List IV) (h : Heap) (K : IV -> Heap -> Prop) : Prop := match xs with
 | [x, y] => (x = gph /\ y = inv) /\ K (.bool true) h
 | _ => False
theorem sInd : ∀ xs h Q, kInd xs h Q -> CallW env 26 xs h Q := by
 intro xs h Q hk
 unfold kInd at hk
 split at hk
 ·rename_i x y
  obtain ⟨⟨rfl, rfl⟩, hk⟩ := hk
  exact ⟨300, _, h, by kernel_rfl, hk⟩
 ·exact hk.elim
def cInd := addC 26 kInd cInvs
theorem okInd : Sound env cInd := sound_add sInd (okInvs)
def kHolds (xs : List IV) (h : Heap) (K : IV -> Heap -> Prop) : Prop := match xs with
 | [x, y, z] => (x = .agg [.int .i64 5, .int .i64 1, .int .i64 1, .int .i64 0] /\ y = .vslice none 0 1 2 [.int .i64 0, .int .i64 3] /\ z = .vslice none 0 1 1 [.int .i64 4]) /\ K (.bool true) h
 | _ => False
theorem sHolds : ∀ xs h Q, kHolds xs h Q -> CallW env 27 xs h Q := by
 intro xs h Q hk
 unfold kHolds at hk
 split at hk
 ·rename_i x y z
  obtain ⟨⟨rfl, rfl, rfl⟩, hk⟩ := hk
  exact ⟨300, _, h, by kernel_rfl, hk⟩
 ·exact hk.elim
def cHolds := addC 27 kHolds cInd
theorem okHolds : Sound env cHolds := sound_add sHolds (okInd)
def kAEx (xs : List IV) (h : Heap) (K : IV -> Heap -> Prop) : Prop := match xs with
 | [] => K (.bool true) h
 | _ => False
set_option maxRecDepth 100000 in
theorem vAEx  (h : Heap) (Q : IV -> Heap -> Prop) : dF (stdS cHolds) env 8 noU noI noI [] h Q = (
 IV.str
 [(102 : UInt8), (117 : UInt8), (110 : UInt8), (99 : UInt8), (32 : UInt8), (102 : UInt8), (40 : UInt8), (41 : UInt8), (32 : UInt8), (118 : UInt8), (97 : UInt8), (114 : UInt8), (32 : UInt8), (105 : UInt8), (32 : UInt8), (123 : UInt8),
 (32 : UInt8), (119 : UInt8), (104 : UInt8), (105 : UInt8), (108 : UInt8), (101 : UInt8), (32 : UInt8), (40 : UInt8), (105 : UInt8), (32 : UInt8), (60 : UInt8), (32 : UInt8), (57 : UInt8), (41 : UInt8), (32 : UInt8), (123 : UInt8),
 (32 : UInt8), (105 : UInt8), (32 : UInt8), (61 : UInt8), (32 : UInt8), (105 : UInt8), (32 : UInt8), (43 : UInt8), (32 : UInt8), (49 : UInt8), (59 : UInt8), (32 : UInt8), (125 : UInt8), (32 : UInt8), (114 : UInt8), (101 : UInt8),
 (116 : UInt8), (117 : UInt8), (114 : UInt8), (110 : UInt8), (32 : UInt8), (105 : UInt8), (59 : UInt8), (32 : UInt8), (125 : UInt8)] =
 src /\
 IV.agg
 [IV.vslice none (0 : Nat) (0 : Nat) (2 : Nat) [],
 IV.vslice none (0 : Nat) (1 : Nat) (9 : Nat)
 [IV.str [(102 : UInt8)], IV.vslice none (0 : Nat) (0 : Nat) (1 : Nat) [], IV.vslice none (0 : Nat) (1 : Nat) (1 : Nat) [IV.str [(105 : UInt8)]],
 IV.vslice none (0 : Nat) (1 : Nat) (17 : Nat)
 [IV.int IntKind.i64 (4 : Int), IV.str [], IV.str [], IV.int IntKind.i64 (0 : Int), IV.int IntKind.i64 (0 : Int), IV.int IntKind.i64 (0 : Int), IV.str [], IV.int IntKind.i64 (0 : Int),
 IV.vslice none (0 : Nat) (0 : Nat) (5 : Nat) [], IV.int IntKind.i64 (4 : Int), IV.int IntKind.i64 (0 : Int), IV.str [], IV.int IntKind.i64 (17 : Int),
 IV.vslice none (0 : Nat) (2 : Nat) (5 : Nat)
 [IV.int IntKind.i64 (2 : Int), IV.int IntKind.i64 (0 : Int), IV.str [(105 : UInt8)], IV.int IntKind.i64 (0 : Int), IV.vslice none (0 : Nat) (0 : Nat) (5 : Nat) [], IV.int IntKind.i64 (1 : Int),
 IV.int IntKind.i64 (9 : Int), IV.str [], IV.int IntKind.i64 (0 : Int), IV.vslice none (0 : Nat) (0 : Nat) (5 : Nat) []],
 IV.vslice none (0 : Nat) (0 : Nat) (5 : Nat) [],
 IV.vslice none (0 : Nat) (1 : Nat) (17 : Nat)
 [IV.int IntKind.i64 (1 : Int), IV.str [(105 : UInt8)], IV.str [], IV.int IntKind.i64 (0 : Int), IV.int IntKind.i64 (0 : Int), IV.int IntKind.i64 (0 : Int), IV.str [], IV.int IntKind.i64 (0 : Int),
 IV.vslice none (0 : Nat) (0 : Nat) (5 : Nat) [], IV.int IntKind.i64 (4 : Int), IV.int IntKind.i64 (0 : Int), IV.str [], IV.int IntKind.i64 (4 : Int),
 IV.vslice none (0 : Nat) (2 : Nat) (5 : Nat)
 [IV.int IntKind.i64 (2 : Int), IV.int IntKind.i64 (0 : Int), IV.str [(105 : UInt8)], IV.int IntKind.i64 (0 : Int), IV.vslice none (0 : Nat) (0 : Nat) (5 : Nat) [], IV.int IntKind.i64 (1 : Int),
 IV.int IntKind.i64 (1 : Int), IV.str [], IV.int IntKind.i64 (0 : Int), IV.vslice none (0 : Nat) (0 : Nat) (5 : Nat) []],
 IV.vslice none (0 : Nat) (0 : Nat) (5 : Nat) [], IV.vslice none (0 : Nat) (0 : Nat) (17 : Nat) [], IV.vslice none (0 : Nat) (0 : Nat) (17 : Nat) []],
 IV.vslice none (0 : Nat) (0 : Nat) (17 : Nat) []],
 IV.int IntKind.i64 (2 : Int), IV.int IntKind.i64 (0 : Int), IV.str [(105 : UInt8)], IV.int IntKind.i64 (0 : Int), IV.vslice none (0 : Nat) (0 : Nat) (5 : Nat) []]] =
 prg /\
 IV.agg
 [IV.str [(102 : UInt8)], IV.int IntKind.i64 (0 : Int),
 IV.vslice none (0 : Nat) (14 : Nat) (3 : Nat)
 [IV.int IntKind.i64 (26 : Int), IV.int IntKind.i64 (0 : Int), IV.vslice none (0 : Nat) (0 : Nat) (1 : Nat) [], IV.int IntKind.i64 (1 : Int), IV.int IntKind.i64 (0 : Int), IV.vslice none (0 : Nat) (0 : Nat) (1 : Nat) [],
 IV.int IntKind.i64 (1 : Int), IV.int IntKind.i64 (9 : Int), IV.vslice none (0 : Nat) (0 : Nat) (1 : Nat) [], IV.int IntKind.i64 (17 : Int), IV.int IntKind.i64 (0 : Int),
 IV.vslice none (0 : Nat) (2 : Nat) (1 : Nat) [IV.int IntKind.i64 (1 : Int), IV.int IntKind.i64 (2 : Int)], IV.int IntKind.i64 (3 : Int), IV.int IntKind.i64 (0 : Int), IV.vslice none (0 : Nat) (0 : Nat) (1 : Nat) [],
 IV.int IntKind.i64 (3 : Int), IV.int IntKind.i64 (1 : Int), IV.vslice none (0 : Nat) (0 : Nat) (1 : Nat) [], IV.int IntKind.i64 (1 : Int), IV.int IntKind.i64 (1 : Int), IV.vslice none (0 : Nat) (0 : Nat) (1 : Nat) [],
 IV.int IntKind.i64 (4 : Int), IV.int IntKind.i64 (0 : Int), IV.vslice none (0 : Nat) (2 : Nat) (1 : Nat) [IV.int IntKind.i64 (5 : Int), IV.int IntKind.i64 (6 : Int)], IV.int IntKind.i64 (17 : Int),
 IV.int IntKind.i64 (0 : Int), IV.vslice none (0 : Nat) (2 : Nat) (1 : Nat) [IV.int IntKind.i64 (7 : Int), IV.int IntKind.i64 (2 : Int)], IV.int IntKind.i64 (31 : Int), IV.int IntKind.i64 (0 : Int),
 IV.vslice none (0 : Nat) (5 : Nat) (1 : Nat) [IV.int IntKind.i64 (0 : Int), IV.int IntKind.i64 (1 : Int), IV.int IntKind.i64 (8 : Int), IV.int IntKind.i64 (4 : Int), IV.int IntKind.i64 (7 : Int)],
 IV.int IntKind.i64 (25 : Int), IV.int IntKind.i64 (0 : Int), IV.vslice none (0 : Nat) (1 : Nat) (1 : Nat) [IV.int IntKind.i64 (9 : Int)], IV.int IntKind.i64 (22 : Int), IV.int IntKind.i64 (0 : Int),
 IV.vslice none (0 : Nat) (3 : Nat) (1 : Nat) [IV.int IntKind.i64 (3 : Int), IV.int IntKind.i64 (10 : Int), IV.int IntKind.i64 (0 : Int)], IV.int IntKind.i64 (25 : Int), IV.int IntKind.i64 (1 : Int),
 IV.vslice none (0 : Nat) (1 : Nat) (1 : Nat) [IV.int IntKind.i64 (9 : Int)], IV.int IntKind.i64 (22 : Int), IV.int IntKind.i64 (0 : Int),
 IV.vslice none (0 : Nat) (3 : Nat) (1 : Nat) [IV.int IntKind.i64 (3 : Int), IV.int IntKind.i64 (12 : Int), IV.int IntKind.i64 (1 : Int)]],
 IV.int IntKind.i64 (13 : Int), IV.int IntKind.i64 (11 : Int)] =
 gph /\
 (IV.agg
 [IV.str [(102 : UInt8)], IV.int IntKind.i64 (0 : Int),
 IV.vslice none (0 : Nat) (14 : Nat) (3 : Nat)
 [IV.int IntKind.i64 (26 : Int), IV.int IntKind.i64 (0 : Int), IV.vslice none (0 : Nat) (0 : Nat) (1 : Nat) [], IV.int IntKind.i64 (1 : Int), IV.int IntKind.i64 (0 : Int), IV.vslice none (0 : Nat) (0 : Nat) (1 : Nat) [],
 IV.int IntKind.i64 (1 : Int), IV.int IntKind.i64 (9 : Int), IV.vslice none (0 : Nat) (0 : Nat) (1 : Nat) [], IV.int IntKind.i64 (17 : Int), IV.int IntKind.i64 (0 : Int),
 IV.vslice none (0 : Nat) (2 : Nat) (1 : Nat) [IV.int IntKind.i64 (1 : Int), IV.int IntKind.i64 (2 : Int)], IV.int IntKind.i64 (3 : Int), IV.int IntKind.i64 (0 : Int), IV.vslice none (0 : Nat) (0 : Nat) (1 : Nat) [],
 IV.int IntKind.i64 (3 : Int), IV.int IntKind.i64 (1 : Int), IV.vslice none (0 : Nat) (0 : Nat) (1 : Nat) [], IV.int IntKind.i64 (1 : Int), IV.int IntKind.i64 (1 : Int), IV.vslice none (0 : Nat) (0 : Nat) (1 : Nat) [],
 IV.int IntKind.i64 (4 : Int), IV.int IntKind.i64 (0 : Int), IV.vslice none (0 : Nat) (2 : Nat) (1 : Nat) [IV.int IntKind.i64 (5 : Int), IV.int IntKind.i64 (6 : Int)], IV.int IntKind.i64 (17 : Int),
 IV.int IntKind.i64 (0 : Int), IV.vslice none (0 : Nat) (2 : Nat) (1 : Nat) [IV.int IntKind.i64 (7 : Int), IV.int IntKind.i64 (2 : Int)], IV.int IntKind.i64 (31 : Int), IV.int IntKind.i64 (0 : Int),
 IV.vslice none (0 : Nat) (5 : Nat) (1 : Nat) [IV.int IntKind.i64 (0 : Int), IV.int IntKind.i64 (1 : Int), IV.int IntKind.i64 (8 : Int), IV.int IntKind.i64 (4 : Int), IV.int IntKind.i64 (7 : Int)],
 IV.int IntKind.i64 (25 : Int), IV.int IntKind.i64 (0 : Int), IV.vslice none (0 : Nat) (1 : Nat) (1 : Nat) [IV.int IntKind.i64 (9 : Int)], IV.int IntKind.i64 (22 : Int), IV.int IntKind.i64 (0 : Int),
 IV.vslice none (0 : Nat) (3 : Nat) (1 : Nat) [IV.int IntKind.i64 (3 : Int), IV.int IntKind.i64 (10 : Int), IV.int IntKind.i64 (0 : Int)], IV.int IntKind.i64 (25 : Int), IV.int IntKind.i64 (1 : Int),
 IV.vslice none (0 : Nat) (1 : Nat) (1 : Nat) [IV.int IntKind.i64 (9 : Int)], IV.int IntKind.i64 (22 : Int), IV.int IntKind.i64 (0 : Int),
 IV.vslice none (0 : Nat) (3 : Nat) (1 : Nat) [IV.int IntKind.i64 (3 : Int), IV.int IntKind.i64 (12 : Int), IV.int IntKind.i64 (1 : Int)]],
 IV.int IntKind.i64 (13 : Int), IV.int IntKind.i64 (11 : Int)] =
 gph /\
 IV.vslice none (0 : Nat) (1 : Nat) (3 : Nat) [IV.int IntKind.i64 (1 : Int), IV.int IntKind.i64 (0 : Int), IV.int IntKind.i64 (8 : Int)] = inv) /\
 (IV.agg [IV.int IntKind.i64 (5 : Int), IV.int IntKind.i64 (1 : Int), IV.int IntKind.i64 (1 : Int), IV.int IntKind.i64 (0 : Int)] =
 IV.agg [IV.int IntKind.i64 (5 : Int), IV.int IntKind.i64 (1 : Int), IV.int IntKind.i64 (1 : Int), IV.int IntKind.i64 (0 : Int)] /\
 IV.vslice none (0 : Nat) (1 : Nat) (2 : Nat) [IV.int IntKind.i64 (0 : Int), IV.int IntKind.i64 (3 : Int)] = IV.vslice none (0 : Nat) (1 : Nat) (2 : Nat) [IV.int IntKind.i64 (0 : Int), IV.int IntKind.i64 (3 : Int)] /\
 IV.vslice none (0 : Nat) (1 : Nat) (1 : Nat) [IV.int IntKind.i64 (4 : Int)] = IV.vslice none (0 : Nat) (1 : Nat) (1 : Nat) [IV.int IntKind.i64 (4 : Int)]) /\
 Q (IV.bool true) h) := by kernel_rfl
theorem sAEx : ∀ xs h Q, kAEx xs h Q -> CallW env 8 xs h Q := by
 intro xs h Q hk
 unfold kAEx at hk
 split at hk
 ·skip
  refine dF_run (okHolds) (vAEx  h Q) ?_
  exact ⟨rfl, rfl, rfl, ⟨rfl, rfl⟩, ⟨rfl, rfl, rfl⟩, hk⟩
 ·exact hk.elim
def cAEx := addC 8 kAEx cHolds
theorem okAEx : Sound env cAEx := sound_add sAEx (okHolds)
end Go.Proofs.YtgfllfgdojiioaaGreat
