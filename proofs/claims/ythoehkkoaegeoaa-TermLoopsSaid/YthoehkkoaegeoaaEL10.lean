/-
  Terms: what the program reads, its small functions.
  Conditions: none.
-/
import Derived.Test.YthoehkkoaegeoaaCL10
import Derived.Test.YthoehkkoaegeoaaR10
import Derived.KernelRfl
set_option linter.unusedVariables false
set_option linter.unusedSimpArgs false
namespace Go.Proofs.Ythoehkkoaegeoaa
open Go.Pv Go.M15 Go.M10 Go.M29
def kAppUV (xs : List IV) (h : Heap) (K : IV → Heap → Prop) : Prop := match xs with
  | [.vslice (some id) e len 1 cs, .int .u64 n] => h.get id = .tip e ∧ len ≤ 100000000000 ∧ ∀ h2 : Heap, h2.get id = .tip (e + 8) → h2.next = h.next → (∀ j, j ≠ id → h2.get j = h.get j) → K (.vslice (some id) (e + 8) (len + 8) 1 (cs ++ ((b8 n).map (IV.int .u8)))) h2
  | _ => False
set_option maxRecDepth 100000 in
theorem vAppUV (id e len : Nat) (cs : List IV) (n : Int) (h : Heap) (Q : IV → Heap → Prop) : dF (stdS cPrint) env 44 (fun k => if k = 3 then 9 else 0) noI noI [.vslice (some id) e len 1 cs, .int .u64 n] h Q = (
  tipS h id fun (m0 : Nat) =>
 needS (Nat.beq m0 e && Nat.ble ((len + (1 : Nat)) * (1 : Nat)) (140737488355328 : Nat))
 (tipS (Heap.set h id (IObj.tip (e + (1 : Nat)))) id fun (m1 : Nat) =>
 needS (Nat.beq m1 (e + (1 : Nat)) && Nat.ble ((len + (1 : Nat) + (1 : Nat)) * (1 : Nat)) (140737488355328 : Nat))
 (tipS (Heap.set (Heap.set h id (IObj.tip (e + (1 : Nat)))) id (IObj.tip (e + (1 : Nat) + (1 : Nat)))) id fun (m2 : Nat) =>
 needS (Nat.beq m2 (e + (1 : Nat) + (1 : Nat)) && Nat.ble ((len + (1 : Nat) + (1 : Nat) + (1 : Nat)) * (1 : Nat)) (140737488355328 : Nat))
 (tipS (Heap.set (Heap.set (Heap.set h id (IObj.tip (e + (1 : Nat)))) id (IObj.tip (e + (1 : Nat) + (1 : Nat)))) id (IObj.tip (e + (1 : Nat) + (1 : Nat) + (1 : Nat)))) id fun (m3 : Nat) =>
 needS (Nat.beq m3 (e + (1 : Nat) + (1 : Nat) + (1 : Nat)) && Nat.ble ((len + (1 : Nat) + (1 : Nat) + (1 : Nat) + (1 : Nat)) * (1 : Nat)) (140737488355328 : Nat))
 (tipS
 (Heap.set (Heap.set (Heap.set (Heap.set h id (IObj.tip (e + (1 : Nat)))) id (IObj.tip (e + (1 : Nat) + (1 : Nat)))) id (IObj.tip (e + (1 : Nat) + (1 : Nat) + (1 : Nat)))) id
 (IObj.tip (e + (1 : Nat) + (1 : Nat) + (1 : Nat) + (1 : Nat))))
 id fun (m4 : Nat) =>
 needS (Nat.beq m4 (e + (1 : Nat) + (1 : Nat) + (1 : Nat) + (1 : Nat)) && Nat.ble ((len + (1 : Nat) + (1 : Nat) + (1 : Nat) + (1 : Nat) + (1 : Nat)) * (1 : Nat)) (140737488355328 : Nat))
 (tipS
 (Heap.set
 (Heap.set (Heap.set (Heap.set (Heap.set h id (IObj.tip (e + (1 : Nat)))) id (IObj.tip (e + (1 : Nat) + (1 : Nat)))) id (IObj.tip (e + (1 : Nat) + (1 : Nat) + (1 : Nat)))) id
 (IObj.tip (e + (1 : Nat) + (1 : Nat) + (1 : Nat) + (1 : Nat))))
 id (IObj.tip (e + (1 : Nat) + (1 : Nat) + (1 : Nat) + (1 : Nat) + (1 : Nat))))
 id fun (m5 : Nat) =>
 needS (Nat.beq m5 (e + (1 : Nat) + (1 : Nat) + (1 : Nat) + (1 : Nat) + (1 : Nat)) && Nat.ble ((len + (1 : Nat) + (1 : Nat) + (1 : Nat) + (1 : Nat) + (1 : Nat) + (1 : Nat)) * (1 : Nat)) (140737488355328 : Nat))
 (tipS
 (Heap.set
 (Heap.set
 (Heap.set (Heap.set (Heap.set (Heap.set h id (IObj.tip (e + (1 : Nat)))) id (IObj.tip (e + (1 : Nat) + (1 : Nat)))) id (IObj.tip (e + (1 : Nat) + (1 : Nat) + (1 : Nat)))) id
 (IObj.tip (e + (1 : Nat) + (1 : Nat) + (1 : Nat) + (1 : Nat))))
 id (IObj.tip (e + (1 : Nat) + (1 : Nat) + (1 : Nat) + (1 : Nat) + (1 : Nat))))
 id (IObj.tip (e + (1 : Nat) + (1 : Nat) + (1 : Nat) + (1 : Nat) + (1 : Nat) + (1 : Nat))))
 id fun (m6 : Nat) =>
 needS
 (Nat.beq m6 (e + (1 : Nat) + (1 : Nat) + (1 : Nat) + (1 : Nat) + (1 : Nat) + (1 : Nat)) &&
 Nat.ble ((len + (1 : Nat) + (1 : Nat) + (1 : Nat) + (1 : Nat) + (1 : Nat) + (1 : Nat) + (1 : Nat)) * (1 : Nat)) (140737488355328 : Nat))
 (tipS
 (Heap.set
 (Heap.set
 (Heap.set
 (Heap.set (Heap.set (Heap.set (Heap.set h id (IObj.tip (e + (1 : Nat)))) id (IObj.tip (e + (1 : Nat) + (1 : Nat)))) id (IObj.tip (e + (1 : Nat) + (1 : Nat) + (1 : Nat)))) id
 (IObj.tip (e + (1 : Nat) + (1 : Nat) + (1 : Nat) + (1 : Nat))))
 id (IObj.tip (e + (1 : Nat) + (1 : Nat) + (1 : Nat) + (1 : Nat) + (1 : Nat))))
 id (IObj.tip (e + (1 : Nat) + (1 : Nat) + (1 : Nat) + (1 : Nat) + (1 : Nat) + (1 : Nat))))
 id (IObj.tip (e + (1 : Nat) + (1 : Nat) + (1 : Nat) + (1 : Nat) + (1 : Nat) + (1 : Nat) + (1 : Nat))))
 id fun (m7 : Nat) =>
 needS
 (Nat.beq m7 (e + (1 : Nat) + (1 : Nat) + (1 : Nat) + (1 : Nat) + (1 : Nat) + (1 : Nat) + (1 : Nat)) &&
 Nat.ble ((len + (1 : Nat) + (1 : Nat) + (1 : Nat) + (1 : Nat) + (1 : Nat) + (1 : Nat) + (1 : Nat) + (1 : Nat)) * (1 : Nat)) (140737488355328 : Nat))
 (Q
 (IV.vslice (some id) (e + (1 : Nat) + (1 : Nat) + (1 : Nat) + (1 : Nat) + (1 : Nat) + (1 : Nat) + (1 : Nat) + (1 : Nat))
 (len + (1 : Nat) + (1 : Nat) + (1 : Nat) + (1 : Nat) + (1 : Nat) + (1 : Nat) + (1 : Nat) + (1 : Nat)) (1 : Nat)
 (cs ++ [IV.int IntKind.u8 (IntKind.wrap IntKind.u8 (Int.fdiv n (1 : Int)))] ++ [IV.int IntKind.u8 (IntKind.wrap IntKind.u8 (Int.fdiv n (256 : Int)))] ++
 [IV.int IntKind.u8 (IntKind.wrap IntKind.u8 (Int.fdiv n (65536 : Int)))] ++
 [IV.int IntKind.u8 (IntKind.wrap IntKind.u8 (Int.fdiv n (16777216 : Int)))] ++
 [IV.int IntKind.u8 (IntKind.wrap IntKind.u8 (Int.fdiv n (4294967296 : Int)))] ++
 [IV.int IntKind.u8 (IntKind.wrap IntKind.u8 (Int.fdiv n (1099511627776 : Int)))] ++
 [IV.int IntKind.u8 (IntKind.wrap IntKind.u8 (Int.fdiv n (281474976710656 : Int)))] ++
 [IV.int IntKind.u8 (IntKind.wrap IntKind.u8 (Int.fdiv n (72057594037927936 : Int)))]))
 (Heap.set
 (Heap.set
 (Heap.set
 (Heap.set
 (Heap.set (Heap.set (Heap.set (Heap.set h id (IObj.tip (e + (1 : Nat)))) id (IObj.tip (e + (1 : Nat) + (1 : Nat)))) id (IObj.tip (e + (1 : Nat) + (1 : Nat) + (1 : Nat)))) id
 (IObj.tip (e + (1 : Nat) + (1 : Nat) + (1 : Nat) + (1 : Nat))))
 id (IObj.tip (e + (1 : Nat) + (1 : Nat) + (1 : Nat) + (1 : Nat) + (1 : Nat))))
 id (IObj.tip (e + (1 : Nat) + (1 : Nat) + (1 : Nat) + (1 : Nat) + (1 : Nat) + (1 : Nat))))
 id (IObj.tip (e + (1 : Nat) + (1 : Nat) + (1 : Nat) + (1 : Nat) + (1 : Nat) + (1 : Nat) + (1 : Nat))))
 id (IObj.tip (e + (1 : Nat) + (1 : Nat) + (1 : Nat) + (1 : Nat) + (1 : Nat) + (1 : Nat) + (1 : Nat) + (1 : Nat))))))))))))) := by kernel_rfl
theorem sAppUV : ∀ xs h Q, kAppUV xs h Q → CallW env 44 xs h Q := by
  intro xs h Q hk
  unfold kAppUV at hk
  split at hk
  · rename_i id e len cs n
    refine dF_run (okPrint) (vAppUV id e len cs n h Q) ?_
    obtain ⟨hg, hl, hk⟩ := hk
    refine tip_intro hg (needS_intro (by simp only [Nat.mul_one, Bool.and_eq_true, nbeq_t, Nat.ble_eq, true_and]; omega) ?_)
    repeat (refine tip_intro get_set_eq (needS_intro (by simp only [Nat.mul_one, Bool.and_eq_true, nbeq_t, Nat.ble_eq, true_and]; omega) ?_))
    refine q_eq (hk _ ?_ ?_ ?_) ?_
    · exact get_set_eq
    · rfl
    · intro j hj
      simp only [get_set_ne hj]
    · simp [b8]
  · exact hk.elim
def cAppUV := addC 44 kAppUV cPrint
theorem okAppUV : Sound env cAppUV := sound_add sAppUV (okPrint)

def kAppUL (xs : List IV) (h : Heap) (K : IV → Heap → Prop) : Prop := match xs with
  | [.vslice none 1 1 1 [.int .u8 c], .int .u64 n] => ∀ (i : Nat) (h2 : Heap), h2.get i = .tip 9 → h.next ≤ i → i < h2.next → (∀ j, j < h.next → h2.get j = h.get j) → K (.vslice (some i) 9 9 1 (((c :: b8 n).map (IV.int .u8)))) h2
  | _ => False
set_option maxRecDepth 100000 in
theorem vAppUL (c n : Int) (h : Heap) (Q : IV → Heap → Prop) : dF (stdS cAppUV) env 44 (fun k => if k = 3 then 9 else 0) noI noI [.vslice none 1 1 1 [.int .u8 c], .int .u64 n] h Q = (
  tipS (Heap.push h (IObj.tip (2 : Nat))) (Heap.next h) fun (m0 : Nat) =>
 needS (Nat.beq m0 (2 : Nat) && true)
 (tipS (Heap.set (Heap.push h (IObj.tip (2 : Nat))) (Heap.next h) (IObj.tip (3 : Nat))) (Heap.next h) fun (m1 : Nat) =>
 needS (Nat.beq m1 (3 : Nat) && true)
 (tipS (Heap.set (Heap.set (Heap.push h (IObj.tip (2 : Nat))) (Heap.next h) (IObj.tip (3 : Nat))) (Heap.next h) (IObj.tip (4 : Nat))) (Heap.next h) fun (m2 : Nat) =>
 needS (Nat.beq m2 (4 : Nat) && true)
 (tipS (Heap.set (Heap.set (Heap.set (Heap.push h (IObj.tip (2 : Nat))) (Heap.next h) (IObj.tip (3 : Nat))) (Heap.next h) (IObj.tip (4 : Nat))) (Heap.next h) (IObj.tip (5 : Nat))) (Heap.next h) fun (m3 : Nat) =>
 needS (Nat.beq m3 (5 : Nat) && true)
 (tipS (Heap.set (Heap.set (Heap.set (Heap.set (Heap.push h (IObj.tip (2 : Nat))) (Heap.next h) (IObj.tip (3 : Nat))) (Heap.next h) (IObj.tip (4 : Nat))) (Heap.next h) (IObj.tip (5 : Nat))) (Heap.next h) (IObj.tip (6 : Nat)))
 (Heap.next h) fun (m4 : Nat) =>
 needS (Nat.beq m4 (6 : Nat) && true)
 (tipS
 (Heap.set
 (Heap.set (Heap.set (Heap.set (Heap.set (Heap.push h (IObj.tip (2 : Nat))) (Heap.next h) (IObj.tip (3 : Nat))) (Heap.next h) (IObj.tip (4 : Nat))) (Heap.next h) (IObj.tip (5 : Nat))) (Heap.next h)
 (IObj.tip (6 : Nat)))
 (Heap.next h) (IObj.tip (7 : Nat)))
 (Heap.next h) fun (m5 : Nat) =>
 needS (Nat.beq m5 (7 : Nat) && true)
 (tipS
 (Heap.set
 (Heap.set
 (Heap.set (Heap.set (Heap.set (Heap.set (Heap.push h (IObj.tip (2 : Nat))) (Heap.next h) (IObj.tip (3 : Nat))) (Heap.next h) (IObj.tip (4 : Nat))) (Heap.next h) (IObj.tip (5 : Nat))) (Heap.next h)
 (IObj.tip (6 : Nat)))
 (Heap.next h) (IObj.tip (7 : Nat)))
 (Heap.next h) (IObj.tip (8 : Nat)))
 (Heap.next h) fun (m6 : Nat) =>
 needS (Nat.beq m6 (8 : Nat) && true)
 (Q
 (IV.vslice (some (Heap.next h)) (9 : Nat) (9 : Nat) (1 : Nat)
 [IV.int IntKind.u8 c, IV.int IntKind.u8 (IntKind.wrap IntKind.u8 (Int.fdiv n (1 : Int))), IV.int IntKind.u8 (IntKind.wrap IntKind.u8 (Int.fdiv n (256 : Int))),
 IV.int IntKind.u8 (IntKind.wrap IntKind.u8 (Int.fdiv n (65536 : Int))), IV.int IntKind.u8 (IntKind.wrap IntKind.u8 (Int.fdiv n (16777216 : Int))),
 IV.int IntKind.u8 (IntKind.wrap IntKind.u8 (Int.fdiv n (4294967296 : Int))), IV.int IntKind.u8 (IntKind.wrap IntKind.u8 (Int.fdiv n (1099511627776 : Int))),
 IV.int IntKind.u8 (IntKind.wrap IntKind.u8 (Int.fdiv n (281474976710656 : Int))), IV.int IntKind.u8 (IntKind.wrap IntKind.u8 (Int.fdiv n (72057594037927936 : Int)))])
 (Heap.set
 (Heap.set
 (Heap.set
 (Heap.set (Heap.set (Heap.set (Heap.set (Heap.push h (IObj.tip (2 : Nat))) (Heap.next h) (IObj.tip (3 : Nat))) (Heap.next h) (IObj.tip (4 : Nat))) (Heap.next h) (IObj.tip (5 : Nat))) (Heap.next h)
 (IObj.tip (6 : Nat)))
 (Heap.next h) (IObj.tip (7 : Nat)))
 (Heap.next h) (IObj.tip (8 : Nat)))
 (Heap.next h) (IObj.tip (9 : Nat))))))))))) := by kernel_rfl
theorem sAppUL : ∀ xs h Q, kAppUL xs h Q → CallW env 44 xs h Q := by
  intro xs h Q hk
  unfold kAppUL at hk
  split at hk
  · rename_i c n
    refine dF_run (okAppUV) (vAppUL c n h Q) ?_
    repeat (first
      | refine tip_intro get_push_eq (needS_intro rfl ?_)
      | refine tip_intro get_set_eq (needS_intro rfl ?_))
    exact hk _ _ get_set_eq (Nat.le_refl _) (Nat.lt_succ_self _) (fun j hj => by simp only [get_set_ne (Nat.ne_of_lt hj)]; exact get_push_lt hj)
  · exact hk.elim
def cAppUL := addC 44 kAppUL cAppUV
theorem okAppUL : Sound env cAppUL := sound_add sAppUL (okAppUV)

def kAppU (xs : List IV) (h : Heap) (K : IV → Heap → Prop) : Prop := match xs with
  | [s, .int .u64 n] => match s with | .vslice none e len z cs => kAppUL [.vslice none e len z cs, .int .u64 n] h K | .vslice io e len z cs => kAppUV [.vslice io e len z cs, .int .u64 n] h K | _ => False
  | _ => False
theorem sAppU : ∀ xs h Q, kAppU xs h Q → CallW env 44 xs h Q := by
  intro xs h Q hk
  unfold kAppU at hk
  split at hk
  · rename_i s n
    split at hk
    · exact sAppUL _ _ _ hk
    · exact sAppUV _ _ _ hk
    · exact hk.elim
  · exact hk.elim
def cAppU := addC 44 kAppU cAppUL
theorem okAppU : Sound env cAppU := sound_add sAppU (okAppUL)

def kOpw (xs : List IV) (h : Heap) (K : IV → Heap → Prop) : Prop := match xs with
  | [.str s] => ∃ a : Int, (1 ≤ a ∧ a ≤ 31) ∧ s = tnm a ∧ K (.tuple [.int .i64 (tno a), .bool (tok a)]) h
  | _ => False
theorem sOpw : ∀ xs h Q, kOpw xs h Q → CallW env 23 xs h Q := by
  intro xs h Q hk
  unfold kOpw at hk
  split at hk
  · obtain ⟨a, h1, rfl, hk⟩ := hk
    have h2 : a = 1 ∨ a = 2 ∨ a = 3 ∨ a = 4 ∨ a = 5 ∨ a = 6 ∨ a = 7 ∨ a = 8 ∨ a = 9 ∨ a = 10 ∨ a = 11 ∨ a = 12 ∨ a = 13 ∨ a = 14 ∨ a = 15 ∨ a = 16 ∨ a = 17 ∨ a = 18 ∨ a = 19 ∨ a = 20 ∨ a = 21 ∨ a = 22 ∨ a = 23 ∨ a = 24 ∨ a = 25 ∨ a = 26 ∨ a = 27 ∨ a = 28 ∨ a = 29 ∨ a = 30 ∨ a = 31 := by omega
    rcases h2 with rfl | rfl | rfl | rfl | rfl | rfl | rfl | rfl | rfl | rfl | rfl | rfl | rfl | rfl | rfl | rfl | rfl | rfl | rfl | rfl | rfl | rfl | rfl | rfl | rfl | rfl | rfl | rfl | rfl | rfl | rfl
    all_goals exact ⟨80, _, h, by kernel_rfl, hk⟩
  · exact hk.elim
def cOpw := addC 23 kOpw cAppU
theorem okOpw : Sound env cOpw := sound_add sOpw (okAppU)

def wpA (s : List UInt8) : Inv' := atC [(4, .v (.str s)), (5, .v (.bool (ngS s)))] [] Heap.empty
def wpB (s : List UInt8) : Inv' := atC [(4, .v (.str (tlS s))), (5, .v (.bool (ngS s)))] [] Heap.empty
def wpC (s : List UInt8) : Inv' := atP ((tlS s).length ≤ 19) [(4, .v (.str (tlS s))), (5, .v (.bool (ngS s)))] [] Heap.empty
def wpInv (s : List UInt8) : Inv' := atX (Nat × Int) (fun x => [(4, .v (.str (tlS s))), (5, .v (.bool (ngS s))), (6, .v (.int .u64 x.2)), (7, .v (.int .i64 x.1))]) (fun _ => []) (fun _ => Heap.empty)
  (fun x => (x.1 ≤ (tlS s).length ∧ (tlS s).length ≤ 19) ∧ okAt s x.1 x.2) (fun x => (tlS s).length - x.1)
def wpD (s : List UInt8) : Inv' := atX Int (fun a => [(5, .v (.bool (ngS s))), (6, .v (.int .u64 a))]) (fun _ => []) (fun _ => Heap.empty) (fun a => okAt s (tlS s).length a) (fun _ => 0)
def kWParse (xs : List IV) (h : Heap) (K : IV → Heap → Prop) : Prop := match xs with
  | [.str s] => ∀ (v : Int) (b : Bool), (-9223372036854775808 ≤ v ∧ v ≤ 9223372036854775807) → (∀ n : Int, (-9223372036854775808 ≤ n ∧ n ≤ 9223372036854775807) → s = txt n → v = n ∧ b = true) → K (.tuple [.int .i64 v, .bool b]) h
  | _ => False
set_option maxRecDepth 100000 in
theorem vWParse (s : List UInt8) (h : Heap) (Q : IV → Heap → Prop) : dF (stdS cOpw) env 43 noU (ic1 10 (wpInv s)) (icS (icA 4 (wpA s) (icA 6 (wpB s) (icA 8 (wpC s) (ic1 15 (wpD s)))))) [.str s] h Q = (
  brS (decide ((↑(List.length s) : Int) > (0 : Int)))
 (chrS s (0 : Nat) fun (c0 : Int) => some (TV.v (IV.str s)) = some (TV.v (IV.str s)) ∧ some (TV.v (IV.bool (c0 == (45 : Int)))) = some (TV.v (IV.bool (ngS s))) ∧ Heap.mk PT.nil (0 : Nat) = Heap.mk PT.nil (0 : Nat) ∧ True ∧ True)
 (some (TV.v (IV.str s)) = some (TV.v (IV.str s)) ∧ some (TV.v (IV.bool false)) = some (TV.v (IV.bool (ngS s))) ∧ Heap.mk PT.nil (0 : Nat) = Heap.mk PT.nil (0 : Nat) ∧ True ∧ True) ∧
 (∀ (x : Unit) (b : FF),
 True →
 brS (ngS s)
 (needS (true && (decide ((1 : Int) ≤ (↑(List.length s) : Int)) && decide ((↑(List.length s) : Int) ≤ (↑(List.length s) : Int))))
 (some (TV.v (IV.str (List.take (Int.toNat (↑(List.length s) : Int) - (1 : Nat)) (List.drop (1 : Nat) s)))) = some (TV.v (IV.str (tlS s))) ∧
 some (TV.v (IV.bool (ngS s))) = some (TV.v (IV.bool (ngS s))) ∧ Heap.mk PT.nil (0 : Nat) = Heap.mk PT.nil (0 : Nat) ∧ True ∧ True))
 (some (TV.v (IV.str s)) = some (TV.v (IV.str (tlS s))) ∧ some (TV.v (IV.bool (ngS s))) = some (TV.v (IV.bool (ngS s))) ∧ Heap.mk PT.nil (0 : Nat) = Heap.mk PT.nil (0 : Nat) ∧ True ∧ True)) ∧
 (∀ (x : Unit) (b : FF),
 True →
 brS (decide ((↑(List.length (tlS s)) : Int) < (1 : Int))) (Q (IV.tuple [IV.int IntKind.i64 (0 : Int), IV.bool false]) h)
 (brS (decide ((↑(List.length (tlS s)) : Int) > (19 : Int))) (Q (IV.tuple [IV.int IntKind.i64 (0 : Int), IV.bool false]) h)
 (chrS (tlS s) (0 : Nat) fun (c1 : Int) =>
 brS (c1 == (48 : Int))
 (brS (decide ((↑(List.length (tlS s)) : Int) > (1 : Int))) (Q (IV.tuple [IV.int IntKind.i64 (0 : Int), IV.bool false]) h)
 (brS (ngS s) (Q (IV.tuple [IV.int IntKind.i64 (0 : Int), IV.bool false]) h)
 (some (TV.v (IV.str (tlS s))) = some (TV.v (IV.str (tlS s))) ∧
 some (TV.v (IV.bool (ngS s))) = some (TV.v (IV.bool (ngS s))) ∧ Heap.mk PT.nil (0 : Nat) = Heap.mk PT.nil (0 : Nat) ∧ Nat.le (List.length (tlS s)) (19 : Nat) ∧ True)))
 (some (TV.v (IV.str (tlS s))) = some (TV.v (IV.str (tlS s))) ∧
 some (TV.v (IV.bool (ngS s))) = some (TV.v (IV.bool (ngS s))) ∧ Heap.mk PT.nil (0 : Nat) = Heap.mk PT.nil (0 : Nat) ∧ Nat.le (List.length (tlS s)) (19 : Nat) ∧ True)))) ∧
 (∀ (x : Unit) (b : FF),
 List.length (tlS s) ≤ (19 : Nat) →
 (∃ (x : Nat × Int),
 some (TV.v (IV.str (tlS s))) = some (TV.v (IV.str (tlS s))) ∧
 some (TV.v (IV.bool (ngS s))) = some (TV.v (IV.bool (ngS s))) ∧
 some (TV.v (IV.int IntKind.u64 (0 : Int))) = some (TV.v (IV.int IntKind.u64 (Prod.snd x))) ∧
 some (TV.v (IV.int IntKind.i64 (0 : Int))) = some (TV.v (IV.int IntKind.i64 (↑(Prod.fst x) : Int))) ∧
 Heap.mk PT.nil (0 : Nat) = Heap.mk PT.nil (0 : Nat) ∧ ((Prod.fst x ≤ List.length (tlS s) ∧ List.length (tlS s) ≤ (19 : Nat)) ∧ okAt s (Prod.fst x) (Prod.snd x)) ∧ True) ∧
 ∀ (x : Nat × Int) (b : FF),
 (Prod.fst x ≤ List.length (tlS s) ∧ List.length (tlS s) ≤ (19 : Nat)) ∧ okAt s (Prod.fst x) (Prod.snd x) →
 brS (decide ((↑(Prod.fst x) : Int) < (↑(List.length (tlS s)) : Int)))
 (chrS (tlS s) (Int.toNat (↑(Prod.fst x) : Int)) fun (c2 : Int) =>
 brS (decide (c2 < (48 : Int))) (Q (IV.tuple [IV.int IntKind.i64 (0 : Int), IV.bool false]) h)
 (chrS (tlS s) (Int.toNat (↑(Prod.fst x) : Int)) fun (c3 : Int) =>
 brS (decide (c3 > (57 : Int))) (Q (IV.tuple [IV.int IntKind.i64 (0 : Int), IV.bool false]) h)
 (chrS (tlS s) (Int.toNat (↑(Prod.fst x) : Int)) fun (c4 : Int) =>
 ∃ (x_1 : Nat × Int),
 some (TV.v (IV.str (tlS s))) = some (TV.v (IV.str (tlS s))) ∧
 some (TV.v (IV.bool (ngS s))) = some (TV.v (IV.bool (ngS s))) ∧
 some (TV.v (IV.int IntKind.u64 (IntKind.wrap IntKind.u64 (IntKind.wrap IntKind.u64 ((10 : Int) * Prod.snd x) + IntKind.wrap IntKind.u64 (IntKind.wrap IntKind.u8 (c4 - (48 : Int))))))) =
 some (TV.v (IV.int IntKind.u64 (Prod.snd x_1))) ∧
 some (TV.v (IV.int IntKind.i64 (IntKind.wrap IntKind.i64 ((↑(Prod.fst x) : Int) + (1 : Int))))) = some (TV.v (IV.int IntKind.i64 (↑(Prod.fst x_1) : Int))) ∧
 Heap.mk PT.nil (0 : Nat) = Heap.mk PT.nil (0 : Nat) ∧
 ((Prod.fst x_1 ≤ List.length (tlS s) ∧ List.length (tlS s) ≤ (19 : Nat)) ∧ okAt s (Prod.fst x_1) (Prod.snd x_1)) ∧ List.length (tlS s) - Prod.fst x_1 < List.length (tlS s) - Prod.fst x)))
 (∃ (x_1 : Int),
 some (TV.v (IV.bool (ngS s))) = some (TV.v (IV.bool (ngS s))) ∧
 some (TV.v (IV.int IntKind.u64 (Prod.snd x))) = some (TV.v (IV.int IntKind.u64 x_1)) ∧
 Heap.mk PT.nil (0 : Nat) = Heap.mk PT.nil (0 : Nat) ∧
 (((0 : Int) ≤ x_1 ∧ x_1 < (18446744073709551616 : Int)) ∧
 ∀ (n : Int), (-9223372036854775808 : Int) ≤ n ∧ n ≤ (9223372036854775807 : Int) → s = txt n → x_1 = (↑(val (List.take (List.length (tlS s)) (tlS s))) : Int)) ∧
 True)) ∧
 (∀ (x : Int) (b : FF),
 okAt s (List.length (tlS s)) x →
 brS (ngS s)
 (brS (decide (x > (9223372036854775808 : Int))) (Q (IV.tuple [IV.int IntKind.i64 (0 : Int), IV.bool false]) h)
 (brS (ngS s) (Q (IV.tuple [IV.int IntKind.i64 (IntKind.wrap IntKind.i64 (IntKind.wrap IntKind.u64 ((0 : Int) - x))), IV.bool true]) h) (Q (IV.tuple [IV.int IntKind.i64 (IntKind.wrap IntKind.i64 x), IV.bool true]) h)))
 (brS (decide (x > (9223372036854775807 : Int))) (Q (IV.tuple [IV.int IntKind.i64 (0 : Int), IV.bool false]) h)
 (brS (ngS s) (Q (IV.tuple [IV.int IntKind.i64 (IntKind.wrap IntKind.i64 (IntKind.wrap IntKind.u64 ((0 : Int) - x))), IV.bool true]) h) (Q (IV.tuple [IV.int IntKind.i64 (IntKind.wrap IntKind.i64 x), IV.bool true]) h)))) ∧
 True) := by kernel_rfl
set_option maxHeartbeats 2000000 in
theorem sWParse : ∀ xs h Q, kWParse xs h Q → CallW env 43 xs h Q := by
  intro xs h Q hk
  unfold kWParse at hk
  split at hk
  · rename_i s
    refine dF_run (okOpw) (vWParse s h Q) ?_
    have fls : (∀ n : Int, (-9223372036854775808 ≤ n ∧ n ≤ 9223372036854775807) → s = txt n → False) → Q (IV.tuple [IV.int IntKind.i64 0, IV.bool false]) h := fun hn => hk 0 false (by omega) fun n h e => (hn n h e).elim
    refine ⟨?_, fun _ _ _ => ?_, fun _ _ _ => ?_, fun _ _ h19 => ⟨⟨(0, 0), (by first | rfl | trivial), (by first | rfl | trivial), (by first | rfl | trivial), (by first | rfl | trivial), (by first | rfl | trivial), ⟨⟨Nat.zero_le _, h19⟩, okAt_zero s⟩, trivial⟩, fun x _ hx => ?_⟩, fun a _ ha => ?_, trivial⟩
    · refine brS_intro (fun c => ?_) (fun c => ?_)
      · rw [decide_eq_true_eq] at c
        refine chr_at (i := 0) (by omega) ⟨(by first | rfl | trivial), ?_, (by first | rfl | trivial), trivial, trivial⟩
        rw [ng_at]
      · rw [decide_eq_false_iff_not] at c
        have e : s = [] := List.eq_nil_of_length_eq_zero (by omega)
        subst e
        exact ⟨(by first | rfl | trivial), (by first | rfl | trivial), (by first | rfl | trivial), trivial, trivial⟩
    · refine brS_intro (fun c => ?_) (fun c => ?_)
      · have hp : 0 < s.length := by
          cases s with
          | nil => simp [ngS] at c
          | cons b r => simp
        refine needS_intro (by simp; omega) ⟨?_, (by first | rfl | trivial), (by first | rfl | trivial), trivial, trivial⟩
        unfold tlS
        rw [c, if_pos rfl, List.take_of_length_le (by simp)]
      · refine ⟨?_, (by first | rfl | trivial), (by first | rfl | trivial), trivial, trivial⟩
        unfold tlS
        rw [c]
        rfl
    · refine brS_intro (fun c => fls fun n hn e => ?_) (fun c => brS_intro (fun c1 => fls fun n hn e => ?_) (fun c1 => ?_))
      · rw [decide_eq_true_eq] at c
        have := tl_ne e
        omega
      · rw [decide_eq_true_eq] at c1
        have := tl_19 hn e
        omega
      · rw [decide_eq_false_iff_not] at c c1
        have h19 : (tlS s).length ≤ 19 := by omega
        refine chr_at (i := 0) (by omega) (brS_intro (fun c2 => brS_intro (fun c3 => fls fun n hn e => ?_) (fun c3 => brS_intro (fun c4 => fls fun n hn e => ?_) (fun c4 => ⟨(by first | rfl | trivial), (by first | rfl | trivial), (by first | rfl | trivial), h19, trivial⟩))) (fun c2 => ⟨(by first | rfl | trivial), (by first | rfl | trivial), (by first | rfl | trivial), h19, trivial⟩))
        · rw [beq_iff_eq] at c2
          rw [decide_eq_true_eq] at c3
          have hz := tl_48 e (by omega) (by omega)
          subst hz
          rw [e, (txt_ng 0).2, digN_lt (by decide)] at c3
          simp at c3
        · rw [beq_iff_eq] at c2
          have hz := tl_48 e (by omega) (by omega)
          subst hz
          rw [e, (txt_ng 0).1] at c4
          simp at c4
    · obtain ⟨i, a⟩ := x
      obtain ⟨⟨hi, h19⟩, ha⟩ := hx
      simp only at hi ha ⊢
      rw [Int.toNat_natCast]
      refine brS_intro (fun c => ?_) (fun c => ?_)
      · rw [decide_eq_true_eq] at c
        have hlt : i < (tlS s).length := by omega
        refine chr_at hlt (brS_intro (fun c1 => fls fun n hn e => ?_) (fun c1 => chr_at hlt (brS_intro (fun c2 => fls fun n hn e => ?_) (fun c2 => chr_at hlt ⟨(i + 1, _), (by first | rfl | trivial), (by first | rfl | trivial), (by first | rfl | trivial), by rw [IntWalk.i64_in _ (by omega)]; rfl, (by first | rfl | trivial), ⟨⟨hlt, h19⟩, okAt_step ha hlt (Int.mul_comm _ _) (by simpa using c1) (by simpa using c2)⟩, by simp only; omega⟩))))
        · have := tl_dig e hlt
          rw [decide_eq_true_eq] at c1
          omega
        · have := tl_dig e hlt
          rw [decide_eq_true_eq] at c2
          omega
      · rw [decide_eq_false_iff_not] at c
        have : i = (tlS s).length := by omega
        subst this
        exact ⟨a, (by first | rfl | trivial), (by first | rfl | trivial), (by first | rfl | trivial), ha, trivial⟩
    · have hv : ∀ n : Int, (-9223372036854775808 ≤ n ∧ n ≤ 9223372036854775807) → s = txt n → a = n.natAbs ∧ ngS s = decide (n < 0) := fun n hn e => by
        have := ha.2 n hn e
        rw [List.take_length] at this
        rw [this, e, (txt_ng n).2, val_digN]
        exact ⟨rfl, (txt_ng n).1⟩
      have hr := ha.1
      refine brS_intro (fun c => ?_) (fun c => ?_)
      · rw [c, brS_t]
        refine brS_intro (fun c1 => fls fun n hn e => ?_) (fun c1 => hk _ _ (by have := i64_rng (IntKind.u64.wrap (0 - a)); omega) fun n hn e => ?_)
        · rw [decide_eq_true_eq] at c1
          obtain ⟨h1, h2⟩ := hv n hn e
          omega
        · obtain ⟨h1, h2⟩ := hv n hn e
          rw [c] at h2
          have hn0 : n < 0 := by simpa using h2.symm
          refine ⟨?_, rfl⟩
          rw [neg_w (by omega)]
          omega
      · rw [c, brS_f]
        refine brS_intro (fun c1 => fls fun n hn e => ?_) (fun c1 => hk _ _ (by have := i64_rng a; omega) fun n hn e => ?_)
        · rw [decide_eq_true_eq] at c1
          obtain ⟨h1, h2⟩ := hv n hn e
          rw [c] at h2
          have hn0 : ¬ n < 0 := by simpa using h2.symm
          omega
        · obtain ⟨h1, h2⟩ := hv n hn e
          rw [c] at h2
          have hn0 : ¬ n < 0 := by simpa using h2.symm
          refine ⟨?_, rfl⟩
          rw [IntWalk.i64_in _ (by omega)]
          omega
  · exact hk.elim
def cWParse := addC 43 kWParse cOpw
theorem okWParse : Sound env cWParse := sound_add sWParse (okOpw)

def kIRng (xs : List IV) (h : Heap) (K : IV → Heap → Prop) : Prop := match xs with
  | [.int .i64 op] => K (.tuple [.int .i64 (irL op), .int .i64 (irH op)]) h
  | _ => False
set_option maxRecDepth 100000 in
theorem vIRng (op : Int) (h : Heap) (Q : IV → Heap → Prop) : dF (stdS cWParse) env 45 noU noI noI [.int .i64 op] h Q = (
  brS (op == (27 : Int)) (Q (IV.tuple [IV.int IntKind.i64 (1 : Int), IV.int IntKind.i64 (1000016 : Int)]) h)
 (brS (op == (30 : Int)) (Q (IV.tuple [IV.int IntKind.i64 (0 : Int), IV.int IntKind.i64 (7 : Int)]) h)
 (brS (op == (31 : Int)) (Q (IV.tuple [IV.int IntKind.i64 (0 : Int), IV.int IntKind.i64 (15 : Int)]) h)
 (brS (op == (25 : Int)) (Q (IV.tuple [IV.int IntKind.i64 (0 : Int), IV.int IntKind.i64 (15 : Int)]) h) (Q (IV.tuple [IV.int IntKind.i64 (0 : Int), IV.int IntKind.i64 (3 : Int)]) h))))) := by kernel_rfl
theorem sIRng : ∀ xs h Q, kIRng xs h Q → CallW env 45 xs h Q := by
  intro xs h Q hk
  unfold kIRng at hk
  split at hk
  · rename_i op
    refine dF_run (okWParse) (vIRng op h Q) ?_
    repeat' (first | refine needS_intro ?_ ?_ | refine brS_intro (fun _ => ?_) (fun _ => ?_) | refine And.intro ?_ ?_)
    all_goals first | assumption | omega | (refine q_eq hk ?_; simp only [IV.agg.injEq, IV.tuple.injEq, IV.int.injEq, IV.bool.injEq, List.cons.injEq, true_and, and_true]; grind [irL, irH])
  · exact hk.elim
def cIRng := addC 45 kIRng cWParse
theorem okIRng : Sound env cIRng := sound_add sIRng (okWParse)

def kPNum (xs : List IV) (h : Heap) (K : IV → Heap → Prop) : Prop := match xs with
  | [.str s, .int .i64 lo, .int .i64 hi] => ∃ n : Int, s = txt n ∧ i64b n ∧ lo ≤ n ∧ n ≤ hi ∧ K (.tuple [.int .i64 n, .bool true]) h
  | _ => False
set_option maxRecDepth 100000 in
theorem vPNum (s : List UInt8) (lo hi : Int) (h : Heap) (Q : IV → Heap → Prop) : dF (stdS cIRng) env 41 noU noI noI [.str s, .int .i64 lo, .int .i64 hi] h Q = (
  ∀ (v : Int) (b : Bool),
 (-9223372036854775808 : Int) ≤ v ∧ v ≤ (9223372036854775807 : Int) →
 (∀ (n : Int), (-9223372036854775808 : Int) ≤ n ∧ n ≤ (9223372036854775807 : Int) → s = txt n → v = n ∧ b = true) →
 brS b (brS (decide (v ≥ lo)) (Q (IV.tuple [IV.int IntKind.i64 v, IV.bool (decide (v ≤ hi))]) h) (Q (IV.tuple [IV.int IntKind.i64 v, IV.bool false]) h)) (Q (IV.tuple [IV.int IntKind.i64 v, IV.bool false]) h)) := by kernel_rfl
theorem sPNum : ∀ xs h Q, kPNum xs h Q → CallW env 41 xs h Q := by
  intro xs h Q hk
  unfold kPNum at hk
  split at hk
  · rename_i s lo hi
    obtain ⟨n, hs, hn, hlo, hhi, hk⟩ := hk
    refine dF_run (okIRng) (vPNum s lo hi h Q) ?_
    intro v b hv h2
    obtain ⟨rfl, rfl⟩ := h2 n hn hs
    refine brS_intro (fun _ => brS_intro (fun _ => ?_) (fun c => ?_)) (fun c => by cases c)
    · rw [decide_eq_true hhi]
      exact hk
    · rw [decide_eq_false_iff_not] at c
      omega
  · exact hk.elim
def cPNum := addC 41 kPNum cIRng
theorem okPNum : Sound env cPNum := sound_add sPNum (okIRng)

def cdInv (s : List UInt8) : Inv' := atX Nat (fun i => [(0, .v (.str s)), (5, .v (.int .i64 i))]) (fun _ => []) (fun _ => Heap.empty) (fun i => i ≤ s.length ∧ ∀ j, j < i → ∀ c, s[j]? = some c → c ≠ 46) (fun i => s.length - i)
def kCutD (xs : List IV) (h : Heap) (K : IV → Heap → Prop) : Prop := match xs with
  | [.str s] => ∃ (a b : List UInt8) (d : Bool), (∀ c ∈ a, c ≠ 46) ∧ s = a ++ (if d = true then 46 :: b else []) ∧ (d = false → b = []) ∧ s.length ≤ 1000000 ∧ K (.tuple [.str a, .str b, .bool d]) h
  | _ => False
set_option maxRecDepth 100000 in
theorem vCutD (s : List UInt8) (h : Heap) (Q : IV → Heap → Prop) : dF (stdS cPNum) env 42 noU (ic1 3 (cdInv s)) noI [.str s] h Q = (
  (∃ (x : Nat),
 some (TV.v (IV.str s)) = some (TV.v (IV.str s)) ∧
 some (TV.v (IV.int IntKind.i64 (0 : Int))) = some (TV.v (IV.int IntKind.i64 (↑x : Int))) ∧
 Heap.mk PT.nil (0 : Nat) = Heap.mk PT.nil (0 : Nat) ∧ (x ≤ List.length s ∧ ∀ (j : Nat), j < x → ∀ (c : UInt8), s[j]? = some c → c ≠ (46 : UInt8)) ∧ True) ∧
 ∀ (x : Nat) (b : FF),
 (x ≤ List.length s ∧ ∀ (j : Nat), j < x → ∀ (c : UInt8), s[j]? = some c → c ≠ (46 : UInt8)) →
 brS (decide ((↑x : Int) < (↑(List.length s) : Int)))
 (chrS s (Int.toNat (↑x : Int)) fun (c0 : Int) =>
 brS (c0 == (46 : Int))
 (needS (true && (decide ((0 : Int) ≤ (↑x : Int)) && decide ((↑x : Int) ≤ (↑(List.length s) : Int))))
 (needS
 (decide ((0 : Int) ≤ IntKind.wrap IntKind.i64 ((↑x : Int) + (1 : Int))) &&
 (decide (IntKind.wrap IntKind.i64 ((↑x : Int) + (1 : Int)) ≤ (↑(List.length s) : Int)) && decide ((↑(List.length s) : Int) ≤ (↑(List.length s) : Int))))
 (Q
 (IV.tuple
 [IV.str (List.take (Int.toNat (↑x : Int) - (0 : Nat)) s),
 IV.str (List.take (Int.toNat (↑(List.length s) : Int) - Int.toNat (IntKind.wrap IntKind.i64 ((↑x : Int) + (1 : Int)))) (List.drop (Int.toNat (IntKind.wrap IntKind.i64 ((↑x : Int) + (1 : Int)))) s)), IV.bool true])
 h)))
 (∃ (x_1 : Nat),
 some (TV.v (IV.str s)) = some (TV.v (IV.str s)) ∧
 some (TV.v (IV.int IntKind.i64 (IntKind.wrap IntKind.i64 ((↑x : Int) + (1 : Int))))) = some (TV.v (IV.int IntKind.i64 (↑x_1 : Int))) ∧
 Heap.mk PT.nil (0 : Nat) = Heap.mk PT.nil (0 : Nat) ∧ (x_1 ≤ List.length s ∧ ∀ (j : Nat), j < x_1 → ∀ (c : UInt8), s[j]? = some c → c ≠ (46 : UInt8)) ∧ List.length s - x_1 < List.length s - x))
 (Q (IV.tuple [IV.str s, IV.str [], IV.bool false]) h)) := by kernel_rfl
theorem sCutD : ∀ xs h Q, kCutD xs h Q → CallW env 42 xs h Q := by
  intro xs h Q hk
  unfold kCutD at hk
  split at hk
  · rename_i s
    obtain ⟨a, b, d, ha, hs, hb, hl, hk⟩ := hk
    refine dF_run (okPNum) (vCutD s h Q) ?_
    have tn : ∀ x : Nat, (x : Int).toNat = x := Int.toNat_natCast
    refine ⟨⟨0, (by first | rfl | exact True.intro), (by first | rfl | exact True.intro), (by first | rfl | exact True.intro), ⟨Nat.zero_le _, fun j hj => by omega⟩, trivial⟩, ?_⟩
    rintro i _ ⟨hi, hn⟩
    try dsimp only at hi hn ⊢
    refine brS_intro (fun c => ?_) (fun c => ?_)
    · rw [decide_eq_true_eq] at c
      have hlt : i < s.length := by omega
      have hw : IntKind.i64.wrap ((i : Int) + 1) = (i : Int) + 1 := IntWalk.i64_in _ (by omega)
      rw [hw, tn]
      refine chr_at hlt (brS_intro (fun c1 => ?_) (fun c1 => ⟨i + 1, (by first | rfl | exact True.intro), (by first | rfl | exact True.intro), (by first | rfl | exact True.intro), ⟨hlt, fun j hj q hq => ?_⟩, by (try dsimp only); omega⟩))
      · have c2 : s[i] = 46 := by
          have := u8_eq (b := s[i]) (k := 46)
          rw [show ((46 : UInt8).toNat : Int) = 46 from rfl, c1] at this
          exact of_decide_eq_true this.symm
        obtain ⟨rfl, rfl⟩ := cut_found ha hs hlt c2 hn
        refine needS_intro (by simp; omega) (needS_intro (by simp; omega) ?_)
        have e1 : s.take (a.length - 0) = a := by rw [hs]; simp
        have e2 : (s.drop ((a.length : Int) + 1).toNat).take ((s.length : Int).toNat - ((a.length : Int) + 1).toNat) = b := by
          have : ((a.length : Int) + 1).toNat = a.length + 1 := by omega
          rw [this, tn, hs]
          simp
          rw [show a.length + (b.length + 1) - (a.length + 1) = b.length by omega, List.take_length]
        rw [e1, e2]
        exact hk
      · rcases Nat.lt_or_ge j i with p | p
        · exact hn j p q hq
        · obtain rfl : j = i := by omega
          have := u8_eq (b := s[j]) (k := 46)
          rw [show ((46 : UInt8).toNat : Int) = 46 from rfl, c1] at this
          rw [List.getElem?_eq_getElem hlt, Option.some.injEq] at hq
          rw [← hq]
          exact of_decide_eq_false this.symm
    · rw [decide_eq_false_iff_not] at c
      have hd := cut_none hs (fun j hj => hn j (by omega))
      subst hd
      rw [hb rfl] at hk
      simp at hs
      rw [hs]
      exact hk
  · exact hk.elim
def cCutD := addC 42 kCutD cPNum
theorem okCutD : Sound env cCutD := sound_add sCutD (okPNum)

def kLeaf (xs : List IV) (h : Heap) (K : IV → Heap → Prop) : Prop := match xs with
  | [.str s] => ∃ op im : Int, LfOk op im ∧ s = lfT op im ∧ K (.tuple [.int .i64 op, .int .i64 im, .bool true]) h
  | _ => False
set_option maxRecDepth 100000 in
theorem vLeaf (s : List UInt8) (h : Heap) (Q : IV → Heap → Prop) : dF (stdS cCutD) env 35 noU noI noI [.str s] h Q = (
  brS (s == []) (Q (IV.tuple [IV.int IntKind.i64 (0 : Int), IV.int IntKind.i64 (0 : Int), IV.bool false]) h)
 (brS (s == [(115 : UInt8), (116 : UInt8), (97 : UInt8), (114 : UInt8), (116 : UInt8)]) (Q (IV.tuple [IV.int IntKind.i64 (26 : Int), IV.int IntKind.i64 (0 : Int), IV.bool true]) h)
 (chrS s (0 : Nat) fun (c0 : Int) =>
 brS (c0 == (112 : Int))
 (needS (true && (decide ((1 : Int) ≤ (↑(List.length s) : Int)) && decide ((↑(List.length s) : Int) ≤ (↑(List.length s) : Int))))
 (∃ (n : Int),
 List.take (Int.toNat (↑(List.length s) : Int) - (1 : Nat)) (List.drop (1 : Nat) s) = txt n ∧ i64b n ∧ (0 : Int) ≤ n ∧ n ≤ (5 : Int) ∧ Q (IV.tuple [IV.int IntKind.i64 (2 : Int), IV.int IntKind.i64 n, IV.bool true]) h))
 (chrS s (0 : Nat) fun (c1 : Int) =>
 brS (c1 == (118 : Int))
 (needS (true && (decide ((1 : Int) ≤ (↑(List.length s) : Int)) && decide ((↑(List.length s) : Int) ≤ (↑(List.length s) : Int))))
 (∃ (a : List UInt8),
 ∃ (b : List UInt8),
 ∃ (d : Bool),
 (∀ (c : UInt8), c ∈ a → c ≠ (46 : UInt8)) ∧
 (List.take (Int.toNat (↑(List.length s) : Int) - (1 : Nat)) (List.drop (1 : Nat) s) = a ++ if d = true then (46 : UInt8) :: b else []) ∧
 (d = false → b = []) ∧
 List.length (List.take (Int.toNat (↑(List.length s) : Int) - (1 : Nat)) (List.drop (1 : Nat) s)) ≤ (1000000 : Nat) ∧
 ∃ (n : Int),
 a = txt n ∧
 i64b n ∧
 (0 : Int) ≤ n ∧
 n ≤ (15 : Int) ∧
 ∃ (n_1 : Int),
 b = txt n_1 ∧
 i64b n_1 ∧
 (0 : Int) ≤ n_1 ∧
 n_1 ≤ (15 : Int) ∧
 brS d (Q (IV.tuple [IV.int IntKind.i64 (3 : Int), IV.int IntKind.i64 (IntKind.wrap IntKind.i64 (IntKind.wrap IntKind.i64 ((16 : Int) * n) + n_1)), IV.bool true]) h)
 (Q (IV.tuple [IV.int IntKind.i64 (3 : Int), IV.int IntKind.i64 (IntKind.wrap IntKind.i64 (IntKind.wrap IntKind.i64 ((16 : Int) * n) + n_1)), IV.bool false]) h)))
 (∀ (v : Int) (b : Bool),
 (-9223372036854775808 : Int) ≤ v ∧ v ≤ (9223372036854775807 : Int) →
 (∀ (n : Int), (-9223372036854775808 : Int) ≤ n ∧ n ≤ (9223372036854775807 : Int) → s = txt n → v = n ∧ b = true) → Q (IV.tuple [IV.int IntKind.i64 (1 : Int), IV.int IntKind.i64 v, IV.bool b]) h))))) := by kernel_rfl
theorem sLeaf : ∀ xs h Q, kLeaf xs h Q → CallW env 35 xs h Q := by
  intro xs h Q hk
  unfold kLeaf at hk
  split at hk
  · rename_i s
    obtain ⟨op, im, hl, hs, hk⟩ := hk
    refine dF_run (okCutD) (vLeaf s h Q) ?_
    have hq : ∀ {a b : List UInt8}, (a == b) = true → a = b := fun h => beq_iff_eq.1 h
    have k112 : ∀ b : UInt8, ((b.toNat : Int) == 112) = decide (b = 112) := fun b => u8_eq (b := b) (k := 112)
    have k118 : ∀ b : UInt8, ((b.toNat : Int) == 118) = decide (b = 118) := fun b => u8_eq (b := b) (k := 118)
    have hl0 := hl
    obtain ⟨h1, h3, him, hv⟩ := hl
    rcases lf_cases h1 with rfl | rfl | rfl | rfl
    · obtain ⟨c, r, e, ht⟩ := txt_cons im
      have hwd := isT_wd ht
      have hs2 : s = txt im := hs
      have hs : s = c :: r := hs2.trans e
      refine brS_intro (fun q => ?_) (fun _ => brS_intro (fun q => ?_) (fun _ => chr_at (by rw [hs]; simp) (brS_intro (fun q => ?_) (fun _ => chr_at (by rw [hs]; simp) (brS_intro (fun q => ?_) (fun _ => ?_))))))
      · have := hq q
        rw [hs] at this
        cases this
      · have := hq q
        rw [hs, List.cons.injEq] at this
        exact absurd this.1 hwd.2.2.2.2
      · rw [k112, decide_eq_true_eq] at q
        have : s[0]'(by rw [hs]; simp) = c := by simp [hs]
        rw [this] at q
        exact absurd q hwd.2.2.1
      · rw [k118, decide_eq_true_eq] at q
        have : s[0]'(by rw [hs]; simp) = c := by simp [hs]
        rw [this] at q
        exact absurd q hwd.2.2.2.1
      · intro v b _ h2
        obtain ⟨rfl, rfl⟩ := h2 im him hs2
        exact hk
    · have hs : s = 112 :: txt im := hs
      have hp := hl0.p
      refine brS_intro (fun q => ?_) (fun _ => brS_intro (fun q => ?_) (fun _ => chr_at (by rw [hs]; simp) (brS_intro (fun _ => ?_) (fun q => ?_))))
      · have := hq q
        rw [hs] at this
        cases this
      · have := hq q
        rw [hs, List.cons.injEq] at this
        exact absurd this.1 (by decide)
      · refine needS_intro (by rw [hs]; simp; omega) ⟨im, ?_, him, hp.1, hp.2, hk⟩
        rw [hs]
        simp
      · rw [k112, decide_eq_false_iff_not] at q
        exact absurd (by simp [hs]) q
    · exact absurd rfl h3
    · have hs : s = [115, 116, 97, 114, 116] := hs
      have hz : im = 0 := vImm0 hv (by decide) (by decide)
      subst hz
      refine brS_intro (fun q => ?_) (fun _ => brS_intro (fun _ => hk) (fun q => ?_))
      · have := hq q
        rw [hs] at this
        cases this
      · rw [hs] at q
        exact absurd q (by decide)
  · exact hk.elim
def cLeaf := addC 35 kLeaf cCutD
theorem okLeaf : Sound env cLeaf := sound_add sLeaf (okCutD)

def kOper (xs : List IV) (h : Heap) (K : IV → Heap → Prop) : Prop := match xs with
  | [.str s] => ∃ op im : Int, OpOk op im ∧ s = hdT op im ∧ K (.tuple [.int .i64 op, .int .i64 im, .bool true]) h
  | _ => False
set_option maxRecDepth 100000 in
theorem vOper (s : List UInt8) (h : Heap) (Q : IV → Heap → Prop) : dF (stdS cLeaf) env 37 noU noI noI [.str s] h Q = (
  ∃ (a : List UInt8),
 ∃ (b : List UInt8),
 ∃ (d : Bool),
 (∀ (c : UInt8), c ∈ a → c ≠ (46 : UInt8)) ∧
 (s = a ++ if d = true then (46 : UInt8) :: b else []) ∧
 (d = false → b = []) ∧
 List.length s ≤ (1000000 : Nat) ∧
 ∃ (a_1 : Int),
 ((1 : Int) ≤ a_1 ∧ a_1 ≤ (31 : Int)) ∧
 a = tnm a_1 ∧
 brS (!tok a_1) (Q (IV.tuple [IV.int IntKind.i64 (0 : Int), IV.int IntKind.i64 (0 : Int), IV.bool false]) h)
 (brS (tno a_1 == (26 : Int)) (Q (IV.tuple [IV.int IntKind.i64 (0 : Int), IV.int IntKind.i64 (0 : Int), IV.bool false]) h)
 (brS (!d == hImm (tno a_1)) (Q (IV.tuple [IV.int IntKind.i64 (0 : Int), IV.int IntKind.i64 (0 : Int), IV.bool false]) h)
 (brS (!d) (Q (IV.tuple [IV.int IntKind.i64 (tno a_1), IV.int IntKind.i64 (0 : Int), IV.bool true]) h)
 (∃ (n : Int), b = txt n ∧ i64b n ∧ irL (tno a_1) ≤ n ∧ n ≤ irH (tno a_1) ∧ Q (IV.tuple [IV.int IntKind.i64 (tno a_1), IV.int IntKind.i64 n, IV.bool true]) h))))) := by kernel_rfl
theorem sOper : ∀ xs h Q, kOper xs h Q → CallW env 37 xs h Q := by
  intro xs h Q hk
  unfold kOper at hk
  split at hk
  · rename_i s
    obtain ⟨op, im, hl, hs, hk⟩ := hk
    refine dF_run (okLeaf) (vOper s h Q) ?_
    have hl0 := hl
    obtain ⟨h1, h26, him, hv⟩ := hl
    have ho := tok_iff.1 h1
    have hno : tno op = op := if_pos ho
    have hwd := tnm_wd op
    have hnl := tnm_len op
    have htl := txt_len him
    refine ⟨tnm op, if hImm op = true then txt im else [], hImm op, fun c hc => (hwd c hc).2, ?_, fun q => by rw [q]; rfl, ?_, op, by omega, rfl, ?_⟩
    · rw [hs]
      unfold hdT
      by_cases q : hImm op = true
      · rw [if_pos q, if_pos q, if_pos q]
      · rw [if_neg q, if_neg q]
    · rw [hs]
      unfold hdT
      rw [List.length_append]
      split
      · rw [List.length_cons]; omega
      · simp; omega
    · rw [h1, hno]
      refine brS_intro (fun q => by cases q) (fun _ => brS_intro (fun q => absurd (beq_iff_eq.1 q) h26) (fun _ => brS_intro (fun q => ?_) (fun _ => brS_intro (fun q => ?_) (fun q => ?_))))
      · simp at q
      · rw [Bool.not_eq_true'] at q
        rw [hl0.no q] at hk
        exact hk
      · rw [Bool.not_eq_false'] at q
        have hr := hl0.rng q
        exact ⟨im, by rw [if_pos q], him, hr.1, hr.2, hk⟩
  · exact hk.elim
def cOper := addC 37 kOper cLeaf
theorem okOper : Sound env cOper := sound_add sOper (okLeaf)

end Go.Proofs.Ythoehkkoaegeoaa
