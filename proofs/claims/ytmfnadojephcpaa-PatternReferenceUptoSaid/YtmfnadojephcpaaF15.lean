/-
  Patterns: keys of nodes.
  Conditions: none.
-/
import Derived.Test.YtmfnadojephcpaaC15
import Derived.Test.YtmfnadojephcpaaU15
import Derived.KernelRfl
set_option linter.unusedVariables false
set_option linter.unusedSimpArgs false
namespace Go.Proofs.Ytmfnadojephcpaa
open Go.Pv Go.M15
def kAppUN (xs : List IV) (h : Heap) (K : IV → Heap → Prop) : Prop := match xs with
  | [.nilslice, .int .u64 n] => ∀ (i : Nat) (h2 : Heap), h2.get i = .tip 8 → K (.vslice (some i) 8 8 1 (((b8 n).map (IV.int .u8)))) h2
  | _ => False
set_option maxRecDepth 100000 in
theorem vAppUN (n : Int) (h : Heap) (Q : IV → Heap → Prop) : dF (stdS cRValid) env 49 (fun k => if k = 3 then 9 else 0) noI noI [.nilslice, .int .u64 n] h Q = (
  tipS (Heap.push h (IObj.tip (1 : Nat))) (Heap.next h) fun (m0 : Nat) =>
 needS (Nat.beq m0 (1 : Nat) && true)
 (tipS (Heap.set (Heap.push h (IObj.tip (1 : Nat))) (Heap.next h) (IObj.tip (2 : Nat))) (Heap.next h) fun (m1 : Nat) =>
 needS (Nat.beq m1 (2 : Nat) && true)
 (tipS (Heap.set (Heap.set (Heap.push h (IObj.tip (1 : Nat))) (Heap.next h) (IObj.tip (2 : Nat))) (Heap.next h) (IObj.tip (3 : Nat))) (Heap.next h) fun (m2 : Nat) =>
 needS (Nat.beq m2 (3 : Nat) && true)
 (tipS (Heap.set (Heap.set (Heap.set (Heap.push h (IObj.tip (1 : Nat))) (Heap.next h) (IObj.tip (2 : Nat))) (Heap.next h) (IObj.tip (3 : Nat))) (Heap.next h) (IObj.tip (4 : Nat))) (Heap.next h) fun (m3 : Nat) =>
 needS (Nat.beq m3 (4 : Nat) && true)
 (tipS (Heap.set (Heap.set (Heap.set (Heap.set (Heap.push h (IObj.tip (1 : Nat))) (Heap.next h) (IObj.tip (2 : Nat))) (Heap.next h) (IObj.tip (3 : Nat))) (Heap.next h) (IObj.tip (4 : Nat))) (Heap.next h) (IObj.tip (5 : Nat)))
 (Heap.next h) fun (m4 : Nat) =>
 needS (Nat.beq m4 (5 : Nat) && true)
 (tipS
 (Heap.set
 (Heap.set (Heap.set (Heap.set (Heap.set (Heap.push h (IObj.tip (1 : Nat))) (Heap.next h) (IObj.tip (2 : Nat))) (Heap.next h) (IObj.tip (3 : Nat))) (Heap.next h) (IObj.tip (4 : Nat))) (Heap.next h)
 (IObj.tip (5 : Nat)))
 (Heap.next h) (IObj.tip (6 : Nat)))
 (Heap.next h) fun (m5 : Nat) =>
 needS (Nat.beq m5 (6 : Nat) && true)
 (tipS
 (Heap.set
 (Heap.set
 (Heap.set (Heap.set (Heap.set (Heap.set (Heap.push h (IObj.tip (1 : Nat))) (Heap.next h) (IObj.tip (2 : Nat))) (Heap.next h) (IObj.tip (3 : Nat))) (Heap.next h) (IObj.tip (4 : Nat))) (Heap.next h)
 (IObj.tip (5 : Nat)))
 (Heap.next h) (IObj.tip (6 : Nat)))
 (Heap.next h) (IObj.tip (7 : Nat)))
 (Heap.next h) fun (m6 : Nat) =>
 needS (Nat.beq m6 (7 : Nat) && true)
 (Q
 (IV.vslice (some (Heap.next h)) (8 : Nat) (8 : Nat) (1 : Nat)
 [IV.int IntKind.u8 (IntKind.wrap IntKind.u8 (Int.fdiv n (1 : Int))), IV.int IntKind.u8 (IntKind.wrap IntKind.u8 (Int.fdiv n (256 : Int))),
 IV.int IntKind.u8 (IntKind.wrap IntKind.u8 (Int.fdiv n (65536 : Int))), IV.int IntKind.u8 (IntKind.wrap IntKind.u8 (Int.fdiv n (16777216 : Int))),
 IV.int IntKind.u8 (IntKind.wrap IntKind.u8 (Int.fdiv n (4294967296 : Int))), IV.int IntKind.u8 (IntKind.wrap IntKind.u8 (Int.fdiv n (1099511627776 : Int))),
 IV.int IntKind.u8 (IntKind.wrap IntKind.u8 (Int.fdiv n (281474976710656 : Int))), IV.int IntKind.u8 (IntKind.wrap IntKind.u8 (Int.fdiv n (72057594037927936 : Int)))])
 (Heap.set
 (Heap.set
 (Heap.set
 (Heap.set (Heap.set (Heap.set (Heap.set (Heap.push h (IObj.tip (1 : Nat))) (Heap.next h) (IObj.tip (2 : Nat))) (Heap.next h) (IObj.tip (3 : Nat))) (Heap.next h) (IObj.tip (4 : Nat))) (Heap.next h)
 (IObj.tip (5 : Nat)))
 (Heap.next h) (IObj.tip (6 : Nat)))
 (Heap.next h) (IObj.tip (7 : Nat)))
 (Heap.next h) (IObj.tip (8 : Nat))))))))))) := by kernel_rfl
theorem sAppUN : ∀ xs h Q, kAppUN xs h Q → CallW env 49 xs h Q := by
  intro xs h Q hk
  unfold kAppUN at hk
  split at hk
  · rename_i n
    refine dF_run (okRValid) (vAppUN n h Q) ?_
    repeat (first
      | refine tip_intro get_push_eq (needS_intro rfl ?_)
      | refine tip_intro get_set_eq (needS_intro rfl ?_))
    exact hk _ _ get_set_eq
  · exact hk.elim
def cAppUN := addC 49 kAppUN cRValid
theorem okAppUN : Sound env cAppUN := sound_add sAppUN (okRValid)

def kAppUV (xs : List IV) (h : Heap) (K : IV → Heap → Prop) : Prop := match xs with
  | [.vslice (some id) e len 1 cs, .int .u64 n] => h.get id = .tip e ∧ len ≤ 100000000000 ∧ ∀ h2 : Heap, h2.get id = .tip (e + 8) → K (.vslice (some id) (e + 8) (len + 8) 1 (cs ++ ((b8 n).map (IV.int .u8)))) h2
  | _ => False
set_option maxRecDepth 100000 in
theorem vAppUV (id e len : Nat) (cs : List IV) (n : Int) (h : Heap) (Q : IV → Heap → Prop) : dF (stdS cAppUN) env 49 (fun k => if k = 3 then 9 else 0) noI noI [.vslice (some id) e len 1 cs, .int .u64 n] h Q = (
  tipS h id fun (m0 : Nat) =>
 needS (Nat.beq m0 e && Nat.ble ((len + (1 : Nat)) * (1 : Nat)) (140737488355328 : Nat))
 (tipS (Heap.set h id (IObj.tip (e + (1 : Nat)))) id fun (m1 : Nat) =>
 needS (Nat.beq m1 (e + (1 : Nat)) && Nat.ble ((len + (1 : Nat) + (1 : Nat)) * (1 : Nat)) (140737488355328 : Nat))
 (tipS (Heap.set (Heap.set h id (IObj.tip (e + (1 : Nat)))) id (IObj.tip (e + (1 : Nat) + (1 : Nat)))) id fun (m2 : Nat) =>
 needS (Nat.beq m2 (e + (1 : Nat) + (1 : Nat)) && Nat.ble ((len + (1 : Nat) + (1 : Nat) + (1 : Nat)) * (1 : Nat)) (140737488355328 : Nat))
 (tipS (Heap.set (Heap.set (Heap.set h id (IObj.tip (e + (1 : Nat)))) id (IObj.tip (e + (1 : Nat) + (1 : Nat)))) id (IObj.tip (e + (1 : Nat) + (1 : Nat) + (1 : Nat)))) id fun (m3 : Nat) =>
 needS (Nat.beq m3 (e + (1 : Nat) + (1 : Nat) + (1 : Nat)) && Nat.ble ((len + (1 : Nat) + (1 : Nat) + (1 : Nat) + (1 : Nat)) * (1 : Nat)) (140737488355328 : Nat))
 (tipS
 (Heap.set (Heap.set (Heap.set (Heap.set h id (IObj.tip (e + (1 : Nat)))) id (IObj.tip (e + (1 : Nat) + (1 : Nat)))) id (IObj.tip (e + (1 : Nat) + (1 : Nat) + (1 : Nat)))) id
 (IObj.tip (e + (1 : Nat) + (1 : Nat) + (1 : Nat) + (1 : Nat))))
 id fun (m4 : Nat) =>
 needS (Nat.beq m4 (e + (1 : Nat) + (1 : Nat) + (1 : Nat) + (1 : Nat)) && Nat.ble ((len + (1 : Nat) + (1 : Nat) + (1 : Nat) + (1 : Nat) + (1 : Nat)) * (1 : Nat)) (140737488355328 : Nat))
 (tipS
 (Heap.set
 (Heap.set (Heap.set (Heap.set (Heap.set h id (IObj.tip (e + (1 : Nat)))) id (IObj.tip (e + (1 : Nat) + (1 : Nat)))) id (IObj.tip (e + (1 : Nat) + (1 : Nat) + (1 : Nat)))) id
 (IObj.tip (e + (1 : Nat) + (1 : Nat) + (1 : Nat) + (1 : Nat))))
 id (IObj.tip (e + (1 : Nat) + (1 : Nat) + (1 : Nat) + (1 : Nat) + (1 : Nat))))
 id fun (m5 : Nat) =>
 needS (Nat.beq m5 (e + (1 : Nat) + (1 : Nat) + (1 : Nat) + (1 : Nat) + (1 : Nat)) && Nat.ble ((len + (1 : Nat) + (1 : Nat) + (1 : Nat) + (1 : Nat) + (1 : Nat) + (1 : Nat)) * (1 : Nat)) (140737488355328 : Nat))
 (tipS
 (Heap.set
 (Heap.set
 (Heap.set (Heap.set (Heap.set (Heap.set h id (IObj.tip (e + (1 : Nat)))) id (IObj.tip (e + (1 : Nat) + (1 : Nat)))) id (IObj.tip (e + (1 : Nat) + (1 : Nat) + (1 : Nat)))) id
 (IObj.tip (e + (1 : Nat) + (1 : Nat) + (1 : Nat) + (1 : Nat))))
 id (IObj.tip (e + (1 : Nat) + (1 : Nat) + (1 : Nat) + (1 : Nat) + (1 : Nat))))
 id (IObj.tip (e + (1 : Nat) + (1 : Nat) + (1 : Nat) + (1 : Nat) + (1 : Nat) + (1 : Nat))))
 id fun (m6 : Nat) =>
 needS
 (Nat.beq m6 (e + (1 : Nat) + (1 : Nat) + (1 : Nat) + (1 : Nat) + (1 : Nat) + (1 : Nat)) &&
 Nat.ble ((len + (1 : Nat) + (1 : Nat) + (1 : Nat) + (1 : Nat) + (1 : Nat) + (1 : Nat) + (1 : Nat)) * (1 : Nat)) (140737488355328 : Nat))
 (tipS
 (Heap.set
 (Heap.set
 (Heap.set
 (Heap.set (Heap.set (Heap.set (Heap.set h id (IObj.tip (e + (1 : Nat)))) id (IObj.tip (e + (1 : Nat) + (1 : Nat)))) id (IObj.tip (e + (1 : Nat) + (1 : Nat) + (1 : Nat)))) id
 (IObj.tip (e + (1 : Nat) + (1 : Nat) + (1 : Nat) + (1 : Nat))))
 id (IObj.tip (e + (1 : Nat) + (1 : Nat) + (1 : Nat) + (1 : Nat) + (1 : Nat))))
 id (IObj.tip (e + (1 : Nat) + (1 : Nat) + (1 : Nat) + (1 : Nat) + (1 : Nat) + (1 : Nat))))
 id (IObj.tip (e + (1 : Nat) + (1 : Nat) + (1 : Nat) + (1 : Nat) + (1 : Nat) + (1 : Nat) + (1 : Nat))))
 id fun (m7 : Nat) =>
 needS
 (Nat.beq m7 (e + (1 : Nat) + (1 : Nat) + (1 : Nat) + (1 : Nat) + (1 : Nat) + (1 : Nat) + (1 : Nat)) &&
 Nat.ble ((len + (1 : Nat) + (1 : Nat) + (1 : Nat) + (1 : Nat) + (1 : Nat) + (1 : Nat) + (1 : Nat) + (1 : Nat)) * (1 : Nat)) (140737488355328 : Nat))
 (Q
 (IV.vslice (some id) (e + (1 : Nat) + (1 : Nat) + (1 : Nat) + (1 : Nat) + (1 : Nat) + (1 : Nat) + (1 : Nat) + (1 : Nat))
 (len + (1 : Nat) + (1 : Nat) + (1 : Nat) + (1 : Nat) + (1 : Nat) + (1 : Nat) + (1 : Nat) + (1 : Nat)) (1 : Nat)
 (cs ++ [IV.int IntKind.u8 (IntKind.wrap IntKind.u8 (Int.fdiv n (1 : Int)))] ++ [IV.int IntKind.u8 (IntKind.wrap IntKind.u8 (Int.fdiv n (256 : Int)))] ++
 [IV.int IntKind.u8 (IntKind.wrap IntKind.u8 (Int.fdiv n (65536 : Int)))] ++
 [IV.int IntKind.u8 (IntKind.wrap IntKind.u8 (Int.fdiv n (16777216 : Int)))] ++
 [IV.int IntKind.u8 (IntKind.wrap IntKind.u8 (Int.fdiv n (4294967296 : Int)))] ++
 [IV.int IntKind.u8 (IntKind.wrap IntKind.u8 (Int.fdiv n (1099511627776 : Int)))] ++
 [IV.int IntKind.u8 (IntKind.wrap IntKind.u8 (Int.fdiv n (281474976710656 : Int)))] ++
 [IV.int IntKind.u8 (IntKind.wrap IntKind.u8 (Int.fdiv n (72057594037927936 : Int)))]))
 (Heap.set
 (Heap.set
 (Heap.set
 (Heap.set
 (Heap.set (Heap.set (Heap.set (Heap.set h id (IObj.tip (e + (1 : Nat)))) id (IObj.tip (e + (1 : Nat) + (1 : Nat)))) id (IObj.tip (e + (1 : Nat) + (1 : Nat) + (1 : Nat)))) id
 (IObj.tip (e + (1 : Nat) + (1 : Nat) + (1 : Nat) + (1 : Nat))))
 id (IObj.tip (e + (1 : Nat) + (1 : Nat) + (1 : Nat) + (1 : Nat) + (1 : Nat))))
 id (IObj.tip (e + (1 : Nat) + (1 : Nat) + (1 : Nat) + (1 : Nat) + (1 : Nat) + (1 : Nat))))
 id (IObj.tip (e + (1 : Nat) + (1 : Nat) + (1 : Nat) + (1 : Nat) + (1 : Nat) + (1 : Nat) + (1 : Nat))))
 id (IObj.tip (e + (1 : Nat) + (1 : Nat) + (1 : Nat) + (1 : Nat) + (1 : Nat) + (1 : Nat) + (1 : Nat) + (1 : Nat))))))))))))) := by kernel_rfl
theorem sAppUV : ∀ xs h Q, kAppUV xs h Q → CallW env 49 xs h Q := by
  intro xs h Q hk
  unfold kAppUV at hk
  split at hk
  · rename_i id e len cs n
    refine dF_run (okAppUN) (vAppUV id e len cs n h Q) ?_
    obtain ⟨hg, hl, hk⟩ := hk
    refine tip_intro hg (needS_intro (by simp only [Nat.mul_one, Bool.and_eq_true, nbeq_t, Nat.ble_eq, true_and]; omega) ?_)
    repeat (refine tip_intro get_set_eq (needS_intro (by simp only [Nat.mul_one, Bool.and_eq_true, nbeq_t, Nat.ble_eq, true_and]; omega) ?_))
    refine q_eq (hk _ ?_) ?_
    · exact get_set_eq
    · simp [b8]
  · exact hk.elim
def cAppUV := addC 49 kAppUV cAppUN
theorem okAppUV : Sound env cAppUV := sound_add sAppUV (okAppUN)

def kAppU (xs : List IV) (h : Heap) (K : IV → Heap → Prop) : Prop := match xs with
  | [s, .int .u64 n] => match s with | .nilslice => kAppUN [.nilslice, .int .u64 n] h K | .vslice io e len z cs => kAppUV [.vslice io e len z cs, .int .u64 n] h K | _ => False
  | _ => False
theorem sAppU : ∀ xs h Q, kAppU xs h Q → CallW env 49 xs h Q := by
  intro xs h Q hk
  unfold kAppU at hk
  split at hk
  · rename_i s n
    split at hk
    · exact sAppUN _ _ _ hk
    · exact sAppUV _ _ _ hk
    · exact hk.elim
  · exact hk.elim
def cAppU := addC 49 kAppU cAppUV
theorem okAppU : Sound env cAppU := sound_add sAppU (okAppUV)

def keyInv (op im : Int) (ks : List Int) : Inv' := atX (Nat × Nat × Heap × List IV) (fun x => [(3, .v (.vslice (some x.2.1) (16 + 8 * x.1) (16 + 8 * x.1) 1 x.2.2.2)), (15, .v (.vslice none 0 ks.length 1 (ks.map (IV.int .i64)))), (16, .v (.int .i64 ks.length)), (17, .v (.int .i64 x.1))]) (fun _ => []) (fun x => x.2.2.1)
  (fun x => x.1 ≤ ks.length ∧ x.2.2.1.get x.2.1 = .tip (16 + 8 * x.1) ∧ isKey ⟨op, im, ks.take x.1⟩ x.2.2.2) (fun x => ks.length - x.1)
def kKey (xs : List IV) (h : Heap) (K : IV → Heap → Prop) : Prop := match xs with
  | [.agg [.int .i64 op, .int .i64 im, .vslice none e1 n1 1 c1]] => ∃ ks : List Int, (n1 = ks.length ∧ c1 = ks.map (IV.int .i64)) ∧ ks.length ≤ 1000000000 ∧ ∀ s : List UInt8, isKy ⟨op, im, ks⟩ s → K (.str s) h
  | _ => False
set_option maxRecDepth 100000 in
theorem vKey (op im : Int) (ks : List Int) (e1 : Nat) (h : Heap) (Q : IV → Heap → Prop) : dF (stdS cAppU) env 37 noU (ic1 4 (keyInv op im ks)) noI [.agg [.int .i64 op, .int .i64 im, .vslice none e1 ks.length 1 (ks.map (IV.int .i64))]] h Q = (
  needS (pureL [IV.agg [IV.int IntKind.i64 op, IV.int IntKind.i64 im, IV.vslice none (0 : Nat) (List.length ks) (1 : Nat) (List.map (IV.int IntKind.i64) ks)]])
 (∀ (i : Nat) (h2 : Heap),
 Heap.get h2 i = IObj.tip (8 : Nat) →
 Heap.get h2 i = IObj.tip (8 : Nat) ∧
 (8 : Nat) ≤ (100000000000 : Nat) ∧
 ∀ (h2 : Heap),
 Heap.get h2 i = IObj.tip (16 : Nat) →
 (∃ (x : Nat × Nat × Heap × List IV),
 some
 (TV.v
 (IV.vslice (some i) (16 : Nat) (16 : Nat) (1 : Nat)
 [IV.int IntKind.u8 (IntKind.wrap IntKind.u8 (Int.fdiv (IntKind.wrap IntKind.u64 op) (1 : Int))), IV.int IntKind.u8 (IntKind.wrap IntKind.u8 (Int.fdiv (IntKind.wrap IntKind.u64 op) (256 : Int))),
 IV.int IntKind.u8 (IntKind.wrap IntKind.u8 (Int.fdiv (IntKind.wrap IntKind.u64 op) (65536 : Int))), IV.int IntKind.u8 (IntKind.wrap IntKind.u8 (Int.fdiv (IntKind.wrap IntKind.u64 op) (16777216 : Int))),
 IV.int IntKind.u8 (IntKind.wrap IntKind.u8 (Int.fdiv (IntKind.wrap IntKind.u64 op) (4294967296 : Int))),
 IV.int IntKind.u8 (IntKind.wrap IntKind.u8 (Int.fdiv (IntKind.wrap IntKind.u64 op) (1099511627776 : Int))),
 IV.int IntKind.u8 (IntKind.wrap IntKind.u8 (Int.fdiv (IntKind.wrap IntKind.u64 op) (281474976710656 : Int))),
 IV.int IntKind.u8 (IntKind.wrap IntKind.u8 (Int.fdiv (IntKind.wrap IntKind.u64 op) (72057594037927936 : Int))), IV.int IntKind.u8 (IntKind.wrap IntKind.u8 (Int.fdiv (IntKind.wrap IntKind.u64 im) (1 : Int))),
 IV.int IntKind.u8 (IntKind.wrap IntKind.u8 (Int.fdiv (IntKind.wrap IntKind.u64 im) (256 : Int))), IV.int IntKind.u8 (IntKind.wrap IntKind.u8 (Int.fdiv (IntKind.wrap IntKind.u64 im) (65536 : Int))),
 IV.int IntKind.u8 (IntKind.wrap IntKind.u8 (Int.fdiv (IntKind.wrap IntKind.u64 im) (16777216 : Int))), IV.int IntKind.u8 (IntKind.wrap IntKind.u8 (Int.fdiv (IntKind.wrap IntKind.u64 im) (4294967296 : Int))),
 IV.int IntKind.u8 (IntKind.wrap IntKind.u8 (Int.fdiv (IntKind.wrap IntKind.u64 im) (1099511627776 : Int))),
 IV.int IntKind.u8 (IntKind.wrap IntKind.u8 (Int.fdiv (IntKind.wrap IntKind.u64 im) (281474976710656 : Int))),
 IV.int IntKind.u8 (IntKind.wrap IntKind.u8 (Int.fdiv (IntKind.wrap IntKind.u64 im) (72057594037927936 : Int)))])) =
 some (TV.v (IV.vslice (some (Prod.fst (Prod.snd x))) ((16 : Nat) + (8 : Nat) * Prod.fst x) ((16 : Nat) + (8 : Nat) * Prod.fst x) (1 : Nat) (Prod.snd (Prod.snd (Prod.snd x))))) ∧
 some (TV.v (IV.vslice none (0 : Nat) (List.length ks) (1 : Nat) (List.map (IV.int IntKind.i64) ks))) = some (TV.v (IV.vslice none (0 : Nat) (List.length ks) (1 : Nat) (List.map (IV.int IntKind.i64) ks))) ∧
 some (TV.v (IV.int IntKind.i64 (↑(List.length ks) : Int))) = some (TV.v (IV.int IntKind.i64 (↑(List.length ks) : Int))) ∧
 some (TV.v (IV.int IntKind.i64 (0 : Int))) = some (TV.v (IV.int IntKind.i64 (↑(Prod.fst x) : Int))) ∧
 h2 = Prod.fst (Prod.snd (Prod.snd x)) ∧
 (Prod.fst x ≤ List.length ks ∧
 Heap.get (Prod.fst (Prod.snd (Prod.snd x))) (Prod.fst (Prod.snd x)) = IObj.tip ((16 : Nat) + (8 : Nat) * Prod.fst x) ∧ isKey (Nd.mk op im (List.take (Prod.fst x) ks)) (Prod.snd (Prod.snd (Prod.snd x)))) ∧
 True) ∧
 ∀ (x : Nat × Nat × Heap × List IV) (b : FF),
 Prod.fst x ≤ List.length ks ∧
 Heap.get (Prod.fst (Prod.snd (Prod.snd x))) (Prod.fst (Prod.snd x)) = IObj.tip ((16 : Nat) + (8 : Nat) * Prod.fst x) ∧ isKey (Nd.mk op im (List.take (Prod.fst x) ks)) (Prod.snd (Prod.snd (Prod.snd x))) →
 brS (decide ((↑(Prod.fst x) : Int) < (↑(List.length ks) : Int)))
 (needS (decide ((0 : Int) ≤ (↑(Prod.fst x) : Int)) && decide ((↑(Prod.fst x) : Int) < (↑(List.length ks) : Int)))
 (ldIS IntKind.i64 (List.map (IV.int IntKind.i64) ks) (Int.toNat (↑(Prod.fst x) : Int) * (1 : Nat)) fun (n0 : Int) =>
 Heap.get (Prod.fst (Prod.snd (Prod.snd x))) (Prod.fst (Prod.snd x)) = IObj.tip ((16 : Nat) + (8 : Nat) * Prod.fst x) ∧
 (16 : Nat) + (8 : Nat) * Prod.fst x ≤ (100000000000 : Nat) ∧
 ∀ (h2 : Heap),
 Heap.get h2 (Prod.fst (Prod.snd x)) = IObj.tip ((16 : Nat) + (8 : Nat) * Prod.fst x + (8 : Nat)) →
 ∃ (x_1 : Nat × Nat × Heap × List IV),
 some
 (TV.v
 (IV.vslice (some (Prod.fst (Prod.snd x))) ((16 : Nat) + (8 : Nat) * Prod.fst x + (8 : Nat)) ((16 : Nat) + (8 : Nat) * Prod.fst x + (8 : Nat)) (1 : Nat)
 (Prod.snd (Prod.snd (Prod.snd x)) ++
 [IV.int IntKind.u8 (IntKind.wrap IntKind.u8 (Int.fdiv (IntKind.wrap IntKind.u64 n0) (1 : Int))),
 IV.int IntKind.u8 (IntKind.wrap IntKind.u8 (Int.fdiv (IntKind.wrap IntKind.u64 n0) (256 : Int))),
 IV.int IntKind.u8 (IntKind.wrap IntKind.u8 (Int.fdiv (IntKind.wrap IntKind.u64 n0) (65536 : Int))),
 IV.int IntKind.u8 (IntKind.wrap IntKind.u8 (Int.fdiv (IntKind.wrap IntKind.u64 n0) (16777216 : Int))),
 IV.int IntKind.u8 (IntKind.wrap IntKind.u8 (Int.fdiv (IntKind.wrap IntKind.u64 n0) (4294967296 : Int))),
 IV.int IntKind.u8 (IntKind.wrap IntKind.u8 (Int.fdiv (IntKind.wrap IntKind.u64 n0) (1099511627776 : Int))),
 IV.int IntKind.u8 (IntKind.wrap IntKind.u8 (Int.fdiv (IntKind.wrap IntKind.u64 n0) (281474976710656 : Int))),
 IV.int IntKind.u8 (IntKind.wrap IntKind.u8 (Int.fdiv (IntKind.wrap IntKind.u64 n0) (72057594037927936 : Int)))]))) =
 some (TV.v (IV.vslice (some (Prod.fst (Prod.snd x_1))) ((16 : Nat) + (8 : Nat) * Prod.fst x_1) ((16 : Nat) + (8 : Nat) * Prod.fst x_1) (1 : Nat) (Prod.snd (Prod.snd (Prod.snd x_1))))) ∧
 some (TV.v (IV.vslice none (0 : Nat) (List.length ks) (1 : Nat) (List.map (IV.int IntKind.i64) ks))) =
 some (TV.v (IV.vslice none (0 : Nat) (List.length ks) (1 : Nat) (List.map (IV.int IntKind.i64) ks))) ∧
 some (TV.v (IV.int IntKind.i64 (↑(List.length ks) : Int))) = some (TV.v (IV.int IntKind.i64 (↑(List.length ks) : Int))) ∧
 some (TV.v (IV.int IntKind.i64 (IntKind.wrap IntKind.i64 ((↑(Prod.fst x) : Int) + (1 : Int))))) = some (TV.v (IV.int IntKind.i64 (↑(Prod.fst x_1) : Int))) ∧
 h2 = Prod.fst (Prod.snd (Prod.snd x_1)) ∧
 (Prod.fst x_1 ≤ List.length ks ∧
 Heap.get (Prod.fst (Prod.snd (Prod.snd x_1))) (Prod.fst (Prod.snd x_1)) = IObj.tip ((16 : Nat) + (8 : Nat) * Prod.fst x_1) ∧
 isKey (Nd.mk op im (List.take (Prod.fst x_1) ks)) (Prod.snd (Prod.snd (Prod.snd x_1)))) ∧
 List.length ks - Prod.fst x_1 < List.length ks - Prod.fst x))
 (bytS (Prod.snd (Prod.snd (Prod.snd x))) fun (s1 : List UInt8) => Q (IV.str s1) h))) := by kernel_rfl
set_option maxHeartbeats 1000000 in
theorem sKey : ∀ xs h Q, kKey xs h Q → CallW env 37 xs h Q := by
  intro xs h Q hk
  unfold kKey at hk
  split at hk
  · rename_i op im e1 n1 c1
    obtain ⟨ks, ⟨rfl, rfl⟩, hk⟩ := hk
    refine dF_run (okAppU) (vKey op im ks e1 h Q) ?_
    obtain ⟨hb, hk⟩ := hk
    have tn : ∀ x : Nat, (x : Int).toNat = x := Int.toNat_natCast
    refine needS_intro (by simp only [pureL, pureB, pureL_ints, Bool.and_true]) (fun i h2 hi => ⟨hi, by omega, fun h3 hi3 => ⟨⟨(0, i, h3, _), rfl, rfl, rfl, rfl, rfl, ⟨Nat.zero_le _, hi3, ?_⟩, trivial⟩, ?_⟩⟩)
    · unfold isKey keyI
      simp only [List.take_zero, List.flatMap_nil, List.append_nil]
      rfl
    · rintro ⟨k, id, g, cs⟩ _ ⟨hkl, hg, hcs⟩
      dsimp only at hkl hg hcs ⊢
      refine brS_intro (fun c => ?_) (fun c => ?_)
      · rw [decide_eq_true_eq] at c
        have hlt : k < ks.length := by omega
        simp only [tn]
        rw [Nat.mul_one]
        refine needS_intro (by simp; omega) (ldIS_map hlt ⟨hg, by omega, fun h4 hg4 => ⟨(k + 1, id, h4, _), (by first | rfl | exact True.intro), (by first | rfl | exact True.intro), (by first | rfl | exact True.intro), ?_, (by first | rfl | exact True.intro), ⟨hlt, by rw [hg4]; congr 1, ?_⟩, by dsimp only; omega⟩⟩)
        · rw [IntWalk.i64_in _ (by omega)]; rfl
        · unfold isKey at hcs ⊢
          rw [hcs, keyI_take hlt, List.map_append]
          rfl
      · rw [decide_eq_false_iff_not] at c
        unfold isKey at hcs
        have hkk : k = ks.length := by omega
        subst hkk
        rw [List.take_length] at hcs
        subst hcs
        exact byt_intro (bytesIV_map _) (hk _ rfl)
  · exact hk.elim
def cKey := addC 37 kKey cAppU
theorem okKey : Sound env cKey := sound_add sKey (okAppU)

end Go.Proofs.Ytmfnadojephcpaa
