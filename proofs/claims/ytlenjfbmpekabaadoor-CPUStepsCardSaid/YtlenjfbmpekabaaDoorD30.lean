import Derived.Test.YtlenjfbmpekabaaDoorC30
import Derived.KernelRfl
set_option linter.unusedVariables false
set_option linter.unusedSimpArgs false
namespace Go.Pv
theorem get_set (h : Heap) (i j : Nat) (x : IObj) : (h.set i x).get j = if j = i then x else h.get j := by
 unfold Heap.set Heap.get
 simp only [PT.get_set]
 split <;> rfl
theorem get_push (h : Heap) (j : Nat) (x : IObj) : (h.push x).get j = if j = h.next then x else h.get j := by
 unfold Heap.push Heap.get
 simp only [PT.get_set]
 split <;> rfl
theorem next_push (h : Heap) (x : IObj) : (h.push x).next = h.next + 1 := rfl
theorem next_set (h : Heap) (i : Nat) (x : IObj) : (h.set i x).next = h.next := rfl
theorem hget_i {h : Heap} {id : Nat} {cs : List IV} {K : List IV -> Prop} (e : h.get id = .cells cs) (hk : K cs) : hgetS h id K := by
 unfold hgetS; rw [e]; exact hk
theorem tip_i {h : Heap} {id m : Nat} {K : Nat -> Prop} (e : h.get id = .tip m) (hk : K m) : tipS h id K := by
 unfold tipS; rw [e]; exact hk
end Go.Pv
namespace Go.Proofs.YtlenjfbmpekabaaDoor
open Go.Pv Go.M29 Go.M30
def kApp (xs : List IV) (h : Heap) (K : IV -> Heap -> Prop) : Prop := match xs with
 | .nilslice :: _ => kAppNil xs h K
 | _ => kAppRow xs h K
def cBase := addC 70 kApp cAppRow
theorem sApp : ∀ xs h Q, kApp xs h Q -> CallW env 70 xs h Q := by
 intro xs h Q hk
 unfold kApp at hk
 split at hk
 ·exact sAppNil _ _ _ hk
 ·exact sAppRow _ _ _ hk
theorem okBase : Sound env cBase := sound_add sApp okAppRow
noncomputable def cEncode := cBase
theorem okEncode : Sound env cEncode := okBase
def rencInvH (l : List In) (id g : Nat) : Inv' := .or
 (atX Heap (fun _ => [(4, .v .nilslice), (0, .v (.hslice id 0 l.length 5)), (5, .v (.int .i64 0))]) (fun _ => []) (fun h => h) (fun h => h.get id = .cells (l.flatMap cIns) /\ h.next = g) (fun _ => l.length))
 (atX (Nat × Heap) (fun x => [(4, .v (.vslice (some g) (encT l x.1).length (encT l x.1).length 1 ((encT l x.1).map (IV.int .u32)))), (0, .v (.hslice id 0 l.length 5)), (5, .v (.int .i64 x.1))]) (fun _ => []) (fun x => x.2) (fun x => (1 <= x.1 /\ x.1 <= l.length) /\ x.2.get id = .cells (l.flatMap cIns) /\ x.2.get g = .tip (encT l x.1).length) (fun x => l.length - x.1))
def kREncH (xs : List IV) (h : Heap) (K : IV -> Heap -> Prop) : Prop := match xs with
 | [.hslice id 0 n1 5] => ∃ l : List In, n1 = l.length /\ h.get id = .cells (l.flatMap cIns) /\ id < h.next /\ (∀ i ∈ l, okIn i = true) /\ l ≠ [] /\ l.length <= 1000 /\ ∀ e h', K (.tuple [.vslice (some h.next) e (l.flatMap encW).length 1 ((l.flatMap encW).map (IV.int .u32)), .int .i64 0]) h'
 | _ => False
noncomputable def z42a (n1 n2 n3 n4 : Int) := bvOr .u32 (bvOr .u32 (bvOr .u32 (IntKind.wrap .u32 n1) (IntKind.wrap .u32 (IntKind.wrap .u32 n2 * 64))) (IntKind.wrap .u32 (IntKind.wrap .u32 n3 * 512))) (IntKind.wrap .u32 (IntKind.wrap .u32 n4 * 4096))
noncomputable def z42b (n9 n10 n11 n12 : Int) := bvOr .u32 (bvOr .u32 (bvOr .u32 (IntKind.wrap .u32 n9) (IntKind.wrap .u32 (IntKind.wrap .u32 n10 * 64))) (IntKind.wrap .u32 (IntKind.wrap .u32 n11 * 512))) (IntKind.wrap .u32 (IntKind.wrap .u32 n12 * 4096))
noncomputable def z42c (l : List In) (id : Nat) := TV.v (.hslice id 0 l.length 5)
noncomputable def z42d (n9 n10 n11 n12 n13 : Int) := [IV.int .u32 (bvOr .u32 (z42b n9 n10 n11 n12) (IntKind.wrap .u32 (IntKind.wrap .u32 (bvAnd .u64 (IntKind.wrap .u64 n13) (IntKind.wrap .u64 (IntKind.wrap .u64 ((1 : Int) * (2 : Int) ^ min (Int.toNat (nbI (fmI n9))) (64 : Nat)) - 1))) * (2 : Int) ^ min (Int.toNat (atI (fmI n9))) (32 : Nat))))]
noncomputable def z42e (n1 n2 n3 n4 n5 : Int) := bvOr .u32 (z42a n1 n2 n3 n4) (IntKind.wrap .u32 (IntKind.wrap .u32 (bvAnd .u64 (IntKind.wrap .u64 n5) (IntKind.wrap .u64 (IntKind.wrap .u64 ((1 : Int) * (2 : Int) ^ min (Int.toNat (nbI (fmI n1))) (64 : Nat)) - 1))) * (2 : Int) ^ min (Int.toNat (atI (fmI n1))) (32 : Nat)))
noncomputable def z42f (n13 : Int) := [IV.int .u32 (IntKind.wrap .u32 (IntKind.wrap .u64 n13)), IV.int .u32 (IntKind.wrap .u32 (Int.fdiv (IntKind.wrap .u64 n13) (4294967296 : Int)))]
noncomputable def z42g  := TV.v (.int .i64 0)
noncomputable def z42h  := IV.int .u32
noncomputable def z42i  := TV.v (.int .i64 1)
noncomputable def z42j (n5 : Int) := IntKind.wrap .u32 (Int.fdiv (IntKind.wrap .u64 n5) (4294967296 : Int))
noncomputable def z42k (l : List In) := List.flatMap cIns l
noncomputable def z42l (h : Heap) := some (Heap.next h)
noncomputable def z42m  := IObj.tip (1 : Nat)
noncomputable def z42n  := TV.v IV.nilslice
noncomputable def z42o (n5 : Int) := IntKind.wrap .u32 (IntKind.wrap .u64 n5)
noncomputable def z42p  := IV.tuple [.nilslice, IV.int .i64 204]
set_option maxRecDepth 100000 in
theorem vREncH (l : List In) (id : Nat) (h : Heap) (Q : IV -> Heap -> Prop) : dF (stdS cEncode) env 42 noU (ic1 4 (rencInvH l id h.next)) noI [.hslice id 0 l.length 5] h Q = (
 ((∃ (x : Heap), some z42n = some z42n /\ some (z42c l id) = some (z42c l id) /\ some z42g = some z42g /\ h = x /\ (Heap.get x id = IObj.cells (z42k l) /\ Heap.next x = Heap.next h) /\ True) \/ ∃ (x : Nat × Heap), some z42n = some (TV.v (.vslice (z42l h) (List.length (encT l x.1)) (List.length (encT
 l x.1)) 1 (List.map z42h (encT l x.1)))) /\ some (z42c l id) = some (z42c l id) /\ some z42g = some (TV.v (.int .i64 (↑x.1 : Int))) /\ h = x.2 /\ ((1 <= x.1 /\ x.1 <= l.length) /\ Heap.get x.2 id = IObj.cells (z42k l) /\ Heap.get
 x.2 (Heap.next h) = IObj.tip (List.length (encT l x.1))) /\ True) /\ (∀ (x : Heap) (b : FF), Heap.get x id = IObj.cells (z42k l) /\ Heap.next x = Heap.next h -> brS (decide (0 < (↑l.length : Int))) (needS (true && decide (0 < (↑l.length : Int))) (hgetS x id
 fun r0 => ldIS .i64 r0 0 fun n1 => ldIS .i64 r0 1 fun n2 => ldIS .i64 r0 2 fun n3 => ldIS .i64 r0 3 fun n4 => ldIS .i64 r0 4 fun n5 => brS (!validI n1 n2 n3 n4 n5) (Q z42p x)
 (brS (decide (nbI (fmI n1) > 0)) (needS (decide (0 <= nbI (fmI n1))) (needS (decide (0 <= atI (fmI n1))) (brS (n1 == 14) (tipS (Heap.push x z42m) (Heap.next x) fun (m6 : Nat) => needS (Nat.beq m6 (1 : Nat) && true) ((∃ (x_1 : Heap), some (TV.v (.vslice (some (Heap.next
 x)) 3 3 1 [IV.int .u32 (z42e n1 n2 n3 n4 n5), IV.int .u32 (z42o n5), IV.int .u32 (z42j n5)])) = some z42n /\ some (z42c l id) = some (z42c l id) /\ some z42i = some z42g /\ Heap.set (Heap.push x z42m) (Heap.next x) (IObj.tip (3 : Nat)) = x_1 /\ (Heap.get x_1 id
 = IObj.cells (z42k l) /\ Heap.next x_1 = Heap.next h) /\ l.length < l.length) \/ ∃ (x_1 : Nat × Heap), some (TV.v (.vslice (some (Heap.next x)) 3 3 1 [IV.int .u32 (z42e n1 n2 n3 n4 n5), IV.int .u32 (z42o n5), IV.int .u32 (z42j n5)])) = some (TV.v
 (IV.vslice (z42l h) (List.length (encT l x_1.1)) (List.length (encT l x_1.1)) 1 (List.map z42h (encT l x_1.1)))) /\ some (z42c l id) = some (z42c l id) /\ some z42i = some (TV.v (.int .i64 (↑x_1.1 : Int))) /\ Heap.set (Heap.push x z42m) (Heap.next x)
 (IObj.tip (3 : Nat)) = x_1.2 /\ ((1 <= x_1.1 /\ x_1.1 <= l.length) /\ Heap.get x_1.2 id = IObj.cells (z42k l) /\ Heap.get x_1.2 (Heap.next h) = IObj.tip (List.length (encT l x_1.1))) /\ l.length - x_1.1 < l.length)) ((∃ (x_1 : Heap),
 some (TV.v (.vslice (some (Heap.next x)) 1 1 1 [IV.int .u32 (z42e n1 n2 n3 n4 n5)])) = some z42n /\ some (z42c l id) = some (z42c l id) /\ some z42i = some z42g /\ Heap.push x z42m = x_1 /\ (Heap.get x_1 id = IObj.cells (z42k l) /\ Heap.next x_1 = Heap.next h) /\ List.length
 l < l.length) \/ ∃ (x_1 : Nat × Heap), some (TV.v (.vslice (some (Heap.next x)) 1 1 1 [IV.int .u32 (z42e n1 n2 n3 n4 n5)])) = some (TV.v (.vslice (z42l h) (List.length (encT l x_1.1)) (List.length (encT l x_1.1)) 1 (List.map z42h (encT
 l x_1.1)))) /\ some (z42c l id) = some (z42c l id) /\ some z42i = some (TV.v (.int .i64 (↑x_1.1 : Int))) /\ Heap.push x z42m = x_1.2 /\ ((1 <= x_1.1 /\ x_1.1 <= l.length) /\ Heap.get x_1.2 id = IObj.cells (z42k l) /\ Heap.get x_1.2
 (Heap.next h) = IObj.tip (List.length (encT l x_1.1))) /\ l.length - x_1.1 < l.length)))) (brS (n1 == 14) (tipS (Heap.push x z42m) (Heap.next x) fun (m7 : Nat) => needS (Nat.beq m7 (1 : Nat) && true) ((∃ (x_1 : Heap), some (TV.v (.vslice (some (Heap.next x)) 3
 3 1 [IV.int .u32 (z42a n1 n2 n3 n4), IV.int .u32 (z42o n5), IV.int .u32 (z42j n5)])) = some z42n /\ some (z42c l id) = some (z42c l id) /\ some z42i = some z42g /\ Heap.set (Heap.push x z42m) (Heap.next x) (IObj.tip (3 : Nat)) = x_1 /\ (Heap.get x_1 id = IObj.cells (z42k
 l) /\ Heap.next x_1 = Heap.next h) /\ l.length < l.length) \/ ∃ (x_1 : Nat × Heap), some (TV.v (.vslice (some (Heap.next x)) 3 3 1 [IV.int .u32 (z42a n1 n2 n3 n4), IV.int .u32 (z42o n5), IV.int .u32 (z42j n5)])) = some (TV.v (.vslice (z42l h) (List.length
 (encT l x_1.1)) (List.length (encT l x_1.1)) 1 (List.map z42h (encT l x_1.1)))) /\ some (z42c l id) = some (z42c l id) /\ some z42i = some (TV.v (.int .i64 (↑x_1.1 : Int))) /\ Heap.set (Heap.push x z42m) (Heap.next x) (IObj.tip (3 : Nat)) = x_1.2
 /\ ((1 <= x_1.1 /\ x_1.1 <= l.length) /\ Heap.get x_1.2 id = IObj.cells (z42k l) /\ Heap.get x_1.2 (Heap.next h) = IObj.tip (List.length (encT l x_1.1))) /\ l.length - x_1.1 < l.length)) ((∃ (x_1 : Heap), some (TV.v (.vslice (some (Heap.next
 x)) 1 1 1 [IV.int .u32 (z42a n1 n2 n3 n4)])) = some z42n /\ some (z42c l id) = some (z42c l id) /\ some z42i = some z42g /\ Heap.push x z42m = x_1 /\ (Heap.get x_1 id = IObj.cells (z42k l) /\ Heap.next x_1 = Heap.next h) /\ l.length < l.length) \/ ∃ (x_1 : Nat × Heap),
 some (TV.v (.vslice (some (Heap.next x)) 1 1 1 [IV.int .u32 (z42a n1 n2 n3 n4)])) = some (TV.v (.vslice (z42l h) (List.length (encT l x_1.1)) (List.length (encT l x_1.1)) 1 (List.map z42h (encT l x_1.1)))) /\ some (z42c l id) = some
 (z42c l id) /\ some z42i = some (TV.v (.int .i64 (↑x_1.1 : Int))) /\ Heap.push x z42m = x_1.2 /\ ((1 <= x_1.1 /\ x_1.1 <= l.length) /\ Heap.get x_1.2 id = IObj.cells (z42k l) /\ Heap.get x_1.2 (Heap.next h) = IObj.tip (List.length (encT l
 x_1.1))) /\ l.length - x_1.1 < l.length))))) (Q (.tuple [.nilslice, IV.int .i64 0]) x)) /\ ∀ (x : Nat × Heap) (b : FF), (1 <= x.1 /\ x.1 <= l.length) /\ Heap.get x.2 id = IObj.cells (z42k l) /\ Heap.get x.2 (Heap.next
 h) = IObj.tip (List.length (encT l x.1)) -> brS (decide ((↑x.1 : Int) < (↑l.length : Int))) (needS (decide (0 <= (↑x.1 : Int)) && decide ((↑x.1 : Int) < (↑l.length : Int))) (hgetS x.2 id fun r8 => ldIS .i64 r8 ((0 : Nat)
 + Int.toNat (↑x.1 : Int) * 5) fun n9 => ldIS .i64 r8 ((0 : Nat) + Int.toNat (↑x.1 : Int) * 5 + (1 : Nat)) fun n10 => ldIS .i64 r8 ((0 : Nat) + Int.toNat (↑x.1 : Int) * 5 + (1 : Nat) + 1) fun n11 => ldIS .i64
 r8 ((0 : Nat) + Int.toNat (↑x.1 : Int) * 5 + (1 : Nat) + 1 + (1 : Nat)) fun n12 => ldIS .i64 r8 ((0 : Nat) + Int.toNat (↑x.1 : Int) * 5 + (1 : Nat) + 1 + (1 : Nat) + 1) fun n13 => brS (!validI n9 n10 n11 n12 n13) (Q z42p
 x.2) (brS (decide (nbI (fmI n9) > 0)) (needS (decide (0 <= nbI (fmI n9))) (needS (decide (0 <= atI (fmI n9))) (tipS x.2 (Heap.next h) fun (m14 : Nat) => needS (Nat.beq m14 (List.length (encT l x.1)) && Nat.ble ((List.length (encT l x.1) + (1 :
 Nat)) * 4) (140737488355328 : Nat)) (brS (n9 == 14) (tipS (Heap.set x.2 (Heap.next h) (IObj.tip (List.length (encT l x.1) + 1))) (Heap.next h) fun (m15 : Nat) => needS (Nat.beq m15 (List.length (encT l x.1) + 1) && Nat.ble ((List.length (encT
 l x.1) + 1 + (2 : Nat)) * 4) (140737488355328 : Nat)) ((∃ (x_1 : Heap), some (TV.v (.vslice (z42l h) (List.length (encT l x.1) + 1 + (2 : Nat)) (List.length (encT l x.1) + 1 + (2 : Nat)) 1 (List.map z42h (encT l x.1) ++ (z42d
 n9 n10 n11 n12 n13) ++ (z42f n13)))) = some z42n /\ some (z42c l id) = some (z42c l id) /\ some (TV.v (.int .i64 (IntKind.wrap .i64 ((↑x.1 : Int) + 1)))) = some z42g /\ Heap.set (Heap.set x.2 (Heap.next h) (IObj.tip (List.length (encT l x.1) + 1)))
 (Heap.next h) (IObj.tip (List.length (encT l x.1) + 1 + (2 : Nat))) = x_1 /\ (Heap.get x_1 id = IObj.cells (z42k l) /\ Heap.next x_1 = Heap.next h) /\ l.length < l.length - x.1) \/ ∃ (x_1 : Nat × Heap), some (TV.v (.vslice (z42l h) (List.length (encT l x.1) +
 (1 : Nat) + 2) (List.length (encT l x.1) + 1 + (2 : Nat)) 1 (List.map z42h (encT l x.1) ++ (z42d n9 n10 n11 n12 n13) ++ (z42f n13)))) = some (TV.v (.vslice (z42l h) (List.length (encT l x_1.1)) (List.length (encT l x_1.1)) 1 (List.map
 z42h (encT l x_1.1)))) /\ some (z42c l id) = some (z42c l id) /\ some (TV.v (.int .i64 (IntKind.wrap .i64 ((↑x.1 : Int) + 1)))) = some (TV.v (.int .i64 (↑x_1.1 : Int))) /\ Heap.set (Heap.set x.2 (Heap.next h) (IObj.tip (List.length (encT
 l x.1) + 1))) (Heap.next h) (IObj.tip (List.length (encT l x.1) + 1 + (2 : Nat))) = x_1.2 /\ ((1 <= x_1.1 /\ x_1.1 <= l.length) /\ Heap.get x_1.2 id = IObj.cells (z42k l) /\ Heap.get x_1.2 (Heap.next h) = IObj.tip (List.length
 (encT l x_1.1))) /\ l.length - x_1.1 < l.length - x.1)) ((∃ (x_1 : Heap), some (TV.v (.vslice (z42l h) (List.length (encT l x.1) + 1) (List.length (encT l x.1) + 1) 1 (List.map z42h (encT l x.1) ++ (z42d n9 n10 n11 n12
 n13)))) = some z42n /\ some (z42c l id) = some (z42c l id) /\ some (TV.v (.int .i64 (IntKind.wrap .i64 ((↑x.1 : Int) + 1)))) = some z42g /\ Heap.set x.2 (Heap.next h) (IObj.tip (List.length (encT l x.1) + 1)) = x_1 /\ (Heap.get x_1 id = IObj.cells
 (z42k l) /\ Heap.next x_1 = Heap.next h) /\ l.length < l.length - x.1) \/ ∃ (x_1 : Nat × Heap), some (TV.v (.vslice (z42l h) (List.length (encT l x.1) + 1) (List.length (encT l x.1) + 1) 1 (List.map z42h (encT l x.1) ++ (z42d n9 n10 n11
 n12 n13)))) = some (TV.v (.vslice (z42l h) (List.length (encT l x_1.1)) (List.length (encT l x_1.1)) 1 (List.map z42h (encT l x_1.1)))) /\ some (z42c l id) = some (z42c l id) /\ some (TV.v (.int .i64 (IntKind.wrap .i64 ((↑x.1 : Int) + 1))))
 = some (TV.v (.int .i64 (↑x_1.1 : Int))) /\ Heap.set x.2 (Heap.next h) (IObj.tip (List.length (encT l x.1) + 1)) = x_1.2 /\ ((1 <= x_1.1 /\ x_1.1 <= l.length) /\ Heap.get x_1.2 id = IObj.cells (z42k l) /\ Heap.get (Prod.snd
 x_1) (Heap.next h) = IObj.tip (List.length (encT l x_1.1))) /\ l.length - x_1.1 < l.length - x.1))))) (tipS x.2 (Heap.next h) fun (m16 : Nat) => needS (Nat.beq m16 (List.length (encT l x.1)) && Nat.ble ((List.length (encT l x.1) + 1)
 * (4 : Nat)) (140737488355328 : Nat)) (brS (n9 == 14) (tipS (Heap.set x.2 (Heap.next h) (IObj.tip (List.length (encT l x.1) + 1))) (Heap.next h) fun (m17 : Nat) => needS (Nat.beq m17 (List.length (encT l x.1) + 1) && Nat.ble ((List.length (encT l (Prod.fst
 x)) + 1 + (2 : Nat)) * 4) (140737488355328 : Nat)) ((∃ (x_1 : Heap), some (TV.v (.vslice (z42l h) (List.length (encT l x.1) + 1 + (2 : Nat)) (List.length (encT l x.1) + 1 + (2 : Nat)) 1 (List.map z42h (encT l x.1) ++ [IV.int .u32
 (z42b n9 n10 n11 n12)] ++ (z42f n13)))) = some z42n /\ some (z42c l id) = some (z42c l id) /\ some (TV.v (.int .i64 (IntKind.wrap .i64 ((↑x.1 : Int) + 1)))) = some z42g /\ Heap.set (Heap.set x.2 (Heap.next h) (IObj.tip (List.length (encT l x.1) + 1)))
 (Heap.next h) (IObj.tip (List.length (encT l x.1) + 1 + (2 : Nat))) = x_1 /\ (Heap.get x_1 id = IObj.cells (z42k l) /\ Heap.next x_1 = Heap.next h) /\ l.length < l.length - x.1) \/ ∃ (x_1 : Nat × Heap), some (TV.v (.vslice (z42l h) (List.length (encT l x.1) +
 (1 : Nat) + 2) (List.length (encT l x.1) + 1 + (2 : Nat)) 1 (List.map z42h (encT l x.1) ++ [IV.int .u32 (z42b n9 n10 n11 n12)] ++ (z42f n13)))) = some (TV.v (.vslice (z42l h) (List.length (encT l x_1.1)) (List.length (encT l x_1.1))
 1 (List.map z42h (encT l x_1.1)))) /\ some (z42c l id) = some (z42c l id) /\ some (TV.v (.int .i64 (IntKind.wrap .i64 ((↑x.1 : Int) + 1)))) = some (TV.v (.int .i64 (↑x_1.1 : Int))) /\ Heap.set (Heap.set x.2 (Heap.next h) (IObj.tip
 (List.length (encT l x.1) + 1))) (Heap.next h) (IObj.tip (List.length (encT l x.1) + 1 + (2 : Nat))) = x_1.2 /\ ((1 <= x_1.1 /\ x_1.1 <= l.length) /\ Heap.get x_1.2 id = IObj.cells (z42k l) /\ Heap.get x_1.2 (Heap.next h)
 = IObj.tip (List.length (encT l x_1.1))) /\ l.length - x_1.1 < l.length - x.1)) ((∃ (x_1 : Heap), some (TV.v (.vslice (z42l h) (List.length (encT l x.1) + 1) (List.length (encT l x.1) + 1) 1 (List.map z42h (encT l x.1)
 ++ [IV.int .u32 (z42b n9 n10 n11 n12)]))) = some z42n /\ some (z42c l id) = some (z42c l id) /\ some (TV.v (.int .i64 (IntKind.wrap .i64 ((↑x.1 : Int) + 1)))) = some z42g /\ Heap.set x.2 (Heap.next h) (IObj.tip (List.length (encT l x.1) + 1))
 = x_1 /\ (Heap.get x_1 id = IObj.cells (z42k l) /\ Heap.next x_1 = Heap.next h) /\ l.length < l.length - x.1) \/ ∃ (x_1 : Nat × Heap), some (TV.v (.vslice (z42l h) (List.length (encT l x.1) + 1) (List.length (encT l x.1) + 1) 1 (List.map z42h (encT
 l x.1) ++ [IV.int .u32 (z42b n9 n10 n11 n12)]))) = some (TV.v (.vslice (z42l h) (List.length (encT l x_1.1)) (List.length (encT l x_1.1)) 1 (List.map z42h (encT l x_1.1)))) /\ some (z42c l id) = some (z42c l id) /\ some (TV.v (.int .i64 (IntKind.wrap
 .i64 ((↑x.1 : Int) + 1)))) = some (TV.v (.int .i64 (↑x_1.1 : Int))) /\ Heap.set x.2 (Heap.next h) (IObj.tip (List.length (encT l x.1) + 1)) = x_1.2 /\ ((1 <= x_1.1 /\ x_1.1 <= l.length) /\ Heap.get (Prod.snd
 x_1) id = IObj.cells (z42k l) /\ Heap.get x_1.2 (Heap.next h) = IObj.tip (List.length (encT l x_1.1))) /\ l.length - x_1.1 < l.length - x.1)))))) (Q (.tuple [.vslice (z42l h) (List.length (encT l x.1)) (List.length (encT l x.1)) 1
 (List.map z42h (encT l x.1)), IV.int .i64 0]) x.2)) := by kernel_rfl
set_option maxHeartbeats 4000000 in
theorem sREncH : ∀ xs h Q, kREncH xs h Q -> CallW env 42 xs h Q := by
 intro xs h Q hk
 unfold kREncH at hk
 split at hk
 ·rename_i id n1
  obtain ⟨l, rfl, hg, hid, hok, hne, hb, hk⟩ := hk
  refine dF_run (okEncode) (vREncH l id h Q) ?_
  delta z42a z42b z42c z42d z42e z42f z42g z42h z42i z42j z42k z42l z42m z42n z42o z42p
  refine ⟨.inl ⟨h, rfl, rfl, rfl, rfl, ⟨hg, rfl⟩, trivial⟩, fun x _ hx => ?_, fun x _ hx => ?_⟩
  ·obtain ⟨hg', hnx⟩ := hx
   have h0 : 0 < l.length := List.length_pos_iff.2 hne
   have hv : okIn l[0] = true := hok _ (List.getElem_mem h0)
   refine brS_intro (fun c1 => needS_intro (by simpa using c1) (hget_i hg' (ldIn (i := 0) (o := 0) h0 rfl (brS_intro (fun c2 => ?_) (fun c2 => ?_))))) (fun c1 => ?_)
   ·rw [Bool.not_eq_true'] at c2
    have hv' : validI l[0].op l[0].a l[0].b l[0].c l[0].n = true := hv
    rw [c2] at hv'; cases hv'
   ·rw [Bool.not_eq_false'] at c2
    obtain ⟨w1, w2⟩ := renc_words c2
    refine brS_intro (fun c3 => needS_intro (by simp [nb_nonneg]) (needS_intro (by simp [nb_nonneg]) (brS_intro (fun c4 => absurd (beq_iff_eq.1 c4) (w1 (by simpa using c3)).1) (fun c4 => ?_)))) (fun c3 => (brS_intro (fun c4 => tip_i (m := 1) (by rw [get_push, if_pos rfl]) (needS_intro rfl ?_)) (fun c4 => ?_)))
    all_goals simp only [decide_eq_true_eq, decide_eq_false_iff_not, beq_iff_eq, beq_eq_false_iff_ne, ne_eq] at c3 c4
    ·have hE := (w1 c3).2
     refine .inr ⟨(1, x.push (.tip 1)), ?_, rfl, rfl, rfl, ⟨⟨Nat.le_refl _, h0⟩, ?_, ?_⟩, by simp only; omega⟩
     ·rw [hnx]; simp only; rw [encT_succ h0, hE]; rfl
     ·simp only [get_set, get_push, if_neg (show ¬ id = x.next by omega)]; exact hg'
     ·simp only [get_set, get_push, hnx, if_pos trivial]; rw [encT_succ h0, hE]; rfl
    ·have hE := (w2 c3).1 c4
     refine .inr ⟨(1, (x.push (.tip 1)).set x.next (.tip 3)), ?_, rfl, rfl, rfl, ⟨⟨Nat.le_refl _, h0⟩, ?_, ?_⟩, by simp only; omega⟩
     ·rw [hnx]; simp only; rw [encT_succ h0, hE]; rfl
     ·simp only [get_set, get_push, if_neg (show ¬ id = x.next by omega)]; exact hg'
     ·simp only [get_set, get_push, hnx, if_pos trivial]; rw [encT_succ h0, hE]; rfl
    ·have hE := (w2 c3).2 c4
     refine .inr ⟨(1, x.push (.tip 1)), ?_, rfl, rfl, rfl, ⟨⟨Nat.le_refl _, h0⟩, ?_, ?_⟩, by simp only; omega⟩
     ·rw [hnx]; simp only; rw [encT_succ h0, hE]; rfl
     ·simp only [get_set, get_push, if_neg (show ¬ id = x.next by omega)]; exact hg'
     ·simp only [get_set, get_push, hnx, if_pos trivial]; rw [encT_succ h0, hE]; rfl
   ·simp only [decide_eq_false_iff_not] at c1
    omega
  ·obtain ⟨i, hp⟩ := x
   obtain ⟨⟨h1, h2⟩, hg', ht⟩ := hx
   simp only at h1 h2 hg' ht
   have tn : ∀ x : Nat, (x : Int).toNat = x := Int.toNat_natCast
   have hle := encT_le l i
   simp only
   refine brS_intro (fun c1 => ?_) (fun c1 => ?_)
   ·simp only [decide_eq_true_eq] at c1
    have h0 : i < l.length := by omega
    have hv : okIn l[i] = true := hok _ (List.getElem_mem h0)
    refine needS_intro (by simp; omega) (hget_i hg' (ldIn (i := i) h0 (by rw [tn]; omega) (brS_intro (fun c2 => ?_) (fun c2 => ?_))))
    ·rw [Bool.not_eq_true'] at c2
     have hv' : validI l[i].op l[i].a l[i].b l[i].c l[i].n = true := hv
     rw [c2] at hv'; cases hv'
    ·rw [Bool.not_eq_false'] at c2
     obtain ⟨w1, w2⟩ := renc_words c2
     refine brS_intro (fun c3 => needS_intro (by simp [nb_nonneg]) (needS_intro (by simp [nb_nonneg]) (tip_i ht (needS_intro (by simp [nbeq_t]; omega) (brS_intro (fun c4 => absurd (beq_iff_eq.1 c4) (w1 (by simpa using c3)).1) (fun c4 => ?_)))))) (fun c3 => (tip_i ht (needS_intro (by simp [nbeq_t]; omega) (brS_intro (fun c4 => tip_i (by rw [get_set, if_pos rfl]) (needS_intro (by simp [nbeq_t]; omega) ?_)) (fun c4 => ?_)))))
     all_goals simp only [decide_eq_true_eq, decide_eq_false_iff_not, beq_iff_eq, beq_eq_false_iff_ne, ne_eq] at c3 c4
     ·have hE := (w1 c3).2
      refine .inr ⟨(i + 1, hp.set h.next (.tip ((encT l i).length + 1))), ?_, (by first | rfl | trivial), ?_, (by first | rfl | trivial), ⟨⟨by simp only; omega, h0⟩, ?_, ?_⟩, by simp only; omega⟩
      ·simp only; rw [encT_succ h0, hE, List.length_append, List.map_append]; simp [Nat.add_assoc]
      ·rw [IntWalk.i64_in _ (by omega)]; rfl
      ·simp only [get_set, if_neg (show ¬ id = h.next by omega)]; exact hg'
      ·simp only [get_set, if_pos trivial]; rw [encT_succ h0, hE, List.length_append]; simp [Nat.add_assoc]
     ·have hE := (w2 c3).1 c4
      refine .inr ⟨(i + 1, (hp.set h.next (.tip ((encT l i).length + 1))).set h.next (.tip ((encT l i).length + 1 + 2))), ?_, (by first | rfl | trivial), ?_, (by first | rfl | trivial), ⟨⟨by simp only; omega, h0⟩, ?_, ?_⟩, by simp only; omega⟩
      ·simp only; rw [encT_succ h0, hE, List.length_append, List.map_append]; simp [Nat.add_assoc]
      ·rw [IntWalk.i64_in _ (by omega)]; rfl
      ·simp only [get_set, if_neg (show ¬ id = h.next by omega)]; exact hg'
      ·simp only [get_set, if_pos trivial]; rw [encT_succ h0, hE, List.length_append]; simp [Nat.add_assoc]
     ·have hE := (w2 c3).2 c4
      refine .inr ⟨(i + 1, hp.set h.next (.tip ((encT l i).length + 1))), ?_, (by first | rfl | trivial), ?_, (by first | rfl | trivial), ⟨⟨by simp only; omega, h0⟩, ?_, ?_⟩, by simp only; omega⟩
      ·simp only; rw [encT_succ h0, hE, List.length_append, List.map_append]; simp [Nat.add_assoc]
      ·rw [IntWalk.i64_in _ (by omega)]; rfl
      ·simp only [get_set, if_neg (show ¬ id = h.next by omega)]; exact hg'
      ·simp only [get_set, if_pos trivial]; rw [encT_succ h0, hE, List.length_append]; simp [Nat.add_assoc]
   ·simp only [decide_eq_false_iff_not] at c1
    obtain rfl : i = l.length := by omega
    rw [encT_all]
    exact hk _ _
 ·exact hk.elim
def cREncH := addC 42 kREncH cEncode
theorem okREncH : Sound env cREncH := sound_add sREncH (okEncode)
def rencInvV (l : List In) (e1 g : Nat) : Inv' := .or
 (atX Heap (fun _ => [(4, .v .nilslice), (0, .v (.vslice none e1 l.length 5 (l.flatMap cIns))), (5, .v (.int .i64 0))]) (fun _ => []) (fun h => h) (fun h => h.next = g) (fun _ => l.length))
 (atX (Nat × Heap) (fun x => [(4, .v (.vslice (some g) (encT l x.1).length (encT l x.1).length 1 ((encT l x.1).map (IV.int .u32)))), (0, .v (.vslice none e1 l.length 5 (l.flatMap cIns))), (5, .v (.int .i64 x.1))]) (fun _ => []) (fun x => x.2) (fun x => ((1 <= x.1 /\ x.1 <= l.length) /\ ∀ j (q : j < l.length), j < x.1 -> okIn l[j] = true) /\ x.2.get g = .tip (encT l x.1).length) (fun x => l.length - x.1))
def kREncV (xs : List IV) (h : Heap) (K : IV -> Heap -> Prop) : Prop := match xs with
 | [.vslice none e1 n1 5 c1] => ∃ l : List In, (n1 = l.length /\ c1 = l.flatMap cIns) /\ (l.length <= 1000 /\ 1 <= l.length) /\ ((∀ i ∈ l, okIn i = true) -> ∀ e h', K (.tuple [.vslice (some h.next) e (l.flatMap encW).length 1 ((l.flatMap encW).map (IV.int .u32)), .int .i64 0]) h') /\ ((¬ ∀ i ∈ l, okIn i = true) -> ∀ h', K (.tuple [.nilslice, .int .i64 204]) h')
 | _ => False
noncomputable def y42o (l : List In) := List.flatMap cIns l
noncomputable def y42a (l : List In) (e1 : Nat) := TV.v (.vslice none e1 l.length 5 (y42o l))
noncomputable def y42b (n0 n1 n2 n3 : Int) := bvOr .u32 (bvOr .u32 (bvOr .u32 (IntKind.wrap .u32 n0) (IntKind.wrap .u32 (IntKind.wrap .u32 n1 * 64))) (IntKind.wrap .u32 (IntKind.wrap .u32 n2 * 512))) (IntKind.wrap .u32 (IntKind.wrap .u32 n3 * 4096))
noncomputable def y42c (n7 n8 n9 n10 : Int) := bvOr .u32 (bvOr .u32 (bvOr .u32 (IntKind.wrap .u32 n7) (IntKind.wrap .u32 (IntKind.wrap .u32 n8 * 64))) (IntKind.wrap .u32 (IntKind.wrap .u32 n9 * 512))) (IntKind.wrap .u32 (IntKind.wrap .u32 n10 * 4096))
noncomputable def y42d (n7 n8 n9 n10 n11 : Int) := [IV.int .u32 (bvOr .u32 (y42c n7 n8 n9 n10) (IntKind.wrap .u32 (IntKind.wrap .u32 (bvAnd .u64 (IntKind.wrap .u64 n11) (IntKind.wrap .u64 (IntKind.wrap .u64 ((1 : Int) * (2 : Int) ^ min (Int.toNat (nbI (fmI n7))) (64 : Nat)) - 1))) * (2 : Int) ^ min (Int.toNat (atI (fmI n7))) (32 : Nat))))]
noncomputable def y42e (n0 n1 n2 n3 n4 : Int) := bvOr .u32 (y42b n0 n1 n2 n3) (IntKind.wrap .u32 (IntKind.wrap .u32 (bvAnd .u64 (IntKind.wrap .u64 n4) (IntKind.wrap .u64 (IntKind.wrap .u64 ((1 : Int) * (2 : Int) ^ min (Int.toNat (nbI (fmI n0))) (64 : Nat)) - 1))) * (2 : Int) ^ min (Int.toNat (atI (fmI n0))) (32 : Nat)))
noncomputable def y42f (n11 : Int) := [IV.int .u32 (IntKind.wrap .u32 (IntKind.wrap .u64 n11)), IV.int .u32 (IntKind.wrap .u32 (Int.fdiv (IntKind.wrap .u64 n11) (4294967296 : Int)))]
noncomputable def y42g  := TV.v (.int .i64 0)
noncomputable def y42h  := IV.int .u32
noncomputable def y42i  := TV.v (.int .i64 1)
noncomputable def y42j (n4 : Int) := IntKind.wrap .u32 (Int.fdiv (IntKind.wrap .u64 n4) (4294967296 : Int))
noncomputable def y42k (h : Heap) := some (Heap.next h)
noncomputable def y42l  := IObj.tip (1 : Nat)
noncomputable def y42m  := TV.v IV.nilslice
noncomputable def y42n (n4 : Int) := IntKind.wrap .u32 (IntKind.wrap .u64 n4)
noncomputable def y42p  := IV.tuple [.nilslice, IV.int .i64 204]
set_option maxRecDepth 100000 in
theorem vREncV (l : List In) (e1 : Nat) (h : Heap) (Q : IV -> Heap -> Prop) : dF (stdS cREncH) env 42 noU (ic1 4 (rencInvV l e1 h.next)) noI [.vslice none e1 l.length 5 (l.flatMap cIns)] h Q = (
 ((∃ (x : Heap), some y42m = some y42m /\ some (y42a l e1) = some (y42a l e1) /\ some y42g = some y42g /\ h = x /\ Heap.next x = Heap.next h /\ True) \/ ∃ (x : Nat × Heap), some y42m = some (TV.v (.vslice (y42k h) (List.length (encT l x.1)) (List.length (encT l x.1)) 1 (List.map
 y42h (encT l x.1)))) /\ some (y42a l e1) = some (y42a l e1) /\ some y42g = some (TV.v (.int .i64 (↑x.1 : Int))) /\ h = x.2 /\ (((1 <= x.1 /\ x.1 <= l.length) /\ ∀ (j : Nat) (q : j < l.length), j < x.1 -> okIn l[j] = true) /\ Heap.get (Prod.snd
 x) (Heap.next h) = IObj.tip (List.length (encT l x.1))) /\ True) /\ (∀ (x : Heap) (b : FF), Heap.next x = Heap.next h -> brS (decide (0 < (↑l.length : Int))) (needS (true && decide (0 < (↑l.length : Int))) (ldIS .i64 (y42o l) 0 fun n0 => ldIS
 .i64 (y42o l) 1 fun n1 => ldIS .i64 (y42o l) 2 fun n2 => ldIS .i64 (y42o l) 3 fun n3 => ldIS .i64 (y42o l) 4 fun n4 => brS (!validI n0 n1 n2 n3 n4) (Q y42p x) (brS (decide (nbI (fmI n0) > 0)) (needS (decide
 (0 <= nbI (fmI n0))) (needS (decide (0 <= atI (fmI n0))) (brS (n0 == 14) (tipS (Heap.push x y42l) (Heap.next x) fun (m5 : Nat) => needS (Nat.beq m5 (1 : Nat) && true) ((∃ (x_1 : Heap), some (TV.v (.vslice (some (Heap.next x)) 3 3 1 [IV.int .u32 (y42e
 n0 n1 n2 n3 n4), IV.int .u32 (y42n n4), IV.int .u32 (y42j n4)])) = some y42m /\ some (y42a l e1) = some (y42a l e1) /\ some y42i = some y42g /\ Heap.set (Heap.push x y42l) (Heap.next x) (IObj.tip (3 : Nat)) = x_1 /\ Heap.next x_1 = Heap.next h /\ l.length < l.length) \/ ∃ (x_1 : Nat
 × Heap), some (TV.v (.vslice (some (Heap.next x)) 3 3 1 [IV.int .u32 (y42e n0 n1 n2 n3 n4), IV.int .u32 (y42n n4), IV.int .u32 (y42j n4)])) = some (TV.v (.vslice (y42k h) (List.length (encT l x_1.1)) (List.length (encT l x_1.1)) (1 :
 Nat) (List.map y42h (encT l x_1.1)))) /\ some (y42a l e1) = some (y42a l e1) /\ some y42i = some (TV.v (.int .i64 (↑x_1.1 : Int))) /\ Heap.set (Heap.push x y42l) (Heap.next x) (IObj.tip (3 : Nat)) = x_1.2 /\ (((1 <= x_1.1 /\ x_1.1 <= l.length) /\ ∀
 (j : Nat) (q : j < l.length), j < x_1.1 -> okIn l[j] = true) /\ Heap.get x_1.2 (Heap.next h) = IObj.tip (List.length (encT l x_1.1))) /\ l.length - x_1.1 < l.length)) ((∃ (x_1 : Heap), some (TV.v (.vslice (some (Heap.next x)) 1 1 1
 [IV.int .u32 (y42e n0 n1 n2 n3 n4)])) = some y42m /\ some (y42a l e1) = some (y42a l e1) /\ some y42i = some y42g /\ Heap.push x y42l = x_1 /\ Heap.next x_1 = Heap.next h /\ l.length < l.length) \/ ∃ (x_1 : Nat × Heap), some (TV.v (.vslice (some (Heap.next x)) 1 1 1
 [IV.int .u32 (y42e n0 n1 n2 n3 n4)])) = some (TV.v (.vslice (y42k h) (List.length (encT l x_1.1)) (List.length (encT l x_1.1)) 1 (List.map y42h (encT l x_1.1)))) /\ some (y42a l e1) = some (y42a l e1) /\ some y42i = some (TV.v (.int .i64 (↑(Prod.fst
 x_1) : Int))) /\ Heap.push x y42l = x_1.2 /\ (((1 <= x_1.1 /\ x_1.1 <= l.length) /\ ∀ (j : Nat) (q : j < l.length), j < x_1.1 -> okIn l[j] = true) /\ Heap.get x_1.2 (Heap.next h) = IObj.tip (List.length (encT l x_1.1))) /\ l.length - Prod.fst
 x_1 < l.length)))) (brS (n0 == 14) (tipS (Heap.push x y42l) (Heap.next x) fun (m6 : Nat) => needS (Nat.beq m6 (1 : Nat) && true) ((∃ (x_1 : Heap), some (TV.v (.vslice (some (Heap.next x)) 3 3 1 [IV.int .u32 (y42b n0 n1 n2 n3), IV.int .u32 (y42n n4),
 IV.int .u32 (y42j n4)])) = some y42m /\ some (y42a l e1) = some (y42a l e1) /\ some y42i = some y42g /\ Heap.set (Heap.push x y42l) (Heap.next x) (IObj.tip (3 : Nat)) = x_1 /\ Heap.next x_1 = Heap.next h /\ l.length < l.length) \/ ∃ (x_1 : Nat × Heap), some (TV.v (.vslice (some (Heap.next
 x)) 3 3 1 [IV.int .u32 (y42b n0 n1 n2 n3), IV.int .u32 (y42n n4), IV.int .u32 (y42j n4)])) = some (TV.v (.vslice (y42k h) (List.length (encT l x_1.1)) (List.length (encT l x_1.1)) 1 (List.map y42h (encT l x_1.1)))) /\ some
 (y42a l e1) = some (y42a l e1) /\ some y42i = some (TV.v (.int .i64 (↑x_1.1 : Int))) /\ Heap.set (Heap.push x y42l) (Heap.next x) (IObj.tip (3 : Nat)) = x_1.2 /\ (((1 <= x_1.1 /\ x_1.1 <= l.length) /\ ∀ (j : Nat) (q : j < l.length), j < x_1.1 ->
 okIn l[j] = true) /\ Heap.get x_1.2 (Heap.next h) = IObj.tip (List.length (encT l x_1.1))) /\ l.length - x_1.1 < l.length)) ((∃ (x_1 : Heap), some (TV.v (.vslice (some (Heap.next x)) 1 1 1 [IV.int .u32 (y42b n0 n1 n2 n3)])) = some y42m
 /\ some (y42a l e1) = some (y42a l e1) /\ some y42i = some y42g /\ Heap.push x y42l = x_1 /\ Heap.next x_1 = Heap.next h /\ l.length < l.length) \/ ∃ (x_1 : Nat × Heap), some (TV.v (.vslice (some (Heap.next x)) 1 1 1 [IV.int .u32 (y42b n0 n1 n2 n3)])) = some (TV.v
 (IV.vslice (y42k h) (List.length (encT l x_1.1)) (List.length (encT l x_1.1)) 1 (List.map y42h (encT l x_1.1)))) /\ some (y42a l e1) = some (y42a l e1) /\ some y42i = some (TV.v (.int .i64 (↑x_1.1 : Int))) /\ Heap.push x y42l = x_1.2 /\ ((((1 :
 Nat) <= x_1.1 /\ x_1.1 <= l.length) /\ ∀ (j : Nat) (q : j < l.length), j < x_1.1 -> okIn l[j] = true) /\ Heap.get x_1.2 (Heap.next h) = IObj.tip (List.length (encT l x_1.1))) /\ l.length - x_1.1 < l.length))))) (Q (.tuple [.nilslice, IV.int
 .i64 (0 : Int)]) x)) /\ ∀ (x : Nat × Heap) (b : FF), ((1 <= x.1 /\ x.1 <= l.length) /\ ∀ (j : Nat) (q : j < l.length), j < x.1 -> okIn l[j] = true) /\ Heap.get x.2 (Heap.next h) = IObj.tip (List.length (encT l x.1)) -> brS (decide ((↑x.1
 : Int) < (↑l.length : Int))) (needS (decide (0 <= (↑x.1 : Int)) && decide ((↑x.1 : Int) < (↑l.length : Int))) (ldIS .i64 (y42o l) (Int.toNat (↑x.1 : Int) * 5) fun n7 => ldIS .i64 (y42o l) (Int.toNat (↑x.1 : Int) *
 (5 : Nat) + 1) fun n8 => ldIS .i64 (y42o l) (Int.toNat (↑x.1 : Int) * 5 + (1 : Nat) + 1) fun n9 => ldIS .i64 (y42o l) (Int.toNat (↑x.1 : Int) * 5 + (1 : Nat) + 1 + (1 : Nat)) fun n10 => ldIS .i64 (y42o
 l) (Int.toNat (↑x.1 : Int) * 5 + (1 : Nat) + 1 + (1 : Nat) + 1) fun n11 => brS (!validI n7 n8 n9 n10 n11) (Q y42p x.2) (brS (decide (nbI (fmI n7) > 0)) (needS (decide (0 <= nbI (fmI n7))) (needS (decide (0 <= atI (fmI n7))) (tipS
 x.2 (Heap.next h) fun (m12 : Nat) => needS (Nat.beq m12 (List.length (encT l x.1)) && Nat.ble ((List.length (encT l x.1) + 1) * 4) (140737488355328 : Nat)) (brS (n7 == 14) (tipS (Heap.set x.2 (Heap.next h) (IObj.tip (List.length (encT l (Prod.fst
 x)) + 1))) (Heap.next h) fun (m13 : Nat) => needS (Nat.beq m13 (List.length (encT l x.1) + 1) && Nat.ble ((List.length (encT l x.1) + 1 + (2 : Nat)) * 4) (140737488355328 : Nat)) ((∃ (x_1 : Heap), some (TV.v (.vslice (y42k h) (List.length (encT l (Prod.fst
 x)) + 1 + (2 : Nat)) (List.length (encT l x.1) + 1 + (2 : Nat)) 1 (List.map y42h (encT l x.1) ++ (y42d n7 n8 n9 n10 n11) ++ (y42f n11)))) = some y42m /\ some (y42a l e1) = some (y42a l e1) /\ some (TV.v (.int .i64 (IntKind.wrap .i64 ((↑(Prod.fst
 x) : Int) + 1)))) = some y42g /\ Heap.set (Heap.set x.2 (Heap.next h) (IObj.tip (List.length (encT l x.1) + 1))) (Heap.next h) (IObj.tip (List.length (encT l x.1) + 1 + (2 : Nat))) = x_1 /\ Heap.next x_1 = Heap.next h /\ l.length < l.length -
 x.1) \/ ∃ (x_1 : Nat × Heap), some (TV.v (.vslice (y42k h) (List.length (encT l x.1) + 1 + (2 : Nat)) (List.length (encT l x.1) + 1 + (2 : Nat)) 1 (List.map y42h (encT l x.1) ++ (y42d n7 n8 n9 n10 n11) ++ (y42f n11)))) = some (TV.v (.vslice
 (y42k h) (List.length (encT l x_1.1)) (List.length (encT l x_1.1)) (1 : Nat) (List.map y42h (encT l x_1.1)))) /\ some (y42a l e1) = some (y42a l e1) /\ some (TV.v (.int .i64 (IntKind.wrap .i64 ((↑x.1 : Int) + 1)))) = some (TV.v (.int .i64
 (↑x_1.1 : Int))) /\ Heap.set (Heap.set x.2 (Heap.next h) (IObj.tip (List.length (encT l x.1) + 1))) (Heap.next h) (IObj.tip (List.length (encT l x.1) + 1 + (2 : Nat))) = x_1.2 /\ (((1 <= x_1.1 /\ x_1.1 <= l.length) /\ ∀ (j
 : Nat) (q : j < l.length), j < x_1.1 -> okIn l[j] = true) /\ Heap.get x_1.2 (Heap.next h) = IObj.tip (List.length (encT l x_1.1))) /\ l.length - x_1.1 < l.length - x.1)) ((∃ (x_1 : Heap), some (TV.v (.vslice (y42k h) (List.length (encT l (Prod.fst
 x)) + 1) (List.length (encT l x.1) + 1) 1 (List.map y42h (encT l x.1) ++ (y42d n7 n8 n9 n10 n11)))) = some y42m /\ some (y42a l e1) = some (y42a l e1) /\ some (TV.v (.int .i64 (IntKind.wrap .i64 ((↑x.1 : Int) + 1)))) = some y42g
 /\ Heap.set x.2 (Heap.next h) (IObj.tip (List.length (encT l x.1) + 1)) = x_1 /\ Heap.next x_1 = Heap.next h /\ l.length < l.length - x.1) \/ ∃ (x_1 : Nat × Heap), some (TV.v (.vslice (y42k h) (List.length (encT l x.1) + 1) (List.length (encT
 l x.1) + 1) 1 (List.map y42h (encT l x.1) ++ (y42d n7 n8 n9 n10 n11)))) = some (TV.v (.vslice (y42k h) (List.length (encT l x_1.1)) (List.length (encT l x_1.1)) 1 (List.map y42h (encT l x_1.1)))) /\ some (y42a l e1) = some (y42a l
 e1) /\ some (TV.v (.int .i64 (IntKind.wrap .i64 ((↑x.1 : Int) + 1)))) = some (TV.v (.int .i64 (↑x_1.1 : Int))) /\ Heap.set x.2 (Heap.next h) (IObj.tip (List.length (encT l x.1) + 1)) = x_1.2 /\ (((1 <= x_1.1
 /\ x_1.1 <= l.length) /\ ∀ (j : Nat) (q : j < l.length), j < x_1.1 -> okIn l[j] = true) /\ Heap.get x_1.2 (Heap.next h) = IObj.tip (List.length (encT l x_1.1))) /\ l.length - x_1.1 < l.length - x.1))))) (tipS x.2 (Heap.next h) fun (m14
 : Nat) => needS (Nat.beq m14 (List.length (encT l x.1)) && Nat.ble ((List.length (encT l x.1) + 1) * 4) (140737488355328 : Nat)) (brS (n7 == 14) (tipS (Heap.set x.2 (Heap.next h) (IObj.tip (List.length (encT l x.1) + 1))) (Heap.next
 h) fun (m15 : Nat) => needS (Nat.beq m15 (List.length (encT l x.1) + 1) && Nat.ble ((List.length (encT l x.1) + 1 + (2 : Nat)) * 4) (140737488355328 : Nat)) ((∃ (x_1 : Heap), some (TV.v (.vslice (y42k h) (List.length (encT l x.1) + 1 + (2 :
 Nat)) (List.length (encT l x.1) + 1 + (2 : Nat)) 1 (List.map y42h (encT l x.1) ++ [IV.int .u32 (y42c n7 n8 n9 n10)] ++ (y42f n11)))) = some y42m /\ some (y42a l e1) = some (y42a l e1) /\ some (TV.v (.int .i64 (IntKind.wrap .i64 ((↑x.1 :
 Int) + 1)))) = some y42g /\ Heap.set (Heap.set x.2 (Heap.next h) (IObj.tip (List.length (encT l x.1) + 1))) (Heap.next h) (IObj.tip (List.length (encT l x.1) + 1 + (2 : Nat))) = x_1 /\ Heap.next x_1 = Heap.next h /\ l.length < l.length - Prod.fst
 x) \/ ∃ (x_1 : Nat × Heap), some (TV.v (.vslice (y42k h) (List.length (encT l x.1) + 1 + (2 : Nat)) (List.length (encT l x.1) + 1 + (2 : Nat)) 1 (List.map y42h (encT l x.1) ++ [IV.int .u32 (y42c n7 n8 n9 n10)] ++ (y42f n11)))) = some (TV.v (.vslice
 (y42k h) (List.length (encT l x_1.1)) (List.length (encT l x_1.1)) (1 : Nat) (List.map y42h (encT l x_1.1)))) /\ some (y42a l e1) = some (y42a l e1) /\ some (TV.v (.int .i64 (IntKind.wrap .i64 ((↑x.1 : Int) + 1)))) = some (TV.v (.int .i64
 (↑x_1.1 : Int))) /\ Heap.set (Heap.set x.2 (Heap.next h) (IObj.tip (List.length (encT l x.1) + 1))) (Heap.next h) (IObj.tip (List.length (encT l x.1) + 1 + (2 : Nat))) = x_1.2 /\ (((1 <= x_1.1 /\ x_1.1 <= l.length) /\ ∀ (j
 : Nat) (q : j < l.length), j < x_1.1 -> okIn l[j] = true) /\ Heap.get x_1.2 (Heap.next h) = IObj.tip (List.length (encT l x_1.1))) /\ l.length - x_1.1 < l.length - x.1)) ((∃ (x_1 : Heap), some (TV.v (.vslice (y42k h) (List.length (encT l (Prod.fst
 x)) + 1) (List.length (encT l x.1) + 1) 1 (List.map y42h (encT l x.1) ++ [IV.int .u32 (y42c n7 n8 n9 n10)]))) = some y42m /\ some (y42a l e1) = some (y42a l e1) /\ some (TV.v (.int .i64 (IntKind.wrap .i64 ((↑x.1 : Int) + 1))))
 = some y42g /\ Heap.set x.2 (Heap.next h) (IObj.tip (List.length (encT l x.1) + 1)) = x_1 /\ Heap.next x_1 = Heap.next h /\ l.length < l.length - x.1) \/ ∃ (x_1 : Nat × Heap), some (TV.v (.vslice (y42k h) (List.length (encT l x.1) + 1) (List.length
 (encT l x.1) + 1) 1 (List.map y42h (encT l x.1) ++ [IV.int .u32 (y42c n7 n8 n9 n10)]))) = some (TV.v (.vslice (y42k h) (List.length (encT l x_1.1)) (List.length (encT l x_1.1)) 1 (List.map y42h (encT l x_1.1)))) /\ some (y42a
 l e1) = some (y42a l e1) /\ some (TV.v (.int .i64 (IntKind.wrap .i64 ((↑x.1 : Int) + 1)))) = some (TV.v (.int .i64 (↑x_1.1 : Int))) /\ Heap.set x.2 (Heap.next h) (IObj.tip (List.length (encT l x.1) + 1)) = x_1.2 /\ ((((1
 : Nat) <= x_1.1 /\ x_1.1 <= l.length) /\ ∀ (j : Nat) (q : j < l.length), j < x_1.1 -> okIn l[j] = true) /\ Heap.get x_1.2 (Heap.next h) = IObj.tip (List.length (encT l x_1.1))) /\ l.length - x_1.1 < l.length - x.1)))))) (Q (.tuple [.vslice
 (y42k h) (List.length (encT l x.1)) (List.length (encT l x.1)) (1 : Nat) (List.map y42h (encT l x.1)), IV.int .i64 0]) x.2)) := by kernel_rfl
set_option maxHeartbeats 4000000 in
theorem sREncV : ∀ xs h Q, kREncV xs h Q -> CallW env 42 xs h Q := by
 intro xs h Q hk
 unfold kREncV at hk
 split at hk
 ·rename_i e1 n1 c1
  obtain ⟨l, ⟨rfl, rfl⟩, hb, hk⟩ := hk
  refine dF_run (okREncH) (vREncV l e1 h Q) ?_
  delta y42a y42b y42c y42d y42e y42f y42g y42h y42i y42j y42k y42l y42m y42n y42o y42p
  refine ⟨.inl ⟨h, rfl, rfl, rfl, rfl, rfl, trivial⟩, fun x _ hx => ?_, fun x _ hx => ?_⟩
  ·have hnx : x.next = h.next := hx
   refine brS_intro (fun c1 => needS_intro (by simpa using c1) ?_) (fun c1 => ?_)
   ·have h0 : 0 < l.length := by simp only [decide_eq_true_eq] at c1; omega
    refine (ldIn (i := 0) (o := 0) h0 rfl (brS_intro (fun c2 => ?_) (fun c2 => ?_)))
    ·rw [Bool.not_eq_true'] at c2
     exact hk.2 (fun hall => by
      have hv' : validI l[0].op l[0].a l[0].b l[0].c l[0].n = true := hall _ (List.getElem_mem h0)
      rw [c2] at hv'; cases hv') _
    ·rw [Bool.not_eq_false'] at c2
     obtain ⟨w1, w2⟩ := renc_words c2
     refine brS_intro (fun c3 => needS_intro (by simp [nb_nonneg]) (needS_intro (by simp [nb_nonneg]) (brS_intro (fun c4 => absurd (beq_iff_eq.1 c4) (w1 (by simpa using c3)).1) (fun c4 => ?_)))) (fun c3 => (brS_intro (fun c4 => tip_i (m := 1) (by rw [get_push, if_pos rfl]) (needS_intro rfl ?_)) (fun c4 => ?_)))
     all_goals simp only [decide_eq_true_eq, decide_eq_false_iff_not, beq_iff_eq, beq_eq_false_iff_ne, ne_eq] at c3 c4
     ·have hE := (w1 c3).2
      refine .inr ⟨(1, x.push (.tip 1)), ?_, rfl, rfl, rfl, ⟨⟨⟨Nat.le_refl _, h0⟩, ?_⟩, ?_⟩, by simp only; omega⟩
      ·rw [hnx]; simp only; rw [encT_succ h0, hE]; rfl
      ·intro j q hj
       obtain rfl : j = 0 := by simp only at hj; omega
       exact c2
      ·simp only [get_set, get_push, hnx, if_pos trivial]; rw [encT_succ h0, hE]; rfl
     ·have hE := (w2 c3).1 c4
      refine .inr ⟨(1, (x.push (.tip 1)).set x.next (.tip 3)), ?_, rfl, rfl, rfl, ⟨⟨⟨Nat.le_refl _, h0⟩, ?_⟩, ?_⟩, by simp only; omega⟩
      ·rw [hnx]; simp only; rw [encT_succ h0, hE]; rfl
      ·intro j q hj
       obtain rfl : j = 0 := by simp only at hj; omega
       exact c2
      ·simp only [get_set, get_push, hnx, if_pos trivial]; rw [encT_succ h0, hE]; rfl
     ·have hE := (w2 c3).2 c4
      refine .inr ⟨(1, x.push (.tip 1)), ?_, rfl, rfl, rfl, ⟨⟨⟨Nat.le_refl _, h0⟩, ?_⟩, ?_⟩, by simp only; omega⟩
      ·rw [hnx]; simp only; rw [encT_succ h0, hE]; rfl
      ·intro j q hj
       obtain rfl : j = 0 := by simp only at hj; omega
       exact c2
      ·simp only [get_set, get_push, hnx, if_pos trivial]; rw [encT_succ h0, hE]; rfl
   ·simp only [decide_eq_false_iff_not] at c1
    omega
  ·obtain ⟨i, hp⟩ := x
   obtain ⟨⟨⟨h1, h2⟩, h3⟩, ht⟩ := hx
   simp only at h1 h2 h3 ht
   have tn : ∀ x : Nat, (x : Int).toNat = x := Int.toNat_natCast
   have hle := encT_le l i
   simp only
   refine brS_intro (fun c1 => ?_) (fun c1 => ?_)
   ·simp only [decide_eq_true_eq] at c1
    have h0 : i < l.length := by omega
    refine needS_intro (by simp; omega) (ldIn (i := i) h0 (by rw [tn]) (brS_intro (fun c2 => ?_) (fun c2 => ?_)))
    ·rw [Bool.not_eq_true'] at c2
     exact hk.2 (fun hall => by
      have hv' : validI l[i].op l[i].a l[i].b l[i].c l[i].n = true := hall _ (List.getElem_mem h0)
      rw [c2] at hv'; cases hv') _
    ·rw [Bool.not_eq_false'] at c2
     obtain ⟨w1, w2⟩ := renc_words c2
     refine brS_intro (fun c3 => needS_intro (by simp [nb_nonneg]) (needS_intro (by simp [nb_nonneg]) (tip_i ht (needS_intro (by simp [nbeq_t]; omega) (brS_intro (fun c4 => absurd (beq_iff_eq.1 c4) (w1 (by simpa using c3)).1) (fun c4 => ?_)))))) (fun c3 => (tip_i ht (needS_intro (by simp [nbeq_t]; omega) (brS_intro (fun c4 => tip_i (by rw [get_set, if_pos rfl]) (needS_intro (by simp [nbeq_t]; omega) ?_)) (fun c4 => ?_)))))
     all_goals simp only [decide_eq_true_eq, decide_eq_false_iff_not, beq_iff_eq, beq_eq_false_iff_ne, ne_eq] at c3 c4
     ·have hE := (w1 c3).2
      refine .inr ⟨(i + 1, hp.set h.next (.tip ((encT l i).length + 1))), ?_, (by first | rfl | trivial), ?_, (by first | rfl | trivial), ⟨⟨⟨by simp only; omega, h0⟩, ?_⟩, ?_⟩, by simp only; omega⟩
      ·simp only; rw [encT_succ h0, hE, List.length_append, List.map_append]; simp [Nat.add_assoc]
      ·rw [IntWalk.i64_in _ (by omega)]; rfl
      ·intro j q hj
       rcases Nat.lt_or_ge j i with z | z
       ·exact h3 j q z
       ·obtain rfl : j = i := by simp only at hj; omega
        exact c2
      ·simp only [get_set, if_pos trivial]; rw [encT_succ h0, hE, List.length_append]; simp [Nat.add_assoc]
     ·have hE := (w2 c3).1 c4
      refine .inr ⟨(i + 1, (hp.set h.next (.tip ((encT l i).length + 1))).set h.next (.tip ((encT l i).length + 1 + 2))), ?_, (by first | rfl | trivial), ?_, (by first | rfl | trivial), ⟨⟨⟨by simp only; omega, h0⟩, ?_⟩, ?_⟩, by simp only; omega⟩
      ·simp only; rw [encT_succ h0, hE, List.length_append, List.map_append]; simp [Nat.add_assoc]
      ·rw [IntWalk.i64_in _ (by omega)]; rfl
      ·intro j q hj
       rcases Nat.lt_or_ge j i with z | z
       ·exact h3 j q z
       ·obtain rfl : j = i := by simp only at hj; omega
        exact c2
      ·simp only [get_set, if_pos trivial]; rw [encT_succ h0, hE, List.length_append]; simp [Nat.add_assoc]
     ·have hE := (w2 c3).2 c4
      refine .inr ⟨(i + 1, hp.set h.next (.tip ((encT l i).length + 1))), ?_, (by first | rfl | trivial), ?_, (by first | rfl | trivial), ⟨⟨⟨by simp only; omega, h0⟩, ?_⟩, ?_⟩, by simp only; omega⟩
      ·simp only; rw [encT_succ h0, hE, List.length_append, List.map_append]; simp [Nat.add_assoc]
      ·rw [IntWalk.i64_in _ (by omega)]; rfl
      ·intro j q hj
       rcases Nat.lt_or_ge j i with z | z
       ·exact h3 j q z
       ·obtain rfl : j = i := by simp only at hj; omega
        exact c2
      ·simp only [get_set, if_pos trivial]; rw [encT_succ h0, hE, List.length_append]; simp [Nat.add_assoc]
   ·simp only [decide_eq_false_iff_not] at c1
    obtain rfl : i = l.length := by omega
    rw [encT_all]
    refine hk.1 (fun x hx => ?_) _ _
    obtain ⟨j, hj, rfl⟩ := List.getElem_of_mem hx
    exact h3 j hj hj
 ·exact hk.elim
def cREncV := addC 42 kREncV cREncH
theorem okREncV : Sound env cREncV := sound_add sREncV (okREncH)
def kREncode (xs : List IV) (h : Heap) (K : IV -> Heap -> Prop) : Prop := match xs with
 | [.hslice _ _ _ _] => kREncH xs h K
 | _ => kREncV xs h K
theorem sREncode : ∀ xs h Q, kREncode xs h Q -> CallW env 42 xs h Q := by
 intro xs h Q hk
 unfold kREncode at hk
 split at hk
 ·exact sREncH _ _ _ hk
 ·exact sREncV _ _ _ hk
def cREncode := addC 42 kREncode cREncV
theorem okREncode : Sound env cREncode := sound_add sREncode okREncV
end Go.Proofs.YtlenjfbmpekabaaDoor
