/-
  Terms: what the program reads.
  Conditions: none.
-/
import Derived.Test.YthoehkkoaegeoaaFL10
import Derived.Test.YthoehkkoaegeoaaZL10
import Derived.KernelRfl
set_option linter.unusedVariables false
set_option linter.unusedSimpArgs false
namespace Go.Proofs.Ythoehkkoaegeoaa
open Go.Pv Go.M15 Go.M10 Go.M29
def rtInv (id : Nat) (s : List UInt8) (a : Nat) (y : List Nd) (m : Nat) (io : Option Nat) (l : List Nd) (i d : Nat) (h : Heap) : Inv' := atX (Nat × Heap × Option Nat × IV) (fun x => [(0, .v (.ptr id 0)), (8, .v (.int .i64 (l.getD i default).op)), (9, .v (.int .i64 (l.getD i default).im)), (11, .v x.2.2.2)]) (fun _ => []) (fun x => x.2.1)
  (fun x => x.1 ≤ (l.getD i default).ks.length ∧ RH x.2.1 id s (a + (1 + ((hdT (l.getD i default).op (l.getD i default).im).length + (kdT (tsA l) ((l.getD i default).ks.take x.1)).length))) (rkA (rdA l d) y ((l.getD i default).ks.take x.1)).1 m x.2.2.1 ∧ RK5 l y ((l.getD i default).ks.take x.1) (rkA (rdA l d) y ((l.getD i default).ks.take x.1)) ∧ KVr x.2.2.2 (rkA (rdA l d) y ((l.getD i default).ks.take x.1)).2 x.2.1 id m x.2.2.1 h.next ∧ FRo id m io h x.2.1 ∧ IOk h io x.2.2.1)
  (fun x => (l.getD i default).ks.length - x.1)
def kRTerm (d : Nat) (xs : List IV) (h : Heap) (K : IV → Heap → Prop) : Prop := match xs with
  | [.ptr id 0] => ∃ (s : List UInt8) (a : Nat) (y : List Nd) (m : Nat) (io : Option Nat) (l : List Nd) (i : Nat) (r : List UInt8), RH h id s a y m io ∧ (s.drop a = T10 l i ++ r ∧ a ≤ s.length ∧ s.length ≤ 20000 ∧ Dl r) ∧ (RG5 l l ∧ RG5 l y ∧ i < d ∧ i < l.length) ∧
   ∀ (h2 : Heap) (io2 : Option Nat), RH h2 id s (a + (T10 l i).length) (rdA l d y i).1 m io2 → FRo id m io h h2 → IOk h io io2 → K (.int .i64 (rdA l d y i).2) h2
  | _ => False
set_option maxRecDepth 100000 in
theorem vRTerm (dd : Nat) (id : Nat) (s : List UInt8) (a : Nat) (y : List Nd) (m : Nat) (io : Option Nat) (l : List Nd) (i : Nat) (r : List UInt8) (h : Heap) (Q : IV → Heap → Prop) : dF (stdS (addC 25 (kRTerm dd) cRPut)) env 25 noU (ic1 20 (rtInv id s a y m io l i dd h)) noI [.ptr id 0] h Q = (
  hgetS h id fun (r0 : List IV) =>
 ldBS r0 (2 : Nat) fun (b1 : Bool) =>
 brS b1 (Q (IV.int IntKind.i64 (0 : Int)) h)
 (∃ (s_1 : List UInt8),
 ∃ (a_1 : Nat),
 ∃ (y_1 : List Nd),
 ∃ (m_1 : Nat),
 ∃ (io_1 : Option Nat),
 RH h id s_1 a_1 y_1 m_1 io_1 ∧
 List.length s_1 ≤ (20000 : Nat) ∧
 brS (!nx s_1 a_1 (40 : Int))
 (∃ (s : List UInt8),
 ∃ (a : Nat),
 ∃ (y : List Nd),
 ∃ (m : Nat),
 ∃ (io : Option Nat),
 ∃ (w : List UInt8),
 ∃ (r : List UInt8),
 RH h id s a y m io ∧
 (List.drop a s = w ++ r ∧ a ≤ List.length s ∧ List.length s ≤ (20000 : Nat)) ∧
 (∀ (c : UInt8), c ∈ w → wd c) ∧
 We r ∧
 ∃ (op : Int),
 ∃ (im : Int),
 LfOk op im ∧
 w = lfT op im ∧
 hgetS h id fun (r2 : List IV) =>
 ldIS IntKind.i64 r2 (1 : Nat) fun (n3 : Int) =>
 hgetS h id fun (r4 : List IV) =>
 needS (Nat.ble (2 : Nat) (List.length r4))
 (∃ (ks : List Int),
 KA IV.nilslice ks ∧
 ∃ (s : List UInt8),
 ∃ (a : Nat),
 ∃ (y : List Nd),
 ∃ (m : Nat),
 ∃ (io : Option Nat),
 RH (Heap.set h id (IObj.cells (List.take (1 : Nat) r4 ++ [IV.int IntKind.i64 (IntKind.wrap IntKind.i64 (n3 + (↑(List.length w) : Int)))] ++ List.drop (2 : Nat) r4)))
 id s a y m io ∧
 (okY (Nd.mk op im ks) ∧ (∀ (x : Nd), x ∈ y → okY x) ∧ List.length y ≤ (1000000 : Nat) ∧ List.length ks ≤ (1000000 : Nat)) ∧
 ∀ (h2 : Heap) (io2 : Option Nat),
 RH h2 id s a (Prod.fst (putA y (Nd.mk op im ks))) m io2 →
 FRo id m io
 (Heap.set h id
 (IObj.cells (List.take (1 : Nat) r4 ++ [IV.int IntKind.i64 (IntKind.wrap IntKind.i64 (n3 + (↑(List.length w) : Int)))] ++ List.drop (2 : Nat) r4)))
 h2 →
 IOk
 (Heap.set h id
 (IObj.cells (List.take (1 : Nat) r4 ++ [IV.int IntKind.i64 (IntKind.wrap IntKind.i64 (n3 + (↑(List.length w) : Int)))] ++ List.drop (2 : Nat) r4)))
 io io2 →
 Q (IV.int IntKind.i64 (Prod.snd (putA y (Nd.mk op im ks)))) h2))
 (hgetS h id fun (r5 : List IV) =>
 ldIS IntKind.i64 r5 (1 : Nat) fun (n6 : Int) =>
 hgetS h id fun (r7 : List IV) =>
 needS (Nat.ble (2 : Nat) (List.length r7))
 (∃ (s_2 : List UInt8),
 ∃ (a_2 : Nat),
 ∃ (y_2 : List Nd),
 ∃ (m_2 : Nat),
 ∃ (io_2 : Option Nat),
 ∃ (w : List UInt8),
 ∃ (r : List UInt8),
 RH (Heap.set h id (IObj.cells (List.take (1 : Nat) r7 ++ [IV.int IntKind.i64 (IntKind.wrap IntKind.i64 (n6 + (1 : Int)))] ++ List.drop (2 : Nat) r7))) id s_2 a_2 y_2 m_2 io_2 ∧
 (List.drop a_2 s_2 = w ++ r ∧ a_2 ≤ List.length s_2 ∧ List.length s_2 ≤ (20000 : Nat)) ∧
 (∀ (c : UInt8), c ∈ w → wd c) ∧
 We r ∧
 ∃ (op : Int),
 ∃ (im : Int),
 OpOk op im ∧
 w = hdT op im ∧
 hgetS (Heap.set h id (IObj.cells (List.take (1 : Nat) r7 ++ [IV.int IntKind.i64 (IntKind.wrap IntKind.i64 (n6 + (1 : Int)))] ++ List.drop (2 : Nat) r7))) id fun (r8 : List IV) =>
 ldIS IntKind.i64 r8 (1 : Nat) fun (n9 : Int) =>
 hgetS (Heap.set h id (IObj.cells (List.take (1 : Nat) r7 ++ [IV.int IntKind.i64 (IntKind.wrap IntKind.i64 (n6 + (1 : Int)))] ++ List.drop (2 : Nat) r7))) id
 fun (r10 : List IV) =>
 needS (Nat.ble (2 : Nat) (List.length r10))
 ((∃ (x : Nat × Heap × Option Nat × IV),
 some (TV.v (IV.ptr id (0 : Nat))) = some (TV.v (IV.ptr id (0 : Nat))) ∧
 some (TV.v (IV.int IntKind.i64 op)) = some (TV.v (IV.int IntKind.i64 (Nd.op (List.getD l i default)))) ∧
 some (TV.v (IV.int IntKind.i64 im)) = some (TV.v (IV.int IntKind.i64 (Nd.im (List.getD l i default)))) ∧
 some (TV.v IV.nilslice) = some (TV.v (Prod.snd (Prod.snd (Prod.snd x)))) ∧
 Heap.set (Heap.set h id (IObj.cells (List.take (1 : Nat) r7 ++ [IV.int IntKind.i64 (IntKind.wrap IntKind.i64 (n6 + (1 : Int)))] ++ List.drop (2 : Nat) r7))) id
 (IObj.cells (List.take (1 : Nat) r10 ++ [IV.int IntKind.i64 (IntKind.wrap IntKind.i64 (n9 + (↑(List.length w) : Int)))] ++ List.drop (2 : Nat) r10)) =
 Prod.fst (Prod.snd x) ∧
 (Prod.fst x ≤ List.length (Nd.ks (List.getD l i default)) ∧
 RH (Prod.fst (Prod.snd x)) id s
 (a +
 ((1 : Nat) +
 (List.length (hdT (Nd.op (List.getD l i default)) (Nd.im (List.getD l i default))) +
 List.length (kdT (tsA l) (List.take (Prod.fst x) (Nd.ks (List.getD l i default)))))))
 (Prod.fst (rkA (rdA l dd) y (List.take (Prod.fst x) (Nd.ks (List.getD l i default))))) m (Prod.fst (Prod.snd (Prod.snd x))) ∧
 RK5 l y (List.take (Prod.fst x) (Nd.ks (List.getD l i default))) (rkA (rdA l dd) y (List.take (Prod.fst x) (Nd.ks (List.getD l i default)))) ∧
 KVr (Prod.snd (Prod.snd (Prod.snd x))) (Prod.snd (rkA (rdA l dd) y (List.take (Prod.fst x) (Nd.ks (List.getD l i default))))) (Prod.fst (Prod.snd x))
 id m (Prod.fst (Prod.snd (Prod.snd x))) (Heap.next h) ∧
 FRo id m io h (Prod.fst (Prod.snd x)) ∧ IOk h io (Prod.fst (Prod.snd (Prod.snd x)))) ∧
 True) ∧
 ∀ (x : Nat × Heap × Option Nat × IV) (b : FF),
 Prod.fst x ≤ List.length (Nd.ks (List.getD l i default)) ∧
 RH (Prod.fst (Prod.snd x)) id s
 (a +
 ((1 : Nat) +
 (List.length (hdT (Nd.op (List.getD l i default)) (Nd.im (List.getD l i default))) +
 List.length (kdT (tsA l) (List.take (Prod.fst x) (Nd.ks (List.getD l i default)))))))
 (Prod.fst (rkA (rdA l dd) y (List.take (Prod.fst x) (Nd.ks (List.getD l i default))))) m (Prod.fst (Prod.snd (Prod.snd x))) ∧
 RK5 l y (List.take (Prod.fst x) (Nd.ks (List.getD l i default))) (rkA (rdA l dd) y (List.take (Prod.fst x) (Nd.ks (List.getD l i default)))) ∧
 KVr (Prod.snd (Prod.snd (Prod.snd x))) (Prod.snd (rkA (rdA l dd) y (List.take (Prod.fst x) (Nd.ks (List.getD l i default))))) (Prod.fst (Prod.snd x)) id m
 (Prod.fst (Prod.snd (Prod.snd x))) (Heap.next h) ∧
 FRo id m io h (Prod.fst (Prod.snd x)) ∧ IOk h io (Prod.fst (Prod.snd (Prod.snd x))) →
 ∃ (s_3 : List UInt8),
 ∃ (a_4 : Nat),
 ∃ (y_3 : List Nd),
 ∃ (m_3 : Nat),
 ∃ (io_3 : Option Nat),
 RH (Prod.fst (Prod.snd x)) id s_3 a_4 y_3 m_3 io_3 ∧
 List.length s_3 ≤ (20000 : Nat) ∧
 brS (nx s_3 a_4 (32 : Int))
 (hgetS (Prod.fst (Prod.snd x)) id fun (r11 : List IV) =>
 ldIS IntKind.i64 r11 (1 : Nat) fun (n12 : Int) =>
 hgetS (Prod.fst (Prod.snd x)) id fun (r13 : List IV) =>
 needS (Nat.ble (2 : Nat) (List.length r13))
 (∃ (s_4 : List UInt8),
 ∃ (a_5 : Nat),
 ∃ (y_4 : List Nd),
 ∃ (m_4 : Nat),
 ∃ (io_4 : Option Nat),
 ∃ (l_1 : List Nd),
 ∃ (i_1 : Nat),
 ∃ (r : List UInt8),
 RH
 (Heap.set (Prod.fst (Prod.snd x)) id
 (IObj.cells
 (List.take (1 : Nat) r13 ++ [IV.int IntKind.i64 (IntKind.wrap IntKind.i64 (n12 + (1 : Int)))] ++
 List.drop (2 : Nat) r13)))
 id s_4 a_5 y_4 m_4 io_4 ∧
 (List.drop a_5 s_4 = T10 l_1 i_1 ++ r ∧ a_5 ≤ List.length s_4 ∧ List.length s_4 ≤ (20000 : Nat) ∧ Dl r) ∧
 (RG5 l_1 l_1 ∧ RG5 l_1 y_4 ∧ i_1 < dd ∧ i_1 < List.length l_1) ∧
 ∀ (h2 : Heap) (io2 : Option Nat),
 RH h2 id s_4 (a_5 + List.length (T10 l_1 i_1)) (Prod.fst (rdA l_1 dd y_4 (↑i_1 : Int))) m_4 io2 →
 FRo id m_4 io_4
 (Heap.set (Prod.fst (Prod.snd x)) id
 (IObj.cells
 (List.take (1 : Nat) r13 ++ [IV.int IntKind.i64 (IntKind.wrap IntKind.i64 (n12 + (1 : Int)))] ++
 List.drop (2 : Nat) r13)))
 h2 →
 IOk
 (Heap.set (Prod.fst (Prod.snd x)) id
 (IObj.cells
 (List.take (1 : Nat) r13 ++ [IV.int IntKind.i64 (IntKind.wrap IntKind.i64 (n12 + (1 : Int)))] ++
 List.drop (2 : Nat) r13)))
 io_4 io2 →
 appGS h2 (1 : Nat) (8 : Nat) (Prod.snd (Prod.snd (Prod.snd x))) (1 : Nat)
 [IV.int IntKind.i64 (Prod.snd (rdA l_1 dd y_4 (↑i_1 : Int)))]
 fun (i14 e15 l16 : Nat) (c17 : List IV) (g18 : Heap) =>
 ∃ (x_1 : Nat × Heap × Option Nat × IV),
 some (TV.v (IV.ptr id (0 : Nat))) = some (TV.v (IV.ptr id (0 : Nat))) ∧
 some (TV.v (IV.int IntKind.i64 (Nd.op (List.getD l i default)))) =
 some (TV.v (IV.int IntKind.i64 (Nd.op (List.getD l i default)))) ∧
 some (TV.v (IV.int IntKind.i64 (Nd.im (List.getD l i default)))) =
 some (TV.v (IV.int IntKind.i64 (Nd.im (List.getD l i default)))) ∧
 some (TV.v (IV.vslice (some i14) e15 l16 (1 : Nat) c17)) =
 some (TV.v (Prod.snd (Prod.snd (Prod.snd x_1)))) ∧
 g18 = Prod.fst (Prod.snd x_1) ∧
 (Prod.fst x_1 ≤ List.length (Nd.ks (List.getD l i default)) ∧
 RH (Prod.fst (Prod.snd x_1)) id s
 (a +
 ((1 : Nat) +
 (List.length (hdT (Nd.op (List.getD l i default)) (Nd.im (List.getD l i default))) +
 List.length
 (kdT (tsA l) (List.take (Prod.fst x_1) (Nd.ks (List.getD l i default)))))))
 (Prod.fst (rkA (rdA l dd) y (List.take (Prod.fst x_1) (Nd.ks (List.getD l i default))))) m
 (Prod.fst (Prod.snd (Prod.snd x_1))) ∧
 RK5 l y (List.take (Prod.fst x_1) (Nd.ks (List.getD l i default)))
 (rkA (rdA l dd) y (List.take (Prod.fst x_1) (Nd.ks (List.getD l i default)))) ∧
 KVr (Prod.snd (Prod.snd (Prod.snd x_1)))
 (Prod.snd
 (rkA (rdA l dd) y (List.take (Prod.fst x_1) (Nd.ks (List.getD l i default)))))
 (Prod.fst (Prod.snd x_1)) id m (Prod.fst (Prod.snd (Prod.snd x_1))) (Heap.next h) ∧
 FRo id m io h (Prod.fst (Prod.snd x_1)) ∧
 IOk h io (Prod.fst (Prod.snd (Prod.snd x_1)))) ∧
 List.length (Nd.ks (List.getD l i default)) - Prod.fst x_1 <
 List.length (Nd.ks (List.getD l i default)) - Prod.fst x))
 (∃ (s : List UInt8),
 ∃ (a : Nat),
 ∃ (y : List Nd),
 ∃ (m : Nat),
 ∃ (io : Option Nat),
 RH (Prod.fst (Prod.snd x)) id s a y m io ∧
 List.length s ≤ (20000 : Nat) ∧
 brS (!nx s a (41 : Int))
 (hgetS (Prod.fst (Prod.snd x)) id fun (r19 : List IV) =>
 needS (Nat.ble (3 : Nat) (List.length r19))
 (Q (IV.int IntKind.i64 (0 : Int))
 (Heap.set (Prod.fst (Prod.snd x)) id (IObj.cells (List.take (2 : Nat) r19 ++ [IV.bool true] ++ List.drop (3 : Nat) r19)))))
 (hgetS (Prod.fst (Prod.snd x)) id fun (r20 : List IV) =>
 ldIS IntKind.i64 r20 (1 : Nat) fun (n21 : Int) =>
 hgetS (Prod.fst (Prod.snd x)) id fun (r22 : List IV) =>
 needS (Nat.ble (2 : Nat) (List.length r22))
 (∃ (ks : List Int),
 KA (Prod.snd (Prod.snd (Prod.snd x))) ks ∧
 ∃ (s : List UInt8),
 ∃ (a : Nat),
 ∃ (y : List Nd),
 ∃ (m : Nat),
 ∃ (io : Option Nat),
 RH
 (Heap.set (Prod.fst (Prod.snd x)) id
 (IObj.cells
 (List.take (1 : Nat) r22 ++ [IV.int IntKind.i64 (IntKind.wrap IntKind.i64 (n21 + (1 : Int)))] ++
 List.drop (2 : Nat) r22)))
 id s a y m io ∧
 (okY (Nd.mk (Nd.op (List.getD l i default)) (Nd.im (List.getD l i default)) ks) ∧
 (∀ (x : Nd), x ∈ y → okY x) ∧ List.length y ≤ (1000000 : Nat) ∧ List.length ks ≤ (1000000 : Nat)) ∧
 ∀ (h2 : Heap) (io2 : Option Nat),
 RH h2 id s a
 (Prod.fst (putA y (Nd.mk (Nd.op (List.getD l i default)) (Nd.im (List.getD l i default)) ks))) m io2 →
 FRo id m io
 (Heap.set (Prod.fst (Prod.snd x)) id
 (IObj.cells
 (List.take (1 : Nat) r22 ++ [IV.int IntKind.i64 (IntKind.wrap IntKind.i64 (n21 + (1 : Int)))] ++
 List.drop (2 : Nat) r22)))
 h2 →
 IOk
 (Heap.set (Prod.fst (Prod.snd x)) id
 (IObj.cells
 (List.take (1 : Nat) r22 ++
 [IV.int IntKind.i64 (IntKind.wrap IntKind.i64 (n21 + (1 : Int)))] ++
 List.drop (2 : Nat) r22)))
 io io2 →
 Q
 (IV.int IntKind.i64
 (Prod.snd (putA y (Nd.mk (Nd.op (List.getD l i default)) (Nd.im (List.getD l i default)) ks))))
 h2)))))))) := by kernel_rfl
set_option maxHeartbeats 2000000 in
theorem rRTerm : ∀ d xs h Q, kRTerm d xs h Q → CallW env 25 xs h Q := by
  intro d
  induction d with
  | zero =>
    intro xs h Q hk
    unfold kRTerm at hk
    split at hk
    · rename_i id
      obtain ⟨s, a, y, m, io, l, i, r, hr, hs, hg, hk⟩ := hk
      have := hg.2.2.1
      omega
    · exact hk.elim
  | succ dd ih =>
    intro xs h Q hk
    unfold kRTerm at hk
    split at hk
    · rename_i id
      obtain ⟨s, a, y, m, io, l, i, r, hr, hs, hg, hk⟩ := hk
      refine dF_run (sound_add ih (okRPut)) (vRTerm dd id s a y m io l i r h Q) ?_
      obtain ⟨hd, hal, hsl, hdl⟩ := hs
      obtain ⟨gl, gy, hid, hil⟩ := hg
      obtain ⟨_, gm, lv, gi, hlv⟩ := (show RH h id s a y m io from hr)
      have hli := List.getElem?_eq_getElem hil
      have eD := getD_at hil
      have hn := gl.ok _ (List.getElem_mem hil)
      have htl := gl.tl _ (List.getElem_mem hil)
      have hrd : rdA l (dd + 1) y i = putA (rkA (rdA l dd) y l[i].ks).1 ⟨l[i].op, l[i].im, (rkA (rdA l dd) y l[i].ks).2⟩ := by
        rw [rdA]; simp only [Int.toNat_natCast, getD_at hil]
      have hlen : s.length = a + ((T10 l i).length + r.length) := by
        have := congrArg List.length hd
        rw [List.length_drop, List.length_append] at this
        omega
      simp only [eD]
      refine hget_intro gi (ldB_at rfl (brS_intro (fun c => by cases c) (fun _ => ⟨s, a, y, m, io, hr, hsl, ?_⟩)))
      by_cases hf : lf l[i].op = true
      · have hT := T10_leaf gl.bk hil hf
        have hks := htl.2.2.2.2 hf
        have hLf : LfOk l[i].op l[i].im := ⟨hf, hn.2.2.1.1, hn.1.2.2.1, hn.2.2.2.1⟩
        rw [hT] at hd hlen
        have hnx : nx s a 40 = false := by
          obtain ⟨c, q, e⟩ := lfT_nz (im := l[i].im) hf
          rw [e] at hd
          rw [nx_cons hd, show (40 : Int) = ((40 : UInt8).toNat : Int) from rfl, u8_eq, decide_eq_false_iff_not]
          exact (lfT_wd l[i].op l[i].im c (by rw [e]; exact List.mem_cons_self)).2.1
        rw [hnx]
        refine brS_intro (fun _ => ?_) (fun c => by cases c)
        refine ⟨s, a, y, m, io, lfT l[i].op l[i].im, r, hr, ⟨hd, hal, hsl⟩, lfT_wd _ _, hdl.we, l[i].op, l[i].im, hLf, rfl, hget_intro gi (ldI_at rfl (hget_intro gi (needS_intro rfl ⟨[], KA.nil, s, a + (lfT l[i].op l[i].im).length, y, m, io, hr.adv gi _ (by omega), ⟨⟨hn.1.1, hn.1.2.1, hn.1.2.2.1, fun k hk => (List.not_mem_nil hk).elim⟩, fun x hx => (gy.ok x hx).1, gy.lb, Nat.zero_le _⟩, fun h2 io2 r2 f2 k2 => ?_⟩)))⟩
        have hrd2 : rdA l (dd + 1) y i = putA y ⟨l[i].op, l[i].im, []⟩ := by rw [hrd, hks]; rfl
        rw [hrd2, hT] at hk
        exact hk h2 io2 r2 (FRo.setId.trans IOk.refl f2) k2
      · rw [Bool.not_eq_true] at hf
        have hT := T10_node gl.bk hil hf
        rw [hT] at hd hlen
        have hOp : OpOk l[i].op l[i].im := by
          refine ⟨?_, fun e => ?_, hn.1.2.2.1, hn.2.2.2.1⟩
          · rcases htl.1 with q | q
            · rw [q] at hf; cases hf
            · exact q
          · rw [e] at hf; cases hf
        have hd0 : s.drop a = 40 :: (hdT l[i].op l[i].im ++ (kdT (tsA l) l[i].ks ++ 41 :: r)) := by rw [hd]; simp
        have hl0 : s.length = a + (1 + ((hdT l[i].op l[i].im).length + ((kdT (tsA l) l[i].ks).length + (1 + r.length)))) := by
          rw [hlen]; simp; omega
        have hnx : nx s a 40 = true := nx_cons hd0 40
        rw [hnx]
        refine brS_intro (fun c => by cases c) (fun _ => ?_)
        have hd1 : s.drop (a + 1) = hdT l[i].op l[i].im ++ (kdT (tsA l) l[i].ks ++ 41 :: r) := drop_app (t := [40]) hd0 1 rfl
        have hd2 := drop_app hd1 _ rfl
        have r1 := hr.adv gi 1 (by omega)
        have g1 : (h.set id (.cells [.str s, .int .i64 (IntKind.i64.wrap ((a : Int) + ((1 : Nat) : Int))), .bool false, lv, .map m])).get id = _ := RH.advg 1 (by omega)
        have r2 := r1.adv g1 (hdT l[i].op l[i].im).length (by omega)
        have f2 : FRo id m io h _ := (FRo.setId (x := .cells [.str s, .int .i64 (IntKind.i64.wrap ((a : Int) + ((1 : Nat) : Int))), .bool false, lv, .map m])).trans IOk.refl (FRo.setId (x := .cells [.str s, .int .i64 (IntKind.i64.wrap (((a + 1 : Nat) : Int) + ((hdT l[i].op l[i].im).length : Int))), .bool false, lv, .map m]))
        have ep : a + 1 + (hdT l[i].op l[i].im).length = a + (1 + ((hdT l[i].op l[i].im).length + (kdT (tsA l) (l[i].ks.take 0)).length)) := by
          rw [List.take_zero, show kdT (tsA l) [] = [] from rfl, List.length_nil]; omega
        rw [ep] at r2
        refine hget_intro gi (ldI_at rfl (hget_intro gi (needS_intro rfl ⟨s, a + 1, y, m, io, hdT l[i].op l[i].im, kdT (tsA l) l[i].ks ++ 41 :: r, r1, ⟨hd1, by omega, hsl⟩, hdT_wd _ _, (kdT_dl _ _ _).we, l[i].op, l[i].im, hOp, rfl, hget_intro g1 (ldI_at rfl (hget_intro g1 (needS_intro rfl ⟨⟨(0, _, io, .nilslice), (by first | rfl | exact True.intro), (by first | rfl | exact True.intro), (by first | rfl | exact True.intro), (by first | rfl | exact True.intro), (by first | rfl | exact True.intro), ⟨Nat.zero_le _, r2, RK5.nil gy, .inl ⟨rfl, rfl⟩, f2, IOk.refl⟩, trivial⟩, ?_⟩)))⟩)))
        rintro ⟨j, g, io1, kv⟩ _ ⟨hj, rj, kj, vj, fj, oj⟩
        dsimp only at hj rj kj vj fj oj ⊢
        have hsp : kdT (tsA l) l[i].ks = kdT (tsA l) (l[i].ks.take j) ++ kdT (tsA l) (l[i].ks.drop j) := by rw [← kdT_app, List.take_append_drop]
        have hlp : (kdT (tsA l) l[i].ks).length = (kdT (tsA l) (l[i].ks.take j)).length + (kdT (tsA l) (l[i].ks.drop j)).length := by rw [hsp, List.length_append]
        have hdj : s.drop (a + (1 + ((hdT l[i].op l[i].im).length + (kdT (tsA l) (l[i].ks.take j)).length))) = kdT (tsA l) (l[i].ks.drop j) ++ 41 :: r := by
          rw [hsp, List.append_assoc] at hd2
          rw [← drop_app hd2 _ rfl]
          congr 1
          omega
        generalize hp : a + (1 + ((hdT l[i].op l[i].im).length + (kdT (tsA l) (l[i].ks.take j)).length)) = p at rj hdj
        generalize hP : rkA (rdA l dd) y (l[i].ks.take j) = P at rj kj vj
        obtain ⟨_, gmj, lvj, gij, hlvj⟩ := (show RH g id s p P.1 m io1 from rj)
        refine ⟨s, p, P.1, m, io1, rj, hsl, ?_⟩
        by_cases hjl : j < l[i].ks.length
        · have hkid := gl.bk i _ hli _ (List.getElem_mem hjl)
          have htk : (l[i].ks[j].toNat : Int) = l[i].ks[j] := Int.toNat_of_nonneg hkid.1
          rw [List.drop_eq_getElem_cons hjl, kdT_cons] at hdj hlp
          have hnx2 : nx s p 32 = true := nx_cons (q := (T10 l l[i].ks[j].toNat ++ kdT (tsA l) (l[i].ks.drop (j + 1))) ++ 41 :: r) hdj 32
          have hd3 : s.drop (p + 1) = T10 l l[i].ks[j].toNat ++ (kdT (tsA l) (l[i].ks.drop (j + 1)) ++ 41 :: r) := by
            rw [← List.append_assoc]
            exact drop_app (t := [32]) hdj 1 rfl
          simp only [List.length_cons, List.length_append] at hlp
          rw [hnx2]
          refine brS_intro (fun _ => ?_) (fun c => by cases c)
          refine hget_intro gij (ldI_at rfl (hget_intro gij (needS_intro rfl ⟨s, p + 1, P.1, m, io1, l, l[i].ks[j].toNat, kdT (tsA l) (l[i].ks.drop (j + 1)) ++ 41 :: r, rj.adv gij 1 (by omega), ⟨hd3, by omega, hsl, kdT_dl _ _ _⟩, ⟨gl, kj.g, by omega, by omega⟩, fun h2 io2 r2 f2 o2 => ?_⟩)))
          have hrr := rdA_ok5 gl dd P.1 l[i].ks[j].toNat (by omega) (by omega) kj.g
          rw [htk] at r2 hrr ⊢
          have v2 : KVr kv P.2 h2 id m io2 h.next := vj.setId.step f2 o2
          have fg : FRo id m io1 g h2 := FRo.setId.trans IOk.refl f2
          have hP2 : P.2.length = j := by
            have := congrArg List.length kj.t
            simpa [Nat.le_of_lt hjl] using this
          refine app_kids v2.app (by have := hn.2.1; omega) (fun kk h3 kh3 hf3 hor => ?_)
          have hnw := v2.new r2.lts (Nat.le_trans fj.1 fg.1) kh3 hor
          have hPj : rkA (rdA l dd) y (l[i].ks.take (j + 1)) = ((rdA l dd P.1 l[i].ks[j]).1, P.2 ++ [(rdA l dd P.1 l[i].ks[j]).2]) := by rw [rkA_take hjl, hP]
          have eq1 : p + 1 + (T10 l l[i].ks[j].toNat).length = a + (1 + ((hdT l[i].op l[i].im).length + (kdT (tsA l) (l[i].ks.take (j + 1))).length)) := by
            rw [kdT_take hjl, ← hp]
            simp only [List.length_append, List.length_cons, List.length_nil, T10]
            omega
          refine ⟨(j + 1, h3, io2, _), (by first | rfl | exact True.intro), (by first | rfl | exact True.intro), (by first | rfl | exact True.intro), (by first | rfl | exact True.intro), (by first | rfl | exact True.intro), ⟨hjl, ?_, ?_, ?_, (fj.trans oj fg).hf hf3 hnw.2.2, oj.trans fj.1 o2⟩, by dsimp only; omega⟩
          · dsimp only
            rw [hPj, ← eq1]
            exact r2.frameK hnw.2.1 hf3
          · dsimp only
            rw [hPj, List.take_succ_eq_append_getElem hjl]
            exact kj.snoc hrr
          · dsimp only
            rw [hPj]
            exact hnw.1
        · have hje : j = l[i].ks.length := by omega
          have hd4 : s.drop p = 41 :: r := by rw [hdj, List.drop_eq_nil_of_le (by omega)]; rfl
          rw [List.drop_eq_nil_of_le (by omega), show kdT (tsA l) [] = [] from rfl, List.length_nil] at hlp
          have hnx2 : nx s p 32 = false := nx_cons hd4 32
          have hnx3 : nx s p 41 = true := nx_cons hd4 41
          rw [hnx2]
          refine brS_intro (fun c => by cases c) (fun _ => ⟨s, p, P.1, m, io1, rj, hsl, ?_⟩)
          rw [hnx3]
          refine brS_intro (fun c => by cases c) (fun _ => ?_)
          rw [hje, List.take_length] at hP kj
          have hlb := kj.g.lb
          have hP2 : P.2.length = l[i].ks.length := by
            have := congrArg List.length kj.t
            simpa using this
          refine hget_intro gij (ldI_at rfl (hget_intro gij (needS_intro rfl ⟨P.2, vj.ka, s, p + 1, P.1, m, io1, rj.adv gij 1 (by omega), ⟨⟨hn.1.1, hn.1.2.1, hn.1.2.2.1, fun q hq => ?_⟩, fun x hx => (kj.g.ok x hx).1, hlb, by have := hn.2.1; omega⟩, fun h2 io2 r2 f2 o2 => ?_⟩)))
          · have := kj.b q hq
            unfold i64b
            omega
          · rw [hrd, hP, hT] at hk
            have eq2 : p + 1 = a + ((40 :: (hdT l[i].op l[i].im ++ kdT (tsA l) l[i].ks)) ++ [41]).length := by
              rw [← hp]
              simp only [List.length_append, List.length_cons, List.length_nil]
              omega
            rw [← eq2] at hk
            exact hk h2 io2 r2 (fj.trans oj (FRo.setId.trans IOk.refl f2)) (oj.trans fj.1 o2)
    · exact hk.elim
def cRTerm := addC 25 (fun xs h K => ∃ d, kRTerm d xs h K) cRPut
theorem okRTerm : Sound env cRTerm := sound_add (fun xs h Q hk => hk.elim fun d hk => rRTerm d xs h Q hk) (okRPut)

def kPParse (xs : List IV) (h : Heap) (K : IV → Heap → Prop) : Prop := match xs with
  | [.str s] => ∃ (l : List Nd) (i : Nat), (RG5 l l ∧ i < l.length ∧ s = T10 l i ∧ s.length ≤ 20000 ∧ l.length ≤ 2000 ∧ (sortsG (rdA l (i + 1) [] i).1).getD (rdA l (i + 1) [] i).2.toNat 0 ≠ 0) ∧ K (.tuple [.vslice none 0 ((rdA l (i + 1) [] i).1).length 3 (((rdA l (i + 1) [] i).1).flatMap cN), .agg [.int .i64 0, .int .i64 0]]) h
  | _ => False
set_option maxRecDepth 100000 in
theorem vPParse (s : List UInt8) (h : Heap) (Q : IV → Heap → Prop) : dF (stdS cRTerm) env 10 noU noI noI [.str s] h Q = (
  brS (decide ((↑(List.length s) : Int) > (20000 : Int))) (Q (IV.tuple [IV.vslice none (0 : Nat) (0 : Nat) (3 : Nat) [], IV.agg [IV.int IntKind.i64 (6 : Int), IV.int IntKind.i64 (20000 : Int)]]) h)
 (∃ (d : Nat),
 ∃ (s_1 : List UInt8),
 ∃ (a : Nat),
 ∃ (y : List Nd),
 ∃ (m : Nat),
 ∃ (io : Option Nat),
 ∃ (l : List Nd),
 ∃ (i : Nat),
 ∃ (r : List UInt8),
 RH (Heap.mk (PT.node (PT.node PT.nil (some (IObj.cells [IV.str s, IV.int IntKind.i64 (0 : Int), IV.bool false, IV.nilslice, IV.map (0 : Nat)])) PT.nil) (some (IObj.map [])) PT.nil) ((0 : Nat) + (1 : Nat) + (1 : Nat)))
 ((0 : Nat) + (1 : Nat)) s_1 a y m io ∧
 (List.drop a s_1 = T10 l i ++ r ∧ a ≤ List.length s_1 ∧ List.length s_1 ≤ (20000 : Nat) ∧ Dl r) ∧
 (RG5 l l ∧ RG5 l y ∧ i < d ∧ i < List.length l) ∧
 ∀ (h2 : Heap) (io2 : Option Nat),
 RH h2 ((0 : Nat) + (1 : Nat)) s_1 (a + List.length (T10 l i)) (Prod.fst (rdA l d y (↑i : Int))) m io2 →
 FRo ((0 : Nat) + (1 : Nat)) m io
 (Heap.mk (PT.node (PT.node PT.nil (some (IObj.cells [IV.str s, IV.int IntKind.i64 (0 : Int), IV.bool false, IV.nilslice, IV.map (0 : Nat)])) PT.nil) (some (IObj.map [])) PT.nil)
 ((0 : Nat) + (1 : Nat) + (1 : Nat)))
 h2 →
 IOk
 (Heap.mk (PT.node (PT.node PT.nil (some (IObj.cells [IV.str s, IV.int IntKind.i64 (0 : Int), IV.bool false, IV.nilslice, IV.map (0 : Nat)])) PT.nil) (some (IObj.map [])) PT.nil)
 ((0 : Nat) + (1 : Nat) + (1 : Nat)))
 io io2 →
 hgetS h2 (1 : Nat) fun (r0 : List IV) =>
 ldBS r0 (2 : Nat) fun (b1 : Bool) =>
 brS b1
 (hgetS h2 (1 : Nat) fun (r2 : List IV) =>
 ldIS IntKind.i64 r2 (1 : Nat) fun (n3 : Int) => Q (IV.tuple [IV.vslice none (0 : Nat) (0 : Nat) (3 : Nat) [], IV.agg [IV.int IntKind.i64 (2 : Int), IV.int IntKind.i64 n3]]) h)
 (hgetS h2 (1 : Nat) fun (r4 : List IV) =>
 ldIS IntKind.i64 r4 (1 : Nat) fun (n5 : Int) =>
 brS (decide (n5 < (↑(List.length s) : Int)))
 (hgetS h2 (1 : Nat) fun (r6 : List IV) =>
 ldIS IntKind.i64 r6 (1 : Nat) fun (n7 : Int) => Q (IV.tuple [IV.vslice none (0 : Nat) (0 : Nat) (3 : Nat) [], IV.agg [IV.int IntKind.i64 (2 : Int), IV.int IntKind.i64 n7]]) h)
 (hgetS h2 (1 : Nat) fun (r8 : List IV) =>
 ldNVS (3 : Nat) r8 (3 : Nat)
 (∃ (l_1 : List Nd),
 ((0 : Nat) = List.length l_1 ∧ [] = List.flatMap cN l_1) ∧
 ((∀ (x : Nd), x ∈ l_1 → List.length (Nd.ks x) ≤ (1000000 : Nat) ∧ Nd.op x ≠ (30 : Int)) ∧
 List.length l_1 ≤ (1000000 : Nat) ∧ (0 : Int) ≤ Prod.snd (rdA l d y (↑i : Int)) ∧ Prod.snd (rdA l d y (↑i : Int)) < (↑(List.length l_1) : Int)) ∧
 brS (List.getD (sortsG l_1) (Int.toNat (Prod.snd (rdA l d y (↑i : Int)))) (0 : Int) == (0 : Int))
 (Q (IV.tuple [IV.vslice none (0 : Nat) (0 : Nat) (3 : Nat) [], IV.agg [IV.int IntKind.i64 (1 : Int), IV.int IntKind.i64 (0 : Int)]]) h)
 (hgetS h2 (1 : Nat) fun (r9 : List IV) =>
 ldNVS (3 : Nat) r9 (3 : Nat)
 (hgetS h2 (1 : Nat) fun (r10 : List IV) =>
 ldNVS (3 : Nat) r10 (3 : Nat) (Q (IV.tuple [IV.vslice none (0 : Nat) (0 : Nat) (3 : Nat) [], IV.agg [IV.int IntKind.i64 (0 : Int), IV.int IntKind.i64 (0 : Int)]]) h)
 fun (i11 e12 l13 : Nat) (c14 : List IV) =>
 needS (pureL [IV.vslice none (0 : Nat) l13 (3 : Nat) c14, IV.agg [IV.int IntKind.i64 (0 : Int), IV.int IntKind.i64 (0 : Int)]])
 (Q (IV.tuple [IV.vslice none (0 : Nat) l13 (3 : Nat) c14, IV.agg [IV.int IntKind.i64 (0 : Int), IV.int IntKind.i64 (0 : Int)]]) h))
 fun (i15 e16 l17 : Nat) (c18 : List IV) =>
 brS (decide ((↑l17 : Int) > (2000 : Int))) (Q (IV.tuple [IV.vslice none (0 : Nat) (0 : Nat) (3 : Nat) [], IV.agg [IV.int IntKind.i64 (6 : Int), IV.int IntKind.i64 (0 : Int)]]) h)
 (hgetS h2 (1 : Nat) fun (r19 : List IV) =>
 ldNVS (3 : Nat) r19 (3 : Nat) (Q (IV.tuple [IV.vslice none (0 : Nat) (0 : Nat) (3 : Nat) [], IV.agg [IV.int IntKind.i64 (0 : Int), IV.int IntKind.i64 (0 : Int)]]) h)
 fun (i20 e21 l22 : Nat) (c23 : List IV) =>
 needS (pureL [IV.vslice none (0 : Nat) l22 (3 : Nat) c23, IV.agg [IV.int IntKind.i64 (0 : Int), IV.int IntKind.i64 (0 : Int)]])
 (Q (IV.tuple [IV.vslice none (0 : Nat) l22 (3 : Nat) c23, IV.agg [IV.int IntKind.i64 (0 : Int), IV.int IntKind.i64 (0 : Int)]]) h))))
 fun (i24 e25 l26 : Nat) (c27 : List IV) =>
 ∃ (l_1 : List Nd),
 (l26 = List.length l_1 ∧ c27 = List.flatMap cN l_1) ∧
 ((∀ (x : Nd), x ∈ l_1 → List.length (Nd.ks x) ≤ (1000000 : Nat) ∧ Nd.op x ≠ (30 : Int)) ∧
 List.length l_1 ≤ (1000000 : Nat) ∧ (0 : Int) ≤ Prod.snd (rdA l d y (↑i : Int)) ∧ Prod.snd (rdA l d y (↑i : Int)) < (↑(List.length l_1) : Int)) ∧
 brS (List.getD (sortsG l_1) (Int.toNat (Prod.snd (rdA l d y (↑i : Int)))) (0 : Int) == (0 : Int))
 (Q (IV.tuple [IV.vslice none (0 : Nat) (0 : Nat) (3 : Nat) [], IV.agg [IV.int IntKind.i64 (1 : Int), IV.int IntKind.i64 (0 : Int)]]) h)
 (hgetS h2 (1 : Nat) fun (r28 : List IV) =>
 ldNVS (3 : Nat) r28 (3 : Nat)
 (hgetS h2 (1 : Nat) fun (r29 : List IV) =>
 ldNVS (3 : Nat) r29 (3 : Nat) (Q (IV.tuple [IV.vslice none (0 : Nat) (0 : Nat) (3 : Nat) [], IV.agg [IV.int IntKind.i64 (0 : Int), IV.int IntKind.i64 (0 : Int)]]) h)
 fun (i30 e31 l32 : Nat) (c33 : List IV) =>
 needS (pureL [IV.vslice none (0 : Nat) l32 (3 : Nat) c33, IV.agg [IV.int IntKind.i64 (0 : Int), IV.int IntKind.i64 (0 : Int)]])
 (Q (IV.tuple [IV.vslice none (0 : Nat) l32 (3 : Nat) c33, IV.agg [IV.int IntKind.i64 (0 : Int), IV.int IntKind.i64 (0 : Int)]]) h))
 fun (i34 e35 l36 : Nat) (c37 : List IV) =>
 brS (decide ((↑l36 : Int) > (2000 : Int))) (Q (IV.tuple [IV.vslice none (0 : Nat) (0 : Nat) (3 : Nat) [], IV.agg [IV.int IntKind.i64 (6 : Int), IV.int IntKind.i64 (0 : Int)]]) h)
 (hgetS h2 (1 : Nat) fun (r38 : List IV) =>
 ldNVS (3 : Nat) r38 (3 : Nat) (Q (IV.tuple [IV.vslice none (0 : Nat) (0 : Nat) (3 : Nat) [], IV.agg [IV.int IntKind.i64 (0 : Int), IV.int IntKind.i64 (0 : Int)]]) h)
 fun (i39 e40 l41 : Nat) (c42 : List IV) =>
 needS (pureL [IV.vslice none (0 : Nat) l41 (3 : Nat) c42, IV.agg [IV.int IntKind.i64 (0 : Int), IV.int IntKind.i64 (0 : Int)]])
 (Q (IV.tuple [IV.vslice none (0 : Nat) l41 (3 : Nat) c42, IV.agg [IV.int IntKind.i64 (0 : Int), IV.int IntKind.i64 (0 : Int)]]) h))))))) := by kernel_rfl
set_option maxHeartbeats 1000000 in
theorem sPParse : ∀ xs h Q, kPParse xs h Q → CallW env 10 xs h Q := by
  intro xs h Q hk
  unfold kPParse at hk
  split at hk
  · rename_i s
    obtain ⟨l, i, hb, hk⟩ := hk
    refine dF_run (okRTerm) (vPParse s h Q) ?_
    obtain ⟨gl, hil, rfl, hsl, hll, hs⟩ := hb
    have hrr := rdA_ok5 gl (i + 1) [] i (Nat.lt_succ_self _) hil (RG5.nil gl.sl)
    refine brS_intro (fun c => absurd (of_decide_eq_true c) (by omega)) (fun _ => ⟨i + 1, T10 l i, 0, [], 0, none, l, i, [], ⟨⟨by show 0 + 1 < 0 + 1 + 1; decide, by show 0 < 0 + 1 + 1; decide, by decide⟩, rfl, .nilslice, rfl, .inl ⟨rfl, rfl, rfl⟩⟩, ⟨by simp, Nat.zero_le _, hsl, Dl_nil⟩, ⟨gl, RG5.nil gl.sl, Nat.lt_succ_self _, hil⟩, fun h2 io2 r2 f2 o2 => ?_⟩)
    obtain ⟨_, gm, lv, gi, hlv⟩ := r2
    have hb := hrr.b
    have hlb := hrr.g.lb
    have hln := hrr.g.len
    rcases hlv with ⟨_, _, e⟩ | ⟨iL, rfl, rfl, t1, t2, t3, t4, t5⟩
    · rw [e] at hb
      simp at hb
      omega
    · refine hget_intro gi (ldB_at rfl (brS_intro (fun c => by cases c) (fun _ => hget_intro gi (ldI_at rfl (brS_intro (fun c => absurd (of_decide_eq_true c) (by omega)) (fun _ => hget_intro gi (ldNV_v rfl ⟨_, ⟨rfl, rfl⟩, ⟨fun x hx => ?_, hlb, hb.1, hb.2⟩, brS_intro (fun c => absurd (beq_iff_eq.1 c) hs) (fun _ => hget_intro gi (ldNV_v rfl (brS_intro (fun c => absurd (of_decide_eq_true c) (by omega)) (fun _ => hget_intro gi (ldNV_v rfl (needS_intro ?_ hk))))))⟩)))))))
      · have := hrr.g.ok x hx
        exact ⟨by omega, this.2.2.1.2⟩
      · simp only [pureL, pureB, pureL_cN, Bool.and_true]
  · exact hk.elim
def cPParse := addC 10 kPParse cRTerm
theorem okPParse : Sound env cPParse := sound_add sPParse (okRTerm)

end Go.Proofs.Ythoehkkoaegeoaa
