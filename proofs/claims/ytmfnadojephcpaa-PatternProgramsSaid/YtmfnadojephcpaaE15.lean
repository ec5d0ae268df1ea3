/-
  Patterns: the statement PatternPrograms.
  Conditions: none.
-/
import Derived.Test.YtmfnadojephcpaaD15
import Derived.Test.YtmfnadojephcpaaR15
import Derived.KernelRfl
set_option linter.unusedVariables false
set_option linter.unusedSimpArgs false
namespace Go.Proofs.Ytmfnadojephcpaa
open Go.Pv Go.M15
theorem ldBS_map {l : List Bool} {i o : Nat} {K : Bool → Prop} (h : i < l.length) (ho : o = i) (hk : K l[i]) : ldBS (l.map IV.bool) o K := by
  subst ho
  unfold ldBS
  rw [List.getElem?_map, List.getElem?_eq_getElem h]
  exact hk
theorem cI_at {l : List Ins} {i j : Nat} (h : i < l.length) (hj : j < 6) : (l.flatMap cI)[i * 6 + j]? = (cI l[i])[j]? := by
  induction l generalizing i with
  | nil => simp at h
  | cons x r ih =>
    cases i with
    | zero =>
      rw [List.flatMap_cons, Nat.zero_mul, Nat.zero_add, List.getElem?_append_left (by exact hj)]
      rfl
    | succ i =>
      rw [List.flatMap_cons, List.getElem?_append_right (by show 6 ≤ _; omega), show (i + 1) * 6 + j - (cI x).length = i * 6 + j by show (i + 1) * 6 + j - 6 = _; omega]
      exact ih (by simpa using h)
theorem ldIns {l : List Ins} {i o : Nat} {K : Int → Int → Int → Int → Int → Int → Prop} (h : i < l.length) (ho : o = i * 6) (hk : K l[i].k l[i].a l[i].b l[i].op l[i].im l[i].iv) :
    ldIS .i64 (l.flatMap cI) o fun a => ldIS .i64 (l.flatMap cI) (o + 1) fun b => ldIS .i64 (l.flatMap cI) (o + 1 + 1) fun c => ldIS .i64 (l.flatMap cI) (o + 1 + 1 + 1) fun d => ldIS .i64 (l.flatMap cI) (o + 1 + 1 + 1 + 1) fun e => ldIS .i64 (l.flatMap cI) (o + 1 + 1 + 1 + 1 + 1) fun f => K a b c d e f := by
  subst ho
  have e0 := cI_at (j := 0) h (by omega)
  have e1 := cI_at (j := 1) h (by omega)
  have e2 := cI_at (j := 2) h (by omega)
  have e3 := cI_at (j := 3) h (by omega)
  have e4 := cI_at (j := 4) h (by omega)
  have e5 := cI_at (j := 5) h (by omega)
  unfold ldIS
  simp only [Nat.add_zero] at e0
  simp only [Nat.add_assoc, Nat.reduceAdd, e0, e1, e2, e3, e4, e5]
  exact hk
theorem pureL_cI : ∀ {l : List Ins}, pureL (l.flatMap cI) = true
  | [] => rfl
  | x :: r => by rw [List.flatMap_cons, pureL_append, pureL_cI]; rfl
def kCompile (xs : List IV) (h : Heap) (K : IV → Heap → Prop) : Prop := match xs with
  | [.agg [.int .i64 v, .int .i64 op, .int .i64 im, .int .i64 iv, .vslice none e1 n1 5 c1]] => ∃ ks : List T, (n1 = ks.length ∧ c1 = cTs ks) ∧ (T.mk v op im iv ks).num ≤ 1000000 ∧ K (.tuple [.vslice none 0 ((compB (T.mk v op im iv ks)).1).length 6 (((compB (T.mk v op im iv ks)).1).flatMap cI), .vslice none 0 ((compB (T.mk v op im iv ks)).2).length 1 (((compB (T.mk v op im iv ks)).2).map (IV.int .i64))]) h
  | _ => False
set_option maxRecDepth 100000 in
theorem vCompile (v op im iv : Int) (ks : List T) (e1 : Nat) (h : Heap) (Q : IV → Heap → Prop) : dF (stdS cComp) env 9 noU noI noI [.agg [.int .i64 v, .int .i64 op, .int .i64 im, .int .i64 iv, .vslice none e1 (ks).length 5 (cTs ks)]] h Q = (
  needS (pureL [IV.agg [IV.int IntKind.i64 v, IV.int IntKind.i64 op, IV.int IntKind.i64 im, IV.int IntKind.i64 iv, IV.vslice none (0 : Nat) (List.length ks) (5 : Nat) (cTs ks)]])
 (∃ (ks_1 : List T),
 (List.length ks = List.length ks_1 ∧ cTs ks = cTs ks_1) ∧
 (thins ks_1 ∧ List.length ks_1 ≤ (1000000000000000 : Nat)) ∧
 brS (!valB (T.mk v op im iv ks_1) (6 : Int) (6 : Int)) (Q (IV.tuple [IV.vslice none (0 : Nat) (0 : Nat) (6 : Nat) [], IV.vslice none (0 : Nat) (0 : Nat) (1 : Nat) []]) h)
 (∃ (d : Nat),
 ∃ (ks_2 : List T),
 ∃ (st : St),
 (List.length ks = List.length ks_2 ∧ cTs ks = cTs ks_2) ∧
 CS true (Heap.mk (PT.node PT.nil (some (IObj.cells [IV.nilslice, IV.int IntKind.i64 (1 : Int), IV.nilslice])) PT.nil) ((0 : Nat) + (1 : Nat))) (0 : Nat) st ∧
 (T.num (T.mk v op im iv ks_2) ≤ d ∧ T.wf (T.mk v op im iv ks_2)) ∧
 (((0 : Int) ≤ (0 : Int) ∧
 (0 : Int) ≤ (1000000000 : Int) ∧ (0 : Int) ≤ St.next st ∧ St.next st + (↑(T.num (T.mk v op im iv ks_2)) : Int) ≤ (1000000000 : Int) ∧ List.length (St.l st) + T.num (T.mk v op im iv ks_2) ≤ (1000000000 : Nat)) ∧
 List.length (St.vars st) ≤ (6 : Nat)) ∧
 ∀ (h2 : Heap),
 CS true h2 (0 : Nat) (comp (T.mk v op im iv ks_2) (0 : Int) st) →
 hgetS h2 (0 : Nat) fun (r0 : List IV) =>
 ldNVS (6 : Nat) r0 (0 : Nat)
 (hgetS h2 (0 : Nat) fun (r1 : List IV) =>
 ldNHS (1 : Nat) r1 (2 : Nat) (Q (IV.tuple [IV.vslice none (0 : Nat) (0 : Nat) (6 : Nat) [], IV.vslice none (0 : Nat) (0 : Nat) (1 : Nat) []]) h) fun (i2 o3 l4 : Nat) =>
 hgetS h2 i2 fun (r5 : List IV) =>
 needS (true && Nat.ble (o3 + l4 * (1 : Nat)) (List.length r5))
 (needS (pureL [IV.vslice none (0 : Nat) (0 : Nat) (6 : Nat) [], IV.vslice none (0 : Nat) l4 (1 : Nat) (List.take (l4 * (1 : Nat)) (List.drop o3 r5))])
 (Q (IV.tuple [IV.vslice none (0 : Nat) (0 : Nat) (6 : Nat) [], IV.vslice none (0 : Nat) l4 (1 : Nat) (List.take (l4 * (1 : Nat)) (List.drop o3 r5))]) h)))
 fun (i6 e7 l8 : Nat) (c9 : List IV) =>
 hgetS h2 (0 : Nat) fun (r10 : List IV) =>
 ldNHS (1 : Nat) r10 (2 : Nat)
 (needS (pureL [IV.vslice none (0 : Nat) l8 (6 : Nat) c9, IV.vslice none (0 : Nat) (0 : Nat) (1 : Nat) []])
 (Q (IV.tuple [IV.vslice none (0 : Nat) l8 (6 : Nat) c9, IV.vslice none (0 : Nat) (0 : Nat) (1 : Nat) []]) h))
 fun (i11 o12 l13 : Nat) =>
 hgetS h2 i11 fun (r14 : List IV) =>
 needS (true && Nat.ble (o12 + l13 * (1 : Nat)) (List.length r14))
 (needS (pureL [IV.vslice none (0 : Nat) l8 (6 : Nat) c9, IV.vslice none (0 : Nat) l13 (1 : Nat) (List.take (l13 * (1 : Nat)) (List.drop o12 r14))])
 (Q (IV.tuple [IV.vslice none (0 : Nat) l8 (6 : Nat) c9, IV.vslice none (0 : Nat) l13 (1 : Nat) (List.take (l13 * (1 : Nat)) (List.drop o12 r14))]) h))))) := by kernel_rfl
set_option maxHeartbeats 2000000 in
theorem sCompile : ∀ xs h Q, kCompile xs h Q → CallW env 9 xs h Q := by
  intro xs h Q hk
  unfold kCompile at hk
  split at hk
  · rename_i v op im iv e1 n1 c1
    obtain ⟨ks, ⟨rfl, rfl⟩, hb, hk⟩ := hk
    refine dF_run (okComp) (vCompile v op im iv ks e1 h Q) ?_
    have hnum : (T.mk v op im iv ks).num = nums ks + 1 := rfl
    rw [hnum] at hb
    have hlen := len_nums ks
    have fin : ∀ (l : List Ins) (vs : List Int), compB (T.mk v op im iv ks) = (l, vs) → needS (pureL [.vslice none 0 l.length 6 (l.flatMap cI), .vslice none 0 vs.length 1 (vs.map (IV.int .i64))]) (Q (.tuple [.vslice none 0 l.length 6 (l.flatMap cI), .vslice none 0 vs.length 1 (vs.map (IV.int .i64))]) h) := by
      intro l vs e
      rw [e] at hk
      exact needS_intro (by simp only [pureL, pureB, pureL_cI, pureL_ints, Bool.and_true]) hk
    refine needS_intro (by simp only [pureL, pureB, pureL_cTs, Bool.and_true]) ⟨ks, ⟨rfl, rfl⟩, ⟨thins_nums ks (by omega), by omega⟩, brS_intro (fun c => ?_) (fun c => ?_)⟩
    · have e : compB (T.mk v op im iv ks) = ([], []) := by
        unfold compB
        rw [if_neg (by simpa using c)]
      rw [e] at hk
      exact hk
    · rw [Bool.not_eq_false'] at c
      have hw := (valB_wf c).1
      have he : compB (T.mk v op im iv ks) = ((comp (T.mk v op im iv ks) 0 ⟨[], 1, []⟩).l, (comp (T.mk v op im iv ks) 0 ⟨[], 1, []⟩).vars) := by
        unfold compB
        rw [if_pos c]
      refine ⟨(T.mk v op im iv ks).num, ks, ⟨[], 1, []⟩, ⟨rfl, rfl⟩, ⟨Nat.zero_lt_one, .nilslice, .nilslice, rfl, .inl ⟨rfl, rfl⟩, .inl ⟨rfl, rfl⟩⟩, ⟨Nat.le_refl _, hw⟩, ⟨by rw [hnum]; simp only [List.length_nil]; omega, Nat.zero_le _⟩, fun h2 hc => ?_⟩
      have f1 := fin _ _ he
      generalize comp (T.mk v op im iv ks) 0 ⟨[], 1, []⟩ = st at *
      rcases hc.getL with ⟨hl0, r, e1, e2⟩ | ⟨r, i, e1, e2, e3, e4⟩
      · rcases hc.getV with ⟨hv0, r', g1, g2⟩ | ⟨r', j, g1, g2, g3, g4, g5⟩
        · rw [e1] at g1
          cases g1
          rw [hl0, hv0] at f1
          exact hget_intro e1 (ldNV_nil e2 (hget_intro e1 (ldNH_nil g2 f1)))
        · rw [e1] at g1
          cases g1
          rw [hl0] at f1
          refine hget_intro e1 (ldNV_nil e2 (hget_intro e1 (ldNH_h g2 (hget_intro g3 (needS_intro (by simp) ?_)))))
          rw [List.drop_zero, List.take_of_length_le (by simp)]
          exact f1
      · rcases hc.getV with ⟨hv0, r', g1, g2⟩ | ⟨r', j, g1, g2, g3, g4, g5⟩
        · rw [e1] at g1
          cases g1
          rw [hv0] at f1
          exact hget_intro e1 (ldNV_v e2 (hget_intro e1 (ldNH_nil g2 f1)))
        · rw [e1] at g1
          cases g1
          refine hget_intro e1 (ldNV_v e2 (hget_intro e1 (ldNH_h g2 (hget_intro g3 (needS_intro (by simp) ?_)))))
          rw [List.drop_zero, List.take_of_length_le (by simp)]
          exact f1
  · exact hk.elim
def cCompile := addC 9 kCompile cComp
theorem okCompile : Sound env cCompile := sound_add sCompile (okComp)

def pgInv : Inv' := atX (T × Nat × Int × List Bool) (fun x => [(3, .l 3 0), (6, .v (.int .i64 x.2.2.1)), (7, .l 7 0), (33, .v (.vslice none 0 ((compB x.1).1).length 6 (((compB x.1).1).flatMap cI))), (34, .v (.int .i64 (compB x.1).1.length)), (35, .v (.int .i64 x.2.1))]) (fun x => [(3, [.int .i64 x.1.v, .int .i64 x.1.op, .int .i64 x.1.im, .int .i64 x.1.iv, .vslice none 0 x.1.ks.length 5 (cTs x.1.ks)]), (7, x.2.2.2.map IV.bool)]) (fun _ => Heap.empty)
  (fun x => x.1.num ≤ 40 ∧ x.2.1 ≤ (compB x.1).1.length ∧ x.2.2.2.length = 64 ∧ (1 - (x.2.1 : Int) ≤ x.2.2.1 ∧ x.2.2.1 ≤ 1 + 3 * x.2.1 ∧ (compB x.1).1.length ≤ 40) ∧ x.1.size ≤ 24 ∧ run x.2.2.1 x.2.2.2 ((compB x.1).1.drop x.2.1) = some x.1.num) (fun x => (compB x.1).1.length - x.2.1)
def kProgL (xs : List IV) (h : Heap) (K : IV → Heap → Prop) : Prop := match xs with
  | [.vslice none e1 n1 1 c1] => ∃ l : List Int, (n1 = l.length ∧ c1 = l.map (IV.int .i64)) ∧ ((∀ x ∈ l, i64b x) ∧ l.length ≤ 9223372036854775807) ∧ K (.bool true) h
  | _ => False
set_option maxRecDepth 100000 in
theorem vProgL (l : List Int) (e1 : Nat) (h : Heap) (Q : IV → Heap → Prop) : dF (stdS cCompile) env 4 noU (ic1 9 pgInv) noI [.vslice none e1 (l).length 1 ((l).map (IV.int .i64))] h Q = (
  needS (pureL [IV.vslice none (0 : Nat) (List.length l) (1 : Nat) (List.map (IV.int IntKind.i64) l)])
 (∃ (l_1 : List Int),
 (List.length l = List.length l_1 ∧ List.map (IV.int IntKind.i64) l = List.map (IV.int IntKind.i64) l_1) ∧
 ((∀ (x : Int), x ∈ l_1 → i64b x) ∧ List.length l_1 ≤ (9223372036854775807 : Nat)) ∧
 ∀ (v op im iv : Int) (ks : List T),
 T.ok (T.mk v op im iv ks) →
 T.num (T.mk v op im iv ks) ≤ (40 : Nat) →
 ∃ (ks_1 : List T),
 (List.length ks = List.length ks_1 ∧ cTs ks = cTs ks_1) ∧
 T.num (T.mk v op im iv ks_1) ≤ (1000000 : Nat) ∧
 ∃ (ks_2 : List T),
 (List.length ks = List.length ks_2 ∧ cTs ks = cTs ks_2) ∧
 (thins ks_2 ∧ List.length ks_2 ≤ (1000000000000000 : Nat)) ∧
 brS (!valB (T.mk v op im iv ks_2) (6 : Int) (6 : Int))
 (brS ((↑(List.length (Prod.fst (compB (T.mk v op im iv ks_1)))) : Int) == (0 : Int))
 (brS ((↑(List.length (Prod.snd (compB (T.mk v op im iv ks_1)))) : Int) == (0 : Int)) (Q (IV.bool true) h) (Q (IV.bool false) h)) (Q (IV.bool false) h))
 ((∃ (x : T × Nat × Int × List Bool),
 some (TV.l (3 : Nat) (0 : Nat)) = some (TV.l (3 : Nat) (0 : Nat)) ∧
 some (TV.v (IV.int IntKind.i64 (1 : Int))) = some (TV.v (IV.int IntKind.i64 (Prod.fst (Prod.snd (Prod.snd x))))) ∧
 some (TV.l (7 : Nat) (0 : Nat)) = some (TV.l (7 : Nat) (0 : Nat)) ∧
 some (TV.v (IV.vslice none (0 : Nat) (List.length (Prod.fst (compB (T.mk v op im iv ks_1)))) (6 : Nat) (List.flatMap cI (Prod.fst (compB (T.mk v op im iv ks_1)))))) =
 some (TV.v (IV.vslice none (0 : Nat) (List.length (Prod.fst (compB (Prod.fst x)))) (6 : Nat) (List.flatMap cI (Prod.fst (compB (Prod.fst x)))))) ∧
 some (TV.v (IV.int IntKind.i64 (↑(List.length (Prod.fst (compB (T.mk v op im iv ks_1)))) : Int))) = some (TV.v (IV.int IntKind.i64 (↑(List.length (Prod.fst (compB (Prod.fst x)))) : Int))) ∧
 some (TV.v (IV.int IntKind.i64 (0 : Int))) = some (TV.v (IV.int IntKind.i64 (↑(Prod.fst (Prod.snd x)) : Int))) ∧
 some [IV.int IntKind.i64 v, IV.int IntKind.i64 op, IV.int IntKind.i64 im, IV.int IntKind.i64 iv, IV.vslice none (0 : Nat) (List.length ks) (5 : Nat) (cTs ks)] =
 some
 [IV.int IntKind.i64 (T.v (Prod.fst x)), IV.int IntKind.i64 (T.op (Prod.fst x)), IV.int IntKind.i64 (T.im (Prod.fst x)), IV.int IntKind.i64 (T.iv (Prod.fst x)),
 IV.vslice none (0 : Nat) (List.length (T.ks (Prod.fst x))) (5 : Nat) (cTs (T.ks (Prod.fst x)))] ∧
 some
 [IV.bool false, IV.bool false, IV.bool false, IV.bool false, IV.bool false, IV.bool false, IV.bool false, IV.bool false, IV.bool false, IV.bool false, IV.bool false, IV.bool false,
 IV.bool false, IV.bool false, IV.bool false, IV.bool false, IV.bool false, IV.bool false, IV.bool false, IV.bool false, IV.bool false, IV.bool false, IV.bool false, IV.bool false,
 IV.bool false, IV.bool false, IV.bool false, IV.bool false, IV.bool false, IV.bool false, IV.bool false, IV.bool false, IV.bool false, IV.bool false, IV.bool false, IV.bool false,
 IV.bool false, IV.bool false, IV.bool false, IV.bool false, IV.bool false, IV.bool false, IV.bool false, IV.bool false, IV.bool false, IV.bool false, IV.bool false, IV.bool false,
 IV.bool false, IV.bool false, IV.bool false, IV.bool false, IV.bool false, IV.bool false, IV.bool false, IV.bool false, IV.bool false, IV.bool false, IV.bool false, IV.bool false,
 IV.bool false, IV.bool false, IV.bool false, IV.bool false] =
 some (List.map IV.bool (Prod.snd (Prod.snd (Prod.snd x)))) ∧
 Heap.mk PT.nil (0 : Nat) = Heap.mk PT.nil (0 : Nat) ∧
 (T.num (Prod.fst x) ≤ (40 : Nat) ∧
 Prod.fst (Prod.snd x) ≤ List.length (Prod.fst (compB (Prod.fst x))) ∧
 List.length (Prod.snd (Prod.snd (Prod.snd x))) = (64 : Nat) ∧
 ((1 : Int) - (↑(Prod.fst (Prod.snd x)) : Int) ≤ Prod.fst (Prod.snd (Prod.snd x)) ∧
 Prod.fst (Prod.snd (Prod.snd x)) ≤ (1 : Int) + (3 : Int) * (↑(Prod.fst (Prod.snd x)) : Int) ∧ List.length (Prod.fst (compB (Prod.fst x))) ≤ (40 : Nat)) ∧
 T.size (Prod.fst x) ≤ (24 : Int) ∧
 run (Prod.fst (Prod.snd (Prod.snd x))) (Prod.snd (Prod.snd (Prod.snd x))) (List.drop (Prod.fst (Prod.snd x)) (Prod.fst (compB (Prod.fst x)))) =
 some (↑(T.num (Prod.fst x)) : Int)) ∧
 True) ∧
 ∀ (x : T × Nat × Int × List Bool) (b : FF),
 T.num (Prod.fst x) ≤ (40 : Nat) ∧
 Prod.fst (Prod.snd x) ≤ List.length (Prod.fst (compB (Prod.fst x))) ∧
 List.length (Prod.snd (Prod.snd (Prod.snd x))) = (64 : Nat) ∧
 ((1 : Int) - (↑(Prod.fst (Prod.snd x)) : Int) ≤ Prod.fst (Prod.snd (Prod.snd x)) ∧
 Prod.fst (Prod.snd (Prod.snd x)) ≤ (1 : Int) + (3 : Int) * (↑(Prod.fst (Prod.snd x)) : Int) ∧ List.length (Prod.fst (compB (Prod.fst x))) ≤ (40 : Nat)) ∧
 T.size (Prod.fst x) ≤ (24 : Int) ∧
 run (Prod.fst (Prod.snd (Prod.snd x))) (Prod.snd (Prod.snd (Prod.snd x))) (List.drop (Prod.fst (Prod.snd x)) (Prod.fst (compB (Prod.fst x)))) = some (↑(T.num (Prod.fst x)) : Int) →
 brS (decide ((↑(Prod.fst (Prod.snd x)) : Int) < (↑(List.length (Prod.fst (compB (Prod.fst x)))) : Int)))
 (needS (decide ((0 : Int) ≤ (↑(Prod.fst (Prod.snd x)) : Int)) && decide ((↑(Prod.fst (Prod.snd x)) : Int) < (↑(List.length (Prod.fst (compB (Prod.fst x)))) : Int)))
 (ldIS IntKind.i64 (List.flatMap cI (Prod.fst (compB (Prod.fst x)))) (Int.toNat (↑(Prod.fst (Prod.snd x)) : Int) * (6 : Nat)) fun (n0 : Int) =>
 ldIS IntKind.i64 (List.flatMap cI (Prod.fst (compB (Prod.fst x)))) (Int.toNat (↑(Prod.fst (Prod.snd x)) : Int) * (6 : Nat) + (1 : Nat)) fun (n1 : Int) =>
 ldIS IntKind.i64 (List.flatMap cI (Prod.fst (compB (Prod.fst x)))) (Int.toNat (↑(Prod.fst (Prod.snd x)) : Int) * (6 : Nat) + (1 : Nat) + (1 : Nat)) fun (n2 : Int) =>
 ldIS IntKind.i64 (List.flatMap cI (Prod.fst (compB (Prod.fst x)))) (Int.toNat (↑(Prod.fst (Prod.snd x)) : Int) * (6 : Nat) + (1 : Nat) + (1 : Nat) + (1 : Nat)) fun (n3 : Int) =>
 ldIS IntKind.i64 (List.flatMap cI (Prod.fst (compB (Prod.fst x)))) (Int.toNat (↑(Prod.fst (Prod.snd x)) : Int) * (6 : Nat) + (1 : Nat) + (1 : Nat) + (1 : Nat) + (1 : Nat)) fun (n4 : Int) =>
 ldIS IntKind.i64 (List.flatMap cI (Prod.fst (compB (Prod.fst x)))) (Int.toNat (↑(Prod.fst (Prod.snd x)) : Int) * (6 : Nat) + (1 : Nat) + (1 : Nat) + (1 : Nat) + (1 : Nat) + (1 : Nat))
 fun (n5 : Int) =>
 brS (decide (n1 < (0 : Int))) (Q (IV.bool false) h)
 (brS (decide (n1 ≥ Prod.fst (Prod.snd (Prod.snd x)))) (Q (IV.bool false) h)
 (brS (decide (n1 ≥ (64 : Int))) (Q (IV.bool false) h)
 (needS (decide ((0 : Int) ≤ n1) && decide (n1 < (64 : Int)))
 (ldBS (List.map IV.bool (Prod.snd (Prod.snd (Prod.snd x)))) ((0 : Nat) + Int.toNat n1 * (1 : Nat)) fun (b6 : Bool) =>
 brS b6 (Q (IV.bool false) h)
 (brS (n0 == (2 : Int))
 (brS (decide (n2 < (0 : Int))) (Q (IV.bool false) h)
 (brS (decide (n2 ≥ Prod.fst (Prod.snd (Prod.snd x)))) (Q (IV.bool false) h)
 (needS (decide ((0 : Int) ≤ n2) && decide (n2 < (64 : Int)))
 (ldBS (List.map IV.bool (Prod.snd (Prod.snd (Prod.snd x)))) ((0 : Nat) + Int.toNat n2 * (1 : Nat)) fun (b7 : Bool) =>
 brS b7 (Q (IV.bool false) h)
 (∃ (x_1 : T × Nat × Int × List Bool),
 some (TV.l (3 : Nat) (0 : Nat)) = some (TV.l (3 : Nat) (0 : Nat)) ∧
 some (TV.v (IV.int IntKind.i64 (Prod.fst (Prod.snd (Prod.snd x))))) = some (TV.v (IV.int IntKind.i64 (Prod.fst (Prod.snd (Prod.snd x_1))))) ∧
 some (TV.l (7 : Nat) (0 : Nat)) = some (TV.l (7 : Nat) (0 : Nat)) ∧
 some (TV.v (IV.vslice none (0 : Nat) (List.length (Prod.fst (compB (Prod.fst x)))) (6 : Nat) (List.flatMap cI (Prod.fst (compB (Prod.fst x)))))) =
 some (TV.v (IV.vslice none (0 : Nat) (List.length (Prod.fst (compB (Prod.fst x_1)))) (6 : Nat) (List.flatMap cI (Prod.fst (compB (Prod.fst x_1)))))) ∧
 some (TV.v (IV.int IntKind.i64 (↑(List.length (Prod.fst (compB (Prod.fst x)))) : Int))) =
 some (TV.v (IV.int IntKind.i64 (↑(List.length (Prod.fst (compB (Prod.fst x_1)))) : Int))) ∧
 some (TV.v (IV.int IntKind.i64 (IntKind.wrap IntKind.i64 ((↑(Prod.fst (Prod.snd x)) : Int) + (1 : Int))))) =
 some (TV.v (IV.int IntKind.i64 (↑(Prod.fst (Prod.snd x_1)) : Int))) ∧
 some
 [IV.int IntKind.i64 (T.v (Prod.fst x)), IV.int IntKind.i64 (T.op (Prod.fst x)), IV.int IntKind.i64 (T.im (Prod.fst x)),
 IV.int IntKind.i64 (T.iv (Prod.fst x)), IV.vslice none (0 : Nat) (List.length (T.ks (Prod.fst x))) (5 : Nat) (cTs (T.ks (Prod.fst x)))] =
 some
 [IV.int IntKind.i64 (T.v (Prod.fst x_1)), IV.int IntKind.i64 (T.op (Prod.fst x_1)), IV.int IntKind.i64 (T.im (Prod.fst x_1)),
 IV.int IntKind.i64 (T.iv (Prod.fst x_1)), IV.vslice none (0 : Nat) (List.length (T.ks (Prod.fst x_1))) (5 : Nat) (cTs (T.ks (Prod.fst x_1)))] ∧
 some (List.map IV.bool (Prod.snd (Prod.snd (Prod.snd x)))) = some (List.map IV.bool (Prod.snd (Prod.snd (Prod.snd x_1)))) ∧
 Heap.mk PT.nil (0 : Nat) = Heap.mk PT.nil (0 : Nat) ∧
 (T.num (Prod.fst x_1) ≤ (40 : Nat) ∧
 Prod.fst (Prod.snd x_1) ≤ List.length (Prod.fst (compB (Prod.fst x_1))) ∧
 List.length (Prod.snd (Prod.snd (Prod.snd x_1))) = (64 : Nat) ∧
 ((1 : Int) - (↑(Prod.fst (Prod.snd x_1)) : Int) ≤ Prod.fst (Prod.snd (Prod.snd x_1)) ∧
 Prod.fst (Prod.snd (Prod.snd x_1)) ≤ (1 : Int) + (3 : Int) * (↑(Prod.fst (Prod.snd x_1)) : Int) ∧
 List.length (Prod.fst (compB (Prod.fst x_1))) ≤ (40 : Nat)) ∧
 T.size (Prod.fst x_1) ≤ (24 : Int) ∧
 run (Prod.fst (Prod.snd (Prod.snd x_1))) (Prod.snd (Prod.snd (Prod.snd x_1)))
 (List.drop (Prod.fst (Prod.snd x_1)) (Prod.fst (compB (Prod.fst x_1)))) =
 some (↑(T.num (Prod.fst x_1)) : Int)) ∧
 List.length (Prod.fst (compB (Prod.fst x_1))) - Prod.fst (Prod.snd x_1) <
 List.length (Prod.fst (compB (Prod.fst x))) - Prod.fst (Prod.snd x))))))
 (brS (n0 != (1 : Int)) (Q (IV.bool false) h)
 (brS (n2 != Prod.fst (Prod.snd (Prod.snd x))) (Q (IV.bool false) h)
 (needS (decide ((0 : Int) ≤ n1) && decide (n1 < (64 : Int)))
 (needS (Nat.ble ((0 : Nat) + Int.toNat n1 * (1 : Nat) + (1 : Nat)) (List.length (List.map IV.bool (Prod.snd (Prod.snd (Prod.snd x))))))
 (∃ (x_1 : T × Nat × Int × List Bool),
 some (TV.l (3 : Nat) (0 : Nat)) = some (TV.l (3 : Nat) (0 : Nat)) ∧
 some (TV.v (IV.int IntKind.i64 (IntKind.wrap IntKind.i64 (Prod.fst (Prod.snd (Prod.snd x)) + ar n3)))) =
 some (TV.v (IV.int IntKind.i64 (Prod.fst (Prod.snd (Prod.snd x_1))))) ∧
 some (TV.l (7 : Nat) (0 : Nat)) = some (TV.l (7 : Nat) (0 : Nat)) ∧
 some (TV.v (IV.vslice none (0 : Nat) (List.length (Prod.fst (compB (Prod.fst x)))) (6 : Nat) (List.flatMap cI (Prod.fst (compB (Prod.fst x)))))) =
 some (TV.v (IV.vslice none (0 : Nat) (List.length (Prod.fst (compB (Prod.fst x_1)))) (6 : Nat) (List.flatMap cI (Prod.fst (compB (Prod.fst x_1)))))) ∧
 some (TV.v (IV.int IntKind.i64 (↑(List.length (Prod.fst (compB (Prod.fst x)))) : Int))) =
 some (TV.v (IV.int IntKind.i64 (↑(List.length (Prod.fst (compB (Prod.fst x_1)))) : Int))) ∧
 some (TV.v (IV.int IntKind.i64 (IntKind.wrap IntKind.i64 ((↑(Prod.fst (Prod.snd x)) : Int) + (1 : Int))))) =
 some (TV.v (IV.int IntKind.i64 (↑(Prod.fst (Prod.snd x_1)) : Int))) ∧
 some
 [IV.int IntKind.i64 (T.v (Prod.fst x)), IV.int IntKind.i64 (T.op (Prod.fst x)), IV.int IntKind.i64 (T.im (Prod.fst x)),
 IV.int IntKind.i64 (T.iv (Prod.fst x)), IV.vslice none (0 : Nat) (List.length (T.ks (Prod.fst x))) (5 : Nat) (cTs (T.ks (Prod.fst x)))] =
 some
 [IV.int IntKind.i64 (T.v (Prod.fst x_1)), IV.int IntKind.i64 (T.op (Prod.fst x_1)), IV.int IntKind.i64 (T.im (Prod.fst x_1)),
 IV.int IntKind.i64 (T.iv (Prod.fst x_1)), IV.vslice none (0 : Nat) (List.length (T.ks (Prod.fst x_1))) (5 : Nat) (cTs (T.ks (Prod.fst x_1)))] ∧
 some
 (List.take ((0 : Nat) + Int.toNat n1 * (1 : Nat)) (List.map IV.bool (Prod.snd (Prod.snd (Prod.snd x)))) ++ [IV.bool true] ++
 List.drop ((0 : Nat) + Int.toNat n1 * (1 : Nat) + (1 : Nat)) (List.map IV.bool (Prod.snd (Prod.snd (Prod.snd x))))) =
 some (List.map IV.bool (Prod.snd (Prod.snd (Prod.snd x_1)))) ∧
 Heap.mk PT.nil (0 : Nat) = Heap.mk PT.nil (0 : Nat) ∧
 (T.num (Prod.fst x_1) ≤ (40 : Nat) ∧
 Prod.fst (Prod.snd x_1) ≤ List.length (Prod.fst (compB (Prod.fst x_1))) ∧
 List.length (Prod.snd (Prod.snd (Prod.snd x_1))) = (64 : Nat) ∧
 ((1 : Int) - (↑(Prod.fst (Prod.snd x_1)) : Int) ≤ Prod.fst (Prod.snd (Prod.snd x_1)) ∧
 Prod.fst (Prod.snd (Prod.snd x_1)) ≤ (1 : Int) + (3 : Int) * (↑(Prod.fst (Prod.snd x_1)) : Int) ∧
 List.length (Prod.fst (compB (Prod.fst x_1))) ≤ (40 : Nat)) ∧
 T.size (Prod.fst x_1) ≤ (24 : Int) ∧
 run (Prod.fst (Prod.snd (Prod.snd x_1))) (Prod.snd (Prod.snd (Prod.snd x_1)))
 (List.drop (Prod.fst (Prod.snd x_1)) (Prod.fst (compB (Prod.fst x_1)))) =
 some (↑(T.num (Prod.fst x_1)) : Int)) ∧
 List.length (Prod.fst (compB (Prod.fst x_1))) - Prod.fst (Prod.snd x_1) <
 List.length (Prod.fst (compB (Prod.fst x))) - Prod.fst (Prod.snd x)))))))))))))
 (∃ (d : Nat),
 ∃ (ks : List T),
 (List.length (T.ks (Prod.fst x)) = List.length ks ∧ cTs (T.ks (Prod.fst x)) = cTs ks) ∧
 (nums ks < d ∧ thins ks ∧ List.length ks ≤ (1000000000000000 : Nat)) ∧ brS (Prod.fst (Prod.snd (Prod.snd x)) == sizes (1 : Int) ks) (Q (IV.bool true) h) (Q (IV.bool false) h))))) := by kernel_rfl
set_option maxHeartbeats 2000000 in
theorem sProgL : ∀ xs h Q, kProgL xs h Q → CallW env 4 xs h Q := by
  intro xs h Q hk
  unfold kProgL at hk
  split at hk
  · rename_i e1 n1 c1
    obtain ⟨l, ⟨rfl, rfl⟩, hl, hk⟩ := hk
    refine dF_run (okCompile) (vProgL l e1 h Q) ?_
    have tn : ∀ x : Nat, (x : Int).toNat = x := Int.toNat_natCast
    refine needS_intro (by simp only [pureL, pureB, pureL_ints, Bool.and_true]) ⟨l, ⟨rfl, rfl⟩, hl, fun v op im iv ks hok hnum => ⟨ks, ⟨rfl, rfl⟩, by omega, ks, ⟨rfl, rfl⟩, ?_, brS_intro (fun c => ?_) (fun c => ⟨?_, ?_⟩)⟩⟩
    · have hlen := len_nums ks
      simp only [T.num] at hnum
      exact ⟨thins_nums ks (by omega), by omega⟩
    · have e : compB (T.mk v op im iv ks) = ([], []) := by
        unfold compB
        rw [if_neg (by simpa using c)]
      rw [e]
      exact brS_intro (fun _ => brS_intro (fun _ => hk) (fun c => by simp at c)) (fun c => by simp at c)
    · rw [Bool.not_eq_false'] at c
      have hw := valB_wf c
      have he : (compB (T.mk v op im iv ks)).1 = (comp (T.mk v op im iv ks) 0 ⟨[], 1, []⟩).l := by
        unfold compB
        rw [if_pos c]
      have hbd := comp_bd (T.mk v op im iv ks) 0 ⟨[], 1, []⟩ hw.1 (Nat.zero_le _)
      have hll : (compB (T.mk v op im iv ks)).1.length ≤ 40 := by
        rw [he]
        have := hbd.2.2.1
        simp only [List.length_nil] at this
        omega
      have hrun := run_comp hw.1 (by omega)
      rw [← he] at hrun
      exact ⟨(T.mk v op im iv ks, 0, 1, List.replicate 64 false), rfl, rfl, rfl, rfl, rfl, rfl, rfl, rfl, rfl, ⟨hnum, Nat.zero_le _, by simp, ⟨by simp, by simp, hll⟩, hw.2, hrun⟩, trivial⟩
    · rintro ⟨t, i, g, o⟩ _ ⟨h1, h2, h3, ⟨h4, h4', h4''⟩, h5, h7⟩
      dsimp only at h1 h2 h3 h4 h4' h4'' h5 h7 ⊢
      refine brS_intro (fun c => ?_) (fun c => ?_)
      · rw [decide_eq_true_eq] at c
        have hlt : i < (compB t).1.length := by omega
        simp only [tn]
        refine needS_intro (by simp; omega) (ldIns hlt rfl ?_)
        rw [List.drop_eq_getElem_cons hlt, run] at h7
        have hin : ∀ {b : Int}, 0 ≤ b → opn o b = false → b.toNat < o.length := fun hb he => by
          unfold opn at he
          rw [List.getD_eq_getElem?_getD] at he
          rcases Nat.lt_or_ge _ o.length with h | h
          · exact h
          · rw [List.getElem?_eq_none h] at he
            cases he
        have hop : ∀ {b : Int} (h : b.toNat < o.length), opn o b = o[b.toNat] := fun h => by
          unfold opn
          rw [List.getD_eq_getElem?_getD, List.getElem?_eq_getElem h]
          rfl
        generalize (compB t).1[i] = x at *
        split at h7
        case isFalse => cases h7
        rename_i ha
        obtain ⟨a1, a2, a3, a4⟩ := ha
        have ha5 := hin a1 a4
        simp only [Nat.zero_add, Nat.mul_one]
        refine brS_intro (fun c => absurd (of_decide_eq_true c) (by omega)) (fun _ => brS_intro (fun c => absurd (of_decide_eq_true c) (by omega)) (fun _ => brS_intro (fun c => absurd (of_decide_eq_true c) (by omega)) (fun _ => needS_intro (by simp; omega) (ldBS_map ha5 rfl (brS_intro (fun c => ?_) (fun _ => ?_))))))
        · rw [← hop ha5, a4] at c
          cases c
        split at h7
        · rename_i hk2
          split at h7
          case isFalse => cases h7
          rename_i hb
          obtain ⟨b1, b2, b3⟩ := hb
          have hb5 := hin b1 b3
          refine brS_intro (fun _ => brS_intro (fun c => absurd (of_decide_eq_true c) (by omega)) (fun _ => brS_intro (fun c => absurd (of_decide_eq_true c) (by omega)) (fun _ => needS_intro (by simp; omega) (ldBS_map hb5 rfl (brS_intro (fun c => ?_) (fun _ => ⟨(t, i + 1, g, o), (by first | rfl | exact True.intro), (by first | rfl | exact True.intro), (by first | rfl | exact True.intro), (by first | rfl | exact True.intro), (by first | rfl | exact True.intro), ?_, (by first | rfl | exact True.intro), (by first | rfl | exact True.intro), (by first | rfl | exact True.intro), ?_⟩)))))) (fun c => absurd hk2 (by simpa using c))
          · rw [← hop hb5, b3] at c
            cases c
          · rw [IntWalk.i64_in _ (by omega)]; rfl
          · exact ⟨⟨h1, hlt, h3, ⟨by dsimp only; omega, by dsimp only; omega, h4''⟩, h5, h7⟩, by dsimp only; omega⟩
        · rename_i hk2
          split at h7
          case isFalse => cases h7
          rename_i hb
          obtain ⟨b1, b2⟩ := hb
          have har : -1 ≤ ar x.op ∧ ar x.op ≤ 3 := by unfold ar; repeat' split <;> omega
          refine brS_intro (fun c => absurd (beq_iff_eq.1 c) hk2) (fun _ => brS_intro (fun c => absurd b1 (bne_iff_ne.1 c)) (fun _ => brS_intro (fun c => absurd b2 (bne_iff_ne.1 c)) (fun _ => needS_intro (by simp; omega) (needS_intro (by rw [Nat.ble_eq, List.length_map]; omega) ⟨(t, i + 1, g + ar x.op, o.set x.a.toNat true), (by first | rfl | exact True.intro), ?_, (by first | rfl | exact True.intro), (by first | rfl | exact True.intro), (by first | rfl | exact True.intro), ?_, (by first | rfl | exact True.intro), ?_, (by first | rfl | exact True.intro), ?_⟩))))
          · rw [IntWalk.i64_in _ (by omega)]
          · rw [IntWalk.i64_in _ (by omega)]; rfl
          · rw [List.set_eq_take_append_cons_drop, if_pos ha5]
            simp [List.map_take, List.map_drop]
          · exact ⟨⟨h1, hlt, by simpa using h3, ⟨by dsimp only; omega, by dsimp only; omega, h4''⟩, h5, h7⟩, by dsimp only; omega⟩
      · rw [decide_eq_false_iff_not] at c
        rw [List.drop_eq_nil_of_le (by omega), run] at h7
        have hlen := len_nums t.ks
        have hn2 : t.num = nums t.ks + 1 := by cases t; rfl
        refine ⟨nums t.ks + 1, t.ks, ⟨rfl, rfl⟩, ⟨Nat.lt_succ_self _, thins_nums _ (by omega), by omega⟩, brS_intro (fun _ => hk) (fun c2 => ?_)⟩
        have hs := size_num t (by omega)
        rw [size_ks] at hs
        rw [hs] at c2
        cases h7
        simp at c2
  · exact hk.elim
def cProgL := addC 4 kProgL cCompile
theorem okProgL : Sound env cProgL := sound_add sProgL (okCompile)

end Go.Proofs.Ytmfnadojephcpaa
