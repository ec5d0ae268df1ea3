/-
  Patterns: the statement PatternPrograms.
  Conditions: none.
-/
import Derived.Test.YtmfnadojephcpaaDP15
import Derived.Test.YtmfnadojephcpaaR15
import Derived.KernelRfl
set_option linter.unusedVariables false
set_option linter.unusedSimpArgs false
namespace Go.Proofs.Ytmfnadojephcpaa
open Go.Pv Go.M15
theorem ldBS_map {l : List Bool} {i o : Nat} {K : Bool → Prop} (h : i < l.length) (ho : o = i) (hk : K l[i]) : ldBS (l.map IV.bool) o K := by
  subst ho
  unfold ldBS
  rw [List.getElem?_map, List.getElem?_eq_getElem h]
  exact hk
theorem cI_at {l : List Ins} {i j : Nat} (h : i < l.length) (hj : j < 6) : (l.flatMap cI)[i * 6 + j]? = (cI l[i])[j]? := by
  induction l generalizing i with
  | nil => simp at h
  | cons x r ih =>
    cases i with
    | zero =>
      rw [List.flatMap_cons, Nat.zero_mul, Nat.zero_add, List.getElem?_append_left (by exact hj)]
      rfl
    | succ i =>
      rw [List.flatMap_cons, List.getElem?_append_right (by show 6 ≤ _; omega), show (i + 1) * 6 + j - (cI x).length = i * 6 + j by show (i + 1) * 6 + j - 6 = _; omega]
      exact ih (by simpa using h)
theorem ldIns {l : List Ins} {i o : Nat} {K : Int → Int → Int → Int → Int → Int → Prop} (h : i < l.length) (ho : o = i * 6) (hk : K l[i].k l[i].a l[i].b l[i].op l[i].im l[i].iv) :
    ldIS .i64 (l.flatMap cI) o fun a => ldIS .i64 (l.flatMap cI) (o + 1) fun b => ldIS .i64 (l.flatMap cI) (o + 1 + 1) fun c => ldIS .i64 (l.flatMap cI) (o + 1 + 1 + 1) fun d => ldIS .i64 (l.flatMap cI) (o + 1 + 1 + 1 + 1) fun e => ldIS .i64 (l.flatMap cI) (o + 1 + 1 + 1 + 1 + 1) fun f => K a b c d e f := by
  subst ho
  have e0 := cI_at (j := 0) h (by omega)
  have e1 := cI_at (j := 1) h (by omega)
  have e2 := cI_at (j := 2) h (by omega)
  have e3 := cI_at (j := 3) h (by omega)
  have e4 := cI_at (j := 4) h (by omega)
  have e5 := cI_at (j := 5) h (by omega)
  unfold ldIS
  simp only [Nat.add_zero] at e0
  simp only [Nat.add_assoc, Nat.reduceAdd, e0, e1, e2, e3, e4, e5]
  exact hk
theorem pureL_cI : ∀ {l : List Ins}, pureL (l.flatMap cI) = true
  | [] => rfl
  | x :: r => by rw [List.flatMap_cons, pureL_append, pureL_cI]; rfl
def kCompile (xs : List IV) (h : Heap) (K : IV → Heap → Prop) : Prop := match xs with
  | [.agg [.int .i64 v, .int .i64 op, .int .i64 im, .int .i64 iv, .vslice none e1 n1 5 c1]] => ∃ ks : List T, (n1 = ks.length ∧ c1 = cTs ks) ∧ (T.mk v op im iv ks).num ≤ 1000000 ∧ K (.tuple [.vslice none 0 ((compB (T.mk v op im iv ks)).1).length 6 (((compB (T.mk v op im iv ks)).1).flatMap cI), .vslice none 0 ((compB (T.mk v op im iv ks)).2).length 1 (((compB (T.mk v op im iv ks)).2).map (IV.int .i64))]) h
  | _ => False
set_option maxRecDepth 100000 in
theorem vCompile (v op im iv : Int) (ks : List T) (e1 : Nat) (h : Heap) (Q : IV → Heap → Prop) : dF (stdS cComp) env 9 noU noI noI [.agg [.int .i64 v, .int .i64 op, .int .i64 im, .int .i64 iv, .vslice none e1 (ks).length 5 (cTs ks)]] h Q = (
  needS (pureL [IV.agg [IV.int IntKind.i64 v, IV.int IntKind.i64 op, IV.int IntKind.i64 im, IV.int IntKind.i64 iv, IV.vslice none (0 : Nat) (List.length ks) (5 : Nat) (cTs ks)]])
 (∃ (ks_1 : List T),
 (List.length ks = List.length ks_1 ∧ cTs ks = cTs ks_1) ∧
 (thins ks_1 ∧ List.length ks_1 ≤ (1000000000000000 : Nat)) ∧
 brS (!valB (T.mk v op im iv ks_1) (6 : Int) (6 : Int)) (Q (IV.tuple [IV.vslice none (0 : Nat) (0 : Nat) (6 : Nat) [], IV.vslice none (0 : Nat) (0 : Nat) (1 : Nat) []]) h)
 (∃ (d : Nat),
 ∃ (ks_2 : List T),
 ∃ (st : St),
 (List.length ks = List.length ks_2 ∧ cTs ks = cTs ks_2) ∧
 CS true (Heap.mk (PT.node PT.nil (some (IObj.cells [IV.nilslice, IV.int IntKind.i64 (1 : Int), IV.nilslice])) PT.nil) ((0 : Nat) + (1 : Nat))) (0 : Nat) st ∧
 (T.num (T.mk v op im iv ks_2) ≤ d ∧ T.wf (T.mk v op im iv ks_2)) ∧
 (((0 : Int) ≤ (0 : Int) ∧
 (0 : Int) ≤ (1000000000 : Int) ∧ (0 : Int) ≤ St.next st ∧ St.next st + (↑(T.num (T.mk v op im iv ks_2)) : Int) ≤ (1000000000 : Int) ∧ List.length (St.l st) + T.num (T.mk v op im iv ks_2) ≤ (1000000000 : Nat)) ∧
 List.length (St.vars st) ≤ (6 : Nat)) ∧
 ∀ (h2 : Heap),
 CS true h2 (0 : Nat) (comp (T.mk v op im iv ks_2) (0 : Int) st) →
 hgetS h2 (0 : Nat) fun (r0 : List IV) =>
 ldNVS (6 : Nat) r0 (0 : Nat)
 (hgetS h2 (0 : Nat) fun (r1 : List IV) =>
 ldNHS (1 : Nat) r1 (2 : Nat) (Q (IV.tuple [IV.vslice none (0 : Nat) (0 : Nat) (6 : Nat) [], IV.vslice none (0 : Nat) (0 : Nat) (1 : Nat) []]) h) fun (i2 o3 l4 : Nat) =>
 hgetS h2 i2 fun (r5 : List IV) =>
 needS (true && Nat.ble (o3 + l4 * (1 : Nat)) (List.length r5))
 (needS (pureL [IV.vslice none (0 : Nat) (0 : Nat) (6 : Nat) [], IV.vslice none (0 : Nat) l4 (1 : Nat) (List.take (l4 * (1 : Nat)) (List.drop o3 r5))])
 (Q (IV.tuple [IV.vslice none (0 : Nat) (0 : Nat) (6 : Nat) [], IV.vslice none (0 : Nat) l4 (1 : Nat) (List.take (l4 * (1 : Nat)) (List.drop o3 r5))]) h)))
 fun (i6 e7 l8 : Nat) (c9 : List IV) =>
 hgetS h2 (0 : Nat) fun (r10 : List IV) =>
 ldNHS (1 : Nat) r10 (2 : Nat)
 (needS (pureL [IV.vslice none (0 : Nat) l8 (6 : Nat) c9, IV.vslice none (0 : Nat) (0 : Nat) (1 : Nat) []])
 (Q (IV.tuple [IV.vslice none (0 : Nat) l8 (6 : Nat) c9, IV.vslice none (0 : Nat) (0 : Nat) (1 : Nat) []]) h))
 fun (i11 o12 l13 : Nat) =>
 hgetS h2 i11 fun (r14 : List IV) =>
 needS (true && Nat.ble (o12 + l13 * (1 : Nat)) (List.length r14))
 (needS (pureL [IV.vslice none (0 : Nat) l8 (6 : Nat) c9, IV.vslice none (0 : Nat) l13 (1 : Nat) (List.take (l13 * (1 : Nat)) (List.drop o12 r14))])
 (Q (IV.tuple [IV.vslice none (0 : Nat) l8 (6 : Nat) c9, IV.vslice none (0 : Nat) l13 (1 : Nat) (List.take (l13 * (1 : Nat)) (List.drop o12 r14))]) h))))) := by kernel_rfl
set_option maxHeartbeats 2000000 in
theorem sCompile : ∀ xs h Q, kCompile xs h Q → CallW env 9 xs h Q := by
  intro xs h Q hk
  unfold kCompile at hk
  split at hk
  · rename_i v op im iv e1 n1 c1
    obtain ⟨ks, ⟨rfl, rfl⟩, hb, hk⟩ := hk
    refine dF_run (okComp) (vCompile v op im iv ks e1 h Q) ?_
    have hnum : (T.mk v op im iv ks).num = nums ks + 1 := rfl
    rw [hnum] at hb
    have hlen := len_nums ks
    have fin : ∀ (l : List Ins) (vs : List Int), compB (T.mk v op im iv ks) = (l, vs) → needS (pureL [.vslice none 0 l.length 6 (l.flatMap cI), .vslice none 0 vs.length 1 (vs.map (IV.int .i64))]) (Q (.tuple [.vslice none 0 l.length 6 (l.flatMap cI), .vslice none 0 vs.length 1 (vs.map (IV.int .i64))]) h) := by
      intro l vs e
      rw [e] at hk
      exact needS_intro (by simp only [pureL, pureB, pureL_cI, pureL_ints, Bool.and_true]) hk
    refine needS_intro (by simp only [pureL, pureB, pureL_cTs, Bool.and_true]) ⟨ks, ⟨rfl, rfl⟩, ⟨thins_nums ks (by omega), by omega⟩, brS_intro (fun c => ?_) (fun c => ?_)⟩
    · have e : compB (T.mk v op im iv ks) = ([], []) := by
        unfold compB
        rw [if_neg (by simpa using c)]
      rw [e] at hk
      exact hk
    · rw [Bool.not_eq_false'] at c
      have hw := (valB_wf c).1
      have he : compB (T.mk v op im iv ks) = ((comp (T.mk v op im iv ks) 0 ⟨[], 1, []⟩).l, (comp (T.mk v op im iv ks) 0 ⟨[], 1, []⟩).vars) := by
        unfold compB
        rw [if_pos c]
      refine ⟨(T.mk v op im iv ks).num, ks, ⟨[], 1, []⟩, ⟨rfl, rfl⟩, ⟨Nat.zero_lt_one, .nilslice, .nilslice, rfl, .inl ⟨rfl, rfl⟩, .inl ⟨rfl, rfl⟩⟩, ⟨Nat.le_refl _, hw⟩, ⟨by rw [hnum]; simp only [List.length_nil]; omega, Nat.zero_le _⟩, fun h2 hc => ?_⟩
      have f1 := fin _ _ he
      generalize comp (T.mk v op im iv ks) 0 ⟨[], 1, []⟩ = st at *
      rcases hc.getL with ⟨hl0, r, e1, e2⟩ | ⟨r, i, e1, e2, e3, e4⟩
      · rcases hc.getV with ⟨hv0, r', g1, g2⟩ | ⟨r', j, g1, g2, g3, g4, g5⟩
        · rw [e1] at g1
          cases g1
          rw [hl0, hv0] at f1
          exact hget_intro e1 (ldNV_nil e2 (hget_intro e1 (ldNH_nil g2 f1)))
        · rw [e1] at g1
          cases g1
          rw [hl0] at f1
          refine hget_intro e1 (ldNV_nil e2 (hget_intro e1 (ldNH_h g2 (hget_intro g3 (needS_intro (by simp) ?_)))))
          rw [List.drop_zero, List.take_of_length_le (by simp)]
          exact f1
      · rcases hc.getV with ⟨hv0, r', g1, g2⟩ | ⟨r', j, g1, g2, g3, g4, g5⟩
        · rw [e1] at g1
          cases g1
          rw [hv0] at f1
          exact hget_intro e1 (ldNV_v e2 (hget_intro e1 (ldNH_nil g2 f1)))
        · rw [e1] at g1
          cases g1
          refine hget_intro e1 (ldNV_v e2 (hget_intro e1 (ldNH_h g2 (hget_intro g3 (needS_intro (by simp) ?_)))))
          rw [List.drop_zero, List.take_of_length_le (by simp)]
          exact f1
  · exact hk.elim
def cCompile := addC 9 kCompile cComp
theorem okCompile : Sound env cCompile := sound_add sCompile (okComp)

end Go.Proofs.Ytmfnadojephcpaa
