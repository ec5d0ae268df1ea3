import Derived.Test.YtlenjfbmpekabaaDoorA30
import Derived.Test.YtlenjfbmpekabaaDoorN29
import Derived.KernelRfl
set_option linter.unusedVariables false
set_option linter.unusedSimpArgs false
namespace Go.Proofs.YtlenjfbmpekabaaDoor
open Go.Pv Go.M29
def kPick (xs : List IV) (h : Heap) (K : IV -> Heap -> Prop) : Prop := match xs with
 | [.int .i64 n, .int .i64 m] => (0 < m /\ m < 4611686018427387904) /\ K (.int .i64 (n % m)) h
 | _ => False
set_option maxRecDepth 100000 in
theorem vPick (n m : Int) (h : Heap) (Q : IV -> Heap -> Prop) : dF (stdS cNames) env 17 noU noI noI [.int .i64 n, .int .i64 m] h Q = (
 needS (!m == 0) (brS (decide (Int.tmod n m < 0)) (Q (.int .i64 (IntKind.wrap .i64 (Int.tmod n m + m))) h) (Q (.int .i64 (Int.tmod n m)) h))) := by kernel_rfl
theorem sPick : ∀ xs h Q, kPick xs h Q -> CallW env 17 xs h Q := by
 intro xs h Q hk
 unfold kPick at hk
 split at hk
 ·rename_i n m
  refine dF_run (okNames) (vPick n m h Q) ?_
  obtain ⟨hm, hk⟩ := hk
  have h1 := Int.emod_emod_of_dvd n (Int.dvd_refl m)
  have ht := Go.M13.tmod_cases n m hm.1
  refine needS_intro (by simp; omega) (brS_intro (fun hc => q_eq hk ?_) (fun hc => q_eq hk ?_))
  ·simp only [decide_eq_true_eq] at hc; rw [IntWalk.i64_in _ (by omega)]; congr 1; omega
  ·simp only [decide_eq_false_iff_not] at hc; congr 1; omega
 ·exact hk.elim
def cPick := addC 17 kPick cNames
theorem okPick : Sound env cPick := sound_add sPick (okNames)
def kWord (xs : List IV) (h : Heap) (K : IV -> Heap -> Prop) : Prop := match xs with
 | [.int .i64 n, .int .i64 raw] => K (.int .i64 (Go.M13.word n raw)) h
 | _ => False
set_option maxRecDepth 100000 in
theorem vWord (n raw : Int) (h : Heap) (Q : IV -> Heap -> Prop) : dF (stdS cPick) env 53 noU noI noI [.int .i64 n, .int .i64 raw] h Q = (
 ((0 : Int) < 24 /\ (24 : Int) < 4611686018427387904) /\
 brS (decide (n % (24 : Int) < 10))
 (needS (decide (0 <= n % (24 : Int)) && decide (n % (24 : Int) < 10))
 (ldIS .i64
 [IV.int .i64 0, IV.int .i64 1, IV.int .i64 (-1), IV.int .i64 2, IV.int .i64 (-9223372036854775808), IV.int .i64 9223372036854775807,
 IV.int .i64 4294967296, IV.int .i64 (-2147483648), IV.int .i64 63, IV.int .i64 64]
 (Int.toNat (n % (24 : Int)) * 1) fun n0 => Q (.int .i64 n0) h))
 (brS (decide (n % (24 : Int) < 22))
 (((0 : Int) < 17 /\ (17 : Int) < 4611686018427387904) /\ Q (.int .i64 (IntKind.wrap .i64 (IntKind.wrap .i64 (Int.tdiv n (24 : Int)) % (17 : Int) - 6))) h) (Q (.int .i64 raw) h))) := by kernel_rfl
theorem sWord : ∀ xs h Q, kWord xs h Q -> CallW env 53 xs h Q := by
 intro xs h Q hk
 unfold kWord at hk
 split at hk
 ·rename_i n raw
  refine dF_run (okPick) (vWord n raw h Q) ?_
  refine And.intro (by omega) (brS_intro (fun hc => ?_) (fun hc => brS_intro (fun hd => And.intro (by omega) (q_eq hk ?_)) (fun hd => q_eq hk ?_)))
  ·simp only [decide_eq_true_eq] at hc
   refine needS_intro (by simp; omega) ?_
   obtain ⟨e, he⟩ := Go.M13.edge_at n hc
   unfold Go.M13.word at hk
   rw [if_pos hc, he.2] at hk
   rw [Nat.mul_one]
   show ldIS .i64 (Go.M13.edges.map (IV.int .i64)) _ _
   unfold ldIS
   rw [List.getElem?_map, he.1]
   exact hk
  ·simp only [decide_eq_true_eq, decide_eq_false_iff_not] at hc hd
   unfold Go.M13.word; rw [if_neg hc, if_pos hd, IntWalk.i64_in (IntKind.i64.wrap (n.tdiv 24) % 17 - 6) (by omega)]
  ·simp only [decide_eq_false_iff_not] at hc hd
   unfold Go.M13.word; rw [if_neg hc, if_neg hd]
 ·exact hk.elim
def cWord := addC 53 kWord cPick
theorem okWord : Sound env cWord := sound_add sWord (okPick)
def kFields (xs : List IV) (h : Heap) (K : IV -> Heap -> Prop) : Prop := match xs with
 | [.int .i64 f] => K (.tuple [.bool (fA f), .bool (fB f), .bool (fC f), .bool (fN f)]) h
 | _ => False
set_option maxRecDepth 100000 in
theorem vFields (f : Int) (h : Heap) (Q : IV -> Heap -> Prop) : dF (stdS cWord) env 78 noU noI noI [.int .i64 f] h Q = (
 brS (f == 2) (Q (.tuple [.bool true, IV.bool false, IV.bool false, IV.bool false]) h)
 (brS (f == 3) (Q (.tuple [.bool true, IV.bool true, IV.bool false, IV.bool false]) h)
 (brS (f == 4) (Q (.tuple [.bool true, IV.bool true, IV.bool true, IV.bool false]) h)
 (brS (f == 5) (Q (.tuple [.bool true, IV.bool false, IV.bool false, IV.bool true]) h)
 (brS (f == 6) (Q (.tuple [.bool true, IV.bool false, IV.bool false, IV.bool true]) h)
 (brS (f == 7) (Q (.tuple [.bool true, IV.bool true, IV.bool false, IV.bool true]) h)
 (brS (f == 8) (Q (.tuple [.bool false, IV.bool false, IV.bool false, IV.bool true]) h) (Q (.tuple [.bool false, IV.bool false, IV.bool false, IV.bool false]) h)))))))) := by kernel_rfl
theorem sFields : ∀ xs h Q, kFields xs h Q -> CallW env 78 xs h Q := by
 intro xs h Q hk
 unfold kFields at hk
 split at hk
 ·rename_i f
  refine dF_run (okWord) (vFields f h Q) ?_
  repeat' (first | refine needS_intro ?_ ?_ | refine brS_intro (fun _ => ?_) (fun _ => ?_) | refine And.intro ?_ ?_ | (intro _))
  all_goals (try simp only [beq_iff_eq, beq_eq_false_iff_ne, bne_iff_ne, ne_eq, bne_eq_false_iff_eq, decide_eq_true_eq, decide_eq_false_iff_not, Bool.not_eq_true', Bool.not_eq_false'] at *)
  all_goals first | exact hk | omega | (refine q_eq hk ?_; simp only [IV.agg.injEq, IV.tuple.injEq, IV.int.injEq, IV.bool.injEq, IV.vslice.injEq, List.cons.injEq, true_and, and_true]; grind [fA, fB, fC, fN])
 ·exact hk.elim
def cFields := addC 78 kFields cWord
theorem okFields : Sound env cFields := sound_add sFields (okWord)
def kImmR (xs : List IV) (h : Heap) (K : IV -> Heap -> Prop) : Prop := match xs with
 | [.int .i64 op] => K (.tuple [.int .i64 (loI op), .int .i64 (hiI op)]) h
 | _ => False
set_option maxRecDepth 100000 in
theorem vImmR (op : Int) (h : Heap) (Q : IV -> Heap -> Prop) : dF (stdS cFields) env 79 noU noI noI [.int .i64 op] h Q = (
 brS (op == 14) (Q (.tuple [.int .i64 (-9223372036854775808), IV.int .i64 9223372036854775807]) h)
 (brS (op == 4) (Q (.tuple [.int .i64 1, IV.int .i64 33554431]) h)
 (brS (op == 5) (Q (.tuple [.int .i64 (-33554432), IV.int .i64 33554431]) h)
 (brS (op == 6) (Q (.tuple [.int .i64 0, IV.int .i64 7]) h)
 (brS (op == 34) (Q (.tuple [.int .i64 0, IV.int .i64 3]) h)
 (brS (op == 35) (Q (.tuple [.int .i64 0, IV.int .i64 3]) h)
 (brS (op == 36) (Q (.tuple [.int .i64 0, IV.int .i64 2999]) h)
 (brS (op == 37) (Q (.tuple [.int .i64 0, IV.int .i64 2999]) h) (Q (.tuple [.int .i64 (-4194304), IV.int .i64 4194303]) h))))))))) := by kernel_rfl
theorem sImmR : ∀ xs h Q, kImmR xs h Q -> CallW env 79 xs h Q := by
 intro xs h Q hk
 unfold kImmR at hk
 split at hk
 ·rename_i op
  refine dF_run (okFields) (vImmR op h Q) ?_
  repeat' (first | refine needS_intro ?_ ?_ | refine brS_intro (fun _ => ?_) (fun _ => ?_) | refine And.intro ?_ ?_ | (intro _))
  all_goals (try simp only [beq_iff_eq, beq_eq_false_iff_ne, bne_iff_ne, ne_eq, bne_eq_false_iff_eq, decide_eq_true_eq, decide_eq_false_iff_not, Bool.not_eq_true', Bool.not_eq_false'] at *)
  all_goals first | exact hk | omega | (refine q_eq hk ?_; simp only [IV.agg.injEq, IV.tuple.injEq, IV.int.injEq, IV.bool.injEq, IV.vslice.injEq, List.cons.injEq, true_and, and_true]; grind [loI, hiI])
 ·exact hk.elim
def cImmR := addC 79 kImmR cFields
theorem okImmR : Sound env cImmR := sound_add sImmR (okFields)
def kValid (xs : List IV) (h : Heap) (K : IV -> Heap -> Prop) : Prop := match xs with
 | [.agg [.int .i64 op, .int .i64 a, .int .i64 b, .int .i64 c, .int .i64 n]] => K (.bool (validI op a b c n)) h
 | _ => False
noncomputable abbrev z65a (op a b c n : Int) := some (TV.l 1 0) = some (TV.l 1 0) /\ some (TV.v (.bool (fN (Row.fm (rowOf op))))) = some (TV.v (.bool (fN (Row.fm (rowOf op))))) /\ some [IV.int .i64 op, IV.int .i64 a, IV.int .i64 b, IV.int .i64 c, IV.int .i64 n] = some [IV.int .i64 op, IV.int .i64 a, IV.int .i64 b, IV.int .i64 c, IV.int .i64 n] /\ Heap.mk PT.nil 0 = Heap.mk PT.nil 0 /\ (okI op = true /\ (fA (Row.fm (rowOf op)) = true \/ a = 0) /\ (fB (Row.fm (rowOf op)) = true \/ b = 0) /\ (fC (Row.fm (rowOf op)) = true \/ c = 0) /\ (fN (Row.fm (rowOf op)) = true \/ n = 0)) /\ True
noncomputable def z65d  := IV.bool false
noncomputable def z65b (op a b c n : Int) (h : Heap) (Q : IV -> Heap -> Prop) := brS (!fC (Row.fm (rowOf op))) (brS (c != 0) (Q z65d h) (brS (!fN (Row.fm (rowOf op))) (brS (n != 0) (Q z65d h) (z65a op a b c n)) (z65a op a b c n))) (brS (!fN (Row.fm (rowOf op))) (brS (n != 0) (Q z65d h) (z65a op a b c n)) (z65a op a b c n))
noncomputable def z65c (op b c n : Int) (h : Heap) (Q : IV -> Heap -> Prop) := brS (decide (b < 0)) (Q z65d h) (brS (decide (b >= 8)) (Q z65d h) (brS (decide (c < 0)) (Q z65d h) (brS (decide (c >= 8)) (Q z65d h) (brS (!fN (Row.fm (rowOf op))) (Q (.bool true) h) (brS (decide (n >= loI op)) (Q (.bool (decide (n <= hiI op))) h) (Q z65d h))))))
set_option maxRecDepth 100000 in
theorem vValid (op a b c n : Int) (h : Heap) (Q : IV -> Heap -> Prop) : dF (stdS cImmR) env 65 noU noI (ic1 8 (atP (okI op = true /\ (fA (rowOf op).fm = true \/ a = 0) /\ (fB (rowOf op).fm = true \/ b = 0) /\ (fC (rowOf op).fm = true \/ c = 0) /\ (fN (rowOf op).fm = true \/ n = 0)) [(1, .l 1 0), (8, .v (.bool (fN (rowOf op).fm)))] [(1, [.int .i64 op, .int .i64 a, .int .i64 b, .int .i64 c, .int .i64 n])] Heap.empty)) [.agg [.int .i64 op, .int .i64 a, .int .i64 b, .int .i64 c, .int .i64 n]] h Q = (
 brS (!okI op) (Q z65d h) (brS (!fA (Row.fm (rowOf op))) (brS (a != 0) (Q z65d h) (brS (!fB (Row.fm (rowOf op))) (brS (b != 0) (Q z65d h) (z65b op a b c n h Q)) (z65b op a b c n h Q))) (brS (!fB (Row.fm (rowOf op))) (brS (b != 0) (Q z65d h) (z65b op a b c n h Q)) (z65b op a b c
 n h Q)) /\ ∀ (x : Unit) (b_1 : FF), okI op = true /\ (fA (Row.fm (rowOf op)) = true \/ a = 0) /\ (fB (Row.fm (rowOf op)) = true \/ b = 0) /\ (fC (Row.fm (rowOf op)) = true \/ c = 0) /\ (fN (Row.fm (rowOf op)) = true \/ n = 0) -> brS (op == 6) (brS (decide (a < 0))
 (Q z65d h) (brS (decide (a > 6)) (Q z65d h) (z65c op b c n h Q))) (brS (decide (a < 0)) (Q z65d h) (brS (decide (a > 7)) (Q z65d h) (z65c op b c n h Q))))) := by kernel_rfl
set_option maxHeartbeats 4000000 in
theorem sValid : ∀ xs h Q, kValid xs h Q -> CallW env 65 xs h Q := by
 intro xs h Q hk
 unfold kValid at hk
 split at hk
 ·rename_i op a b c n
  refine dF_run (okImmR) (vValid op a b c n h Q) ?_
  delta z65a z65b z65c z65d
  repeat' (first | refine needS_intro ?_ ?_ | refine brS_intro (fun _ => ?_) (fun _ => ?_) | refine And.intro ?_ ?_ | (intro _))
  all_goals (try simp only [beq_iff_eq, beq_eq_false_iff_ne, bne_iff_ne, ne_eq, bne_eq_false_iff_eq, decide_eq_true_eq, decide_eq_false_iff_not, Bool.not_eq_true', Bool.not_eq_false'] at *)
  all_goals first | exact hk | rfl | trivial | assumption | (refine q_eq hk ?_; simp only [IV.agg.injEq, IV.tuple.injEq, IV.int.injEq, IV.bool.injEq, IV.vslice.injEq, List.cons.injEq, true_and, and_true]; grind [validI, fm_eq]) | grind
 ·exact hk.elim
def cValid := addC 65 kValid cImmR
theorem okValid : Sound env cValid := sound_add sValid (okImmR)
def kForm (xs : List IV) (h : Heap) (K : IV -> Heap -> Prop) : Prop := match xs with
 | [.int .i64 op] => K (.int .i64 (fmI op)) h
 | _ => False
set_option maxRecDepth 100000 in
theorem vForm (op : Int) (h : Heap) (Q : IV -> Heap -> Prop) : dF (stdS cValid) env 63 noU noI noI [.int .i64 op] h Q = (
 brS (op == 1) (Q (.int .i64 1) h)
 (brS (op == 2) (Q (.int .i64 1) h)
 (brS (op == 3) (Q (.int .i64 1) h)
 (brS (op == 4) (Q (.int .i64 8) h)
 (brS (op == 5) (Q (.int .i64 8) h)
 (brS (op == 6) (Q (.int .i64 5) h)
 (brS (op == 7) (Q (.int .i64 5) h)
 (brS (op == 8) (Q (.int .i64 5) h)
 (brS (op == 13) (Q (.int .i64 5) h)
 (brS (op == 33) (Q (.int .i64 5) h)
 (brS (op == 36) (Q (.int .i64 5) h)
 (brS (op == 37) (Q (.int .i64 5) h)
 (brS (op == 9) (Q (.int .i64 2) h)
 (brS (op == 15) (Q (.int .i64 2) h)
 (brS (op == 16) (Q (.int .i64 2) h)
 (brS (op == 11) (Q (.int .i64 4) h)
 (brS (op == 12) (Q (.int .i64 4) h)
 (brS (op == 14) (Q (.int .i64 6) h)
 (brS (op == 34) (Q (.int .i64 7) h)
 (brS (op == 35) (Q (.int .i64 7) h)
 (brS (op == 10) (Q (.int .i64 3) h) (brS (isBin op) (Q (.int .i64 3) h) (Q (.int .i64 0) h))))))))))))))))))))))) := by kernel_rfl
theorem sForm : ∀ xs h Q, kForm xs h Q -> CallW env 63 xs h Q := by
 intro xs h Q hk
 unfold kForm at hk
 split at hk
 ·rename_i op
  refine dF_run (okValid) (vForm op h Q) ?_
  repeat' (first | refine needS_intro ?_ ?_ | refine brS_intro (fun _ => ?_) (fun _ => ?_) | refine And.intro ?_ ?_ | (intro _))
  all_goals (try simp only [beq_iff_eq, beq_eq_false_iff_ne, bne_iff_ne, ne_eq, bne_eq_false_iff_eq, decide_eq_true_eq, decide_eq_false_iff_not, Bool.not_eq_true', Bool.not_eq_false'] at *)
  all_goals first | exact hk | omega | (refine q_eq hk ?_; simp only [IV.agg.injEq, IV.tuple.injEq, IV.int.injEq, IV.bool.injEq, IV.vslice.injEq, List.cons.injEq, true_and, and_true]; grind [fmI, isBin])
 ·exact hk.elim
def cForm := addC 63 kForm cValid
theorem okForm : Sound env cForm := sound_add sForm (okValid)
def kRBounds (xs : List IV) (h : Heap) (K : IV -> Heap -> Prop) : Prop := match xs with
 | [.int .i64 op] => K (.tuple [.int .i64 (rlo op), .int .i64 (rhi op)]) h
 | _ => False
set_option maxRecDepth 100000 in
theorem vRBounds (op : Int) (h : Heap) (Q : IV -> Heap -> Prop) : dF (stdS cForm) env 81 noU noI noI [.int .i64 op] h Q = (
 brS (op == 4) (Q (.tuple [.int .i64 1, IV.int .i64 33554431]) h)
 (brS (op == 5) (Q (.tuple [.int .i64 (-33554432), IV.int .i64 33554431]) h)
 (brS (op == 6) (Q (.tuple [.int .i64 0, IV.int .i64 7]) h)
 (brS (op == 34) (Q (.tuple [.int .i64 0, IV.int .i64 3]) h)
 (brS (op == 35) (Q (.tuple [.int .i64 0, IV.int .i64 3]) h)
 (brS (op == 36) (Q (.tuple [.int .i64 0, IV.int .i64 2999]) h)
 (brS (op == 37) (Q (.tuple [.int .i64 0, IV.int .i64 2999]) h)
 (brS (op == 14) (Q (.tuple [.int .i64 (-9223372036854775808), IV.int .i64 9223372036854775807]) h)
 (brS (op == 7) (Q (.tuple [.int .i64 (-4194304), IV.int .i64 4194303]) h)
 (brS (op == 8) (Q (.tuple [.int .i64 (-4194304), IV.int .i64 4194303]) h)
 (brS (op == 13) (Q (.tuple [.int .i64 (-4194304), IV.int .i64 4194303]) h)
 (brS (op == 33) (Q (.tuple [.int .i64 (-4194304), IV.int .i64 4194303]) h) (Q (.tuple [.int .i64 0, IV.int .i64 0]) h))))))))))))) := by kernel_rfl
theorem sRBounds : ∀ xs h Q, kRBounds xs h Q -> CallW env 81 xs h Q := by
 intro xs h Q hk
 unfold kRBounds at hk
 split at hk
 ·rename_i op
  refine dF_run (okForm) (vRBounds op h Q) ?_
  repeat' (first | refine needS_intro ?_ ?_ | refine brS_intro (fun _ => ?_) (fun _ => ?_) | refine And.intro ?_ ?_ | (intro _))
  all_goals (try simp only [beq_iff_eq, beq_eq_false_iff_ne, bne_iff_ne, ne_eq, bne_eq_false_iff_eq, decide_eq_true_eq, decide_eq_false_iff_not, Bool.not_eq_true', Bool.not_eq_false'] at *)
  all_goals first | exact hk | omega | (refine q_eq hk ?_; simp only [IV.agg.injEq, IV.tuple.injEq, IV.int.injEq, IV.bool.injEq, IV.vslice.injEq, List.cons.injEq, true_and, and_true]; grind [rlo, rhi])
 ·exact hk.elim
def cRBounds := addC 81 kRBounds cForm
theorem okRBounds : Sound env cRBounds := sound_add sRBounds (okForm)
def kReg (xs : List IV) (h : Heap) (K : IV -> Heap -> Prop) : Prop := match xs with
 | [.int .i64 n] => K (.bool (decide (0 <= n) && decide (n <= 7))) h
 | _ => False
set_option maxRecDepth 100000 in
theorem vReg (n : Int) (h : Heap) (Q : IV -> Heap -> Prop) : dF (stdS cRBounds) env 82 noU noI noI [.int .i64 n] h Q = (
 brS (decide (n >= 0)) (Q (.bool (decide (n < 8))) h) (Q (.bool false) h)) := by kernel_rfl
theorem sReg : ∀ xs h Q, kReg xs h Q -> CallW env 82 xs h Q := by
 intro xs h Q hk
 unfold kReg at hk
 split at hk
 ·rename_i n
  refine dF_run (okRBounds) (vReg n h Q) ?_
  repeat' (first | refine needS_intro ?_ ?_ | refine brS_intro (fun _ => ?_) (fun _ => ?_) | refine And.intro ?_ ?_ | (intro _))
  all_goals (try simp only [beq_iff_eq, beq_eq_false_iff_ne, bne_iff_ne, ne_eq, bne_eq_false_iff_eq, decide_eq_true_eq, decide_eq_false_iff_not, Bool.not_eq_true', Bool.not_eq_false'] at *)
  all_goals first | exact hk | omega | (refine q_eq hk ?_; simp only [IV.agg.injEq, IV.tuple.injEq, IV.int.injEq, IV.bool.injEq, IV.vslice.injEq, List.cons.injEq, true_and, and_true]; grind [])
 ·exact hk.elim
def cReg := addC 82 kReg cRBounds
theorem okReg : Sound env cReg := sound_add sReg (okRBounds)
def kRValid (xs : List IV) (h : Heap) (K : IV -> Heap -> Prop) : Prop := match xs with
 | [.agg [.int .i64 op, .int .i64 a, .int .i64 b, .int .i64 c, .int .i64 n]] => K (.bool (validI op a b c n)) h
 | _ => False
noncomputable def z69b  := IV.bool false
noncomputable def z69a (op a b c : Int) (h : Heap) (Q : IV -> Heap -> Prop) := brS (fmI op != 4) (brS (c != 0) (Q z69b h) (brS (op == 6) (brS (decide (a >= 0)) (Q (.bool (decide (a <= 6))) h) (Q z69b h)) (brS (decide (0 <= a) && decide (a <= 7)) (brS (decide (0 <= b) && decide (b <= 7)) (Q (.bool (decide (0 <= c) && decide (c <= 7))) h) (Q z69b h)) (Q z69b h)))) (brS (op == 6) (brS (decide (a >= 0)) (Q (.bool (decide (a <= 6))) h) (Q z69b h)) (brS (decide (0 <= a) && decide (a <= 7)) (brS (decide (0 <= b) && decide (b <= 7)) (Q (.bool (decide (0 <= c) && decide (c <= 7))) h) (Q z69b h)) (Q z69b h)))
noncomputable def z69c (op a b c : Int) (h : Heap) (Q : IV -> Heap -> Prop) := brS (!fmI op == 7) (brS (b != 0) (Q z69b h) (z69a op a b c h Q)) (z69a op a b c h Q)
set_option maxRecDepth 100000 in
theorem vRValid (op a b c n : Int) (h : Heap) (Q : IV -> Heap -> Prop) : dF (stdS cReg) env 69 noU noI noI [.agg [.int .i64 op, .int .i64 a, .int .i64 b, .int .i64 c, .int .i64 n]] h Q = (
 brS (fmI op == 0) (Q z69b h) (brS (decide (n < rlo op)) (Q z69b h) (brS (decide (n > rhi op)) (Q z69b h) (brS (fmI op != 1) (brS (fmI op == 3) (brS (!fmI op != 8) (brS (a != 0) (Q z69b h) (z69a op a b c h Q)) (z69a op a b c h Q)) (brS (fmI op == 4) (brS
 (!fmI op != 8) (brS (a != 0) (Q z69b h) (z69a op a b c h Q)) (z69a op a b c h Q)) (brS (!fmI op != 8) (brS (a != 0) (Q z69b h) (z69c op a b c h Q)) (z69c op a b c h Q)))) (brS (fmI op == 3) (brS (a != 0) (Q z69b h) (z69a op a b c h Q)) (brS (fmI op == (4
 : Int)) (brS (a != 0) (Q z69b h) (z69a op a b c h Q)) (brS (a != 0) (Q z69b h) (z69c op a b c h Q)))))))) := by kernel_rfl
set_option maxHeartbeats 4000000 in
theorem sRValid : ∀ xs h Q, kRValid xs h Q -> CallW env 69 xs h Q := by
 intro xs h Q hk
 unfold kRValid at hk
 split at hk
 ·rename_i op a b c n
  refine dF_run (okReg) (vRValid op a b c n h Q) ?_
  delta z69a z69b z69c
  rw [<- rvalid_eq] at hk
  repeat' (first | refine needS_intro ?_ ?_ | refine brS_intro (fun _ => ?_) (fun _ => ?_) | refine And.intro ?_ ?_ | (intro _))
  all_goals (try simp only [beq_iff_eq, beq_eq_false_iff_ne, bne_iff_ne, ne_eq, bne_eq_false_iff_eq, decide_eq_true_eq, decide_eq_false_iff_not, Bool.not_eq_true', Bool.not_eq_false'] at *)
  all_goals first | exact hk | omega | (refine q_eq hk ?_; simp only [IV.agg.injEq, IV.tuple.injEq, IV.int.injEq, IV.bool.injEq, IV.vslice.injEq, List.cons.injEq, true_and, and_true]; grind [rvalidI, fB])
 ·exact hk.elim
def cRValid := addC 69 kRValid cReg
theorem okRValid : Sound env cRValid := sound_add sRValid (okReg)
def kNext (xs : List IV) (h : Heap) (K : IV -> Heap -> Prop) : Prop := match xs with
 | [.ptr id 0, .int .i64 m] => hgetS h id fun cs => match cs with | [.int .i64 n] => (0 < m /\ m < 4611686018427387904) /\ K (.int .i64 (n % m)) (h.set id (.cells [.int .i64 (nx n m)])) | _ => False
 | _ => False
set_option maxRecDepth 100000 in
theorem vNext (id : Nat) (m : Int) (h : Heap) (Q : IV -> Heap -> Prop) : dF (stdS cRValid) env 80 noU noI noI [.ptr id 0, .int .i64 m] h Q = (
 hgetS h id fun r0 =>
 ldIS .i64 r0 0 fun n1 =>
 (0 < m /\ m < 4611686018427387904) /\
 hgetS h id fun r2 =>
 ldIS .i64 r2 0 fun n3 =>
 needS (!m == 0)
 (hgetS h id fun r4 =>
 needS (Nat.ble 1 r4.length)
 (Q (.int .i64 (n1 % m)) (Heap.set h id (IObj.cells (IV.int .i64 (IntKind.wrap .i64 (Int.tdiv (IntKind.wrap .i64 (n3 - n1 % m)) m)) :: List.drop 1 r4)))))) := by kernel_rfl
set_option maxRecDepth 100000 in
theorem sNext : ∀ xs h Q, kNext xs h Q -> CallW env 80 xs h Q := by
 intro xs h Q hk
 unfold kNext at hk
 split at hk
 ·rename_i id m
  unfold hgetS at hk
  split at hk
  case h_2 => exact hk.elim
  rename_i cs hc
  split at hk
  case h_2 => exact hk.elim
  rename_i n
  obtain ⟨⟨h1, h2⟩, hk⟩ := hk
  refine dF_sound okRValid (mp_eq (vNext id m h Q) ?_)
  have e : ∀ K : List IV -> Prop, hgetS h id K = K [.int .i64 n] := fun K => by unfold hgetS; rw [hc]
  simp only [e]
  exact ⟨⟨h1, h2⟩, needS_intro (by simp; omega) (needS_intro rfl hk)⟩
 ·exact hk.elim
def cNext := addC 80 kNext cRValid
theorem okNext : Sound env cNext := sound_add sNext (okRValid)
def kInstr (xs : List IV) (h : Heap) (K : IV -> Heap -> Prop) : Prop := match xs with
 | [.int .i64 n] => K (.agg [.int .i64 (kin n).op, .int .i64 (kin n).a, .int .i64 (kin n).b, .int .i64 (kin n).c, .int .i64 (kin n).n]) h
 | _ => False
noncomputable def z66b  := [IV.int .i64 0, IV.int .i64 0, IV.int .i64 0, IV.int .i64 0, IV.int .i64 0]
noncomputable def z66f  := TV.v (.ptr 0 0)
noncomputable def z66i  := TV.l 2 0
noncomputable def z66j  := TV.l 4 0
noncomputable def z66k (n : Int) := TV.v (.int .i64 n)
noncomputable def z66n (n : Int) := [IV.int .i64 (kop n), IV.int .i64 (ka n), IV.int .i64 (kb n), IV.int .i64 0, IV.int .i64 0]
noncomputable abbrev z66o  := (0 : Int) < 8 /\ (8 : Int) < 4611686018427387904
noncomputable def z66p (n : Int) := TV.v (.int .i64 (fmI (kop n)))
noncomputable abbrev z66a (n : Int) := z66o /\ some (z66k n) = some (z66k n) /\ some z66i = some z66i /\ some z66f = some z66f /\ some z66j = some z66j /\ some (z66p n) = some (z66p n) /\ some z66b = some z66b /\ some [IV.int .i64 (kop n), IV.int .i64 (ka n), IV.int .i64 (kn2 n % (8 : Int)), IV.int .i64 0, IV.int .i64 0] = some (z66n n) /\ Heap.mk (PT.node PT.nil (some (IObj.cells [IV.int .i64 (nx (kn2 n) (8 : Int))])) PT.nil) (1 : Nat) = Heap.mk (PT.node PT.nil (some (IObj.cells [IV.int .i64 (kn3 n)])) PT.nil) (1 : Nat) /\ True /\ True
noncomputable def z66l (n : Int) := IntKind.wrap .i64 ((1 : Int) + n % (37 : Int))
noncomputable def z66m (n : Int) := [IV.int .i64 (kop n), IV.int .i64 (ka n), IV.int .i64 0, IV.int .i64 0, IV.int .i64 0]
noncomputable abbrev z66c (n : Int) := some (z66k n) = some (z66k n) /\ some z66i = some z66i /\ some z66f = some z66f /\ some z66j = some z66j /\ some (TV.v (.int .i64 (Row.fm (rowOf (z66l n))))) = some (z66p n) /\ some z66b = some z66b /\ some [IV.int .i64 (z66l n), IV.int .i64 0, IV.int .i64 0, IV.int .i64 0, IV.int .i64 0] = some (z66m n) /\ Heap.mk (PT.node PT.nil (some (IObj.cells [IV.int .i64 (nx n (37 : Int))])) PT.nil) ((0 : Nat) + 1) = Heap.mk (PT.node PT.nil (some (IObj.cells [IV.int .i64 (kn2 n)])) PT.nil) (1 : Nat) /\ True /\ True
noncomputable abbrev z66d (n : Int) (h : Heap) (Q : IV -> Heap -> Prop) := ((0 : Int) < 15 /\ (15 : Int) < 4611686018427387904) /\ Q (.agg [.int .i64 (kop n), IV.int .i64 (ka n), IV.int .i64 (kb n), IV.int .i64 (kc n), IV.int .i64 (IntKind.wrap .i64 (kn4 n % (15 : Int) - 6))]) h
noncomputable def z66e (n : Int) := [IV.int .i64 (kop n), IV.int .i64 (ka n), IV.int .i64 (kb n), IV.int .i64 (kc n), IV.int .i64 0]
noncomputable abbrev z66g (n : Int) (h : Heap) (Q : IV -> Heap -> Prop) := ((0 : Int) < 2 /\ (2 : Int) < 4611686018427387904) /\ Q (.agg [.int .i64 (kop n), IV.int .i64 (ka n), IV.int .i64 (kb n), IV.int .i64 (kc n), IV.int .i64 (kn4 n % (2 : Int))]) h
noncomputable abbrev z66h (n : Int) (h : Heap) (Q : IV -> Heap -> Prop) := ((0 : Int) < 6 /\ (6 : Int) < 4611686018427387904) /\ Q (.agg [.int .i64 (kop n), IV.int .i64 (ka n), IV.int .i64 (kb n), IV.int .i64 (kc n), IV.int .i64 (kn4 n % (6 : Int))]) h
set_option maxRecDepth 100000 in
theorem vInstr (n : Int) (h : Heap) (Q : IV -> Heap -> Prop) : dF (stdS cNext) env 66 noU noI (icA 8 (atC [(0, .v (.int .i64 n)), (2, .l 2 0), (3, .v (.ptr 0 0)), (4, .l 4 0), (7, .v (.int .i64 (fmI (kop n))))] [(2, [.int .i64 0, .int .i64 0, .int .i64 0, .int .i64 0, .int .i64 0]), (4, [.int .i64 (kop n), .int .i64 (ka n), .int .i64 (0), .int .i64 (0), .int .i64 0])] ⟨.node .nil (some (.cells [.int .i64 (kn2 n)])) .nil, 1⟩) (icA 10 (atC [(0, .v (.int .i64 n)), (2, .l 2 0), (3, .v (.ptr 0 0)), (4, .l 4 0), (7, .v (.int .i64 (fmI (kop n))))] [(2, [.int .i64 0, .int .i64 0, .int .i64 0, .int .i64 0, .int .i64 0]), (4, [.int .i64 (kop n), .int .i64 (ka n), .int .i64 (kb n), .int .i64 (0), .int .i64 0])] ⟨.node .nil (some (.cells [.int .i64 (kn3 n)])) .nil, 1⟩) (ic1 12 (atC [(0, .v (.int .i64 n)), (2, .l 2 0), (3, .v (.ptr 0 0)), (4, .l 4 0)] [(2, [.int .i64 0, .int .i64 0, .int .i64 0, .int .i64 0, .int .i64 0]), (4, [.int .i64 (kop n), .int .i64 (ka n), .int .i64 (kb n), .int .i64 (kc n), .int .i64 0])] ⟨.node .nil (some (.cells [.int .i64 (kn4 n)])) .nil, 1⟩)))) [.int .i64 n] h Q = (
 ((0 : Int) < 37 /\ (37 : Int) < 4611686018427387904) /\ brS (Row.fm (rowOf (z66l n)) != 1) (brS (Row.fm (rowOf (z66l n)) != 8) (z66o /\ some (z66k n) = some (z66k n) /\ some z66i = some z66i /\ some z66f = some z66f /\ some z66j = some z66j /\ some (TV.v (.int .i64 (Row.fm
 (rowOf (z66l n))))) = some (z66p n) /\ some z66b = some z66b /\ some [IV.int .i64 (z66l n), IV.int .i64 (nx n (37 : Int) % (8 : Int)), IV.int .i64 0, IV.int .i64 0, IV.int .i64 0] = some (z66m n) /\ Heap.mk (PT.node PT.nil (some (IObj.cells [IV.int
 .i64 (nx (nx n (37 : Int)) (8 : Int))])) PT.nil) ((0 : Nat) + 1) = Heap.mk (PT.node PT.nil (some (IObj.cells [IV.int .i64 (kn2 n)])) PT.nil) (1 : Nat) /\ True /\ True) (z66c n)) (z66c n) /\ ∀ (x : Unit) (b : FF), True -> brS (fmI (kop n) == 3) (z66a n) (brS (fmI (kop n) == (4
 : Int)) (z66a n) (brS (fmI (kop n) == 7) (z66a n) (some (z66k n) = some (z66k n) /\ some z66i = some z66i /\ some z66f = some z66f /\ some z66j = some z66j /\ some (z66p n) = some (z66p n) /\ some z66b = some z66b /\ some (z66m n) = some (z66n n) /\ Heap.mk (PT.node PT.nil (some (IObj.cells [IV.int
 .i64 (kn2 n)])) PT.nil) (1 : Nat) = Heap.mk (PT.node PT.nil (some (IObj.cells [IV.int .i64 (kn3 n)])) PT.nil) (1 : Nat) /\ True /\ True))) /\ ∀ (x : Unit) (b : FF), True -> brS (fmI (kop n) == 4) (z66o /\ some (z66k n) = some (z66k n) /\ some z66i = some z66i /\ some z66f = some z66f /\
 some z66j = some z66j /\ some z66b = some z66b /\ some [IV.int .i64 (kop n), IV.int .i64 (ka n), IV.int .i64 (kb n), IV.int .i64 (kn3 n % (8 : Int)), IV.int .i64 0] = some (z66e n) /\ Heap.mk (PT.node PT.nil (some (IObj.cells [IV.int .i64 (nx (kn3 n) (8
 : Int))])) PT.nil) (1 : Nat) = Heap.mk (PT.node PT.nil (some (IObj.cells [IV.int .i64 (kn4 n)])) PT.nil) (1 : Nat) /\ True /\ True) (some (z66k n) = some (z66k n) /\ some z66i = some z66i /\ some z66f = some z66f /\ some z66j = some z66j /\ some z66b = some z66b /\ some (z66n n) = some (z66e n) /\ Heap.mk
 (PT.node PT.nil (some (IObj.cells [IV.int .i64 (kn3 n)])) PT.nil) (1 : Nat) = Heap.mk (PT.node PT.nil (some (IObj.cells [IV.int .i64 (kn4 n)])) PT.nil) (1 : Nat) /\ True /\ True) /\ ∀ (x : Unit) (b : FF), True -> brS (kop n == 4) (((0 : Int) < 40 /\ (40 : Int) < (4611686018427387904
 : Int)) /\ Q (.agg [.int .i64 (kop n), IV.int .i64 (ka n), IV.int .i64 (kb n), IV.int .i64 (kc n), IV.int .i64 (IntKind.wrap .i64 ((1 : Int) + kn4 n % (40 : Int)))]) h) (brS (kop n == 6) (((0 : Int) < 3 /\ (3 : Int) < (4611686018427387904 :
 Int)) /\ ((0 : Int) < 2 /\ (2 : Int) < 4611686018427387904) /\ Q (.agg [.int .i64 (kop n), IV.int .i64 (kn4 n % (3 : Int)), IV.int .i64 (kb n), IV.int .i64 (kc n), IV.int .i64 (nx (kn4 n) (3 : Int) % (2 : Int))]) h) (brS (kop n == 34) (z66g
 n h Q) (brS (kop n == 35) (z66g n h Q) (brS (kop n == 36) (z66h n h Q) (brS (kop n == 37) (z66h n h Q) (brS (kop n == 14) (((0 : Int) < 500 /\ (500 : Int) < 4611686018427387904) /\ Q (.agg [.int .i64 (kop n), IV.int .i64 (ka n), IV.int .i64
 (kb n), IV.int .i64 (kc n), IV.int .i64 (M13.word (kn4 n % (500 : Int)) n)]) h) (brS (kop n == 13) (z66d n h Q) (brS (kop n == 33) (z66d n h Q) (brS (kop n == 5) (z66d n h Q) (brS (kop n == 7) (z66d n h Q) (brS (kop n == 8) (z66d n h Q) (Q (.agg
 (z66e n)) h))))))))))))) := by kernel_rfl
set_option maxHeartbeats 4000000 in
theorem sInstr : ∀ xs h Q, kInstr xs h Q -> CallW env 66 xs h Q := by
 intro xs h Q hk
 unfold kInstr at hk
 split at hk
 ·rename_i n
  refine dF_run (okNext) (vInstr n h Q) ?_
  delta z66a z66b z66c z66d z66e z66f z66g z66h z66i z66j z66k z66l z66m z66n z66o z66p
  have ho : IntKind.i64.wrap (1 + n % 37) = kop n := IntWalk.i64_in _ (by omega)
  have h4 : IntKind.i64.wrap (1 + kn4 n % 40) = 1 + kn4 n % 40 := IntWalk.i64_in _ (by omega)
  have h5 : IntKind.i64.wrap (kn4 n % 15 - 6) = kn4 n % 15 - 6 := IntWalk.i64_in _ (by omega)
  have hA := fA_iff (fm_range (kop_range n))
  simp only [ho, h4, h5, fm_eq]
  repeat' (first | refine needS_intro ?_ ?_ | refine brS_intro (fun _ => ?_) (fun _ => ?_) | refine And.intro ?_ ?_ | (intro _))
  all_goals (try simp only [beq_iff_eq, beq_eq_false_iff_ne, bne_iff_ne, ne_eq, bne_eq_false_iff_eq, decide_eq_true_eq, decide_eq_false_iff_not, Bool.not_eq_true', Bool.not_eq_false'] at *)
  all_goals first | exact hk | rfl | trivial | omega | assumption | (refine q_eq hk ?_; simp only [IV.agg.injEq, IV.tuple.injEq, IV.int.injEq, IV.bool.injEq, IV.vslice.injEq, List.cons.injEq, true_and, and_true]; grind [kin]) | (simp only [Option.some.injEq, Heap.mk.injEq, PT.node.injEq, IObj.cells.injEq, IV.int.injEq, List.cons.injEq, true_and, and_true]; grind [ka, kb, kc, kn1, kn2, kn3, kn4, fB])
 ·exact hk.elim
def cInstr := addC 66 kInstr cNext
theorem okInstr : Sound env cInstr := sound_add sInstr (okNext)
def kCFl (xs : List IV) (h : Heap) (K : IV -> Heap -> Prop) : Prop := match xs with
 | [.agg [.int .i64 op, .int .i64 a, .int .i64 b, .int .i64 c, .int .i64 n]] => K (.tuple [.bool (cfl op a b c n).1, .bool (cfl op a b c n).2]) h
 | _ => False
set_option maxRecDepth 100000 in
theorem vCFl (op a b c n : Int) (h : Heap) (Q : IV -> Heap -> Prop) : dF (stdS cInstr) env 49 noU noI noI [.agg [.int .i64 op, .int .i64 a, .int .i64 b, .int .i64 c, .int .i64 n]] h Q = (
 brS (!validI op a b c n) (Q (.tuple [.bool false, IV.bool false]) h)
 (brS (op == 2) (Q (.tuple [.bool false, IV.bool false]) h)
 (brS (op == 4) (Q (.tuple [.bool false, IV.bool false]) h)
 (brS (op == 5) (Q (.tuple [.bool false, IV.bool true]) h)
 (brS (op == 7) (Q (.tuple [.bool true, IV.bool true]) h) (brS (op == 8) (Q (.tuple [.bool true, IV.bool true]) h) (Q (.tuple [.bool true, IV.bool false]) h))))))) := by kernel_rfl
theorem sCFl : ∀ xs h Q, kCFl xs h Q -> CallW env 49 xs h Q := by
 intro xs h Q hk
 unfold kCFl at hk
 split at hk
 ·rename_i op a b c n
  refine dF_run (okInstr) (vCFl op a b c n h Q) ?_
  repeat' (first | refine needS_intro ?_ ?_ | refine brS_intro (fun _ => ?_) (fun _ => ?_) | refine And.intro ?_ ?_ | (intro _))
  all_goals (try simp only [beq_iff_eq, beq_eq_false_iff_ne, bne_iff_ne, ne_eq, bne_eq_false_iff_eq, decide_eq_true_eq, decide_eq_false_iff_not, Bool.not_eq_true', Bool.not_eq_false'] at *)
  all_goals first | exact hk | omega | (refine q_eq hk ?_; simp only [IV.agg.injEq, IV.tuple.injEq, IV.int.injEq, IV.bool.injEq, IV.vslice.injEq, List.cons.injEq, true_and, and_true]; grind [cfl])
 ·exact hk.elim
def cCFl := addC 49 kCFl cInstr
theorem okCFl : Sound env cCFl := sound_add sCFl (okInstr)
def kRCFl (xs : List IV) (h : Heap) (K : IV -> Heap -> Prop) : Prop := match xs with
 | [.agg [.int .i64 op, .int .i64 a, .int .i64 b, .int .i64 c, .int .i64 n]] => K (.tuple [.bool (cfl op a b c n).1, .bool (cfl op a b c n).2]) h
 | _ => False
set_option maxRecDepth 100000 in
theorem vRCFl (op a b c n : Int) (h : Heap) (Q : IV -> Heap -> Prop) : dF (stdS cCFl) env 41 noU noI noI [.agg [.int .i64 op, .int .i64 a, .int .i64 b, .int .i64 c, .int .i64 n]] h Q = (
 brS (!validI op a b c n) (Q (.tuple [.bool false, IV.bool false]) h)
 (brS (op != 2)
 (brS (op != 4)
 (brS (op == 5) (Q (.tuple [.bool (op != 5), IV.bool true]) h)
 (brS (op == 7) (Q (.tuple [.bool (op != 5), IV.bool true]) h) (Q (.tuple [.bool (op != 5), IV.bool (op == 8)]) h)))
 (brS (op == 5) (Q (.tuple [.bool false, IV.bool true]) h) (brS (op == 7) (Q (.tuple [.bool false, IV.bool true]) h) (Q (.tuple [.bool false, IV.bool (op == 8)]) h))))
 (brS (op == 5) (Q (.tuple [.bool false, IV.bool true]) h) (brS (op == 7) (Q (.tuple [.bool false, IV.bool true]) h) (Q (.tuple [.bool false, IV.bool (op == 8)]) h))))) := by kernel_rfl
theorem sRCFl : ∀ xs h Q, kRCFl xs h Q -> CallW env 41 xs h Q := by
 intro xs h Q hk
 unfold kRCFl at hk
 split at hk
 ·rename_i op a b c n
  refine dF_run (okCFl) (vRCFl op a b c n h Q) ?_
  repeat' (first | refine needS_intro ?_ ?_ | refine brS_intro (fun _ => ?_) (fun _ => ?_) | refine And.intro ?_ ?_ | (intro _))
  all_goals (try simp only [beq_iff_eq, beq_eq_false_iff_ne, bne_iff_ne, ne_eq, bne_eq_false_iff_eq, decide_eq_true_eq, decide_eq_false_iff_not, Bool.not_eq_true', Bool.not_eq_false'] at *)
  all_goals first | exact hk | omega | (refine q_eq hk ?_; simp only [IV.agg.injEq, IV.tuple.injEq, IV.int.injEq, IV.bool.injEq, IV.vslice.injEq, List.cons.injEq, true_and, and_true]; grind [cfl])
 ·exact hk.elim
def cRCFl := addC 41 kRCFl cCFl
theorem okRCFl : Sound env cRCFl := sound_add sRCFl (okCFl)
noncomputable def cWrites := cRCFl
theorem okWrites : Sound env cWrites := okRCFl
end Go.Proofs.YtlenjfbmpekabaaDoor
