import Derived.Test.YtlenjfbmpekabaaDoorK30
import Derived.Test.YtlenjfbmpekabaaDoorU30
import Derived.KernelRfl
set_option linter.unusedVariables false
set_option linter.unusedSimpArgs false
namespace Go.Proofs.YtlenjfbmpekabaaDoor
open Go.Pv Go.M29 Go.M30
theorem decAcc_len (w : List Int) : ∀ (n : Nat) (k : Int) (acc : List In) (pl : List Int), (decAcc w n k acc pl).1.length <= acc.length + n /\ (decAcc w n k acc pl).2.1.length <= pl.length + n
 | 0, _, _, _ => by simp [decAcc]
 | n + 1, k, acc, pl => by
   rw [decAcc_succ]
   split
   ·split
    ·have := decAcc_len w n (k + (decR w k).2.1) (acc ++ [(decR w k).1]) (pl ++ [k])
     simp only [List.length_append, List.length_cons, List.length_nil] at this
     omega
    ·simp
   ·simp only
    omega
theorem decA_len (w : List Int) : (decA w).1.length <= w.length + 1 /\ (decA w).2.1.length <= w.length + 1 := by
 have := decAcc_len w (w.length + 1) 0 [] []
 simpa [decA] using this
theorem pureL_bools : ∀ {l : List Bool}, pureL (l.map IV.bool) = true
 | [] => rfl
 | _ :: r => by simp only [List.map_cons, pureL, pureB, Bool.true_and]; exact pureL_bools
theorem repl_one (n : Nat) (v : IV) : repl n [v] = List.replicate n v := by
 induction n with
 | zero => rfl
 | succ n ih => simp [repl, ih, List.replicate_succ]
theorem ldBS_map {l : List Bool} {i o : Nat} {K : Bool -> Prop} (h : i < l.length) (ho : o = i) (hk : K l[i]) : ldBS (l.map IV.bool) o K := by
 subst ho
 unfold ldBS
 rw [List.getElem?_map, List.getElem?_eq_getElem h]
 exact hk
theorem binQ {Q : IV -> Heap -> Prop} {h : Heap} {w : List Int} {w' e' p' s' a' : List Int} {nw ne np ns na : Nat} {cw ce cp cs ca : List IV}
  (hk : ∀ w' e' p' s' a' : List Int, (∀ x ∈ w', u32b x) -> w'.length <= w.length -> Q (.agg [.vslice none 0 w'.length 1 (w'.map (IV.int .u32)), .vslice none 0 e'.length 1 (e'.map (IV.int .i64)), .vslice none 0 p'.length 1 (p'.map (IV.int .i64)), .vslice none 0 s'.length 1 (s'.map (IV.int .i64)), .vslice none 0 a'.length 1 (a'.map (IV.int .i64))]) h)
  (hw : ∀ x ∈ w', u32b x) (hl : w'.length <= w.length) (h1 : nw = w'.length /\ cw = w'.map (IV.int .u32)) (h2 : ne = e'.length /\ ce = e'.map (IV.int .i64)) (h3 : np = p'.length /\ cp = p'.map (IV.int .i64)) (h4 : ns = s'.length /\ cs = s'.map (IV.int .i64)) (h5 : na = a'.length /\ ca = a'.map (IV.int .i64)) :
  needS (pureL [.agg [.vslice none 0 nw 1 cw, .vslice none 0 ne 1 ce, .vslice none 0 np 1 cp, .vslice none 0 ns 1 cs, .vslice none 0 na 1 ca]]) (Q (.agg [.vslice none 0 nw 1 cw, .vslice none 0 ne 1 ce, .vslice none 0 np 1 cp, .vslice none 0 ns 1 cs, .vslice none 0 na 1 ca]) h) := by
 obtain ⟨rfl, rfl⟩ := h1
 obtain ⟨rfl, rfl⟩ := h2
 obtain ⟨rfl, rfl⟩ := h3
 obtain ⟨rfl, rfl⟩ := h4
 obtain ⟨rfl, rfl⟩ := h5
 exact needS_intro (by simp only [pureL, pureB, pureL_ints, Bool.and_true]) (hk w' e' p' s' a' hw hl)
theorem okin_n {op a b c n : Int} (h : okIn ⟨op, a, b, c, n⟩ = true) : (op = 6 -> 0 <= n /\ n <= 7) /\ ((op = 34 \/ op = 35) -> 0 <= n /\ n <= 3) := by
 have hv : validI op a b c n = true := h
 unfold validI at hv
 simp only [Bool.and_eq_true, Bool.or_eq_true, decide_eq_true_eq, Bool.not_eq_true'] at hv
 obtain ⟨_, hn⟩ := hv
 refine ⟨fun e => ?_, fun e => ?_⟩
 ·subst e
  rcases hn with hn | hn
  ·simp [fmI, fN] at hn
  ·simpa [loI, hiI] using hn
 ·rcases e with e | e <;> subst e <;> rcases hn with hn | hn
  ·simp [fmI, fN] at hn
  ·simpa [loI, hiI] using hn
  ·simp [fmI, fN] at hn
  ·simpa [loI, hiI] using hn
theorem st34 {G Q0 A : Prop} {op n la : Int} (hF : ¬ G -> Q0) (hv : G -> (op = 34 \/ op = 35) -> n < la) (hA : ((op = 34 \/ op = 35) -> n < la) -> A) :
  brS (op == 34) (brS (decide (n >= la)) Q0 A) (brS (op == 35) (brS (decide (n >= la)) Q0 A) A) := by
 refine brS_intro (fun cJ => brS_intro (fun c => hF fun v => ?_) (fun d => hA fun _ => ?_)) (fun j5 => brS_intro (fun cJ => brS_intro (fun c => hF fun v => ?_) (fun d => hA fun _ => ?_)) (fun j6 => hA fun z => ?_))
 ·rw [beq_iff_eq] at cJ; rw [decide_eq_true_eq] at c; have := hv v (.inl cJ); omega
 ·rw [decide_eq_false_iff_not] at d; omega
 ·rw [beq_iff_eq] at cJ; rw [decide_eq_true_eq] at c; have := hv v (.inr cJ); omega
 ·rw [decide_eq_false_iff_not] at d; omega
 ·rw [beq_eq_false_iff_ne] at j5 j6; omega
theorem st6 {G Q0 A : Prop} {op n ia : Int} {e p : List Int} (hl : p.length = e.length) (h6 : op = 6 -> 0 <= n) (hF : ¬ G -> Q0) (hv : G -> op = 6 -> n < e.length /\ p[n.toNat]? = some ia) (hA : (op = 6 -> n < e.length /\ p[n.toNat]? = some ia) -> A) :
  brS (op == 6) (brS (decide (n >= (e.length : Int))) Q0 (needS (decide (0 <= n) && decide (n < (p.length : Int))) (ldIS .i64 (p.map (IV.int .i64)) (n.toNat * 1) fun m => brS (m != ia) Q0 A))) A := by
 refine brS_intro (fun cJ => brS_intro (fun c => hF fun v => ?_) (fun d1 => ?_)) (fun j => hA fun z => ?_)
 ·rw [beq_iff_eq] at cJ; rw [decide_eq_true_eq] at c; have := hv v cJ; omega
 ·rw [beq_iff_eq] at cJ; rw [decide_eq_false_iff_not] at d1
  have := h6 cJ
  have hnp : n.toNat < p.length := by omega
  rw [Nat.mul_one]
  refine needS_intro (by simp; omega) (ldIS_map hnp (brS_intro (fun c => hF fun v => ?_) (fun d2 => hA fun _ => ⟨by omega, ?_⟩)))
  ·have h3 := (hv v cJ).2
   rw [List.getElem?_eq_getElem hnp] at h3
   rw [bne_iff_ne] at c
   exact c (Option.some.inj h3)
  ·rw [bne_eq_false_iff_eq] at d2
   rw [List.getElem?_eq_getElem hnp, d2]
 ·rw [beq_eq_false_iff_ne] at j; exact absurd z j
theorem stBeg {G Q0 A : Prop} {w pl : List Int} {x : Int} (hp : ∀ p ∈ pl, 0 <= p /\ p < w.length) (hF : ¬ G -> Q0) (hv : G -> x ∈ pl) (hA : x ∈ pl -> A) :
  brS (decide (x < 0)) Q0 (brS (decide (x >= (w.length : Int))) Q0 (needS (decide (0 <= x) && decide (x < (w.length : Int))) (ldBS ((bools w pl).map IV.bool) (x.toNat * 1) fun b => brS (!b) Q0 A))) := by
 refine brS_intro (fun c => hF fun v => ?_) (fun c1 => brS_intro (fun c => hF fun v => ?_) (fun c2 => ?_))
 ·have := hp x (hv v); rw [decide_eq_true_eq] at c; omega
 ·have := hp x (hv v); rw [decide_eq_true_eq] at c; omega
 ·rw [decide_eq_false_iff_not] at c1 c2
  have hlt : x.toNat < (bools w pl).length := by rw [bools_len]; omega
  rw [Nat.mul_one]
  refine needS_intro (by simp; omega) (ldBS_map hlt rfl ?_)
  rw [bools_at]
  have hx : ((x.toNat : Nat) : Int) = x := Int.toNat_of_nonneg (by omega)
  rw [hx]
  refine brS_intro (fun c => hF fun v => ?_) (fun c => hA ?_)
  ·have := hv v
   simp [this] at c
  ·simpa using c
def kWithin (xs : List IV) (h : Heap) (K : IV -> Heap -> Prop) : Prop := match xs with
 | [.int .i64 n, .int .i64 lo, .int .i64 hi] => K (.bool (decide (lo <= n) && decide (n <= hi))) h
 | _ => False
set_option maxRecDepth 100000 in
theorem vWithin (n lo hi : Int) (h : Heap) (Q : IV -> Heap -> Prop) : dF (stdS cRDecAll) env 47 noU noI noI [.int .i64 n, .int .i64 lo, .int .i64 hi] h Q = (
 brS (decide (n >= lo)) (Q (.bool (decide (n <= hi))) h) (Q (.bool false) h)) := by kernel_rfl
theorem sWithin : ∀ xs h Q, kWithin xs h Q -> CallW env 47 xs h Q := by
 intro xs h Q hk
 unfold kWithin at hk
 split at hk
 ·rename_i n lo hi
  refine dF_run (okRDecAll) (vWithin n lo hi h Q) ?_
  refine brS_intro (fun c => q_eq hk ?_) (fun c => q_eq hk ?_)
  ·have c1 : decide (lo <= n) = true := c
   rw [c1, Bool.true_and]
  ·have c1 : decide (lo <= n) = false := c
   rw [c1, Bool.false_and]
 ·exact hk.elim
def cWithin := addC 47 kWithin cRDecAll
theorem okWithin : Sound env cWithin := sound_add sWithin (okRDecAll)
def hB (bl : List Bool) : Heap := ⟨.node (.node .nil (some (.cells [.hslice 0 0 bl.length 1])) .nil) (some (.cells (bl.map IV.bool))) .nil, 2⟩
def begB (bl : List Bool) (n : Int) : Bool := decide (0 <= n) && bl.getD n.toNat false
def kBegin (xs : List IV) (h : Heap) (K : IV -> Heap -> Prop) : Prop := match xs with
 | [.int .i64 n, .ptr id 0] => ∃ bl : List Bool, id = 1 /\ h = hB bl /\ K (.bool (begB bl n)) h
 | _ => False
set_option maxRecDepth 100000 in
theorem vBegin (n : Int) (bl : List Bool) (h : Heap) (Q : IV -> Heap -> Prop) : dF (stdS cWithin) env 50 noU noI noI [.int .i64 n, .ptr 1 0] (hB bl) Q = (
 brS (decide (n >= 0))
 (brS (decide (n < (↑bl.length : Int)))
 (needS (decide (0 <= n) && decide (n < (↑bl.length : Int)))
 (ldBS (List.map IV.bool bl) ((0 : Nat) + n.toNat * 1) fun b0 =>
 Q (.bool b0) (Heap.mk (PT.node (PT.node PT.nil (some (IObj.cells [IV.hslice 0 0 bl.length 1])) PT.nil) (some (IObj.cells (List.map IV.bool bl))) PT.nil) (2 : Nat))))
 (Q (.bool false) (Heap.mk (PT.node (PT.node PT.nil (some (IObj.cells [IV.hslice 0 0 bl.length 1])) PT.nil) (some (IObj.cells (List.map IV.bool bl))) PT.nil) (2 : Nat))))
 (Q (.bool false) (Heap.mk (PT.node (PT.node PT.nil (some (IObj.cells [IV.hslice 0 0 bl.length 1])) PT.nil) (some (IObj.cells (List.map IV.bool bl))) PT.nil) (2 : Nat)))) := by kernel_rfl
theorem sBegin : ∀ xs h Q, kBegin xs h Q -> CallW env 50 xs h Q := by
 intro xs h Q hk
 unfold kBegin at hk
 split at hk
 ·rename_i n id
  obtain ⟨bl, rfl, rfl, hk⟩ := hk
  refine dF_run (okWithin) (vBegin n bl (hB bl) Q) ?_
  refine brS_intro (fun c => ?_) (fun c => ?_)
  ·rw [decide_eq_true_eq] at c
   refine brS_intro (fun c2 => ?_) (fun c2 => ?_)
   ·rw [decide_eq_true_eq] at c2
    have hlt : n.toNat < bl.length := by omega
    refine needS_intro (by simp; omega) (ldBS_map (i := n.toNat) hlt (by omega) ?_)
    have e : begB bl n = bl[n.toNat] := by
     unfold begB
     rw [decide_eq_true (show 0 <= n by omega), List.getD_eq_getElem?_getD, List.getElem?_eq_getElem hlt]
     rfl
    rw [e] at hk
    exact hk
   ·rw [decide_eq_false_iff_not] at c2
    have e : begB bl n = false := by
     unfold begB
     rw [List.getD_eq_getElem?_getD, List.getElem?_eq_none (by omega)]
     simp
    rw [e] at hk
    exact hk
  ·rw [decide_eq_false_iff_not] at c
   have e : begB bl n = false := by
    unfold begB
    rw [decide_eq_false (show ¬ 0 <= n by omega)]
    rfl
   rw [e] at hk
   exact hk
 ·exact hk.elim
def cBegin := addC 50 kBegin cWithin
theorem okBegin : Sound env cBegin := sound_add sBegin (okWithin)
theorem beg_iff {w pl : List Int} {n : Int} (h : ∀ p ∈ pl, 0 <= p /\ p < w.length) : begB (bools w pl) n = true ↔ n ∈ pl := by
 unfold begB
 rw [Bool.and_eq_true, decide_eq_true_eq, List.getD_eq_getElem?_getD]
 constructor
 ·rintro ⟨h0, h1⟩
  by_cases hl : n.toNat < (bools w pl).length
  ·rw [List.getElem?_eq_getElem hl, bools_at] at h1
   simpa [Int.toNat_of_nonneg h0] using h1
  ·rw [List.getElem?_eq_none (by omega)] at h1
   cases h1
 ·intro hm
  obtain ⟨h0, h1⟩ := h n hm
  have hl : n.toNat < (bools w pl).length := by rw [bools_len]; omega
  rw [List.getElem?_eq_getElem hl, bools_at]
  exact ⟨h0, by simpa [Int.toNat_of_nonneg h0] using hm⟩
def stInv (w : List Int) : Inv' := atX Nat (fun k => [(3, .v (.hslice 0 0 w.length 1)), (5, .v (.vslice none 0 ((decA w).2.1).length 1 (((decA w).2.1).map (IV.int .i64)))), (7, .v (.int .i64 k))]) (fun _ => []) (fun k => ⟨.node .nil (some (.cells ((bools w ((decA w).2.1.take k)).map IV.bool))) .nil, 1⟩) (fun k => k <= (decA w).2.1.length) (fun k => (decA w).2.1.length - k)
def kStarts (xs : List IV) (h : Heap) (K : IV -> Heap -> Prop) : Prop := match xs with
 | [.vslice none e1 n1 1 c1] => ∃ w : List Int, (n1 = w.length /\ c1 = w.map (IV.int .u32)) /\ ((∀ x ∈ w, u32b x) /\ w.length <= 1000000 /\ (decA w).2.2 = 0) /\ K (.vslice none 0 w.length 1 ((bools w (decA w).2.1).map IV.bool)) h
 | _ => False
noncomputable def z52a (w : List Int) := Prod.fst (Prod.snd (decA w))
noncomputable def z52b (w : List Int) := TV.v (.vslice none 0 (List.length (z52a w)) 1 (List.map (IV.int .i64) (z52a w)))
noncomputable def z52c (w : List Int) := TV.v (.hslice 0 0 w.length 1)
set_option maxRecDepth 100000 in
theorem vStarts (w : List Int) (e1 : Nat) (h : Heap) (Q : IV -> Heap -> Prop) : dF (stdS cBegin) env 52 noU (ic1 5 (stInv w)) noI [.vslice none e1 (w).length 1 ((w).map (IV.int .u32))] h Q = (
 needS (pureL [IV.vslice none 0 w.length 1 (List.map (IV.int .u32) w)]) (needS (decide (0 <= (↑w.length : Int)) && (decide ((↑w.length : Int) <= (↑w.length : Int)) && (decide ((↑w.length : Int) <= 9223372036854775807) && decide ((1
 : Int) * (↑w.length : Int) <= 140737488355328)))) (∃ (w_1 : List Int), (w.length = w_1.length /\ List.map (IV.int .u32) w = List.map (IV.int .u32) w_1) /\ ((∀ (x : Int), x ∈ w_1 -> u32b x) /\ w_1.length <= 1000000) /\ (∃ (x : Nat), some (TV.v (.hslice (0
 : Nat) 0 (Int.toNat (↑w.length : Int)) 1)) = some (z52c w) /\ some (TV.v (.vslice none 0 (List.length (Prod.fst (Prod.snd (decA w_1)))) 1 (List.map (IV.int .i64) (Prod.fst (Prod.snd (decA w_1)))))) = some (z52b w) /\ some (TV.v (.int .i64 0))
 = some (TV.v (.int .i64 (↑x : Int))) /\ Heap.mk (PT.node PT.nil (some (IObj.cells (repl (Int.toNat (↑w.length : Int)) [IV.bool false]))) PT.nil) ((0 : Nat) + 1) = Heap.mk (PT.node PT.nil (some (IObj.cells (List.map IV.bool (bools w (List.take x (z52a w)))))) PT.nil) (1 : Nat) /\
 Nat.le x (List.length (z52a w)) /\ True) /\ ∀ (x : Nat) (b : FF), x <= List.length (z52a w) -> brS (decide ((↑x : Int) < (↑(List.length (z52a w)) : Int))) (needS (decide (0 <= (↑x : Int)) && decide ((↑x : Int) < (↑(List.length (z52a w)) : Int))) (ldIS .i64 (List.map (IV.int .i64) (z52a
 w)) (Int.toNat (↑x : Int) * 1) fun n0 => needS (decide (0 <= n0) && decide (n0 < (↑w.length : Int))) (needS (Nat.ble ((0 : Nat) + n0.toNat * 1 + (1 : Nat)) (List.length (List.map IV.bool (bools w (List.take x (z52a w)))))) (∃ (x_1 : Nat), some (z52c w) = some
 (z52c w) /\ some (z52b w) = some (z52b w) /\ some (TV.v (.int .i64 (IntKind.wrap .i64 ((↑x : Int) + 1)))) = some (TV.v (.int .i64 (↑x_1 : Int))) /\ Heap.mk (PT.node PT.nil (some (IObj.cells (List.take ((0 : Nat) + n0.toNat * 1) (List.map IV.bool (bools w (List.take
 x (z52a w)))) ++ [IV.bool true] ++ List.drop ((0 : Nat) + n0.toNat * 1 + (1 : Nat)) (List.map IV.bool (bools w (List.take x (z52a w))))))) PT.nil) (1 : Nat) = Heap.mk (PT.node PT.nil (some (IObj.cells (List.map IV.bool (bools w (List.take x_1 (z52a w)))))) PT.nil) (1 : Nat) /\ Nat.le x_1 (List.length
 (z52a w)) /\ List.length (z52a w) - x_1 < List.length (z52a w) - x)))) (needS (true && Nat.ble ((0 : Nat) + w.length * 1) (List.length (List.map IV.bool (bools w (List.take x (z52a w)))))) (needS (pureL [IV.vslice none 0 w.length 1 (List.take (w.length * 1)
 (List.drop 0 (List.map IV.bool (bools w (List.take x (z52a w))))))]) (Q (.vslice none 0 w.length 1 (List.take (w.length * 1) (List.drop 0 (List.map IV.bool (bools w (List.take x (z52a w))))))) h)))))) := by kernel_rfl
set_option maxHeartbeats 2000000 in
theorem sStarts : ∀ xs h Q, kStarts xs h Q -> CallW env 52 xs h Q := by
 intro xs h Q hk
 unfold kStarts at hk
 split at hk
 ·rename_i e1 n1 c1
  obtain ⟨w, ⟨rfl, rfl⟩, hb, hk⟩ := hk
  refine dF_run (okBegin) (vStarts w e1 h Q) ?_
  delta z52a z52b z52c
  obtain ⟨hw, hl, h0⟩ := hb
  have hok := decA_ok hw h0
  have hend : ∀ x : Nat, (x : Int).toNat = x := Int.toNat_natCast
  have hbl : ∀ k, ((bools w ((decA w).2.1.take k)).map IV.bool).length = w.length := fun k => by simp [bools]
  refine needS_intro (by simp only [pureL, pureB, pureL_ints, Bool.and_true]) (needS_intro (by simp; omega) ⟨w, ⟨(by first | rfl | trivial), (by first | rfl | trivial)⟩, ⟨hw, hl⟩, ⟨0, (by first | rfl | trivial), (by first | rfl | trivial), (by first | rfl | trivial), ?_, Nat.zero_le _, trivial⟩, fun k _ hk2 => ?_⟩)
  ·rw [hend, List.take_zero, bools_nil, repl_one]
  ·simp only [hend, Nat.zero_add, Nat.mul_one]
   refine brS_intro (fun c => ?_) (fun c => ?_)
   ·rw [decide_eq_true_eq] at c
    have hlt : k < (decA w).2.1.length := by omega
    have hr := hok.2.1 _ (List.getElem_mem hlt)
    refine needS_intro (by simp; omega) (ldIS_map hlt (needS_intro (by simp; omega) (needS_intro (by rw [Nat.ble_eq, hbl]; omega) ⟨k + 1, (by first | rfl | trivial), (by first | rfl | trivial), by rw [IntWalk.i64_in _ (by have := decA_len w; omega)]; rfl, ?_, hlt, by omega⟩)))
    rw [<- bools_take hlt hr.1 hr.2]
   ·rw [decide_eq_false_iff_not] at c
    have e : (decA w).2.1.take k = (decA w).2.1 := List.take_of_length_le (by omega)
    rw [e, List.drop_zero, List.take_of_length_le (by simp [bools])]
    refine needS_intro (by simp [bools]) (needS_intro ?_ hk)
    simp only [pureL, pureB, pureL_bools, Bool.and_true]
 ·exact hk.elim
def cStarts := addC 52 kStarts cBegin
theorem okStarts : Sound env cStarts := sound_add sStarts (okBegin)
def hV (w : List Int) (bl : List Bool) : Heap := ⟨.node (.node .nil (some (.cells [.hslice 0 0 w.length 1])) .nil) (some (.cells (bl.map IV.bool))) .nil, 2⟩
def pre1 (w e p s a : List Int) : Prop := (1 <= w.length /\ w.length <= 60000) /\ (1 <= e.length /\ e.length <= 8) /\ p.length = e.length /\ s.length = e.length /\ a.length <= 4 /\ (decA w).2.2 = 0 /\ (∀ i, (decA w).1.getLast? = some i -> (cfl i.op i.a i.b i.c i.n).1 = false)
def vaA (w e p s a : List Int) : Inv' := atP (pre1 w e p s a) [(1, .l 1 0), (3, .v (.vslice none 0 ((decA w).1).length 5 (((decA w).1).flatMap cIns))), (4, .v (.vslice none 0 ((decA w).2.1).length 1 (((decA w).2.1).map (IV.int .i64))))] [(1, [.vslice none 0 (w).length 1 ((w).map (IV.int .u32)), .vslice none 0 (e).length 1 ((e).map (IV.int .i64)), .vslice none 0 (p).length 1 ((p).map (IV.int .i64)), .vslice none 0 (s).length 1 ((s).map (IV.int .i64)), .vslice none 0 (a).length 1 ((a).map (IV.int .i64))])] Heap.empty
def vaI1 (w e p s a : List Int) : Inv' := atX Nat (fun k => [(1, .l 1 0), (3, .v (.vslice none 0 ((decA w).1).length 5 (((decA w).1).flatMap cIns))), (4, .v (.vslice none 0 ((decA w).2.1).length 1 (((decA w).2.1).map (IV.int .i64)))), (8, .v (.ptr 1 0)), (77, .v (.vslice none 0 ((decA w).2.1).length 1 (((decA w).2.1).map (IV.int .i64)))), (78, .v (.int .i64 (decA w).2.1.length)), (79, .v (.int .i64 k))]) (fun _ => [(1, [.vslice none 0 (w).length 1 ((w).map (IV.int .u32)), .vslice none 0 (e).length 1 ((e).map (IV.int .i64)), .vslice none 0 (p).length 1 ((p).map (IV.int .i64)), .vslice none 0 (s).length 1 ((s).map (IV.int .i64)), .vslice none 0 (a).length 1 ((a).map (IV.int .i64))])]) (fun k => hV w (bools w ((decA w).2.1.take k))) (fun k => k <= (decA w).2.1.length) (fun k => (decA w).2.1.length - k)
def vaB (w e p s a : List Int) : Inv' := atP (pre1 w e p s a) [(1, .l 1 0), (3, .v (.vslice none 0 ((decA w).1).length 5 (((decA w).1).flatMap cIns))), (4, .v (.vslice none 0 ((decA w).2.1).length 1 (((decA w).2.1).map (IV.int .i64)))), (8, .v (.ptr 1 0))] [(1, [.vslice none 0 (w).length 1 ((w).map (IV.int .u32)), .vslice none 0 (e).length 1 ((e).map (IV.int .i64)), .vslice none 0 (p).length 1 ((p).map (IV.int .i64)), .vslice none 0 (s).length 1 ((s).map (IV.int .i64)), .vslice none 0 (a).length 1 ((a).map (IV.int .i64))])] (hV w (bools w (decA w).2.1))
def vaI2 (w e p s a : List Int) : Inv' := atX Nat (fun k => [(1, .l 1 0), (3, .v (.vslice none 0 ((decA w).1).length 5 (((decA w).1).flatMap cIns))), (4, .v (.vslice none 0 ((decA w).2.1).length 1 (((decA w).2.1).map (IV.int .i64)))), (11, .v (.func (.func 50) [] [.ptr 1 0])), (90, .v (.int .i64 e.length)), (91, .v (.int .i64 k))]) (fun _ => [(1, [.vslice none 0 (w).length 1 ((w).map (IV.int .u32)), .vslice none 0 (e).length 1 ((e).map (IV.int .i64)), .vslice none 0 (p).length 1 ((p).map (IV.int .i64)), .vslice none 0 (s).length 1 ((s).map (IV.int .i64)), .vslice none 0 (a).length 1 ((a).map (IV.int .i64))])]) (fun k => hV w (bools w (decA w).2.1)) (fun k => k <= e.length /\ ∀ j, j < k -> okE ⟨w, e, p, s, a⟩ j) (fun k => e.length - k)
def vaC (w e p s a : List Int) : Inv' := atP (pre1 w e p s a /\ ∀ j, j < e.length -> okE ⟨w, e, p, s, a⟩ j) [(1, .l 1 0), (3, .v (.vslice none 0 ((decA w).1).length 5 (((decA w).1).flatMap cIns))), (4, .v (.vslice none 0 ((decA w).2.1).length 1 (((decA w).2.1).map (IV.int .i64)))), (11, .v (.func (.func 50) [] [.ptr 1 0]))] [(1, [.vslice none 0 (w).length 1 ((w).map (IV.int .u32)), .vslice none 0 (e).length 1 ((e).map (IV.int .i64)), .vslice none 0 (p).length 1 ((p).map (IV.int .i64)), .vslice none 0 (s).length 1 ((s).map (IV.int .i64)), .vslice none 0 (a).length 1 ((a).map (IV.int .i64))])] (hV w (bools w (decA w).2.1))
def vaI3 (w e p s a : List Int) : Inv' := atX Nat (fun k => [(1, .l 1 0), (3, .v (.vslice none 0 ((decA w).1).length 5 (((decA w).1).flatMap cIns))), (4, .v (.vslice none 0 ((decA w).2.1).length 1 (((decA w).2.1).map (IV.int .i64)))), (11, .v (.func (.func 50) [] [.ptr 1 0])), (122, .v (.vslice none 0 (a).length 1 ((a).map (IV.int .i64)))), (123, .v (.int .i64 a.length)), (124, .v (.int .i64 k))]) (fun _ => [(1, [.vslice none 0 (w).length 1 ((w).map (IV.int .u32)), .vslice none 0 (e).length 1 ((e).map (IV.int .i64)), .vslice none 0 (p).length 1 ((p).map (IV.int .i64)), .vslice none 0 (s).length 1 ((s).map (IV.int .i64)), .vslice none 0 (a).length 1 ((a).map (IV.int .i64))])]) (fun k => hV w (bools w (decA w).2.1)) (fun k => k <= a.length /\ ∀ j, j < k -> okA ⟨w, e, p, s, a⟩ j) (fun k => a.length - k)
def vaD (w e p s a : List Int) : Inv' := atP (pre1 w e p s a /\ (∀ j, j < e.length -> okE ⟨w, e, p, s, a⟩ j) /\ ∀ j, j < a.length -> okA ⟨w, e, p, s, a⟩ j) [(1, .l 1 0), (3, .v (.vslice none 0 ((decA w).1).length 5 (((decA w).1).flatMap cIns))), (4, .v (.vslice none 0 ((decA w).2.1).length 1 (((decA w).2.1).map (IV.int .i64)))), (11, .v (.func (.func 50) [] [.ptr 1 0]))] [(1, [.vslice none 0 (w).length 1 ((w).map (IV.int .u32)), .vslice none 0 (e).length 1 ((e).map (IV.int .i64)), .vslice none 0 (p).length 1 ((p).map (IV.int .i64)), .vslice none 0 (s).length 1 ((s).map (IV.int .i64)), .vslice none 0 (a).length 1 ((a).map (IV.int .i64))])] (hV w (bools w (decA w).2.1))
def vaI4 (w e p s a : List Int) : Inv' := atX Nat (fun k => [(1, .l 1 0), (3, .v (.vslice none 0 ((decA w).1).length 5 (((decA w).1).flatMap cIns))), (4, .v (.vslice none 0 ((decA w).2.1).length 1 (((decA w).2.1).map (IV.int .i64)))), (11, .v (.func (.func 50) [] [.ptr 1 0])), (132, .v (.vslice none 0 ((decA w).1).length 5 (((decA w).1).flatMap cIns))), (133, .v (.int .i64 (decA w).1.length)), (134, .v (.int .i64 k))]) (fun _ => [(1, [.vslice none 0 (w).length 1 ((w).map (IV.int .u32)), .vslice none 0 (e).length 1 ((e).map (IV.int .i64)), .vslice none 0 (p).length 1 ((p).map (IV.int .i64)), .vslice none 0 (s).length 1 ((s).map (IV.int .i64)), .vslice none 0 (a).length 1 ((a).map (IV.int .i64))])]) (fun k => hV w (bools w (decA w).2.1)) (fun k => k <= (decA w).1.length /\ ∀ j, j < k -> okK ⟨w, e, p, s, a⟩ j) (fun k => (decA w).1.length - k)
def kEValid (xs : List IV) (h : Heap) (K : IV -> Heap -> Prop) : Prop := match xs with
 | [.agg [.vslice none e1 n1 1 c1, .vslice none e2 n2 1 c2, .vslice none e3 n3 1 c3, .vslice none e4 n4 1 c4, .vslice none e5 n5 1 c5]] => ∃ w e p s a : List Int, (n1 = w.length /\ c1 = w.map (IV.int .u32)) /\ (n2 = e.length /\ c2 = e.map (IV.int .i64)) /\ (n3 = p.length /\ c3 = p.map (IV.int .i64)) /\ (n4 = s.length /\ c4 = s.map (IV.int .i64)) /\ (n5 = a.length /\ c5 = a.map (IV.int .i64)) /\ (∀ x ∈ w, u32b x) /\ ∀ r : Bool, (r = true ↔ VB ⟨w, e, p, s, a⟩) -> K (.bool r) h
 | _ => False
noncomputable def z14d (w : List Int) := Prod.fst (Prod.snd (decA w))
noncomputable def z14n (w : List Int) := PT.node PT.nil (some (IObj.cells [IV.hslice 0 0 w.length 1])) PT.nil
noncomputable def z14a (w : List Int) := PT.node (z14n w) (some (IObj.cells (List.map IV.bool (bools w (z14d w))))) PT.nil
noncomputable def z14o (w : List Int) := Prod.fst (decA w)
noncomputable def z14y (w : List Int) := List.flatMap cIns (z14o w)
noncomputable def z14b (w : List Int) := TV.v (.vslice none 0 (List.length (z14o w)) 5 (z14y w))
noncomputable def z14c  := TV.v (.func (Fn.func (50 : FuncId)) [] [IV.ptr 1 0])
noncomputable abbrev z14e (w e p s a : List Int) := (1 <= w.length /\ w.length <= 60000) /\ (1 <= e.length /\ e.length <= 8) /\ p.length = e.length /\ s.length = e.length /\ a.length <= 4 /\ Prod.snd (Prod.snd (decA w)) = 0 /\ ∀ (i : In), List.getLast? (z14o w) = some i -> Prod.fst (cfl (In.op i) (In.a i) (In.b i) (In.c i) (In.n i)) = false
noncomputable def z14f (w : List Int) := TV.v (.int .i64 (↑(List.length (z14o w)) : Int))
noncomputable def z14g  := TV.l 1 0
noncomputable def z14h (bl : List Bool) := PT.node (PT.node PT.nil (some (IObj.cells [IV.hslice 0 0 bl.length 1])) PT.nil) (some (IObj.cells (List.map IV.bool bl))) PT.nil
noncomputable def z14i (w : List Int) := TV.v (vI (z14d w))
noncomputable def z14j (w e p s a : List Int) := [vW w, vI e, vI p, vI s, vI a]
noncomputable abbrev z14k (w e p s a : List Int) (x_1 : Nat) := x_1 <= List.length (z14o w) /\ ∀ (j : Nat), j < x_1 -> okK (Bi.mk w e p s a) j
noncomputable def z14l (w_1 : List Int) := IntKind.wrap .i64 ((↑(List.length (Prod.fst (decA w_1))) : Int) - 1)
noncomputable def z14m (x_1 : Nat) := TV.v (.int .i64 (↑x_1 : Int))
noncomputable def z14p  := IV.bool false
noncomputable def z14x (w : List Int) := List.length (z14d w)
noncomputable def z14q (w : List Int) := TV.v (.int .i64 (↑(z14x w) : Int))
noncomputable def z14r (w_1 : List Int) := List.flatMap cIns (Prod.fst (decA w_1))
noncomputable def z14s  := TV.v (.ptr 1 0)
noncomputable def z14t  := IV.int .i64
noncomputable def z14u (e : List Int) := TV.v (.int .i64 (↑e.length : Int))
noncomputable def z14v (a : List Int) := TV.v (.int .i64 (↑a.length : Int))
noncomputable def z14w  := TV.v (.int .i64 0)
set_option maxRecDepth 100000 in
theorem vEValid (w e p s a : List Int) (e1 e2 e3 e4 e5 : Nat) (h : Heap) (Q : IV -> Heap -> Prop) : dF (stdS cStarts) env 14 noU (icA 12 (vaI1 w e p s a) (icA 18 (vaI2 w e p s a) (icA 24 (vaI3 w e p s a) (ic1 30 (vaI4 w e p s a))))) (icS (icA 10 (vaA w e p s a) (icA 16 (vaB w e p s a) (icA 23 (vaC w e p s a) (ic1 29 (vaD w e p s a)))))) [.agg [.vslice none e1 (w).length 1 ((w).map (IV.int .u32)), .vslice none e2 (e).length 1 ((e).map (IV.int .i64)), .vslice none e3 (p).length 1 ((p).map (IV.int .i64)), .vslice none e4 (s).length 1 ((s).map (IV.int .i64)), .vslice none e5 (a).length 1 ((a).map (IV.int .i64))]] h Q = (
 needS (pureL [IV.agg (z14j w e p s a)]) (brS (!(decide (1 <= (↑w.length : Int)) && decide ((↑w.length : Int) <= 60000))) (Q z14p h) (brS (!(decide (1 <= (↑e.length : Int)) && decide ((↑e.length : Int) <= 8))) (Q z14p h) (brS ((↑p.length :
 Int) != (↑e.length : Int)) (Q z14p h) (brS ((↑s.length : Int) != (↑e.length : Int)) (Q z14p h) (brS (decide ((↑a.length : Int) > 4)) (Q z14p h) (∃ (w_1 : List Int), (w.length = w_1.length /\ List.map (IV.int .u32) w = List.map (IV.int .u32) w_1)
 /\ ((∀ (x : Int), x ∈ w_1 -> u32b x) /\ w_1.length <= 1000000) /\ brS (Prod.snd (Prod.snd (decA w_1)) != 0) (Q z14p h) (needS (decide (0 <= IntKind.wrap .i64 ((↑(List.length (Prod.fst (decA w_1))) : Int) - 1)) && decide (IntKind.wrap .i64 ((↑(List.length (Prod.fst
 (decA w_1))) : Int) - 1) < (↑(List.length (Prod.fst (decA w_1))) : Int))) (ldIS .i64 (z14r w_1) (Int.toNat (z14l w_1) * 5) fun n0 => ldIS .i64 (z14r w_1) (Int.toNat (z14l w_1) * 5 + (1 : Nat)) fun n1 => ldIS .i64 (z14r w_1) (Int.toNat (z14l
 w_1) * 5 + (1 : Nat) + 1) fun n2 => ldIS .i64 (z14r w_1) (Int.toNat (z14l w_1) * 5 + (1 : Nat) + 1 + (1 : Nat)) fun n3 => ldIS .i64 (z14r w_1) (Int.toNat (z14l w_1) * 5 + (1 : Nat) + 1 + (1 : Nat) + 1) fun (n4 : Int)
 => brS (Prod.fst (cfl n0 n1 n2 n3 n4)) (Q z14p h) (some z14g = some z14g /\ some (TV.v (.vslice none 0 (List.length (Prod.fst (decA w_1))) 5 (z14r w_1))) = some (z14b w) /\ some (TV.v (vI (Prod.fst (Prod.snd (decA w_1))))) = some (z14i w) /\ some (z14j w e p s a) = some (z14j w e p s a)
 /\ Heap.mk PT.nil 0 = Heap.mk PT.nil 0 /\ (z14e w e p s a) /\ True)))))))) /\ (∀ (x : Unit) (b : FF), pre1 w e p s a -> needS (decide (0 <= (↑w.length : Int)) && (decide ((↑w.length : Int) <= (↑w.length : Int)) && (decide ((↑w.length : Int) <= (9223372036854775807
 : Int)) && decide ((1 : Int) * (↑w.length : Int) <= 140737488355328)))) ((∃ (x : Nat), some z14g = some z14g /\ some (z14b w) = some (z14b w) /\ some (z14i w) = some (z14i w) /\ some (TV.v (.ptr ((0 : Nat) + 1) 0)) = some z14s /\ some (z14i w) = some (z14i w) /\ some (z14q
 w) = some (z14q w) /\ some z14w = some (TV.v (.int .i64 (↑x : Int))) /\ some (z14j w e p s a) = some (z14j w e p s a) /\ Heap.mk (PT.node (PT.node PT.nil (some (IObj.cells [IV.hslice 0 0 (Int.toNat (↑w.length : Int)) 1])) PT.nil) (some (IObj.cells (repl (Int.toNat
 (↑w.length : Int)) [IV.bool false]))) PT.nil) ((0 : Nat) + 1 + (1 : Nat)) = Heap.mk (PT.node (z14n w) (some (IObj.cells (List.map IV.bool (bools w (List.take x (z14d w)))))) PT.nil) (2 : Nat) /\ Nat.le x (z14x w) /\ True) /\ ∀ (x : Nat) (b : FF), x <= List.length (z14d w) -> brS (decide ((↑x
 : Int) < (↑(z14x w) : Int))) (needS (decide (0 <= (↑x : Int)) && decide ((↑x : Int) < (↑(z14x w) : Int))) (ldIS .i64 (List.map z14t (z14d w)) (Int.toNat (↑x : Int) * 1) fun n5 => needS (decide (0 <= n5) && decide (n5 < (↑w.length : Int))) (needS (Nat.ble ((0
 : Nat) + n5.toNat * 1 + (1 : Nat)) (List.length (List.map IV.bool (bools w (List.take x (z14d w)))))) (∃ (x_1 : Nat), some z14g = some z14g /\ some (z14b w) = some (z14b w) /\ some (z14i w) = some (z14i w) /\ some z14s = some z14s /\ some (z14i w) = some (z14i w) /\ some (z14q w) = some (z14q
 w) /\ some (TV.v (.int .i64 (IntKind.wrap .i64 ((↑x : Int) + 1)))) = some (z14m x_1) /\ some (z14j w e p s a) = some (z14j w e p s a) /\ Heap.mk (PT.node (z14n w) (some (IObj.cells (List.take ((0 : Nat) + n5.toNat * 1) (List.map IV.bool (bools w (List.take x (z14d w))))
 ++ [IV.bool true] ++ List.drop ((0 : Nat) + n5.toNat * 1 + (1 : Nat)) (List.map IV.bool (bools w (List.take x (z14d w))))))) PT.nil) (2 : Nat) = Heap.mk (PT.node (z14n w) (some (IObj.cells (List.map IV.bool (bools w (List.take x_1 (z14d w)))))) PT.nil) (2 : Nat) /\ Nat.le x_1 (z14x w) /\ List.length
 (z14d w) - x_1 < List.length (z14d w) - x)))) (some z14g = some z14g /\ some (z14b w) = some (z14b w) /\ some (z14i w) = some (z14i w) /\ some z14s = some z14s /\ some (z14j w e p s a) = some (z14j w e p s a) /\ Heap.mk (PT.node (z14n w) (some (IObj.cells (List.map IV.bool (bools w (List.take x (z14d w))))))
 PT.nil) (2 : Nat) = Heap.mk (z14a w) (2 : Nat) /\ (z14e w e p s a) /\ True))) /\ (∀ (x : Unit) (b : FF), pre1 w e p s a -> (∃ (x : Nat), some z14g = some z14g /\ some (z14b w) = some (z14b w) /\ some (z14i w) = some (z14i w) /\ some (TV.v (.func (Fn.func (50 : Nat)) [] [IV.ptr 1 0])) = some
 z14c /\ some (z14u e) = some (z14u e) /\ some z14w = some (TV.v (.int .i64 (↑x : Int))) /\ some (z14j w e p s a) = some (z14j w e p s a) /\ Heap.mk (z14a w) (2 : Nat) = Heap.mk (z14a w) (2 : Nat) /\ (x <= e.length /\ ∀ (j : Nat), j < x -> okE (Bi.mk w e p s a) j) /\ True) /\ ∀ (x : Nat) (b : FF),
 (x <= e.length /\ ∀ (j : Nat), j < x -> okE (Bi.mk w e p s a) j) -> brS (decide ((↑x : Int) < (↑e.length : Int))) (needS (decide (0 <= (↑x : Int)) && decide ((↑x : Int) < (↑e.length : Int))) (ldIS .i64 (List.map z14t e) (Int.toNat (↑x : Int) * 1) fun n6 =>
 ∃ (bl : List Bool), (1 : Nat) = 1 /\ Heap.mk (z14a w) (2 : Nat) = Heap.mk (z14h bl) (2 : Nat) /\ brS (!begB bl n6) (Q z14p h) (needS (decide (0 <= (↑x : Int)) && decide ((↑x : Int) < (↑p.length : Int))) (ldIS .i64 (List.map z14t p) (Int.toNat (↑x : Int) * 1) fun (n7
 : Int) => brS (!(decide (0 <= n7) && decide (n7 <= 6))) (Q z14p h) (needS (decide (0 <= (↑x : Int)) && decide ((↑x : Int) < (↑s.length : Int))) (ldIS .i64 (List.map z14t s) (Int.toNat (↑x : Int) * 1) fun n8 => brS (!(decide (0 <= n8) && decide
 (n8 <= 3000))) (Q z14p h) (∃ (x_1 : Nat), some z14g = some z14g /\ some (z14b w) = some (z14b w) /\ some (z14i w) = some (z14i w) /\ some z14c = some z14c /\ some (z14u e) = some (z14u e) /\ some (TV.v (.int .i64 (IntKind.wrap .i64 ((↑x : Int) + 1)))) = some (z14m x_1) /\ some
 (z14j w e p s a) = some (z14j w e p s a) /\ Heap.mk (z14a w) (2 : Nat) = Heap.mk (z14a w) (2 : Nat) /\ (x_1 <= e.length /\ ∀ (j : Nat), j < x_1 -> okE (Bi.mk w e p s a) j) /\ e.length - x_1 < e.length - x))))))) (some z14g = some z14g /\ some (z14b w) = some (z14b w) /\ some (z14i w) = some (z14i
 w) /\ some z14c = some z14c /\ some (z14j w e p s a) = some (z14j w e p s a) /\ Heap.mk (z14a w) (2 : Nat) = Heap.mk (z14a w) (2 : Nat) /\ ((z14e w e p s a) /\ ∀ (j : Nat), j < e.length -> okE (Bi.mk w e p s a) j) /\ True)) /\ (∀ (x : Unit) (b : FF), (pre1 w e p s a /\ ∀ (j : Nat), j < e.length -> okE
 (Bi.mk w e p s a) j) -> (∃ (x : Nat), some z14g = some z14g /\ some (z14b w) = some (z14b w) /\ some (z14i w) = some (z14i w) /\ some z14c = some z14c /\ some (TV.v (vI a)) = some (TV.v (vI a)) /\ some (z14v a) = some (z14v a) /\ some z14w = some (TV.v (.int .i64 (↑x : Int))) /\ some (z14j w e p s a)
 = some (z14j w e p s a) /\ Heap.mk (z14a w) (2 : Nat) = Heap.mk (z14a w) (2 : Nat) /\ (x <= a.length /\ ∀ (j : Nat), j < x -> okA (Bi.mk w e p s a) j) /\ True) /\ ∀ (x : Nat) (b : FF), (x <= a.length /\ ∀ (j : Nat), j < x -> okA (Bi.mk w e p s a) j) -> brS (decide ((↑x : Int) < (↑a.length : Int)))
 (needS (decide (0 <= (↑x : Int)) && decide ((↑x : Int) < (↑a.length : Int))) (ldIS .i64 (List.map z14t a) (Int.toNat (↑x : Int) * 1) fun n9 => brS (!(decide (1 <= n9) && decide (n9 <= 16))) (Q z14p h) (∃ (x_1 : Nat), some z14g = some z14g /\ some (z14b
 w) = some (z14b w) /\ some (z14i w) = some (z14i w) /\ some z14c = some z14c /\ some (TV.v (vI a)) = some (TV.v (vI a)) /\ some (z14v a) = some (z14v a) /\ some (TV.v (.int .i64 (IntKind.wrap .i64 ((↑x : Int) + 1)))) = some (z14m x_1) /\ some (z14j w e p s a) = some (z14j w e p s a)
 /\ Heap.mk (z14a w) (2 : Nat) = Heap.mk (z14a w) (2 : Nat) /\ (x_1 <= a.length /\ ∀ (j : Nat), j < x_1 -> okA (Bi.mk w e p s a) j) /\ a.length - x_1 < a.length - x))) (some z14g = some z14g /\ some (z14b w) = some (z14b w) /\ some (z14i w) = some (z14i w) /\ some z14c = some z14c /\ some (z14j w
 e p s a) = some (z14j w e p s a) /\ Heap.mk (z14a w) (2 : Nat) = Heap.mk (z14a w) (2 : Nat) /\ ((z14e w e p s a) /\ (∀ (j : Nat), j < e.length -> okE (Bi.mk w e p s a) j) /\ ∀ (j : Nat), j < a.length -> okA (Bi.mk w e p s a) j) /\ True)) /\ (∀ (x : Unit) (b : FF), (pre1 w e p s a /\ (∀ (j : Nat), j
 < e.length -> okE (Bi.mk w e p s a) j) /\ ∀ (j : Nat), j < a.length -> okA (Bi.mk w e p s a) j) -> (∃ (x : Nat), some z14g = some z14g /\ some (z14b w) = some (z14b w) /\ some (z14i w) = some (z14i w) /\ some z14c = some z14c /\ some (z14b w) = some (z14b w) /\ some (z14f w) = some (z14f w) /\ some z14w
 = some (TV.v (.int .i64 (↑x : Int))) /\ some (z14j w e p s a) = some (z14j w e p s a) /\ Heap.mk (z14a w) (2 : Nat) = Heap.mk (z14a w) (2 : Nat) /\ (x <= List.length (z14o w) /\ ∀ (j : Nat), j < x -> okK (Bi.mk w e p s a) j) /\ True) /\ ∀ (x : Nat) (b : FF), (x <= List.length (z14o w) /\ ∀ (j : Nat),
 j < x -> okK (Bi.mk w e p s a) j) -> brS (decide ((↑x : Int) < (↑(List.length (z14o w)) : Int))) (needS (decide (0 <= (↑x : Int)) && decide ((↑x : Int) < (↑(List.length (z14o w)) : Int))) (ldIS .i64 (z14y w) (Int.toNat (↑x : Int) * 5) fun n10 => ldIS .i64 (z14y w) (Int.toNat
 (↑x : Int) * 5 + (1 : Nat)) fun n11 => ldIS .i64 (z14y w) (Int.toNat (↑x : Int) * 5 + (1 : Nat) + 1) fun n12 => ldIS .i64 (z14y w) (Int.toNat (↑x : Int) * 5 + (1 : Nat) + 1 + (1 : Nat)) fun n13 => ldIS .i64 (z14y w)
 (Int.toNat (↑x : Int) * 5 + (1 : Nat) + 1 + (1 : Nat) + 1) fun n14 => brS (n10 == 5) (needS (decide (0 <= (↑x : Int)) && decide ((↑x : Int) < (↑(z14x w) : Int))) (ldIS .i64 (List.map z14t (z14d w)) (Int.toNat (↑x : Int) * 1) fun (n15 : Int)
 => ∃ (bl : List Bool), (1 : Nat) = 1 /\ Heap.mk (z14a w) (2 : Nat) = Heap.mk (z14h bl) (2 : Nat) /\ brS (!begB bl (IntKind.wrap .i64 (n15 + n14))) (Q z14p h) (∃ (x_1 : Nat), some z14g = some z14g /\ some (z14b w) = some (z14b w) /\ some (z14i w) = some (z14i w) /\ some z14c = some z14c /\ some
 (z14b w) = some (z14b w) /\ some (z14f w) = some (z14f w) /\ some (TV.v (.int .i64 (IntKind.wrap .i64 ((↑x : Int) + 1)))) = some (z14m x_1) /\ some (z14j w e p s a) = some (z14j w e p s a) /\ Heap.mk (z14a w) (2 : Nat) = Heap.mk (z14a w) (2 : Nat) /\ (z14k w e p s a x_1) /\ List.length
 (z14o w) - x_1 < List.length (z14o w) - x))) (brS (n10 == 7) (needS (decide (0 <= (↑x : Int)) && decide ((↑x : Int) < (↑(z14x w) : Int))) (ldIS .i64 (List.map z14t (z14d w)) (Int.toNat (↑x : Int) * 1) fun n16 => ∃ (bl : List Bool), (1 : Nat) = 1 /\ Heap.mk
 (z14a w) (2 : Nat) = Heap.mk (z14h bl) (2 : Nat) /\ brS (!begB bl (IntKind.wrap .i64 (n16 + n14))) (Q z14p h) (∃ (x_1 : Nat), some z14g = some z14g /\ some (z14b w) = some (z14b w) /\ some (z14i w) = some (z14i w) /\ some z14c = some z14c /\ some (z14b w) = some (z14b w) /\ some (z14f w) = some (z14f
 w) /\ some (TV.v (.int .i64 (IntKind.wrap .i64 ((↑x : Int) + 1)))) = some (z14m x_1) /\ some (z14j w e p s a) = some (z14j w e p s a) /\ Heap.mk (z14a w) (2 : Nat) = Heap.mk (z14a w) (2 : Nat) /\ (z14k w e p s a x_1) /\ List.length (z14o w) - x_1 < List.length (z14o w) - x))) (brS
 (n10 == 8) (needS (decide (0 <= (↑x : Int)) && decide ((↑x : Int) < (↑(z14x w) : Int))) (ldIS .i64 (List.map z14t (z14d w)) (Int.toNat (↑x : Int) * 1) fun n17 => ∃ (bl : List Bool), (1 : Nat) = 1 /\ Heap.mk (z14a w) (2 : Nat) = Heap.mk (z14h bl) (2 : Nat)
 /\ brS (!begB bl (IntKind.wrap .i64 (n17 + n14))) (Q z14p h) (∃ (x_1 : Nat), some z14g = some z14g /\ some (z14b w) = some (z14b w) /\ some (z14i w) = some (z14i w) /\ some z14c = some z14c /\ some (z14b w) = some (z14b w) /\ some (z14f w) = some (z14f w) /\ some (TV.v (.int .i64 (IntKind.wrap
 .i64 ((↑x : Int) + 1)))) = some (z14m x_1) /\ some (z14j w e p s a) = some (z14j w e p s a) /\ Heap.mk (z14a w) (2 : Nat) = Heap.mk (z14a w) (2 : Nat) /\ (z14k w e p s a x_1) /\ List.length (z14o w) - x_1 < List.length (z14o w) - x))) (brS (n10 == 6) (brS (decide (n14 >= (↑(List.length
 e) : Int))) (Q z14p h) (needS (decide (0 <= n14) && decide (n14 < (↑p.length : Int))) (ldIS .i64 (List.map z14t p) (n14.toNat * 1) fun n18 => brS (n18 != n11) (Q z14p h) (∃ (x_1 : Nat), some z14g = some z14g /\ some (z14b w) = some (z14b w) /\ some (z14i w) = some
 (z14i w) /\ some z14c = some z14c /\ some (z14b w) = some (z14b w) /\ some (z14f w) = some (z14f w) /\ some (TV.v (.int .i64 (IntKind.wrap .i64 ((↑x : Int) + 1)))) = some (z14m x_1) /\ some (z14j w e p s a) = some (z14j w e p s a) /\ Heap.mk (z14a w) (2 : Nat) = Heap.mk (z14a w) (2
 : Nat) /\ (z14k w e p s a x_1) /\ List.length (z14o w) - x_1 < List.length (z14o w) - x)))) (brS (n10 == 34) (brS (decide (n14 >= (↑a.length : Int))) (Q z14p h) (∃ (x_1 : Nat), some z14g = some z14g /\ some (z14b w) = some (z14b w) /\ some (z14i w) = some (z14i w) /\ some z14c = some z14c /\
 some (z14b w) = some (z14b w) /\ some (z14f w) = some (z14f w) /\ some (TV.v (.int .i64 (IntKind.wrap .i64 ((↑x : Int) + 1)))) = some (z14m x_1) /\ some (z14j w e p s a) = some (z14j w e p s a) /\ Heap.mk (z14a w) (2 : Nat) = Heap.mk (z14a w) (2 : Nat) /\ (z14k w e p s a x_1) /\ List.length
 (z14o w) - x_1 < List.length (z14o w) - x)) (brS (n10 == 35) (brS (decide (n14 >= (↑a.length : Int))) (Q z14p h) (∃ (x_1 : Nat), some z14g = some z14g /\ some (z14b w) = some (z14b w) /\ some (z14i w) = some (z14i w) /\ some z14c = some z14c /\ some (z14b w) = some (z14b w) /\ some (z14f w)
 = some (z14f w) /\ some (TV.v (.int .i64 (IntKind.wrap .i64 ((↑x : Int) + 1)))) = some (z14m x_1) /\ some (z14j w e p s a) = some (z14j w e p s a) /\ Heap.mk (z14a w) (2 : Nat) = Heap.mk (z14a w) (2 : Nat) /\ (z14k w e p s a x_1) /\ List.length (z14o w) - x_1 < List.length (z14o w)
 - x)) (∃ (x_1 : Nat), some z14g = some z14g /\ some (z14b w) = some (z14b w) /\ some (z14i w) = some (z14i w) /\ some z14c = some z14c /\ some (z14b w) = some (z14b w) /\ some (z14f w) = some (z14f w) /\ some (TV.v (.int .i64 (IntKind.wrap .i64 ((↑x : Int) + 1)))) = some (z14m x_1)
 /\ some (z14j w e p s a) = some (z14j w e p s a) /\ Heap.mk (z14a w) (2 : Nat) = Heap.mk (z14a w) (2 : Nat) /\ (z14k w e p s a x_1) /\ List.length (z14o w) - x_1 < List.length (z14o w) - x)))))))) (Q (.bool true) h)) /\ True)) := by kernel_rfl
set_option maxHeartbeats 8000000 in
set_option maxRecDepth 100000 in
theorem sEValid : ∀ xs h Q, kEValid xs h Q -> CallW env 14 xs h Q := by
 intro xs h Q hk
 unfold kEValid at hk
 split at hk
 ·rename_i e1 n1 c1 e2 n2 c2 e3 n3 c3 e4 n4 c4 e5 n5 c5
  obtain ⟨w, e, p, s, a, ⟨rfl, rfl⟩, ⟨rfl, rfl⟩, ⟨rfl, rfl⟩, ⟨rfl, rfl⟩, ⟨rfl, rfl⟩, hw, hk⟩ := hk
  refine dF_run (okStarts) (vEValid w e p s a e1 e2 e3 e4 e5 h Q) ?_
  delta vI vW z14a z14b z14c z14d z14e z14f z14g z14h z14i z14j z14k z14l z14m z14n z14o z14p z14q z14r z14s z14t z14u z14v z14w z14x z14y
  have hF : ¬ VB ⟨w, e, p, s, a⟩ -> Q (.bool false) h := fun hn => hk false ⟨(fun z => nomatch z), fun z => absurd z hn⟩
  have hT : VB ⟨w, e, p, s, a⟩ -> Q (.bool true) h := fun hv => hk true ⟨fun _ => hv, fun _ => rfl⟩
  have tn : ∀ x : Nat, (x : Int).toNat = x := Int.toNat_natCast
  have hbl : ∀ l, (bools w l).length = w.length := fun l => bools_len w l
  refine needS_intro (by simp only [pureL, pureB, pureL_ints, Bool.and_true]) ⟨?_, ?_, ?_, ?_, ?_, trivial⟩
  ·refine brS_intro (fun c => hF fun v => ?_) (fun c1 => brS_intro (fun c => hF fun v => ?_) (fun c2 => brS_intro (fun c => hF fun v => ?_) (fun c3 => brS_intro (fun c => hF fun v => ?_) (fun c4 => brS_intro (fun c => hF fun v => ?_) (fun c5 => ?_)))))
   ·have v1 : 1 <= w.length /\ w.length <= 60000 := v.1
    simp only [Bool.not_eq_true', Bool.and_eq_false_iff, decide_eq_false_iff_not] at c
    omega
   ·have v1 : 1 <= e.length /\ e.length <= 8 := v.2.1
    simp only [Bool.not_eq_true', Bool.and_eq_false_iff, decide_eq_false_iff_not] at c
    omega
   ·have v1 : p.length = e.length := v.2.2.1
    rw [bne_iff_ne] at c
    omega
   ·have v1 : s.length = e.length := v.2.2.2.1
    rw [bne_iff_ne] at c
    omega
   ·have v1 : a.length <= 4 := v.2.2.2.2.1
    rw [decide_eq_true_eq] at c
    omega
   ·simp only [Bool.not_eq_false', Bool.and_eq_true, decide_eq_true_eq] at c1 c2
    rw [bne_eq_false_iff_eq] at c3 c4
    rw [decide_eq_false_iff_not] at c5
    refine ⟨w, ⟨rfl, rfl⟩, ⟨hw, by omega⟩, brS_intro (fun c => hF fun v => ?_) (fun c6 => ?_)⟩
    ·rw [bne_iff_ne] at c
     exact c v.2.2.2.2.2.1
    ·rw [bne_eq_false_iff_eq] at c6
     have hok := decA_ok hw c6
     have hl := decA_len w
     have hne := hok.2.2.2 (fun z => by rw [z] at c1; simp at c1)
     have hpos := List.length_pos_iff.2 hne
     have hwr : IntKind.i64.wrap (((decA w).1.length : Int) - 1) = ((decA w).1.length : Int) - 1 := IntWalk.i64_in _ (by omega)
     rw [hwr]
     refine needS_intro (by simp; omega) (ldIn (i := (decA w).1.length - 1) (by omega) (by omega) (brS_intro (fun c => hF fun v => ?_) (fun c7 => ?_)))
     ·have v7 : ∀ i, (decA w).1.getLast? = some i -> (cfl i.op i.a i.b i.c i.n).1 = false := v.2.2.2.2.2.2.1
      have := v7 _ (by rw [List.getLast?_eq_getElem?, List.getElem?_eq_getElem (by omega)])
      rw [this] at c; cases c
     ·refine ⟨(by first | rfl | trivial), (by first | rfl | trivial), (by first | rfl | trivial), (by first | rfl | trivial), (by first | rfl | trivial), ⟨by omega, by omega, by omega, by omega, by omega, c6, fun i hi => ?_⟩, trivial⟩
      rw [List.getLast?_eq_getElem?, List.getElem?_eq_getElem (by omega)] at hi
      cases hi
      exact c7
  ·intro _ _ hp
   obtain ⟨p1, p2, p3, p4, p5, p6, p7⟩ := hp
   have hok := decA_ok hw p6
   have hl := decA_len w
   refine needS_intro (by simp; omega) ⟨⟨0, (by first | rfl | trivial), (by first | rfl | trivial), (by first | rfl | trivial), (by first | rfl | trivial), (by first | rfl | trivial), (by first | rfl | trivial), (by first | rfl | trivial), (by first | rfl | trivial), ?_, Nat.zero_le _, trivial⟩, fun k _ hk2 => ?_⟩
   ·rw [tn, List.take_zero, bools_nil, repl_one]
   ·simp only [tn, Nat.zero_add, Nat.mul_one]
    refine brS_intro (fun c => ?_) (fun c => ?_)
    ·rw [decide_eq_true_eq] at c
     have hlt : k < (decA w).2.1.length := by omega
     have hr := hok.2.1 _ (List.getElem_mem hlt)
     refine needS_intro (by simp; omega) (ldIS_map hlt (needS_intro (by simp; omega) (needS_intro (by rw [Nat.ble_eq, List.length_map, hbl]; omega) ⟨k + 1, (by first | rfl | trivial), (by first | rfl | trivial), (by first | rfl | trivial), (by first | rfl | trivial), (by first | rfl | trivial), (by first | rfl | trivial), (by rw [IntWalk.i64_in _ (by omega)]; rfl), (by first | rfl | trivial), ?_, hlt, by omega⟩)))
     rw [<- bools_take hlt hr.1 hr.2]
    ·rw [decide_eq_false_iff_not] at c
     refine ⟨(by first | rfl | trivial), (by first | rfl | trivial), (by first | rfl | trivial), (by first | rfl | trivial), (by first | rfl | trivial), ?_, ⟨p1, p2, p3, p4, p5, p6, p7⟩, trivial⟩
     rw [List.take_of_length_le (by omega)]
  ·intro _ _ hp
   obtain ⟨p1, p2, p3, p4, p5, p6, p7⟩ := hp
   have hok := decA_ok hw p6
   refine ⟨⟨0, (by first | rfl | trivial), (by first | rfl | trivial), (by first | rfl | trivial), (by first | rfl | trivial), (by first | rfl | trivial), (by first | rfl | trivial), (by first | rfl | trivial), (by first | rfl | trivial), ⟨Nat.zero_le _, fun j hj => absurd hj (Nat.not_lt_zero _)⟩, trivial⟩, fun k _ hk2 => ?_⟩
   obtain ⟨q1, q2⟩ := hk2
   simp only [tn, Nat.mul_one]
   refine brS_intro (fun c => ?_) (fun c => ?_)
   ·rw [decide_eq_true_eq] at c
    have hlt : k < e.length := by omega
    have hlp : k < p.length := by omega
    have hls : k < s.length := by omega
    have hv8 : VB ⟨w, e, p, s, a⟩ -> St w e[k] /\ (0 <= p[k] /\ p[k] <= 6) /\ (0 <= s[k] /\ s[k] <= 3000) := fun v => by
     obtain ⟨x, y, z, e1, e2, e3, e4⟩ := v.2.2.2.2.2.2.2.1 k hlt
     simp only [List.getElem?_eq_getElem hlt, List.getElem?_eq_getElem hlp, List.getElem?_eq_getElem hls, Option.some.injEq] at e1 e2 e3
     rw [e1, e2, e3]; exact e4
    refine needS_intro (by simp; omega) (ldIS_map hlt ⟨bools w (decA w).2.1, (by first | rfl | trivial), by rw [hbl], brS_intro (fun c => hF fun v => ?_) (fun d1 => needS_intro (by simp; omega) (ldIS_map hlp (brS_intro (fun c => hF fun v => ?_) (fun d2 => needS_intro (by simp; omega) (ldIS_map hls (brS_intro (fun c => hF fun v => ?_) (fun d3 => ?_)))))))⟩)
    ·rw [Bool.not_eq_true'] at c
     have := (beg_iff hok.2.1).2 (hv8 v).1
     rw [c] at this; cases this
    ·have := (hv8 v).2.1
     simp only [Bool.not_eq_true', Bool.and_eq_false_iff, decide_eq_false_iff_not] at c
     omega
    ·have := (hv8 v).2.2
     simp only [Bool.not_eq_true', Bool.and_eq_false_iff, decide_eq_false_iff_not] at c
     omega
    ·rw [Bool.not_eq_false'] at d1
     simp only [Bool.not_eq_false', Bool.and_eq_true, decide_eq_true_eq] at d2 d3
     refine ⟨k + 1, (by first | rfl | trivial), (by first | rfl | trivial), (by first | rfl | trivial), (by first | rfl | trivial), (by first | rfl | trivial), (by rw [IntWalk.i64_in _ (by omega)]; rfl), (by first | rfl | trivial), (by first | rfl | trivial), ⟨hlt, fun j hj => ?_⟩, by omega⟩
     rcases Nat.lt_or_ge j k with z | z
     ·exact q2 j z
     ·obtain rfl : j = k := by omega
      exact ⟨e[j], p[j], s[j], List.getElem?_eq_getElem hlt, List.getElem?_eq_getElem hlp, List.getElem?_eq_getElem hls, (beg_iff hok.2.1).1 d1, d2, d3⟩
   ·rw [decide_eq_false_iff_not] at c
    exact ⟨(by first | rfl | trivial), (by first | rfl | trivial), (by first | rfl | trivial), (by first | rfl | trivial), (by first | rfl | trivial), (by first | rfl | trivial), ⟨⟨p1, p2, p3, p4, p5, p6, p7⟩, fun j hj => q2 j (by omega)⟩, trivial⟩
  ·intro _ _ hp
   obtain ⟨⟨p1, p2, p3, p4, p5, p6, p7⟩, hE⟩ := hp
   refine ⟨⟨0, (by first | rfl | trivial), (by first | rfl | trivial), (by first | rfl | trivial), (by first | rfl | trivial), (by first | rfl | trivial), (by first | rfl | trivial), (by first | rfl | trivial), (by first | rfl | trivial), (by first | rfl | trivial), ⟨Nat.zero_le _, fun j hj => absurd hj (Nat.not_lt_zero _)⟩, trivial⟩, fun k _ hk2 => ?_⟩
   obtain ⟨q1, q2⟩ := hk2
   simp only [tn, Nat.mul_one]
   refine brS_intro (fun c => ?_) (fun c => ?_)
   ·rw [decide_eq_true_eq] at c
    have hlt : k < a.length := by omega
    refine needS_intro (by simp; omega) (ldIS_map hlt (brS_intro (fun c => hF fun v => ?_) (fun d1 => ?_)))
    ·obtain ⟨x, e1, e2⟩ := v.2.2.2.2.2.2.2.2.1 k hlt
     simp only [List.getElem?_eq_getElem hlt, Option.some.injEq] at e1
     subst e1
     simp only [Bool.not_eq_true', Bool.and_eq_false_iff, decide_eq_false_iff_not] at c
     omega
    ·simp only [Bool.not_eq_false', Bool.and_eq_true, decide_eq_true_eq] at d1
     refine ⟨k + 1, (by first | rfl | trivial), (by first | rfl | trivial), (by first | rfl | trivial), (by first | rfl | trivial), (by first | rfl | trivial), (by first | rfl | trivial), (by rw [IntWalk.i64_in _ (by omega)]; rfl), (by first | rfl | trivial), (by first | rfl | trivial), ⟨hlt, fun j hj => ?_⟩, by omega⟩
     rcases Nat.lt_or_ge j k with z | z
     ·exact q2 j z
     ·obtain rfl : j = k := by omega
      exact ⟨a[j], List.getElem?_eq_getElem hlt, d1⟩
   ·rw [decide_eq_false_iff_not] at c
    exact ⟨(by first | rfl | trivial), (by first | rfl | trivial), (by first | rfl | trivial), (by first | rfl | trivial), (by first | rfl | trivial), (by first | rfl | trivial), ⟨⟨p1, p2, p3, p4, p5, p6, p7⟩, hE, fun j hj => q2 j (by omega)⟩, trivial⟩
  ·intro _ _ hp
   obtain ⟨⟨p1, p2, p3, p4, p5, p6, p7⟩, hE, hA⟩ := hp
   have hok := decA_ok hw p6
   have hl := decA_len w
   refine ⟨⟨0, (by first | rfl | trivial), (by first | rfl | trivial), (by first | rfl | trivial), (by first | rfl | trivial), (by first | rfl | trivial), (by first | rfl | trivial), (by first | rfl | trivial), (by first | rfl | trivial), (by first | rfl | trivial), ⟨Nat.zero_le _, fun j hj => absurd hj (Nat.not_lt_zero _)⟩, trivial⟩, fun k _ hk2 => ?_⟩
   obtain ⟨q1, q2⟩ := hk2
   simp only [tn, Nat.mul_one]
   refine brS_intro (fun c => ?_) (fun c => ?_)
   ·rw [decide_eq_true_eq] at c
    have hlt : k < (decA w).1.length := by omega
    have hlp : k < (decA w).2.1.length := by omega
    have hin := hok.1 _ (List.getElem_mem hlt)
    have hv : VB ⟨w, e, p, s, a⟩ -> okJ ⟨w, e, p, s, a⟩ (decA w).1[k] (decA w).2.1[k] := fun v => by
     obtain ⟨x, y, e1, e2, e3⟩ := v.2.2.2.2.2.2.2.2.2 k hlt
     have e1' : (decA w).1[k]? = some x := e1
     have e2' : (decA w).2.1[k]? = some y := e2
     simp only [List.getElem?_eq_getElem hlt, List.getElem?_eq_getElem hlp, Option.some.injEq] at e1' e2'
     rw [e1', e2']; exact e3
    have hstep : okJ ⟨w, e, p, s, a⟩ (decA w).1[k] (decA w).2.1[k] -> ∀ j, j < k + 1 -> okK ⟨w, e, p, s, a⟩ j := fun hj j hj' => by
     rcases Nat.lt_or_ge j k with z | z
     ·exact q2 j z
     ·obtain rfl : j = k := by omega
      exact ⟨_, _, List.getElem?_eq_getElem hlt, List.getElem?_eq_getElem hlp, hj⟩
    have hw1 : IntKind.i64.wrap ((k : Int) + 1) = ((k + 1 : Nat) : Int) := IntWalk.i64_in _ (by omega)
    rw [hw1]
    refine needS_intro (by simp; omega) (ldIn (i := k) hlt rfl ?_)
    generalize (decA w).1[k] = i at *
    generalize hpl : (decA w).2.1[k] = pl at *
    obtain ⟨op, ia, ib, ic, n⟩ := i
    simp only at *
    have hv2 := okin_n hin
    refine brS_intro (fun cJ => needS_intro (by simp; omega) (ldIS_map hlp (by
     rw [hpl]
     refine ⟨bools w (decA w).2.1, (by first | rfl | trivial), by rw [hbl], brS_intro (fun c => hF fun v => ?_) (fun d1 => ⟨k + 1, (by first | rfl | trivial), (by first | rfl | trivial), (by first | rfl | trivial), (by first | rfl | trivial), (by first | rfl | trivial), (by first | rfl | trivial), (by first | rfl | trivial), (by first | rfl | trivial), (by first | rfl | trivial), ⟨hlt, hstep ?_⟩, by omega⟩)⟩
     ·rw [Bool.not_eq_true'] at c
      have := (beg_iff hok.2.1).2 ((hv v).1 (by rw [beq_iff_eq] at cJ; simp only; omega))
      rw [c] at this; cases this
     ·rw [Bool.not_eq_false'] at d1
      exact ⟨fun _ => (beg_iff hok.2.1).1 d1, fun z => by rw [beq_iff_eq] at cJ; simp only at z; omega, fun z => by rw [beq_iff_eq] at cJ; simp only at z; omega⟩))) (fun j1 => brS_intro (fun cJ => needS_intro (by simp; omega) (ldIS_map hlp (by
     rw [hpl]
     refine ⟨bools w (decA w).2.1, (by first | rfl | trivial), by rw [hbl], brS_intro (fun c => hF fun v => ?_) (fun d1 => ⟨k + 1, (by first | rfl | trivial), (by first | rfl | trivial), (by first | rfl | trivial), (by first | rfl | trivial), (by first | rfl | trivial), (by first | rfl | trivial), (by first | rfl | trivial), (by first | rfl | trivial), (by first | rfl | trivial), ⟨hlt, hstep ?_⟩, by omega⟩)⟩
     ·rw [Bool.not_eq_true'] at c
      have := (beg_iff hok.2.1).2 ((hv v).1 (by rw [beq_iff_eq] at cJ; simp only; omega))
      rw [c] at this; cases this
     ·rw [Bool.not_eq_false'] at d1
      exact ⟨fun _ => (beg_iff hok.2.1).1 d1, fun z => by rw [beq_iff_eq] at cJ; simp only at z; omega, fun z => by rw [beq_iff_eq] at cJ; simp only at z; omega⟩))) (fun j2 => brS_intro (fun cJ => needS_intro (by simp; omega) (ldIS_map hlp (by
     rw [hpl]
     refine ⟨bools w (decA w).2.1, (by first | rfl | trivial), by rw [hbl], brS_intro (fun c => hF fun v => ?_) (fun d1 => ⟨k + 1, (by first | rfl | trivial), (by first | rfl | trivial), (by first | rfl | trivial), (by first | rfl | trivial), (by first | rfl | trivial), (by first | rfl | trivial), (by first | rfl | trivial), (by first | rfl | trivial), (by first | rfl | trivial), ⟨hlt, hstep ?_⟩, by omega⟩)⟩
     ·rw [Bool.not_eq_true'] at c
      have := (beg_iff hok.2.1).2 ((hv v).1 (by rw [beq_iff_eq] at cJ; simp only; omega))
      rw [c] at this; cases this
     ·rw [Bool.not_eq_false'] at d1
      exact ⟨fun _ => (beg_iff hok.2.1).1 d1, fun z => by rw [beq_iff_eq] at cJ; simp only at z; omega, fun z => by rw [beq_iff_eq] at cJ; simp only at z; omega⟩))) (fun j3 => brS_intro (fun cJ => ?_) (fun j4 => brS_intro (fun cJ => ?_) (fun j5 => brS_intro (fun cJ => ?_) (fun j6 => ?_))))))
    ·rw [beq_iff_eq] at cJ
     have hb6 := hv2.1 cJ
     refine brS_intro (fun c => hF fun v => ?_) (fun d1 => ?_)
     ·have := ((hv v).2.1 cJ).1
      rw [decide_eq_true_eq] at c
      simp only at this
      omega
     ·rw [decide_eq_false_iff_not] at d1
      have hnp : n.toNat < p.length := by omega
      refine needS_intro (by simp; omega) (ldIS_map hnp (brS_intro (fun c => hF fun v => ?_) (fun d2 => ⟨k + 1, (by first | rfl | trivial), (by first | rfl | trivial), (by first | rfl | trivial), (by first | rfl | trivial), (by first | rfl | trivial), (by first | rfl | trivial), (by first | rfl | trivial), (by first | rfl | trivial), (by first | rfl | trivial), ⟨hlt, hstep ?_⟩, by omega⟩)))
      ·have h2 := ((hv v).2.1 cJ).2
       have h3 : p[n.toNat]? = some ia := h2
       rw [List.getElem?_eq_getElem hnp] at h3
       rw [bne_iff_ne] at c
       exact c (Option.some.inj h3)
      ·rw [bne_eq_false_iff_eq] at d2
       refine ⟨fun z => ?_, fun _ => ⟨by simp only; omega, ?_⟩, fun z => ?_⟩
       ·simp only at z; omega
       ·show p[n.toNat]? = some ia
        rw [List.getElem?_eq_getElem hnp, d2]
       ·simp only at z; omega
    ·rw [beq_iff_eq] at cJ
     refine brS_intro (fun c => hF fun v => ?_) (fun d1 => ⟨k + 1, (by first | rfl | trivial), (by first | rfl | trivial), (by first | rfl | trivial), (by first | rfl | trivial), (by first | rfl | trivial), (by first | rfl | trivial), (by first | rfl | trivial), (by first | rfl | trivial), (by first | rfl | trivial), ⟨hlt, hstep ?_⟩, by omega⟩)
     ·have : n < a.length := (hv v).2.2 (.inl cJ)
      rw [decide_eq_true_eq] at c
      omega
     ·rw [decide_eq_false_iff_not] at d1
      exact ⟨fun z => by simp only at z; omega, fun z => by simp only at z; omega, fun _ => by simp only; omega⟩
    ·rw [beq_iff_eq] at cJ
     refine brS_intro (fun c => hF fun v => ?_) (fun d1 => ⟨k + 1, (by first | rfl | trivial), (by first | rfl | trivial), (by first | rfl | trivial), (by first | rfl | trivial), (by first | rfl | trivial), (by first | rfl | trivial), (by first | rfl | trivial), (by first | rfl | trivial), (by first | rfl | trivial), ⟨hlt, hstep ?_⟩, by omega⟩)
     ·have : n < a.length := (hv v).2.2 (.inr cJ)
      rw [decide_eq_true_eq] at c
      omega
     ·rw [decide_eq_false_iff_not] at d1
      exact ⟨fun z => by simp only at z; omega, fun z => by simp only at z; omega, fun _ => by simp only; omega⟩
    ·refine ⟨k + 1, (by first | rfl | trivial), (by first | rfl | trivial), (by first | rfl | trivial), (by first | rfl | trivial), (by first | rfl | trivial), (by first | rfl | trivial), (by first | rfl | trivial), (by first | rfl | trivial), (by first | rfl | trivial), ⟨hlt, hstep ?_⟩, by omega⟩
     rw [beq_eq_false_iff_ne] at j1 j2 j3 j4 j5 j6
     exact ⟨fun z => by simp only at z; omega, fun z => by simp only at z; omega, fun z => by simp only at z; omega⟩
   ·rw [decide_eq_false_iff_not] at c
    exact hT ⟨p1, p2, p3, p4, p5, p6, p7, hE, hA, fun j hj => q2 j (by have hj' : j < (decA w).1.length := hj; omega)⟩
 ·exact hk.elim
def cEValid := addC 14 kEValid cStarts
theorem okEValid : Sound env cEValid := sound_add sEValid (okStarts)
def rvA (w e p s a : List Int) : Inv' := atP (pre1 w e p s a) [(1, .l 1 0), (3, .v (.vslice none 0 ((decA w).1).length 5 (((decA w).1).flatMap cIns))), (4, .v (.vslice none 0 ((decA w).2.1).length 1 (((decA w).2.1).map (IV.int .i64)))), (6, .v (.int .i64 e.length)), (9, .v (.vslice none 0 w.length 1 ((bools w (decA w).2.1).map IV.bool)))] [(1, [.vslice none 0 (w).length 1 ((w).map (IV.int .u32)), .vslice none 0 (e).length 1 ((e).map (IV.int .i64)), .vslice none 0 (p).length 1 ((p).map (IV.int .i64)), .vslice none 0 (s).length 1 ((s).map (IV.int .i64)), .vslice none 0 (a).length 1 ((a).map (IV.int .i64))])] Heap.empty
def rvI1 (w e p s a : List Int) : Inv' := atX Nat (fun k => [(1, .l 1 0), (3, .v (.vslice none 0 ((decA w).1).length 5 (((decA w).1).flatMap cIns))), (4, .v (.vslice none 0 ((decA w).2.1).length 1 (((decA w).2.1).map (IV.int .i64)))), (6, .v (.int .i64 e.length)), (9, .v (.vslice none 0 w.length 1 ((bools w (decA w).2.1).map IV.bool))), (10, .v (.int .i64 k))]) (fun _ => [(1, [.vslice none 0 (w).length 1 ((w).map (IV.int .u32)), .vslice none 0 (e).length 1 ((e).map (IV.int .i64)), .vslice none 0 (p).length 1 ((p).map (IV.int .i64)), .vslice none 0 (s).length 1 ((s).map (IV.int .i64)), .vslice none 0 (a).length 1 ((a).map (IV.int .i64))])]) (fun _ => Heap.empty) (fun k => k <= e.length /\ ∀ j, j < k -> okE ⟨w, e, p, s, a⟩ j) (fun k => e.length - k)
def rvB (w e p s a : List Int) : Inv' := atP (pre1 w e p s a /\ ∀ j, j < e.length -> okE ⟨w, e, p, s, a⟩ j) [(1, .l 1 0), (3, .v (.vslice none 0 ((decA w).1).length 5 (((decA w).1).flatMap cIns))), (4, .v (.vslice none 0 ((decA w).2.1).length 1 (((decA w).2.1).map (IV.int .i64)))), (6, .v (.int .i64 e.length)), (9, .v (.vslice none 0 w.length 1 ((bools w (decA w).2.1).map IV.bool)))] [(1, [.vslice none 0 (w).length 1 ((w).map (IV.int .u32)), .vslice none 0 (e).length 1 ((e).map (IV.int .i64)), .vslice none 0 (p).length 1 ((p).map (IV.int .i64)), .vslice none 0 (s).length 1 ((s).map (IV.int .i64)), .vslice none 0 (a).length 1 ((a).map (IV.int .i64))])] Heap.empty
def rvI2 (w e p s a : List Int) : Inv' := atX Nat (fun k => [(1, .l 1 0), (3, .v (.vslice none 0 ((decA w).1).length 5 (((decA w).1).flatMap cIns))), (4, .v (.vslice none 0 ((decA w).2.1).length 1 (((decA w).2.1).map (IV.int .i64)))), (6, .v (.int .i64 e.length)), (9, .v (.vslice none 0 w.length 1 ((bools w (decA w).2.1).map IV.bool))), (11, .v (.int .i64 k))]) (fun _ => [(1, [.vslice none 0 (w).length 1 ((w).map (IV.int .u32)), .vslice none 0 (e).length 1 ((e).map (IV.int .i64)), .vslice none 0 (p).length 1 ((p).map (IV.int .i64)), .vslice none 0 (s).length 1 ((s).map (IV.int .i64)), .vslice none 0 (a).length 1 ((a).map (IV.int .i64))])]) (fun _ => Heap.empty) (fun k => k <= a.length /\ ∀ j, j < k -> okA ⟨w, e, p, s, a⟩ j) (fun k => a.length - k)
def rvC (w e p s a : List Int) : Inv' := atP (pre1 w e p s a /\ (∀ j, j < e.length -> okE ⟨w, e, p, s, a⟩ j) /\ ∀ j, j < a.length -> okA ⟨w, e, p, s, a⟩ j) [(1, .l 1 0), (3, .v (.vslice none 0 ((decA w).1).length 5 (((decA w).1).flatMap cIns))), (4, .v (.vslice none 0 ((decA w).2.1).length 1 (((decA w).2.1).map (IV.int .i64)))), (6, .v (.int .i64 e.length)), (9, .v (.vslice none 0 w.length 1 ((bools w (decA w).2.1).map IV.bool)))] [(1, [.vslice none 0 (w).length 1 ((w).map (IV.int .u32)), .vslice none 0 (e).length 1 ((e).map (IV.int .i64)), .vslice none 0 (p).length 1 ((p).map (IV.int .i64)), .vslice none 0 (s).length 1 ((s).map (IV.int .i64)), .vslice none 0 (a).length 1 ((a).map (IV.int .i64))])] Heap.empty
def rvI3 (w e p s a : List Int) : Inv' := atX Nat (fun k => [(1, .l 1 0), (3, .v (.vslice none 0 ((decA w).1).length 5 (((decA w).1).flatMap cIns))), (4, .v (.vslice none 0 ((decA w).2.1).length 1 (((decA w).2.1).map (IV.int .i64)))), (6, .v (.int .i64 e.length)), (9, .v (.vslice none 0 w.length 1 ((bools w (decA w).2.1).map IV.bool))), (12, .v (.int .i64 k))]) (fun _ => [(1, [.vslice none 0 (w).length 1 ((w).map (IV.int .u32)), .vslice none 0 (e).length 1 ((e).map (IV.int .i64)), .vslice none 0 (p).length 1 ((p).map (IV.int .i64)), .vslice none 0 (s).length 1 ((s).map (IV.int .i64)), .vslice none 0 (a).length 1 ((a).map (IV.int .i64))])]) (fun _ => Heap.empty) (fun k => k <= (decA w).1.length /\ ∀ j, j < k -> okK ⟨w, e, p, s, a⟩ j) (fun k => (decA w).1.length - k)
def kRValidB (xs : List IV) (h : Heap) (K : IV -> Heap -> Prop) : Prop := match xs with
 | [.agg [.vslice none e1 n1 1 c1, .vslice none e2 n2 1 c2, .vslice none e3 n3 1 c3, .vslice none e4 n4 1 c4, .vslice none e5 n5 1 c5]] => ∃ w e p s a : List Int, (n1 = w.length /\ c1 = w.map (IV.int .u32)) /\ (n2 = e.length /\ c2 = e.map (IV.int .i64)) /\ (n3 = p.length /\ c3 = p.map (IV.int .i64)) /\ (n4 = s.length /\ c4 = s.map (IV.int .i64)) /\ (n5 = a.length /\ c5 = a.map (IV.int .i64)) /\ ((∀ x ∈ w, u32b x) /\ w.length <= 1000000) /\ ∀ r : Bool, (r = true ↔ VB ⟨w, e, p, s, a⟩) -> K (.bool r) h
 | _ => False
noncomputable def z15a (w : List Int) := TV.v (.vslice none 0 w.length 1 (List.map IV.bool (bools w (Prod.fst (Prod.snd (decA w))))))
noncomputable def z15k (w : List Int) := Prod.fst (decA w)
noncomputable def z15q (w : List Int) := List.flatMap cIns (z15k w)
noncomputable def z15b (w : List Int) := TV.v (.vslice none 0 (List.length (z15k w)) 5 (z15q w))
noncomputable def z15c (e : List Int) := TV.v (.int .i64 (↑e.length : Int))
noncomputable def z15d (w : List Int) := TV.v (vI (Prod.fst (Prod.snd (decA w))))
noncomputable def z15e  := TV.l 1 0
noncomputable abbrev z15f (w e p s a : List Int) (x_1 : Nat) := x_1 <= List.length (z15k w) /\ ∀ (j : Nat), j < x_1 -> okK (Bi.mk w e p s a) j
noncomputable abbrev z15g (w e p s a : List Int) := (1 <= w.length /\ w.length <= 60000) /\ (1 <= e.length /\ e.length <= 8) /\ p.length = e.length /\ s.length = e.length /\ a.length <= 4 /\ Prod.snd (Prod.snd (decA w)) = 0 /\ ∀ (i : In), List.getLast? (z15k w) = some i -> Prod.fst (cfl (In.op i) (In.a i) (In.b i) (In.c i) (In.n i)) = false
noncomputable def z15h (w e p s a : List Int) := [vW w, vI e, vI p, vI s, vI a]
noncomputable def z15i (x_1 : Nat) := TV.v (.int .i64 (↑x_1 : Int))
noncomputable def z15j  := IV.bool false
noncomputable def z15l (w_1 : List Int) := IntKind.wrap .i64 ((↑(List.length (Prod.fst (decA w_1))) : Int) - 1)
noncomputable def z15m (a : List Int) (n19 : Int) := decide (n19 >= (↑a.length : Int))
noncomputable def z15n  := IV.int .i64
noncomputable def z15o (w_1 : List Int) := List.flatMap cIns (Prod.fst (decA w_1))
noncomputable def z15p  := TV.v (.int .i64 0)
set_option maxRecDepth 100000 in
theorem vRValidB (w e p s a : List Int) (e1 e2 e3 e4 e5 : Nat) (h : Heap) (Q : IV -> Heap -> Prop) : dF (stdS cEValid) env 15 noU (icA 11 (rvI1 w e p s a) (icA 16 (rvI2 w e p s a) (ic1 21 (rvI3 w e p s a)))) (icS (icA 10 (rvA w e p s a) (icA 15 (rvB w e p s a) (ic1 20 (rvC w e p s a))))) [.agg [.vslice none e1 (w).length 1 ((w).map (IV.int .u32)), .vslice none e2 (e).length 1 ((e).map (IV.int .i64)), .vslice none e3 (p).length 1 ((p).map (IV.int .i64)), .vslice none e4 (s).length 1 ((s).map (IV.int .i64)), .vslice none e5 (a).length 1 ((a).map (IV.int .i64))]] h Q = (
 needS (pureL [IV.agg (z15h w e p s a)]) ((∃ (w_1 : List Int), (w.length = w_1.length /\ List.map (IV.int .u32) w = List.map (IV.int .u32) w_1) /\ ((∀ (x : Int), x ∈ w_1 -> u32b x) /\ w_1.length <= 1000000) /\ brS (decide ((↑w.length : Int) < 1)) (Q z15j h)
 (brS (decide ((↑w.length : Int) > 60000)) (Q z15j h) (brS (Prod.snd (Prod.snd (decA w_1)) != 0) (Q z15j h) (brS (decide ((↑e.length : Int) < 1)) (Q z15j h) (brS (decide ((↑e.length : Int) > 8)) (Q z15j h) (brS ((↑p.length : Int) != (↑(List.length
 e) : Int)) (Q z15j h) (brS ((↑s.length : Int) != (↑e.length : Int)) (Q z15j h) (brS (decide ((↑a.length : Int) > 4)) (Q z15j h) (needS (decide (0 <= IntKind.wrap .i64 ((↑(List.length (Prod.fst (decA w_1))) : Int) - 1)) && decide (IntKind.wrap .i64
 ((↑(List.length (Prod.fst (decA w_1))) : Int) - 1) < (↑(List.length (Prod.fst (decA w_1))) : Int))) (ldIS .i64 (z15o w_1) (Int.toNat (z15l w_1) * 5) fun n0 => ldIS .i64 (z15o w_1) (Int.toNat (z15l w_1) * 5 + (1 : Nat)) fun n1 => ldIS .i64 (z15o
 w_1) (Int.toNat (z15l w_1) * 5 + (1 : Nat) + 1) fun n2 => ldIS .i64 (z15o w_1) (Int.toNat (z15l w_1) * 5 + (1 : Nat) + 1 + (1 : Nat)) fun n3 => ldIS .i64 (z15o w_1) (Int.toNat (z15l w_1) * 5 + (1 : Nat) + 1 + (1 : Nat) + (1
 : Nat)) fun n4 => brS (Prod.fst (cfl n0 n1 n2 n3 n4)) (Q z15j h) (∃ (w_2 : List Int), (w.length = w_2.length /\ List.map (IV.int .u32) w = List.map (IV.int .u32) w_2) /\ ((∀ (x : Int), x ∈ w_2 -> u32b x) /\ w_2.length <= 1000000 /\ Prod.snd (Prod.snd (decA w_2))
 = (0 : Int)) /\ some z15e = some z15e /\ some (TV.v (.vslice none 0 (List.length (Prod.fst (decA w_1))) 5 (z15o w_1))) = some (z15b w) /\ some (TV.v (vI (Prod.fst (Prod.snd (decA w_1))))) = some (z15d w) /\ some (z15c e) = some (z15c e) /\ some (TV.v (.vslice none 0 (List.length
 w_2) 1 (List.map IV.bool (bools w_2 (Prod.fst (Prod.snd (decA w_2))))))) = some (z15a w) /\ some (z15h w e p s a) = some (z15h w e p s a) /\ Heap.mk PT.nil 0 = Heap.mk PT.nil 0 /\ (z15g w e p s a) /\ True))))))))))) /\ (∀ (x : Unit) (b : FF), pre1 w e p s a -> (∃ (x : Nat), some z15e
 = some z15e /\ some (z15b w) = some (z15b w) /\ some (z15d w) = some (z15d w) /\ some (z15c e) = some (z15c e) /\ some (z15a w) = some (z15a w) /\ some z15p = some (TV.v (.int .i64 (↑x : Int))) /\ some (z15h w e p s a) = some (z15h w e p s a) /\ Heap.mk PT.nil 0 = Heap.mk PT.nil 0 /\
 (x <= e.length /\ ∀ (j : Nat), j < x -> okE (Bi.mk w e p s a) j) /\ True) /\ ∀ (x : Nat) (b : FF), (x <= e.length /\ ∀ (j : Nat), j < x -> okE (Bi.mk w e p s a) j) -> brS (decide ((↑x : Int) < (↑e.length : Int))) (needS (decide (0 <= (↑x : Int)) && decide ((↑x : Int) < (↑e.length
 : Int))) (ldIS .i64 (List.map z15n e) (Int.toNat (↑x : Int) * 1) fun n5 => brS (decide (n5 < 0)) (Q z15j h) (needS (decide (0 <= (↑x : Int)) && decide ((↑x : Int) < (↑e.length : Int))) (ldIS .i64 (List.map z15n e) (Int.toNat (↑x : Int) * 1)
 fun n6 => brS (decide (n6 >= (↑w.length : Int))) (Q z15j h) (needS (decide (0 <= (↑x : Int)) && decide ((↑x : Int) < (↑e.length : Int))) (ldIS .i64 (List.map z15n e) (Int.toNat (↑x : Int) * 1) fun n7 => needS (decide (0 <= n7) && decide (n7 <
 (↑w.length : Int))) (ldBS (List.map IV.bool (bools w (Prod.fst (Prod.snd (decA w))))) (n7.toNat * 1) fun b8 => brS (!b8) (Q z15j h) (needS (decide (0 <= (↑x : Int)) && decide ((↑x : Int) < (↑p.length : Int))) (ldIS .i64 (List.map z15n p) (Int.toNat (↑x
 : Int) * 1) fun n9 => brS (decide (n9 < 0)) (Q z15j h) (needS (decide (0 <= (↑x : Int)) && decide ((↑x : Int) < (↑p.length : Int))) (ldIS .i64 (List.map z15n p) (Int.toNat (↑x : Int) * 1) fun n10 => brS (decide (n10 > 6)) (Q z15j h)
 (needS (decide (0 <= (↑x : Int)) && decide ((↑x : Int) < (↑s.length : Int))) (ldIS .i64 (List.map z15n s) (Int.toNat (↑x : Int) * 1) fun n11 => brS (decide (n11 < 0)) (Q z15j h) (needS (decide (0 <= (↑x : Int)) && decide ((↑x : Int) < (↑(List.length
 s) : Int))) (ldIS .i64 (List.map z15n s) (Int.toNat (↑x : Int) * 1) fun n12 => brS (decide (n12 > 3000)) (Q z15j h) (∃ (x_1 : Nat), some z15e = some z15e /\ some (z15b w) = some (z15b w) /\ some (z15d w) = some (z15d w) /\ some (z15c e) = some (z15c e) /\ some (z15a w) = some
 (z15a w) /\ some (TV.v (.int .i64 (IntKind.wrap .i64 ((↑x : Int) + 1)))) = some (z15i x_1) /\ some (z15h w e p s a) = some (z15h w e p s a) /\ Heap.mk PT.nil 0 = Heap.mk PT.nil 0 /\ (x_1 <= e.length /\ ∀ (j : Nat), j < x_1 -> okE (Bi.mk w e p s a) j) /\ List.length
 e - x_1 < e.length - x)))))))))))))))) (some z15e = some z15e /\ some (z15b w) = some (z15b w) /\ some (z15d w) = some (z15d w) /\ some (z15c e) = some (z15c e) /\ some (z15a w) = some (z15a w) /\ some (z15h w e p s a) = some (z15h w e p s a) /\ Heap.mk PT.nil 0 = Heap.mk PT.nil 0 /\ ((z15g
 w e p s a) /\ ∀ (j : Nat), j < e.length -> okE (Bi.mk w e p s a) j) /\ True)) /\ (∀ (x : Unit) (b : FF), (pre1 w e p s a /\ ∀ (j : Nat), j < e.length -> okE (Bi.mk w e p s a) j) -> (∃ (x : Nat), some z15e = some z15e /\ some (z15b w) = some (z15b w) /\ some (z15d w) = some (z15d w) /\ some (z15c e) =
 some (z15c e) /\ some (z15a w) = some (z15a w) /\ some z15p = some (TV.v (.int .i64 (↑x : Int))) /\ some (z15h w e p s a) = some (z15h w e p s a) /\ Heap.mk PT.nil 0 = Heap.mk PT.nil 0 /\ (x <= a.length /\ ∀ (j : Nat), j < x -> okA (Bi.mk w e p s a) j) /\ True) /\ ∀ (x : Nat) (b :
 FF), (x <= a.length /\ ∀ (j : Nat), j < x -> okA (Bi.mk w e p s a) j) -> brS (decide ((↑x : Int) < (↑a.length : Int))) (needS (decide (0 <= (↑x : Int)) && decide ((↑x : Int) < (↑a.length : Int))) (ldIS .i64 (List.map z15n a) (Int.toNat (↑x : Int) * 1) fun (n13 : Int)
 => brS (decide (n13 < 1)) (Q z15j h) (needS (decide (0 <= (↑x : Int)) && decide ((↑x : Int) < (↑a.length : Int))) (ldIS .i64 (List.map z15n a) (Int.toNat (↑x : Int) * 1) fun n14 => brS (decide (n14 > 16)) (Q z15j h) (∃ (x_1 : Nat), some z15e = some
 z15e /\ some (z15b w) = some (z15b w) /\ some (z15d w) = some (z15d w) /\ some (z15c e) = some (z15c e) /\ some (z15a w) = some (z15a w) /\ some (TV.v (.int .i64 (IntKind.wrap .i64 ((↑x : Int) + 1)))) = some (z15i x_1) /\ some (z15h w e p s a) = some (z15h w e p s a) /\ Heap.mk PT.nil
 (0 : Nat) = Heap.mk PT.nil 0 /\ (x_1 <= a.length /\ ∀ (j : Nat), j < x_1 -> okA (Bi.mk w e p s a) j) /\ a.length - x_1 < a.length - x))))) (some z15e = some z15e /\ some (z15b w) = some (z15b w) /\ some (z15d w) = some (z15d w) /\ some (z15c e) = some (z15c e) /\ some (z15a w) = some (z15a
 w) /\ some (z15h w e p s a) = some (z15h w e p s a) /\ Heap.mk PT.nil 0 = Heap.mk PT.nil 0 /\ ((z15g w e p s a) /\ (∀ (j : Nat), j < e.length -> okE (Bi.mk w e p s a) j) /\ ∀ (j : Nat), j < a.length -> okA (Bi.mk w e p s a) j) /\ True)) /\ (∀ (x : Unit) (b : FF), (pre1 w e p s a /\ (∀
 (j : Nat), j < e.length -> okE (Bi.mk w e p s a) j) /\ ∀ (j : Nat), j < a.length -> okA (Bi.mk w e p s a) j) -> (∃ (x : Nat), some z15e = some z15e /\ some (z15b w) = some (z15b w) /\ some (z15d w) = some (z15d w) /\ some (z15c e) = some (z15c e) /\ some (z15a w) = some (z15a w) /\ some z15p = some
 (TV.v (.int .i64 (↑x : Int))) /\ some (z15h w e p s a) = some (z15h w e p s a) /\ Heap.mk PT.nil 0 = Heap.mk PT.nil 0 /\ (x <= List.length (z15k w) /\ ∀ (j : Nat), j < x -> okK (Bi.mk w e p s a) j) /\ True) /\ ∀ (x : Nat) (b : FF), (x <= List.length (z15k w) /\ ∀ (j : Nat), j < x -> okK
 (Bi.mk w e p s a) j) -> brS (decide ((↑x : Int) < (↑(List.length (z15k w)) : Int))) (needS (decide (0 <= (↑x : Int)) && decide ((↑x : Int) < (↑(List.length (z15k w)) : Int))) (ldIS .i64 (z15q w) (Int.toNat (↑x : Int) * 5) fun n15 => ldIS .i64 (z15q w) (Int.toNat (↑x
 : Int) * 5 + (1 : Nat)) fun n16 => ldIS .i64 (z15q w) (Int.toNat (↑x : Int) * 5 + (1 : Nat) + 1) fun n17 => ldIS .i64 (z15q w) (Int.toNat (↑x : Int) * 5 + (1 : Nat) + 1 + (1 : Nat)) fun n18 => ldIS .i64 (z15q w) (Int.toNat
 (↑x : Int) * 5 + (1 : Nat) + 1 + (1 : Nat) + 1) fun n19 => needS (decide (0 <= (↑x : Int)) && decide ((↑x : Int) < (↑(List.length (Prod.fst (Prod.snd (decA w)))) : Int))) (ldIS .i64 (List.map z15n (Prod.fst (Prod.snd (decA w)))) (Int.toNat (↑x : Int) * (1
 : Nat)) fun n20 => brS (Prod.snd (cfl n15 n16 n17 n18 n19)) (brS (decide (IntKind.wrap .i64 (n20 + n19) < 0)) (Q z15j h) (brS (decide (IntKind.wrap .i64 (n20 + n19) >= (↑w.length : Int))) (Q z15j h) (needS (decide (0 <= IntKind.wrap .i64 (n20 + n19))
 && decide (IntKind.wrap .i64 (n20 + n19) < (↑w.length : Int))) (ldBS (List.map IV.bool (bools w (Prod.fst (Prod.snd (decA w))))) (Int.toNat (IntKind.wrap .i64 (n20 + n19)) * 1) fun b21 => brS (!b21) (Q z15j h) (brS (n15 == 6) (brS (decide (n19 >= (↑(List.length
 e) : Int))) (Q z15j h) (needS (decide (0 <= n19) && decide (n19 < (↑p.length : Int))) (ldIS .i64 (List.map z15n p) (n19.toNat * 1) fun n22 => brS (n22 != n16) (Q z15j h) (brS (n15 == 34) (brS (z15m a n19) (Q z15j h) (∃ (x_1 : Nat), some z15e = some z15e
 /\ some (z15b w) = some (z15b w) /\ some (z15d w) = some (z15d w) /\ some (z15c e) = some (z15c e) /\ some (z15a w) = some (z15a w) /\ some (TV.v (.int .i64 (IntKind.wrap .i64 ((↑x : Int) + 1)))) = some (z15i x_1) /\ some (z15h w e p s a) = some (z15h w e p s a) /\ Heap.mk PT.nil (0
 : Nat) = Heap.mk PT.nil 0 /\ (z15f w e p s a x_1) /\ List.length (z15k w) - x_1 < List.length (z15k w) - x)) (brS (n15 == 35) (brS (z15m a n19) (Q z15j h) (∃ (x_1 : Nat), some z15e = some z15e /\ some (z15b w) = some (z15b w) /\ some (z15d w) = some (z15d w) /\ some (z15c e) = some (z15c e)
 /\ some (z15a w) = some (z15a w) /\ some (TV.v (.int .i64 (IntKind.wrap .i64 ((↑x : Int) + 1)))) = some (z15i x_1) /\ some (z15h w e p s a) = some (z15h w e p s a) /\ Heap.mk PT.nil 0 = Heap.mk PT.nil 0 /\ (z15f w e p s a x_1) /\ List.length (z15k w) - x_1 < List.length
 (z15k w) - x)) (∃ (x_1 : Nat), some z15e = some z15e /\ some (z15b w) = some (z15b w) /\ some (z15d w) = some (z15d w) /\ some (z15c e) = some (z15c e) /\ some (z15a w) = some (z15a w) /\ some (TV.v (.int .i64 (IntKind.wrap .i64 ((↑x : Int) + 1)))) = some (z15i x_1) /\ some (z15h w
 e p s a) = some (z15h w e p s a) /\ Heap.mk PT.nil 0 = Heap.mk PT.nil 0 /\ (z15f w e p s a x_1) /\ List.length (z15k w) - x_1 < List.length (z15k w) - x)))))) (brS (n15 == 34) (brS (z15m a n19) (Q z15j h) (∃ (x_1 : Nat), some z15e = some z15e /\ some (z15b w) = some (z15b w) /\ some
 (z15d w) = some (z15d w) /\ some (z15c e) = some (z15c e) /\ some (z15a w) = some (z15a w) /\ some (TV.v (.int .i64 (IntKind.wrap .i64 ((↑x : Int) + 1)))) = some (z15i x_1) /\ some (z15h w e p s a) = some (z15h w e p s a) /\ Heap.mk PT.nil 0 = Heap.mk PT.nil 0 /\ (z15f
 w e p s a x_1) /\ List.length (z15k w) - x_1 < List.length (z15k w) - x)) (brS (n15 == 35) (brS (z15m a n19) (Q z15j h) (∃ (x_1 : Nat), some z15e = some z15e /\ some (z15b w) = some (z15b w) /\ some (z15d w) = some (z15d w) /\ some (z15c e) = some (z15c e) /\ some (z15a w) = some (z15a w) /\ some (TV.v
 (IV.int .i64 (IntKind.wrap .i64 ((↑x : Int) + 1)))) = some (z15i x_1) /\ some (z15h w e p s a) = some (z15h w e p s a) /\ Heap.mk PT.nil 0 = Heap.mk PT.nil 0 /\ (z15f w e p s a x_1) /\ List.length (z15k w) - x_1 < List.length (z15k w) - x)) (∃ (x_1 : Nat), some z15e
 = some z15e /\ some (z15b w) = some (z15b w) /\ some (z15d w) = some (z15d w) /\ some (z15c e) = some (z15c e) /\ some (z15a w) = some (z15a w) /\ some (TV.v (.int .i64 (IntKind.wrap .i64 ((↑x : Int) + 1)))) = some (z15i x_1) /\ some (z15h w e p s a) = some (z15h w e p s a) /\ Heap.mk
 PT.nil (0 : Nat) = Heap.mk PT.nil 0 /\ (z15f w e p s a x_1) /\ List.length (z15k w) - x_1 < List.length (z15k w) - x)))))))) (brS (n15 == 6) (brS (decide (n19 >= (↑e.length : Int))) (Q z15j h) (needS (decide (0 <= n19) && decide (n19 < (↑p.length : Int))) (ldIS .i64
 (List.map z15n p) (n19.toNat * 1) fun n23 => brS (n23 != n16) (Q z15j h) (brS (n15 == 34) (brS (z15m a n19) (Q z15j h) (∃ (x_1 : Nat), some z15e = some z15e /\ some (z15b w) = some (z15b w) /\ some (z15d w) = some (z15d w) /\ some (z15c e) = some (z15c e) /\ some (z15a w) = some
 (z15a w) /\ some (TV.v (.int .i64 (IntKind.wrap .i64 ((↑x : Int) + 1)))) = some (z15i x_1) /\ some (z15h w e p s a) = some (z15h w e p s a) /\ Heap.mk PT.nil 0 = Heap.mk PT.nil 0 /\ (z15f w e p s a x_1) /\ List.length (z15k w) - x_1 < List.length (z15k w) - x)) (brS
 (n15 == 35) (brS (z15m a n19) (Q z15j h) (∃ (x_1 : Nat), some z15e = some z15e /\ some (z15b w) = some (z15b w) /\ some (z15d w) = some (z15d w) /\ some (z15c e) = some (z15c e) /\ some (z15a w) = some (z15a w) /\ some (TV.v (.int .i64 (IntKind.wrap .i64 ((↑x : Int) + 1))))
 = some (z15i x_1) /\ some (z15h w e p s a) = some (z15h w e p s a) /\ Heap.mk PT.nil 0 = Heap.mk PT.nil 0 /\ (z15f w e p s a x_1) /\ List.length (z15k w) - x_1 < List.length (z15k w) - x)) (∃ (x_1 : Nat), some z15e = some z15e /\ some (z15b w) = some (z15b w) /\ some (z15d w) = some (z15d w)
 /\ some (z15c e) = some (z15c e) /\ some (z15a w) = some (z15a w) /\ some (TV.v (.int .i64 (IntKind.wrap .i64 ((↑x : Int) + 1)))) = some (z15i x_1) /\ some (z15h w e p s a) = some (z15h w e p s a) /\ Heap.mk PT.nil 0 = Heap.mk PT.nil 0 /\ (z15f w e p s a x_1) /\ List.length
 (z15k w) - x_1 < List.length (z15k w) - x)))))) (brS (n15 == 34) (brS (z15m a n19) (Q z15j h) (∃ (x_1 : Nat), some z15e = some z15e /\ some (z15b w) = some (z15b w) /\ some (z15d w) = some (z15d w) /\ some (z15c e) = some (z15c e) /\ some (z15a w) = some (z15a w) /\ some (TV.v (.int .i64
 (IntKind.wrap .i64 ((↑x : Int) + 1)))) = some (z15i x_1) /\ some (z15h w e p s a) = some (z15h w e p s a) /\ Heap.mk PT.nil 0 = Heap.mk PT.nil 0 /\ (z15f w e p s a x_1) /\ List.length (z15k w) - x_1 < List.length (z15k w) - x)) (brS (n15 == 35) (brS (z15m a n19) (Q
 z15j h) (∃ (x_1 : Nat), some z15e = some z15e /\ some (z15b w) = some (z15b w) /\ some (z15d w) = some (z15d w) /\ some (z15c e) = some (z15c e) /\ some (z15a w) = some (z15a w) /\ some (TV.v (.int .i64 (IntKind.wrap .i64 ((↑x : Int) + 1)))) = some (z15i x_1) /\ some (z15h w e p s a)
 = some (z15h w e p s a) /\ Heap.mk PT.nil 0 = Heap.mk PT.nil 0 /\ (z15f w e p s a x_1) /\ List.length (z15k w) - x_1 < List.length (z15k w) - x)) (∃ (x_1 : Nat), some z15e = some z15e /\ some (z15b w) = some (z15b w) /\ some (z15d w) = some (z15d w) /\ some (z15c e) = some (z15c e) /\ some (z15a
 w) = some (z15a w) /\ some (TV.v (.int .i64 (IntKind.wrap .i64 ((↑x : Int) + 1)))) = some (z15i x_1) /\ some (z15h w e p s a) = some (z15h w e p s a) /\ Heap.mk PT.nil 0 = Heap.mk PT.nil 0 /\ (z15f w e p s a x_1) /\ List.length (z15k w) - x_1 < List.length (z15k w)
 - x))))))) (Q (.bool true) h)) /\ True)) := by kernel_rfl
set_option maxHeartbeats 8000000 in
set_option maxRecDepth 100000 in
theorem sRValidB : ∀ xs h Q, kRValidB xs h Q -> CallW env 15 xs h Q := by
 intro xs h Q hk
 unfold kRValidB at hk
 split at hk
 ·rename_i e1 n1 c1 e2 n2 c2 e3 n3 c3 e4 n4 c4 e5 n5 c5
  obtain ⟨w, e, p, s, a, ⟨rfl, rfl⟩, ⟨rfl, rfl⟩, ⟨rfl, rfl⟩, ⟨rfl, rfl⟩, ⟨rfl, rfl⟩, hw, hk⟩ := hk
  refine dF_run (okEValid) (vRValidB w e p s a e1 e2 e3 e4 e5 h Q) ?_
  delta vI vW z15a z15b z15c z15d z15e z15f z15g z15h z15i z15j z15k z15l z15m z15n z15o z15p z15q
  have hF : ¬ VB ⟨w, e, p, s, a⟩ -> Q (.bool false) h := fun hn => hk false ⟨(fun z => nomatch z), fun z => absurd z hn⟩
  have hT : VB ⟨w, e, p, s, a⟩ -> Q (.bool true) h := fun hv => hk true ⟨fun _ => hv, fun _ => rfl⟩
  obtain ⟨hw, hwl⟩ := hw
  have tn : ∀ x : Nat, (x : Int).toNat = x := Int.toNat_natCast
  have hbl : ∀ l, (bools w l).length = w.length := fun l => bools_len w l
  refine needS_intro (by simp only [pureL, pureB, pureL_ints, Bool.and_true]) ⟨⟨w, ⟨rfl, rfl⟩, ⟨hw, hwl⟩, ?_⟩, ?_, ?_, ?_, trivial⟩
  ·refine brS_intro (fun c => hF fun v => ?_) (fun c1 => brS_intro (fun c => hF fun v => ?_) (fun c1' => brS_intro (fun c => hF fun v => ?_) (fun c6 => brS_intro (fun c => hF fun v => ?_) (fun c2 => brS_intro (fun c => hF fun v => ?_) (fun c2' => brS_intro (fun c => hF fun v => ?_) (fun c3 => brS_intro (fun c => hF fun v => ?_) (fun c4 => brS_intro (fun c => hF fun v => ?_) (fun c5 => ?_))))))))
   ·have v1 : 1 <= w.length /\ w.length <= 60000 := v.1
    rw [decide_eq_true_eq] at c; omega
   ·have v1 : 1 <= w.length /\ w.length <= 60000 := v.1
    rw [decide_eq_true_eq] at c; omega
   ·rw [bne_iff_ne] at c
    exact c v.2.2.2.2.2.1
   ·have v1 : 1 <= e.length /\ e.length <= 8 := v.2.1
    rw [decide_eq_true_eq] at c; omega
   ·have v1 : 1 <= e.length /\ e.length <= 8 := v.2.1
    rw [decide_eq_true_eq] at c; omega
   ·have v1 : p.length = e.length := v.2.2.1
    rw [bne_iff_ne] at c
    omega
   ·have v1 : s.length = e.length := v.2.2.2.1
    rw [bne_iff_ne] at c
    omega
   ·have v1 : a.length <= 4 := v.2.2.2.2.1
    rw [decide_eq_true_eq] at c
    omega
   ·rw [decide_eq_false_iff_not] at c1 c1' c2 c2' c5
    rw [bne_eq_false_iff_eq] at c3 c4 c6
    have hok := decA_ok hw c6
    have hl := decA_len w
    have hne := hok.2.2.2 (fun z => by rw [z] at c1; simp at c1)
    have hpos := List.length_pos_iff.2 hne
    have hwr : IntKind.i64.wrap (((decA w).1.length : Int) - 1) = ((decA w).1.length : Int) - 1 := IntWalk.i64_in _ (by omega)
    rw [hwr]
    refine needS_intro (by simp; omega) (ldIn (i := (decA w).1.length - 1) (by omega) (by omega) (brS_intro (fun c => hF fun v => ?_) (fun c7 => ⟨w, ⟨rfl, rfl⟩, ⟨hw, hwl, c6⟩, ?_⟩)))
    ·have v7 : ∀ i, (decA w).1.getLast? = some i -> (cfl i.op i.a i.b i.c i.n).1 = false := v.2.2.2.2.2.2.1
     have := v7 _ (by rw [List.getLast?_eq_getElem?, List.getElem?_eq_getElem (by omega)])
     rw [this] at c; cases c
    ·refine ⟨(by first | rfl | trivial), (by first | rfl | trivial), (by first | rfl | trivial), (by first | rfl | trivial), (by first | rfl | trivial), (by first | rfl | trivial), (by first | rfl | trivial), ⟨by omega, by omega, by omega, by omega, by omega, c6, fun i hi => ?_⟩, trivial⟩
     rw [List.getLast?_eq_getElem?, List.getElem?_eq_getElem (by omega)] at hi
     cases hi
     exact c7
  ·intro _ _ hp
   obtain ⟨p1, p2, p3, p4, p5, p6, p7⟩ := hp
   have hok := decA_ok hw p6
   refine ⟨⟨0, (by first | rfl | trivial), (by first | rfl | trivial), (by first | rfl | trivial), (by first | rfl | trivial), (by first | rfl | trivial), (by first | rfl | trivial), (by first | rfl | trivial), (by first | rfl | trivial), ⟨Nat.zero_le _, fun j hj => absurd hj (Nat.not_lt_zero _)⟩, trivial⟩, fun k _ hk2 => ?_⟩
   obtain ⟨q1, q2⟩ := hk2
   refine brS_intro (fun c => ?_) (fun c => ?_)
   ·rw [decide_eq_true_eq] at c
    have hlt : k < e.length := by omega
    have hlp : k < p.length := by omega
    have hls : k < s.length := by omega
    have hv8 : VB ⟨w, e, p, s, a⟩ -> St w e[k] /\ (0 <= p[k] /\ p[k] <= 6) /\ (0 <= s[k] /\ s[k] <= 3000) := fun v => by
     obtain ⟨x, y, z, e1, e2, e3, e4⟩ := v.2.2.2.2.2.2.2.1 k hlt
     simp only [List.getElem?_eq_getElem hlt, List.getElem?_eq_getElem hlp, List.getElem?_eq_getElem hls, Option.some.injEq] at e1 e2 e3
     rw [e1, e2, e3]; exact e4
    have ne : ∀ {A : Prop}, A -> needS (decide (0 <= (k : Int)) && decide ((k : Int) < (e.length : Int))) A := fun hA => needS_intro (by simp; omega) hA
    have np : ∀ {A : Prop}, A -> needS (decide (0 <= (k : Int)) && decide ((k : Int) < (p.length : Int))) A := fun hA => needS_intro (by simp; omega) hA
    have ns : ∀ {A : Prop}, A -> needS (decide (0 <= (k : Int)) && decide ((k : Int) < (s.length : Int))) A := fun hA => needS_intro (by simp; omega) hA
    rw [show Int.toNat (k : Int) * 1 = k by omega]
    refine ne (ldIS_map hlt (brS_intro (fun c => hF fun v => ?_) (fun d1 => ne (ldIS_map hlt (brS_intro (fun c => hF fun v => ?_) (fun d2 => ne (ldIS_map hlt (needS_intro (by rw [decide_eq_false_iff_not] at d1 d2; simp; omega) ?_))))))))
    ·have := hok.2.1 _ (hv8 v).1; rw [decide_eq_true_eq] at c; omega
    ·have := hok.2.1 _ (hv8 v).1; rw [decide_eq_true_eq] at c; omega
    rw [decide_eq_false_iff_not] at d1 d2
    have hlt2 : (e[k]).toNat < (bools w (decA w).2.1).length := by rw [hbl]; omega
    have hx : (((e[k]).toNat : Nat) : Int) = e[k] := Int.toNat_of_nonneg (by omega)
    rw [Nat.mul_one]
    refine ldBS_map hlt2 rfl ?_
    rw [bools_at, hx]
    refine brS_intro (fun c => hF fun v => ?_) (fun d3 => np (ldIS_map hlp (brS_intro (fun c => hF fun v => ?_) (fun d4 => np (ldIS_map hlp (brS_intro (fun c => hF fun v => ?_) (fun d5 => ns (ldIS_map hls (brS_intro (fun c => hF fun v => ?_) (fun d6 => ns (ldIS_map hls (brS_intro (fun c => hF fun v => ?_) (fun d7 => ?_)))))))))))))
    ·have : e[k] ∈ (decA w).2.1 := (hv8 v).1
     simp [this] at c
    ·have := (hv8 v).2.1; rw [decide_eq_true_eq] at c; omega
    ·have := (hv8 v).2.1; rw [decide_eq_true_eq] at c; omega
    ·have := (hv8 v).2.2; rw [decide_eq_true_eq] at c; omega
    ·have := (hv8 v).2.2; rw [decide_eq_true_eq] at c; omega
    ·rw [decide_eq_false_iff_not] at d4 d5 d6 d7
     refine ⟨k + 1, (by first | rfl | trivial), (by first | rfl | trivial), (by first | rfl | trivial), (by first | rfl | trivial), (by first | rfl | trivial), (by rw [IntWalk.i64_in _ (by omega)]; rfl), (by first | rfl | trivial), (by first | rfl | trivial), ⟨hlt, fun j hj => ?_⟩, by omega⟩
     rcases Nat.lt_or_ge j k with z | z
     ·exact q2 j z
     ·obtain rfl : j = k := by omega
      exact ⟨e[j], p[j], s[j], List.getElem?_eq_getElem hlt, List.getElem?_eq_getElem hlp, List.getElem?_eq_getElem hls, (show e[j] ∈ (decA w).2.1 by simpa using d3), by omega, by omega⟩
   ·rw [decide_eq_false_iff_not] at c
    exact ⟨(by first | rfl | trivial), (by first | rfl | trivial), (by first | rfl | trivial), (by first | rfl | trivial), (by first | rfl | trivial), (by first | rfl | trivial), (by first | rfl | trivial), ⟨⟨p1, p2, p3, p4, p5, p6, p7⟩, fun j hj => q2 j (by omega)⟩, trivial⟩
  ·intro _ _ hp
   obtain ⟨⟨p1, p2, p3, p4, p5, p6, p7⟩, hE⟩ := hp
   refine ⟨⟨0, (by first | rfl | trivial), (by first | rfl | trivial), (by first | rfl | trivial), (by first | rfl | trivial), (by first | rfl | trivial), (by first | rfl | trivial), (by first | rfl | trivial), (by first | rfl | trivial), ⟨Nat.zero_le _, fun j hj => absurd hj (Nat.not_lt_zero _)⟩, trivial⟩, fun k _ hk2 => ?_⟩
   obtain ⟨q1, q2⟩ := hk2
   refine brS_intro (fun c => ?_) (fun c => ?_)
   ·rw [decide_eq_true_eq] at c
    have hlt : k < a.length := by omega
    have na : ∀ {A : Prop}, A -> needS (decide (0 <= (k : Int)) && decide ((k : Int) < (a.length : Int))) A := fun hA => needS_intro (by simp; omega) hA
    have hv9 : VB ⟨w, e, p, s, a⟩ -> 1 <= a[k] /\ a[k] <= 16 := fun v => by
     obtain ⟨x, e1, e2⟩ := v.2.2.2.2.2.2.2.2.1 k hlt
     simp only [List.getElem?_eq_getElem hlt, Option.some.injEq] at e1
     rw [e1]; exact e2
    rw [show Int.toNat (k : Int) * 1 = k by omega]
    refine na (ldIS_map hlt (brS_intro (fun c => hF fun v => ?_) (fun d1 => na (ldIS_map hlt (brS_intro (fun c => hF fun v => ?_) (fun d2 => ?_))))))
    ·have := hv9 v; rw [decide_eq_true_eq] at c; omega
    ·have := hv9 v; rw [decide_eq_true_eq] at c; omega
    ·rw [decide_eq_false_iff_not] at d1 d2
     refine ⟨k + 1, (by first | rfl | trivial), (by first | rfl | trivial), (by first | rfl | trivial), (by first | rfl | trivial), (by first | rfl | trivial), (by rw [IntWalk.i64_in _ (by omega)]; rfl), (by first | rfl | trivial), (by first | rfl | trivial), ⟨hlt, fun j hj => ?_⟩, by omega⟩
     rcases Nat.lt_or_ge j k with z | z
     ·exact q2 j z
     ·obtain rfl : j = k := by omega
      exact ⟨a[j], List.getElem?_eq_getElem hlt, by omega, by omega⟩
   ·rw [decide_eq_false_iff_not] at c
    exact ⟨(by first | rfl | trivial), (by first | rfl | trivial), (by first | rfl | trivial), (by first | rfl | trivial), (by first | rfl | trivial), (by first | rfl | trivial), (by first | rfl | trivial), ⟨⟨p1, p2, p3, p4, p5, p6, p7⟩, hE, fun j hj => q2 j (by omega)⟩, trivial⟩
  ·intro _ _ hp
   obtain ⟨⟨p1, p2, p3, p4, p5, p6, p7⟩, hE, hA⟩ := hp
   have hok := decA_ok hw p6
   have hl := decA_len w
   refine ⟨⟨0, (by first | rfl | trivial), (by first | rfl | trivial), (by first | rfl | trivial), (by first | rfl | trivial), (by first | rfl | trivial), (by first | rfl | trivial), (by first | rfl | trivial), (by first | rfl | trivial), ⟨Nat.zero_le _, fun j hj => absurd hj (Nat.not_lt_zero _)⟩, trivial⟩, fun k _ hk2 => ?_⟩
   obtain ⟨q1, q2⟩ := hk2
   refine brS_intro (fun c => ?_) (fun c => ?_)
   ·rw [decide_eq_true_eq] at c
    have hlt : k < (decA w).1.length := by omega
    have hlp : k < (decA w).2.1.length := by omega
    have hin := hok.1 _ (List.getElem_mem hlt)
    have hv : VB ⟨w, e, p, s, a⟩ -> okJ ⟨w, e, p, s, a⟩ (decA w).1[k] (decA w).2.1[k] := fun v => by
     obtain ⟨x, y, e1, e2, e3⟩ := v.2.2.2.2.2.2.2.2.2 k hlt
     have e1' : (decA w).1[k]? = some x := e1
     have e2' : (decA w).2.1[k]? = some y := e2
     simp only [List.getElem?_eq_getElem hlt, List.getElem?_eq_getElem hlp, Option.some.injEq] at e1' e2'
     rw [e1', e2']; exact e3
    have hstep : okJ ⟨w, e, p, s, a⟩ (decA w).1[k] (decA w).2.1[k] -> ∀ j, j < k + 1 -> okK ⟨w, e, p, s, a⟩ j := fun hj j hj' => by
     rcases Nat.lt_or_ge j k with z | z
     ·exact q2 j z
     ·obtain rfl : j = k := by omega
      exact ⟨_, _, List.getElem?_eq_getElem hlt, List.getElem?_eq_getElem hlp, hj⟩
    have hw1 : IntKind.i64.wrap ((k : Int) + 1) = ((k + 1 : Nat) : Int) := IntWalk.i64_in _ (by omega)
    rw [hw1, tn]
    refine needS_intro (by simp; omega) (ldIn (i := k) hlt rfl (needS_intro (by simp; omega) ?_))
    rw [Nat.mul_one]
    refine ldIS_map hlp ?_
    generalize (decA w).1[k] = i at *
    generalize (decA w).2.1[k] = pl at *
    obtain ⟨op, ia, ib, ic, n⟩ := i
    have hv2 := okin_n hin
    have hin' : validI op ia ib ic n = true := hin
    have hcf : (cfl op ia ib ic n).2 = decide (op = 5 \/ op = 7 \/ op = 8) := by unfold cfl; rw [if_pos hin']
    simp only
    refine brS_intro (fun cJ => ?_) (fun cJ => ?_)
    ·rw [hcf, decide_eq_true_eq] at cJ
     refine stBeg hok.2.1 hF (fun v => (hv v).1 cJ) (fun h1 => ?_)
     refine st6 p3 (fun z => (hv2.1 z).1) hF (fun v z => (hv v).2.1 z) (fun h2 => ?_)
     exact st34 hF (fun v z => (hv v).2.2 z) (fun h3 => ⟨k + 1, (by first | rfl | trivial), (by first | rfl | trivial), (by first | rfl | trivial), (by first | rfl | trivial), (by first | rfl | trivial), (by first | rfl | trivial), (by first | rfl | trivial), (by first | rfl | trivial), ⟨hlt, hstep ⟨fun _ => h1, h2, h3⟩⟩, by omega⟩)
    ·rw [hcf, decide_eq_false_iff_not] at cJ
     refine st6 p3 (fun z => (hv2.1 z).1) hF (fun v z => (hv v).2.1 z) (fun h2 => ?_)
     exact st34 hF (fun v z => (hv v).2.2 z) (fun h3 => ⟨k + 1, (by first | rfl | trivial), (by first | rfl | trivial), (by first | rfl | trivial), (by first | rfl | trivial), (by first | rfl | trivial), (by first | rfl | trivial), (by first | rfl | trivial), (by first | rfl | trivial), ⟨hlt, hstep ⟨fun z => absurd z cJ, h2, h3⟩⟩, by omega⟩)
   ·rw [decide_eq_false_iff_not] at c
    exact hT ⟨p1, p2, p3, p4, p5, p6, p7, hE, hA, fun j hj => q2 j (by have hj' : j < (decA w).1.length := hj; omega)⟩
 ·exact hk.elim
def cRValidB := addC 15 kRValidB cEValid
theorem okRValidB : Sound env cRValidB := sound_add sRValidB (okEValid)
noncomputable def cMutB := cRValidB
theorem okMutB : Sound env cMutB := okRValidB
end Go.Proofs.YtlenjfbmpekabaaDoor
