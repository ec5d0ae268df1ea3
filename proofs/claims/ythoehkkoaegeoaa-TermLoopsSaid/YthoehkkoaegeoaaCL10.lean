/-
  Terms: what the program prints.
  Conditions: none.
-/
import Derived.Test.YthoehkkoaegeoaaLB10
import Derived.Test.YthoehkkoaegeoaaZL10
import Derived.KernelRfl
set_option linter.unusedVariables false
set_option linter.unusedSimpArgs false
namespace Go.Proofs.Ythoehkkoaegeoaa
open Go.Pv Go.M15 Go.M10 Go.M29

def dw (n : Int) : Int := IntKind.wrap IntKind.u64 (Int.tdiv n (10 : Int))
def db (n : Int) : UInt8 := UInt8.ofNat (Int.toNat (IntKind.wrap IntKind.u8 (IntKind.wrap IntKind.u64 ((48 : Int) + Int.tmod n (10 : Int)))))
/-- digits, the last one first -/
def dchain (P : List UInt8 → Prop) : Nat → Int → List UInt8 → Prop
  | 0, _, _ => False
  | k + 1, x, acc => brS (dw x == 0) (P (db x :: acc)) (dchain P k (dw x) (db x :: acc))
theorem u64_in {x : Int} (h : 0 ≤ x ∧ x < 18446744073709551616) : IntKind.u64.wrap x = x := by
  simp only [IntKind.wrap, IntKind.bits, IntKind.signed]
  simp
  omega
theorem u8_in {x : Int} (h : 0 ≤ x ∧ x < 256) : IntKind.u8.wrap x = x := by
  simp only [IntKind.wrap, IntKind.bits, IntKind.signed]
  simp
  omega
theorem dw_nat {m : Nat} (h : m < 18446744073709551616) : dw m = ((m / 10 : Nat) : Int) := by
  unfold dw
  have : (m : Int).tdiv 10 = ((m / 10 : Nat) : Int) := by
    rw [Int.tdiv_eq_ediv_of_nonneg (by omega)]
    omega
  rw [this, u64_in (by omega)]
theorem db_nat {m : Nat} : db m = UInt8.ofNat (48 + m % 10) := by
  unfold db
  have : (m : Int).tmod 10 = ((m % 10 : Nat) : Int) := by
    rw [Int.tmod_eq_emod_of_nonneg (by omega)]
    omega
  rw [this, u64_in (by omega), u8_in (by omega)]
  congr 1
theorem dchain_ok {P : List UInt8 → Prop} (k : Nat) : ∀ (m : Nat) (acc : List UInt8), m < 18446744073709551616 → m < 10 ^ (k + 1) → P (digN m ++ acc) → dchain P (k + 1) m acc := by
  induction k with
  | zero =>
    intro m acc hb h hP
    refine brS_intro (fun _ => ?_) (fun c => ?_)
    · rw [digN_lt (by simpa using h)] at hP
      rw [db_nat, Nat.mod_eq_of_lt (by simpa using h)]
      exact hP
    · rw [dw_nat hb, beq_eq_false_iff_ne] at c
      omega
  | succ k ih =>
    intro m acc hb h hP
    refine brS_intro (fun c => ?_) (fun c => ?_)
    · rw [dw_nat hb, beq_iff_eq] at c
      have h2 : m < 10 := by omega
      rw [digN_lt h2] at hP
      rw [db_nat, Nat.mod_eq_of_lt h2]
      exact hP
    · rw [dw_nat hb, beq_eq_false_iff_ne] at c
      have h2 : ¬ m < 10 := by omega
      rw [dw_nat hb, db_nat]
      refine ih (m / 10) _ (by omega) ?_ ?_
      · rw [Nat.div_lt_iff_lt_mul (by omega)]
        rw [Nat.pow_succ] at h
        exact h
      · rw [digN_ge h2] at hP
        simpa using hP
theorem txt_u (n : Int) (h : -9223372036854775808 ≤ n ∧ n ≤ 9223372036854775807) : if n < 0 then IntKind.u64.wrap (0 - IntKind.u64.wrap n) = (n.natAbs : Int) else IntKind.u64.wrap n = (n.natAbs : Int) := by
  simp only [IntKind.wrap, IntKind.bits, IntKind.signed]
  split <;> simp <;> omega
theorem chr_at {s : List UInt8} {i : Nat} {K : Int → Prop} (h : i < s.length) (hk : K s[i].toNat) : chrS s i K := by
  unfold chrS
  rw [List.getElem?_eq_getElem h]
  exact hk
theorem dig_split (u : Nat) : digN u = (if u / 10 = 0 then [] else digN (u / 10)) ++ [db u] := by
  rw [db_nat]
  by_cases h : u < 10
  · rw [if_pos (by omega), digN_lt h, Nat.mod_eq_of_lt h]; rfl
  · rw [if_neg (by omega), digN_ge h]
def fiOk (n : Int) (u : Nat) (t : List UInt8) : Prop := u < 18446744073709551616 ∧ ((t = [] ∧ u = n.natAbs) ∨ (t ≠ [] ∧ digN n.natAbs = (if u = 0 then [] else digN u) ++ t))
theorem fi_len {n : Int} {u : Nat} {t : List UInt8} (hb : -9223372036854775808 ≤ n ∧ n ≤ 9223372036854775807) (h : fiOk n u t) : t.length ≤ 19 := by
  have hdl := digN_len 18 n.natAbs (by omega)
  rcases h.2 with ⟨e, _⟩ | ⟨_, e⟩
  · rw [e]; simp
  · rw [e, List.length_append] at hdl; omega
theorem fi_step {n : Int} {u : Nat} {t : List UInt8} (h : fiOk n u t) (hc : 0 < u ∨ t = []) : fiOk n (u / 10) (db u :: t) ∧ (u / 10 + if (db u :: t) = [] then 1 else 0) < u + if t = [] then 1 else 0 := by
  obtain ⟨h1, h2⟩ := h
  refine ⟨⟨by omega, .inr ⟨by simp, ?_⟩⟩, ?_⟩
  · rcases h2 with ⟨e, e2⟩ | ⟨e, e2⟩
    · subst e
      rw [← e2]
      exact dig_split u
    · have hu : u ≠ 0 := by
        rcases hc with q | q
        · omega
        · exact absurd q e
      rw [e2, if_neg hu]
      conv => lhs; rw [dig_split u]
      rw [List.append_assoc]
      rfl
  · rw [if_neg (by simp)]
    split
    · omega
    · rename_i ht
      rcases hc with q | q
      · omega
      · exact absurd q ht
theorem i64_rng (x : Int) : -9223372036854775808 ≤ IntKind.i64.wrap x ∧ IntKind.i64.wrap x ≤ 9223372036854775807 := by
  simp only [IntKind.wrap, IntKind.bits, IntKind.signed]
  simp
  split <;> omega
theorem neg_w {a : Int} (h : 0 ≤ a ∧ a ≤ 9223372036854775808) : IntKind.i64.wrap (IntKind.u64.wrap (0 - a)) = -a := by
  simp only [IntKind.wrap, IntKind.bits, IntKind.signed]
  simp
  split <;> omega
theorem neg_w2 {a : Int} (h : 0 ≤ a ∧ a ≤ 9223372036854775808) : IntKind.i64.wrap (0 - IntKind.i64.wrap a) = -a := by
  simp only [IntKind.wrap, IntKind.bits, IntKind.signed]
  simp
  repeat' split
  all_goals omega
theorem pureL_strs : ∀ {l : List (List UInt8)}, pureL (l.map IV.str) = true
  | [] => rfl
  | _ :: r => by simp only [List.map_cons, pureL, pureB, Bool.true_and]; exact pureL_strs
def ngS (s : List UInt8) : Bool := s.head? == some 45
def tlS (s : List UInt8) : List UInt8 := if ngS s then s.drop 1 else s
def okAt (s : List UInt8) (i : Nat) (a : Int) : Prop := (0 ≤ a ∧ a < 18446744073709551616) ∧ ∀ n : Int, (-9223372036854775808 ≤ n ∧ n ≤ 9223372036854775807) → s = txt n → a = val ((tlS s).take i)
theorem ng_at {s : List UInt8} (h : 0 < s.length) : ((s[0].toNat : Int) == 45) = ngS s := by
  cases s with
  | nil => simp at h
  | cons b r =>
    unfold ngS
    rw [Bool.eq_iff_iff]
    simp only [List.getElem_cons_zero, List.head?_cons, beq_iff_eq, Option.some.injEq]
    constructor
    · intro q
      have : b.toNat = (45 : UInt8).toNat := by
        show b.toNat = 45
        omega
      exact UInt8.toNat_inj.1 this
    · intro q; subst q; rfl
theorem txt_ng (n : Int) : ngS (txt n) = decide (n < 0) ∧ tlS (txt n) = digN n.natAbs := by
  by_cases h : n < 0
  · have e : ngS (txt n) = true := by rw [txt_neg h]; rfl
    unfold tlS
    rw [e, txt_neg h]
    simp [h]
  · have e : ngS (txt n) = false := by
      rw [txt_nn (by omega)]
      unfold ngS
      rw [beq_eq_false_iff_ne]
      cases hd : digN n.natAbs with
      | nil => simp
      | cons c r =>
        intro q
        rw [List.head?_cons, Option.some.injEq] at q
        have := digN_no hd
        rw [q] at this
        exact not45 this
    unfold tlS
    rw [e, txt_nn (by omega)]
    simp [h]
theorem val_le (b : List UInt8) : ∀ a : Nat, a ≤ b.foldl (fun a b => a * 10 + (b.toNat - 48)) a := by
  induction b with
  | nil => intro a; exact Nat.le_refl _
  | cons c r ih =>
    intro a
    rw [List.foldl_cons]
    exact Nat.le_trans (by omega) (ih _)
theorem val_take (l : List UInt8) (i : Nat) : val (l.take i) ≤ val l := by
  conv => rhs; rw [← List.take_append_drop i l]
  unfold val
  rw [List.foldl_append]
  exact val_le _ _
theorem val_succ {l : List UInt8} {i : Nat} (h : i < l.length) : val (l.take (i + 1)) = val (l.take i) * 10 + (l[i].toNat - 48) := by
  rw [List.take_succ_eq_append_getElem h, val_snoc]
theorem u64_rng (x : Int) : 0 ≤ IntKind.u64.wrap x ∧ IntKind.u64.wrap x < 18446744073709551616 := by
  simp only [IntKind.wrap, IntKind.bits, IntKind.signed]
  simp
  omega
theorem okAt_zero (s : List UInt8) : okAt s 0 0 := ⟨by omega, fun n _ _ => by simp [val]⟩
theorem okAt_step {s : List UInt8} {i : Nat} {a y : Int} (h : okAt s i a) (hi : i < (tlS s).length) (hy : y = a * 10) (h1 : ¬ ((tlS s)[i].toNat : Int) < 48) (h2 : ¬ ((tlS s)[i].toNat : Int) > 57) :
    okAt s (i + 1) (IntKind.u64.wrap (IntKind.u64.wrap y + IntKind.u64.wrap (IntKind.u8.wrap (((tlS s)[i].toNat : Int) - 48)))) := by
  refine ⟨u64_rng _, fun n hn e => ?_⟩
  have ha := h.2 n hn e
  have hs := val_succ hi
  have hle := val_take (tlS s) (i + 1)
  have hm : val (tlS s) = n.natAbs := by rw [e, (txt_ng n).2, val_digN]
  rw [u8_in (by omega), u64_in (x := _ - 48) (by omega), u64_in (x := y) (by omega), u64_in (by omega)]
  omega
def Rl (s : List UInt8) (v : Int) (b : Bool) : Prop := ∀ n : Int, (-9223372036854775808 ≤ n ∧ n ≤ 9223372036854775807) → s = txt n → v = n ∧ b = true
theorem tl_ne {s : List UInt8} {n : Int} (e : s = txt n) : 0 < (tlS s).length := by rw [e, (txt_ng n).2]; exact digN_pos _
theorem tl_19 {s : List UInt8} {n : Int} (hn : -9223372036854775808 ≤ n ∧ n ≤ 9223372036854775807) (e : s = txt n) : (tlS s).length ≤ 19 := by rw [e, (txt_ng n).2]; exact digN_len 18 _ (by omega)
theorem tl_dig {s : List UInt8} {n : Int} {i : Nat} (e : s = txt n) (h : i < (tlS s).length) : 48 ≤ (tlS s)[i].toNat ∧ (tlS s)[i].toNat ≤ 57 := by
  have := digN_all n.natAbs (tlS s)[i] (by rw [← (txt_ng n).2, ← e]; exact List.getElem_mem h)
  exact this
theorem tl_48 {s : List UInt8} {n : Int} (e : s = txt n) (h : 0 < (tlS s).length) (h48 : (tlS s)[0].toNat = 48) : n = 0 := by
  by_cases hz : n = 0
  · exact hz
  · obtain ⟨c, r, e2, hc⟩ := digN_head n.natAbs (by omega)
    have e3 : tlS s = c :: r := by rw [e, (txt_ng n).2, e2]
    have : (tlS s)[0] = c := by simp [e3]
    rw [this] at h48
    exact absurd (UInt8.toNat_inj.1 (show c.toNat = (48 : UInt8).toNat from h48)) hc
theorem tl_len (s : List UInt8) : (tlS s).length = s.length - (if ngS s then 1 else 0) := by
  unfold tlS
  split <;> simp [*]
theorem tl_get {s : List UInt8} {i : Nat} (h : (if ngS s then 1 else 0) + i < s.length) : ∃ h2 : i < (tlS s).length, s[(if ngS s then 1 else 0) + i] = (tlS s)[i] := by
  refine ⟨by rw [tl_len]; omega, ?_⟩
  unfold tlS
  by_cases hs : ngS s = true
  · simp only [hs, if_true]
    rw [List.getElem_drop]
  · simp only [hs]
    simp
def kDigits (xs : List IV) (h : Heap) (K : IV → Heap → Prop) : Prop := match xs with
  | [.int .u64 n] => (0 ≤ n ∧ n < 18446744073709551616) ∧ K (.str (digN n.toNat)) h
  | _ => False
set_option maxRecDepth 100000 in
theorem vDigits (n : Int) (h : Heap) (Q : IV → Heap → Prop) : dF (stdS cISort) env 40 (fun k => match Nat.beq k 4 with | true => 20 | false => 0) noI noI [.int .u64 n] h Q = (
  dchain (fun l => Q (.str l) h) 20 n []) := by kernel_rfl
set_option maxHeartbeats 4000000 in
theorem sDigits : ∀ xs h Q, kDigits xs h Q → CallW env 40 xs h Q := by
  intro xs h Q hk
  unfold kDigits at hk
  split at hk
  · rename_i n
    refine dF_run (okISort) (vDigits n h Q) ?_
    obtain ⟨⟨h0, h1⟩, hk⟩ := hk
    obtain ⟨m, rfl⟩ := Int.eq_ofNat_of_zero_le h0
    refine dchain_ok 19 m [] (by omega) (by omega) ?_
    rw [List.append_nil]
    exact hk
  · exact hk.elim
def cDigits := addC 40 kDigits cISort
theorem okDigits : Sound env cDigits := sound_add sDigits (okISort)

def kText (xs : List IV) (h : Heap) (K : IV → Heap → Prop) : Prop := match xs with
  | [.int .i64 n] => (-9223372036854775808 ≤ n ∧ n ≤ 9223372036854775807) ∧ K (.str (txt n)) h
  | _ => False
set_option maxRecDepth 100000 in
theorem vText (n : Int) (h : Heap) (Q : IV → Heap → Prop) : dF (stdS cDigits) env 30 noU noI noI [.int .i64 n] h Q = (
  brS (decide (n < (0 : Int)))
 (((0 : Int) ≤ IntKind.wrap IntKind.u64 ((0 : Int) - IntKind.wrap IntKind.u64 n) ∧ IntKind.wrap IntKind.u64 ((0 : Int) - IntKind.wrap IntKind.u64 n) < (18446744073709551616 : Int)) ∧
 needS (Nat.ble ((1 : Nat) + List.length (digN (Int.toNat (IntKind.wrap IntKind.u64 ((0 : Int) - IntKind.wrap IntKind.u64 n))))) (9223372036854775807 : Nat))
 (Q (IV.str ((45 : UInt8) :: digN (Int.toNat (IntKind.wrap IntKind.u64 ((0 : Int) - IntKind.wrap IntKind.u64 n))))) h))
 (((0 : Int) ≤ IntKind.wrap IntKind.u64 n ∧ IntKind.wrap IntKind.u64 n < (18446744073709551616 : Int)) ∧ Q (IV.str (digN (Int.toNat (IntKind.wrap IntKind.u64 n)))) h)) := by kernel_rfl
theorem sText : ∀ xs h Q, kText xs h Q → CallW env 30 xs h Q := by
  intro xs h Q hk
  unfold kText at hk
  split at hk
  · rename_i n
    refine dF_run (okDigits) (vText n h Q) ?_
    obtain ⟨hb, hk⟩ := hk
    have hu := txt_u n hb
    have hl := txt_len hb
    refine brS_intro (fun c => ?_) (fun c => ?_)
    · rw [decide_eq_true_eq] at c
      rw [if_pos c] at hu
      rw [hu]
      rw [txt_neg c] at hk hl
      simp only [List.length_cons] at hl
      refine ⟨by omega, needS_intro (by rw [Nat.ble_eq]; simp only [Int.toNat_natCast]; omega) ?_⟩
      rw [Int.toNat_natCast]
      exact hk
    · rw [decide_eq_false_iff_not] at c
      rw [if_neg c] at hu
      rw [hu, Int.toNat_natCast]
      rw [txt_nn (by omega)] at hk
      exact ⟨by omega, hk⟩
  · exact hk.elim
def cText := addC 30 kText cDigits
theorem okText : Sound env cText := sound_add sText (okDigits)

def kName (xs : List IV) (h : Heap) (K : IV → Heap → Prop) : Prop := match xs with
  | [.int .i64 op] => (1 ≤ op ∧ op ≤ 31) ∧ K (.tuple [.str (tnm op), .bool (tok op)]) h
  | _ => False
theorem sName : ∀ xs h Q, kName xs h Q → CallW env 22 xs h Q := by
  intro xs h Q hk
  unfold kName at hk
  split at hk
  · rename_i op
    obtain ⟨h1, hk⟩ := hk
    have h2 : op = 1 ∨ op = 2 ∨ op = 3 ∨ op = 4 ∨ op = 5 ∨ op = 6 ∨ op = 7 ∨ op = 8 ∨ op = 9 ∨ op = 10 ∨ op = 11 ∨ op = 12 ∨ op = 13 ∨ op = 14 ∨ op = 15 ∨ op = 16 ∨ op = 17 ∨ op = 18 ∨ op = 19 ∨ op = 20 ∨ op = 21 ∨ op = 22 ∨ op = 23 ∨ op = 24 ∨ op = 25 ∨ op = 26 ∨ op = 27 ∨ op = 28 ∨ op = 29 ∨ op = 30 ∨ op = 31 := by omega
    rcases h2 with rfl | rfl | rfl | rfl | rfl | rfl | rfl | rfl | rfl | rfl | rfl | rfl | rfl | rfl | rfl | rfl | rfl | rfl | rfl | rfl | rfl | rfl | rfl | rfl | rfl | rfl | rfl | rfl | rfl | rfl | rfl
    all_goals exact ⟨80, _, h, by kernel_rfl, hk⟩
  · exact hk.elim
def cName := addC 22 kName cText
theorem okName : Sound env cName := sound_add sName (okText)

def kHImm (xs : List IV) (h : Heap) (K : IV → Heap → Prop) : Prop := match xs with
  | [.int .i64 op] => K (.bool (hImm op)) h
  | _ => False
set_option maxRecDepth 100000 in
theorem vHImm (op : Int) (h : Heap) (Q : IV → Heap → Prop) : dF (stdS cName) env 31 noU noI noI [.int .i64 op] h Q = (
  brS (op == (23 : Int)) (Q (IV.bool true) h)
 (brS (op == (25 : Int)) (Q (IV.bool true) h)
 (brS (op == (27 : Int)) (Q (IV.bool true) h) (brS (op == (28 : Int)) (Q (IV.bool true) h) (brS (op == (30 : Int)) (Q (IV.bool true) h) (brS (op == (31 : Int)) (Q (IV.bool true) h) (Q (IV.bool false) h))))))) := by kernel_rfl
theorem sHImm : ∀ xs h Q, kHImm xs h Q → CallW env 31 xs h Q := by
  intro xs h Q hk
  unfold kHImm at hk
  split at hk
  · rename_i op
    refine dF_run (okName) (vHImm op h Q) ?_
    repeat' (first | refine needS_intro ?_ ?_ | refine brS_intro (fun _ => ?_) (fun _ => ?_) | refine And.intro ?_ ?_)
    all_goals first | assumption | omega | (refine q_eq hk ?_; simp only [IV.agg.injEq, IV.tuple.injEq, IV.int.injEq, IV.bool.injEq, List.cons.injEq, true_and, and_true]; grind [hImm])
  · exact hk.elim
def cHImm := addC 31 kHImm cName
theorem okHImm : Sound env cHImm := sound_add sHImm (okName)

def kPText (xs : List IV) (h : Heap) (K : IV → Heap → Prop) : Prop := match xs with
  | [.ptr id 0, .str s] => ∃ (e : Nat) (l : List Nd) (b : List UInt8) (lg : Bool), PH h id e l b lg ∧ s.length ≤ 1000000 ∧ ∀ (h2 : Heap) (b2 : List UInt8) (lg2 : Bool), PH h2 id e l b2 lg2 → Tx b lg s b2 lg2 → K (.tuple []) h2
  | _ => False
set_option maxRecDepth 100000 in
theorem vPText (id : Nat) (s : List UInt8) (h : Heap) (Q : IV → Heap → Prop) : dF (stdS cHImm) env 29 noU noI noI [.ptr id 0, .str s] h Q = (
  hgetS h id fun (r0 : List IV) =>
 ldNVS (1 : Nat) r0 (1 : Nat)
 (brS (decide (IntKind.wrap IntKind.i64 ((0 : Int) + (↑(List.length s) : Int)) > (20000 : Int)))
 (hgetS h id fun (r1 : List IV) =>
 needS (Nat.ble (3 : Nat) (List.length r1))
 (hgetS (Heap.set h id (IObj.cells (List.take (2 : Nat) r1 ++ [IV.bool true] ++ List.drop (3 : Nat) r1))) id fun (r2 : List IV) =>
 ldBS r2 (2 : Nat) fun (b3 : Bool) =>
 brS (!b3)
 (hgetS (Heap.set h id (IObj.cells (List.take (2 : Nat) r1 ++ [IV.bool true] ++ List.drop (3 : Nat) r1))) id fun (r4 : List IV) =>
 ldNVS (1 : Nat) r4 (1 : Nat)
 (brS (Nat.beq (List.length s) (0 : Nat))
 (hgetS (Heap.set h id (IObj.cells (List.take (2 : Nat) r1 ++ [IV.bool true] ++ List.drop (3 : Nat) r1))) id fun (r5 : List IV) =>
 needS (Nat.ble (2 : Nat) (List.length r5))
 (Q (IV.tuple []) (Heap.set (Heap.set h id (IObj.cells (List.take (2 : Nat) r1 ++ [IV.bool true] ++ List.drop (3 : Nat) r1))) id (IObj.cells (List.take (1 : Nat) r5 ++ [IV.nilslice] ++ List.drop (2 : Nat) r5)))))
 (needS (Nat.ble (List.length s * (1 : Nat)) (140737488355328 : Nat))
 (hgetS (Heap.push (Heap.set h id (IObj.cells (List.take (2 : Nat) r1 ++ [IV.bool true] ++ List.drop (3 : Nat) r1))) (IObj.tip (List.length s * (1 : Nat)))) id fun (r6 : List IV) =>
 needS (Nat.ble (2 : Nat) (List.length r6))
 (Q (IV.tuple [])
 (Heap.set (Heap.push (Heap.set h id (IObj.cells (List.take (2 : Nat) r1 ++ [IV.bool true] ++ List.drop (3 : Nat) r1))) (IObj.tip (List.length s * (1 : Nat)))) id
 (IObj.cells
 (List.take (1 : Nat) r6 ++ [IV.vslice (some (Heap.next h)) (List.length s * (1 : Nat)) (List.length s) (1 : Nat) (List.map (fun (b : UInt8) => IV.int IntKind.u8 (↑(UInt8.toNat b) : Int)) s)] ++
 List.drop (2 : Nat) r6)))))))
 fun (i7 e8 l9 : Nat) (c10 : List IV) =>
 brS (Nat.beq (List.length s) (0 : Nat))
 (hgetS (Heap.set h id (IObj.cells (List.take (2 : Nat) r1 ++ [IV.bool true] ++ List.drop (3 : Nat) r1))) id fun (r11 : List IV) =>
 needS (Nat.ble (2 : Nat) (List.length r11))
 (Q (IV.tuple [])
 (Heap.set (Heap.set h id (IObj.cells (List.take (2 : Nat) r1 ++ [IV.bool true] ++ List.drop (3 : Nat) r1))) id
 (IObj.cells (List.take (1 : Nat) r11 ++ [IV.vslice (some i7) e8 l9 (1 : Nat) c10] ++ List.drop (2 : Nat) r11)))))
 (tipS (Heap.set h id (IObj.cells (List.take (2 : Nat) r1 ++ [IV.bool true] ++ List.drop (3 : Nat) r1))) i7 fun (m12 : Nat) =>
 needS (Nat.beq m12 e8 && Nat.ble ((l9 + List.length s) * (1 : Nat)) (140737488355328 : Nat))
 (hgetS (Heap.set (Heap.set h id (IObj.cells (List.take (2 : Nat) r1 ++ [IV.bool true] ++ List.drop (3 : Nat) r1))) i7 (IObj.tip (e8 + List.length s * (1 : Nat)))) id fun (r13 : List IV) =>
 needS (Nat.ble (2 : Nat) (List.length r13))
 (Q (IV.tuple [])
 (Heap.set (Heap.set (Heap.set h id (IObj.cells (List.take (2 : Nat) r1 ++ [IV.bool true] ++ List.drop (3 : Nat) r1))) i7 (IObj.tip (e8 + List.length s * (1 : Nat)))) id
 (IObj.cells
 (List.take (1 : Nat) r13 ++ [IV.vslice (some i7) (e8 + List.length s * (1 : Nat)) (l9 + List.length s) (1 : Nat) (c10 ++ List.map (fun (b : UInt8) => IV.int IntKind.u8 (↑(UInt8.toNat b) : Int)) s)] ++
 List.drop (2 : Nat) r13)))))))
 (Q (IV.tuple []) (Heap.set h id (IObj.cells (List.take (2 : Nat) r1 ++ [IV.bool true] ++ List.drop (3 : Nat) r1))))))
 (hgetS h id fun (r14 : List IV) =>
 ldBS r14 (2 : Nat) fun (b15 : Bool) =>
 brS (!b15)
 (hgetS h id fun (r16 : List IV) =>
 ldNVS (1 : Nat) r16 (1 : Nat)
 (brS (Nat.beq (List.length s) (0 : Nat))
 (hgetS h id fun (r17 : List IV) => needS (Nat.ble (2 : Nat) (List.length r17)) (Q (IV.tuple []) (Heap.set h id (IObj.cells (List.take (1 : Nat) r17 ++ [IV.nilslice] ++ List.drop (2 : Nat) r17)))))
 (needS (Nat.ble (List.length s * (1 : Nat)) (140737488355328 : Nat))
 (hgetS (Heap.push h (IObj.tip (List.length s * (1 : Nat)))) id fun (r18 : List IV) =>
 needS (Nat.ble (2 : Nat) (List.length r18))
 (Q (IV.tuple [])
 (Heap.set (Heap.push h (IObj.tip (List.length s * (1 : Nat)))) id
 (IObj.cells
 (List.take (1 : Nat) r18 ++ [IV.vslice (some (Heap.next h)) (List.length s * (1 : Nat)) (List.length s) (1 : Nat) (List.map (fun (b : UInt8) => IV.int IntKind.u8 (↑(UInt8.toNat b) : Int)) s)] ++
 List.drop (2 : Nat) r18)))))))
 fun (i19 e20 l21 : Nat) (c22 : List IV) =>
 brS (Nat.beq (List.length s) (0 : Nat))
 (hgetS h id fun (r23 : List IV) =>
 needS (Nat.ble (2 : Nat) (List.length r23)) (Q (IV.tuple []) (Heap.set h id (IObj.cells (List.take (1 : Nat) r23 ++ [IV.vslice (some i19) e20 l21 (1 : Nat) c22] ++ List.drop (2 : Nat) r23)))))
 (tipS h i19 fun (m24 : Nat) =>
 needS (Nat.beq m24 e20 && Nat.ble ((l21 + List.length s) * (1 : Nat)) (140737488355328 : Nat))
 (hgetS (Heap.set h i19 (IObj.tip (e20 + List.length s * (1 : Nat)))) id fun (r25 : List IV) =>
 needS (Nat.ble (2 : Nat) (List.length r25))
 (Q (IV.tuple [])
 (Heap.set (Heap.set h i19 (IObj.tip (e20 + List.length s * (1 : Nat)))) id
 (IObj.cells
 (List.take (1 : Nat) r25 ++ [IV.vslice (some i19) (e20 + List.length s * (1 : Nat)) (l21 + List.length s) (1 : Nat) (c22 ++ List.map (fun (b : UInt8) => IV.int IntKind.u8 (↑(UInt8.toNat b) : Int)) s)] ++
 List.drop (2 : Nat) r25)))))))
 (Q (IV.tuple []) h)))
 fun (i26 e27 l28 : Nat) (c29 : List IV) =>
 brS (decide (IntKind.wrap IntKind.i64 ((↑l28 : Int) + (↑(List.length s) : Int)) > (20000 : Int)))
 (hgetS h id fun (r30 : List IV) =>
 needS (Nat.ble (3 : Nat) (List.length r30))
 (hgetS (Heap.set h id (IObj.cells (List.take (2 : Nat) r30 ++ [IV.bool true] ++ List.drop (3 : Nat) r30))) id fun (r31 : List IV) =>
 ldBS r31 (2 : Nat) fun (b32 : Bool) =>
 brS (!b32)
 (hgetS (Heap.set h id (IObj.cells (List.take (2 : Nat) r30 ++ [IV.bool true] ++ List.drop (3 : Nat) r30))) id fun (r33 : List IV) =>
 ldNVS (1 : Nat) r33 (1 : Nat)
 (brS (Nat.beq (List.length s) (0 : Nat))
 (hgetS (Heap.set h id (IObj.cells (List.take (2 : Nat) r30 ++ [IV.bool true] ++ List.drop (3 : Nat) r30))) id fun (r34 : List IV) =>
 needS (Nat.ble (2 : Nat) (List.length r34))
 (Q (IV.tuple [])
 (Heap.set (Heap.set h id (IObj.cells (List.take (2 : Nat) r30 ++ [IV.bool true] ++ List.drop (3 : Nat) r30))) id (IObj.cells (List.take (1 : Nat) r34 ++ [IV.nilslice] ++ List.drop (2 : Nat) r34)))))
 (needS (Nat.ble (List.length s * (1 : Nat)) (140737488355328 : Nat))
 (hgetS (Heap.push (Heap.set h id (IObj.cells (List.take (2 : Nat) r30 ++ [IV.bool true] ++ List.drop (3 : Nat) r30))) (IObj.tip (List.length s * (1 : Nat)))) id fun (r35 : List IV) =>
 needS (Nat.ble (2 : Nat) (List.length r35))
 (Q (IV.tuple [])
 (Heap.set (Heap.push (Heap.set h id (IObj.cells (List.take (2 : Nat) r30 ++ [IV.bool true] ++ List.drop (3 : Nat) r30))) (IObj.tip (List.length s * (1 : Nat)))) id
 (IObj.cells
 (List.take (1 : Nat) r35 ++ [IV.vslice (some (Heap.next h)) (List.length s * (1 : Nat)) (List.length s) (1 : Nat) (List.map (fun (b : UInt8) => IV.int IntKind.u8 (↑(UInt8.toNat b) : Int)) s)] ++
 List.drop (2 : Nat) r35)))))))
 fun (i36 e37 l38 : Nat) (c39 : List IV) =>
 brS (Nat.beq (List.length s) (0 : Nat))
 (hgetS (Heap.set h id (IObj.cells (List.take (2 : Nat) r30 ++ [IV.bool true] ++ List.drop (3 : Nat) r30))) id fun (r40 : List IV) =>
 needS (Nat.ble (2 : Nat) (List.length r40))
 (Q (IV.tuple [])
 (Heap.set (Heap.set h id (IObj.cells (List.take (2 : Nat) r30 ++ [IV.bool true] ++ List.drop (3 : Nat) r30))) id
 (IObj.cells (List.take (1 : Nat) r40 ++ [IV.vslice (some i36) e37 l38 (1 : Nat) c39] ++ List.drop (2 : Nat) r40)))))
 (tipS (Heap.set h id (IObj.cells (List.take (2 : Nat) r30 ++ [IV.bool true] ++ List.drop (3 : Nat) r30))) i36 fun (m41 : Nat) =>
 needS (Nat.beq m41 e37 && Nat.ble ((l38 + List.length s) * (1 : Nat)) (140737488355328 : Nat))
 (hgetS (Heap.set (Heap.set h id (IObj.cells (List.take (2 : Nat) r30 ++ [IV.bool true] ++ List.drop (3 : Nat) r30))) i36 (IObj.tip (e37 + List.length s * (1 : Nat)))) id fun (r42 : List IV) =>
 needS (Nat.ble (2 : Nat) (List.length r42))
 (Q (IV.tuple [])
 (Heap.set (Heap.set (Heap.set h id (IObj.cells (List.take (2 : Nat) r30 ++ [IV.bool true] ++ List.drop (3 : Nat) r30))) i36 (IObj.tip (e37 + List.length s * (1 : Nat)))) id
 (IObj.cells
 (List.take (1 : Nat) r42 ++ [IV.vslice (some i36) (e37 + List.length s * (1 : Nat)) (l38 + List.length s) (1 : Nat) (c39 ++ List.map (fun (b : UInt8) => IV.int IntKind.u8 (↑(UInt8.toNat b) : Int)) s)] ++
 List.drop (2 : Nat) r42)))))))
 (Q (IV.tuple []) (Heap.set h id (IObj.cells (List.take (2 : Nat) r30 ++ [IV.bool true] ++ List.drop (3 : Nat) r30))))))
 (hgetS h id fun (r43 : List IV) =>
 ldBS r43 (2 : Nat) fun (b44 : Bool) =>
 brS (!b44)
 (hgetS h id fun (r45 : List IV) =>
 ldNVS (1 : Nat) r45 (1 : Nat)
 (brS (Nat.beq (List.length s) (0 : Nat))
 (hgetS h id fun (r46 : List IV) => needS (Nat.ble (2 : Nat) (List.length r46)) (Q (IV.tuple []) (Heap.set h id (IObj.cells (List.take (1 : Nat) r46 ++ [IV.nilslice] ++ List.drop (2 : Nat) r46)))))
 (needS (Nat.ble (List.length s * (1 : Nat)) (140737488355328 : Nat))
 (hgetS (Heap.push h (IObj.tip (List.length s * (1 : Nat)))) id fun (r47 : List IV) =>
 needS (Nat.ble (2 : Nat) (List.length r47))
 (Q (IV.tuple [])
 (Heap.set (Heap.push h (IObj.tip (List.length s * (1 : Nat)))) id
 (IObj.cells
 (List.take (1 : Nat) r47 ++ [IV.vslice (some (Heap.next h)) (List.length s * (1 : Nat)) (List.length s) (1 : Nat) (List.map (fun (b : UInt8) => IV.int IntKind.u8 (↑(UInt8.toNat b) : Int)) s)] ++
 List.drop (2 : Nat) r47)))))))
 fun (i48 e49 l50 : Nat) (c51 : List IV) =>
 brS (Nat.beq (List.length s) (0 : Nat))
 (hgetS h id fun (r52 : List IV) =>
 needS (Nat.ble (2 : Nat) (List.length r52)) (Q (IV.tuple []) (Heap.set h id (IObj.cells (List.take (1 : Nat) r52 ++ [IV.vslice (some i48) e49 l50 (1 : Nat) c51] ++ List.drop (2 : Nat) r52)))))
 (tipS h i48 fun (m53 : Nat) =>
 needS (Nat.beq m53 e49 && Nat.ble ((l50 + List.length s) * (1 : Nat)) (140737488355328 : Nat))
 (hgetS (Heap.set h i48 (IObj.tip (e49 + List.length s * (1 : Nat)))) id fun (r54 : List IV) =>
 needS (Nat.ble (2 : Nat) (List.length r54))
 (Q (IV.tuple [])
 (Heap.set (Heap.set h i48 (IObj.tip (e49 + List.length s * (1 : Nat)))) id
 (IObj.cells
 (List.take (1 : Nat) r54 ++ [IV.vslice (some i48) (e49 + List.length s * (1 : Nat)) (l50 + List.length s) (1 : Nat) (c51 ++ List.map (fun (b : UInt8) => IV.int IntKind.u8 (↑(UInt8.toNat b) : Int)) s)] ++
 List.drop (2 : Nat) r54)))))))
 (Q (IV.tuple []) h))) := by kernel_rfl
set_option maxHeartbeats 2000000 in
theorem sPText : ∀ xs h Q, kPText xs h Q → CallW env 29 xs h Q := by
  intro xs h Q hk
  unfold kPText at hk
  split at hk
  · rename_i id s
    obtain ⟨e, l, b, lg, hp, hsl, hk⟩ := hk
    refine dF_run (okHImm) (vPText id s h Q) ?_
    obtain ⟨hid, hbl, bv, hg, hbv⟩ := (show PH h id e l b lg from hp)
    have txo : b.length + s.length > 20000 → Tx b lg s b true := fun ho => by
      unfold Tx
      cases lg
      · rw [if_neg Bool.false_ne_true, if_neg (by omega)]
      · rw [if_pos rfl]
    have txn : b.length + s.length ≤ 20000 → Tx b false s (b ++ s) false := fun ho => by
      unfold Tx
      rw [if_neg Bool.false_ne_true, if_pos ho]
      exact ⟨rfl, rfl⟩
    have hbv0 := hbv
    refine hget_intro hg ?_
    rcases hbv with ⟨rfl, rfl⟩ | ⟨ib, rfl, hib, hlt, hne, hpos⟩
    · refine ldNV_nil rfl (brS_intro (fun c => ?_) (fun c => ?_))
      · refine hget_intro hg (needS_intro rfl (hget_intro get_set_eq ?_))
        exact hk _ _ true (PH.put hid hbl hbv0) (txo (by
          rw [decide_eq_true_eq, IntWalk.i64_in _ (by omega)] at c
          try simp only [List.length_nil]
          omega))
      · have ho : s.length ≤ 20000 := by
          rw [decide_eq_false_iff_not, IntWalk.i64_in _ (by omega)] at c
          omega
        refine hget_intro hg ?_
        show brS (!lg) _ _
        refine brS_intro (fun d => ?_) (fun d => ?_)
        · rw [Bool.not_eq_true'] at d
          subst d
          refine hget_intro hg (ldNV_nil rfl (brS_intro (fun e => ?_) (fun e => ?_)))
          · obtain rfl : s = [] := List.eq_nil_of_length_eq_zero (nbeq_t.1 e)
            refine hget_intro hg (needS_intro rfl ?_)
            exact hk _ [] false (PH.put hid hbl (.inl ⟨rfl, rfl⟩)) (txn (by simp))
          · have h0 : 0 < s.length := Nat.pos_of_ne_zero fun q => by rw [q] at e; cases e
            refine needS_intro (by rw [Nat.ble_eq]; omega) (hget_intro ((get_push_lt hid).trans hg) (needS_intro rfl ?_))
            exact hk _ s false (PH.new hid ho h0) (txn (by simpa using ho))
        · rw [Bool.not_eq_false'] at d
          subst d
          exact hk _ _ true hp Tx.long
    · refine ldNV_v rfl (brS_intro (fun c => ?_) (fun c => ?_))
      · refine hget_intro hg (needS_intro rfl (hget_intro get_set_eq ?_))
        exact hk _ _ true (PH.put hid hbl hbv0) (txo (by
          rw [decide_eq_true_eq, IntWalk.i64_in _ (by omega)] at c
          try simp only [List.length_nil]
          omega))
      · have ho : b.length + s.length ≤ 20000 := by
          rw [decide_eq_false_iff_not, IntWalk.i64_in _ (by omega)] at c
          omega
        refine hget_intro hg ?_
        show brS (!lg) _ _
        refine brS_intro (fun d => ?_) (fun d => ?_)
        · rw [Bool.not_eq_true'] at d
          subst d
          refine hget_intro hg (ldNV_v rfl (brS_intro (fun e => ?_) (fun e => ?_)))
          · obtain rfl : s = [] := List.eq_nil_of_length_eq_zero (nbeq_t.1 e)
            refine hget_intro hg (needS_intro rfl ?_)
            refine hk _ b false (PH.put hid hbl hbv0) ?_
            have := txn (by simpa using ho)
            rwa [List.append_nil] at this
          · refine tip_intro hib (needS_intro (by simp only [Nat.mul_one, Bool.and_eq_true, nbeq_t, Nat.ble_eq, true_and]; omega) (hget_intro ((get_set_ne hne.symm).trans hg) (needS_intro rfl ?_)))
            exact hk _ (b ++ s) false (PH.more hid ho hlt hne hpos) (txn ho)
        · rw [Bool.not_eq_false'] at d
          subst d
          exact hk _ _ true hp Tx.long
  · exact hk.elim
def cPText := addC 29 kPText cHImm
theorem okPText : Sound env cPText := sound_add sPText (okHImm)

def pnInv (id i e : Nat) (l : List Nd) (b : List UInt8) (lg : Bool) : Inv' := atX (Nat × Heap × List UInt8 × Bool) (fun x => [(0, .v (.ptr id 0)), (76, .v (.vslice none 0 ((l.getD i default).ks).length 1 (((l.getD i default).ks).map (IV.int .i64)))), (77, .v (.int .i64 (l.getD i default).ks.length)), (78, .v (.int .i64 x.1))]) (fun _ => []) (fun x => x.2.1)
  (fun x => x.1 ≤ (l.getD i default).ks.length ∧ PH x.2.1 id e l x.2.2.1 x.2.2.2 ∧ Tx b lg (40 :: (hdT (l.getD i default).op (l.getD i default).im ++ kdT (tsA l) ((l.getD i default).ks.take x.1))) x.2.2.1 x.2.2.2) (fun x => (l.getD i default).ks.length - x.1)
def kPNode (d : Nat) (xs : List IV) (h : Heap) (K : IV → Heap → Prop) : Prop := match xs with
  | [.ptr id 0, .int .i64 i] => ∃ (e : Nat) (l : List Nd) (b : List UInt8) (lg : Bool), PH h id e l b lg ∧ (0 ≤ i ∧ i < d ∧ i < l.length) ∧ PGL l ∧ ∀ (h2 : Heap) (b2 : List UInt8) (lg2 : Bool), PH h2 id e l b2 lg2 → Tx b lg (T10 l i.toNat) b2 lg2 → K (.tuple []) h2
  | _ => False
set_option maxRecDepth 100000 in
theorem vPNode (dd : Nat) (id : Nat) (i : Int) (e : Nat) (l : List Nd) (b : List UInt8) (lg : Bool) (h : Heap) (Q : IV → Heap → Prop) : dF (stdS (addC 21 (kPNode dd) cPText)) env 21 noU (ic1 17 (pnInv id i.toNat e l b lg)) noI [.ptr id 0, .int .i64 i] h Q = (
  hgetS h id fun (r0 : List IV) => ldBS r0 (2 : Nat) fun (b1 : Bool) => brS b1 (Q (IV.tuple []) h) (hgetS h id fun (r2 : List IV) => ldVS (3 : Nat) r2 (0 : Nat) fun (i3 : Option Nat) (e4 l5 : Nat) (c6 : List IV) => needS (decide ((0 : Int) ≤ i) && decide (i < (↑l5 : Int))) (ldIS IntKind.i64 c6 (Int.toNat
 i * (3 : Nat)) fun (n7 : Int) => ldIS IntKind.i64 c6 (Int.toNat i * (3 : Nat) + (1 : Nat)) fun (n8 : Int) => ldVS (1 : Nat) c6 (Int.toNat i * (3 : Nat) + (1 : Nat) + (1 : Nat)) fun (i9 : Option Nat) (e10 l11 : Nat) (c12 : List IV) => brS (n7 == (1 : Int)) (((-9223372036854775808 : Int) ≤ n8 ∧ n8 ≤ (9223372036854775807
 : Int)) ∧ ∃ (e : Nat), ∃ (l : List Nd), ∃ (b : List UInt8), ∃ (lg : Bool), PH h id e l b lg ∧ List.length (txt n8) ≤ (1000000 : Nat) ∧ ∀ (h2 : Heap) (b2 : List UInt8) (lg2 : Bool), PH h2 id e l b2 lg2 → Tx b lg (txt n8) b2 lg2 → Q (IV.tuple []) h2) (brS (n7 == (2 : Int)) (((-9223372036854775808 : Int)
 ≤ n8 ∧ n8 ≤ (9223372036854775807 : Int)) ∧ needS (Nat.ble ((1 : Nat) + List.length (txt n8)) (9223372036854775807 : Nat)) (∃ (e : Nat), ∃ (l : List Nd), ∃ (b : List UInt8), ∃ (lg : Bool), PH h id e l b lg ∧ List.length ((112 : UInt8) :: txt n8) ≤ (1000000 : Nat) ∧ ∀ (h2 : Heap) (b2 : List UInt8) (lg2
 : Bool), PH h2 id e l b2 lg2 → Tx b lg ((112 : UInt8) :: txt n8) b2 lg2 → Q (IV.tuple []) h2)) (brS (n7 == (3 : Int)) (((-9223372036854775808 : Int) ≤ IntKind.wrap IntKind.i64 (Int.tdiv n8 (16 : Int)) ∧ IntKind.wrap IntKind.i64 (Int.tdiv n8 (16 : Int)) ≤ (9223372036854775807 : Int)) ∧ needS (Nat.ble
 ((1 : Nat) + List.length (txt (IntKind.wrap IntKind.i64 (Int.tdiv n8 (16 : Int))))) (9223372036854775807 : Nat)) (needS (Nat.ble (List.length ((118 : UInt8) :: txt (IntKind.wrap IntKind.i64 (Int.tdiv n8 (16 : Int)))) + (1 : Nat)) (9223372036854775807 : Nat)) (((-9223372036854775808 : Int) ≤ Int.tmod
 n8 (16 : Int) ∧ Int.tmod n8 (16 : Int) ≤ (9223372036854775807 : Int)) ∧ needS (Nat.ble (List.length ((118 : UInt8) :: ((([] ++ (txt (IntKind.wrap IntKind.i64 (Int.tdiv n8 (16 : Int)))))) ++ [(46 : UInt8)])) + List.length (txt (Int.tmod n8 (16 : Int)))) (9223372036854775807 : Nat)) (∃ (e : Nat), ∃ (l
 : List Nd), ∃ (b : List UInt8), ∃ (lg : Bool), PH h id e l b lg ∧ List.length ((118 : UInt8) :: ((((([] ++ (txt (IntKind.wrap IntKind.i64 (Int.tdiv n8 (16 : Int)))))) ++ (Array.toList (ByteArray.data (ByteArray.mk #[(46 : UInt8)]))))) ++ (txt (Int.tmod n8 (16 : Int))))) ≤ (1000000 : Nat) ∧ ∀ (h2 : Heap)
 (b2 : List UInt8) (lg2 : Bool), PH h2 id e l b2 lg2 → Tx b lg ((118 : UInt8) :: ((((([] ++ (txt (IntKind.wrap IntKind.i64 (Int.tdiv n8 (16 : Int)))))) ++ (Array.toList (ByteArray.data (ByteArray.mk #[(46 : UInt8)]))))) ++ (txt (Int.tmod n8 (16 : Int))))) b2 lg2 → Q (IV.tuple []) h2)))) (brS (n7 == (26
 : Int)) (∃ (e : Nat), ∃ (l : List Nd), ∃ (b : List UInt8), ∃ (lg : Bool), PH h id e l b lg ∧ (5 : Nat) ≤ (1000000 : Nat) ∧ ∀ (h2 : Heap) (b2 : List UInt8) (lg2 : Bool), PH h2 id e l b2 lg2 → Tx b lg [(115 : UInt8), (116 : UInt8), (97 : UInt8), (114 : UInt8), (116 : UInt8)] b2 lg2 → Q (IV.tuple []) h2)
 (((1 : Int) ≤ n7 ∧ n7 ≤ (31 : Int)) ∧ needS (Nat.ble ((1 : Nat) + List.length (tnm n7)) (9223372036854775807 : Nat)) (∃ (e_1 : Nat), ∃ (l_1 : List Nd), ∃ (b_1 : List UInt8), ∃ (lg_1 : Bool), PH h id e_1 l_1 b_1 lg_1 ∧ List.length ((40 : UInt8) :: tnm n7) ≤ (1000000 : Nat) ∧ ∀ (h2 : Heap) (b2 : List UInt8)
 (lg2 : Bool), PH h2 id e_1 l_1 b2 lg2 → Tx b_1 lg_1 ((40 : UInt8) :: tnm n7) b2 lg2 → brS (hImm n7) (((-9223372036854775808 : Int) ≤ n8 ∧ n8 ≤ (9223372036854775807 : Int)) ∧ needS (Nat.ble ((1 : Nat) + List.length (txt n8)) (9223372036854775807 : Nat)) (∃ (e_2 : Nat), ∃ (l_2 : List Nd), ∃ (b_2 : List
 UInt8), ∃ (lg_2 : Bool), PH h2 id e_2 l_2 b_2 lg_2 ∧ List.length ((46 : UInt8) :: txt n8) ≤ (1000000 : Nat) ∧ ∀ (h2 : Heap) (b2 : List UInt8) (lg2 : Bool), PH h2 id e_2 l_2 b2 lg2 → Tx b_2 lg_2 ((46 : UInt8) :: txt n8) b2 lg2 → (∃ (x : Nat × Heap × List UInt8 × Bool), some (TV.v (IV.ptr id (0 : Nat)))
 = some (TV.v (IV.ptr id (0 : Nat))) ∧ some (TV.v (IV.vslice i9 e10 l11 (1 : Nat) c12)) = some (TV.v (IV.vslice none (0 : Nat) (List.length (Nd.ks (List.getD l (Int.toNat i) default))) (1 : Nat) (List.map (IV.int IntKind.i64) (Nd.ks (List.getD l (Int.toNat i) default))))) ∧ some (TV.v (IV.int IntKind.i64
 (↑l11 : Int))) = some (TV.v (IV.int IntKind.i64 (↑(List.length (Nd.ks (List.getD l (Int.toNat i) default))) : Int))) ∧ some (TV.v (IV.int IntKind.i64 (0 : Int))) = some (TV.v (IV.int IntKind.i64 (↑(Prod.fst x) : Int))) ∧ h2 = Prod.fst (Prod.snd x) ∧ (Prod.fst x ≤ List.length (Nd.ks (List.getD l (Int.toNat
 i) default)) ∧ PH (Prod.fst (Prod.snd x)) id e l (Prod.fst (Prod.snd (Prod.snd x))) (Prod.snd (Prod.snd (Prod.snd x))) ∧ Tx b lg ((40 : UInt8) :: (hdT (Nd.op (List.getD l (Int.toNat i) default)) (Nd.im (List.getD l (Int.toNat i) default)) ++ kdT (tsA l) (List.take (Prod.fst x) (Nd.ks (List.getD l (Int.toNat
 i) default))))) (Prod.fst (Prod.snd (Prod.snd x))) (Prod.snd (Prod.snd (Prod.snd x)))) ∧ True) ∧ ∀ (x : Nat × Heap × List UInt8 × Bool) (b_3 : FF), Prod.fst x ≤ List.length (Nd.ks (List.getD l (Int.toNat i) default)) ∧ PH (Prod.fst (Prod.snd x)) id e l (Prod.fst (Prod.snd (Prod.snd x))) (Prod.snd (Prod.snd
 (Prod.snd x))) ∧ Tx b lg ((40 : UInt8) :: (hdT (Nd.op (List.getD l (Int.toNat i) default)) (Nd.im (List.getD l (Int.toNat i) default)) ++ kdT (tsA l) (List.take (Prod.fst x) (Nd.ks (List.getD l (Int.toNat i) default))))) (Prod.fst (Prod.snd (Prod.snd x))) (Prod.snd (Prod.snd (Prod.snd x))) → brS (decide
 ((↑(Prod.fst x) : Int) < (↑(List.length (Nd.ks (List.getD l (Int.toNat i) default))) : Int))) (needS (decide ((0 : Int) ≤ (↑(Prod.fst x) : Int)) && decide ((↑(Prod.fst x) : Int) < (↑(List.length (Nd.ks (List.getD l (Int.toNat i) default))) : Int))) (ldIS IntKind.i64 (List.map (IV.int IntKind.i64) (Nd.ks
 (List.getD l (Int.toNat i) default))) (Int.toNat (↑(Prod.fst x) : Int) * (1 : Nat)) fun (n13 : Int) => ∃ (e_3 : Nat), ∃ (l_3 : List Nd), ∃ (b_4 : List UInt8), ∃ (lg_3 : Bool), PH (Prod.fst (Prod.snd x)) id e_3 l_3 b_4 lg_3 ∧ (1 : Nat) ≤ (1000000 : Nat) ∧ ∀ (h2 : Heap) (b2 : List UInt8) (lg2 : Bool),
 PH h2 id e_3 l_3 b2 lg2 → Tx b_4 lg_3 [(32 : UInt8)] b2 lg2 → ∃ (e_4 : Nat), ∃ (l_4 : List Nd), ∃ (b_5 : List UInt8), ∃ (lg_4 : Bool), PH h2 id e_4 l_4 b_5 lg_4 ∧ ((0 : Int) ≤ n13 ∧ n13 < (↑dd : Int) ∧ n13 < (↑(List.length l_4) : Int)) ∧ PGL l_4 ∧ ∀ (h2 : Heap) (b2 : List UInt8) (lg2 : Bool), PH h2 id
 e_4 l_4 b2 lg2 → Tx b_5 lg_4 (T10 l_4 (Int.toNat n13)) b2 lg2 → ∃ (x_1 : Nat × Heap × List UInt8 × Bool), some (TV.v (IV.ptr id (0 : Nat))) = some (TV.v (IV.ptr id (0 : Nat))) ∧ some (TV.v (IV.vslice none (0 : Nat) (List.length (Nd.ks (List.getD l (Int.toNat i) default))) (1 : Nat) (List.map (IV.int
 IntKind.i64) (Nd.ks (List.getD l (Int.toNat i) default))))) = some (TV.v (IV.vslice none (0 : Nat) (List.length (Nd.ks (List.getD l (Int.toNat i) default))) (1 : Nat) (List.map (IV.int IntKind.i64) (Nd.ks (List.getD l (Int.toNat i) default))))) ∧ some (TV.v (IV.int IntKind.i64 (↑(List.length (Nd.ks (List.getD
 l (Int.toNat i) default))) : Int))) = some (TV.v (IV.int IntKind.i64 (↑(List.length (Nd.ks (List.getD l (Int.toNat i) default))) : Int))) ∧ some (TV.v (IV.int IntKind.i64 (IntKind.wrap IntKind.i64 ((↑(Prod.fst x) : Int) + (1 : Int))))) = some (TV.v (IV.int IntKind.i64 (↑(Prod.fst x_1) : Int))) ∧ h2 =
 Prod.fst (Prod.snd x_1) ∧ (Prod.fst x_1 ≤ List.length (Nd.ks (List.getD l (Int.toNat i) default)) ∧ PH (Prod.fst (Prod.snd x_1)) id e l (Prod.fst (Prod.snd (Prod.snd x_1))) (Prod.snd (Prod.snd (Prod.snd x_1))) ∧ Tx b lg ((40 : UInt8) :: (hdT (Nd.op (List.getD l (Int.toNat i) default)) (Nd.im (List.getD
 l (Int.toNat i) default)) ++ kdT (tsA l) (List.take (Prod.fst x_1) (Nd.ks (List.getD l (Int.toNat i) default))))) (Prod.fst (Prod.snd (Prod.snd x_1))) (Prod.snd (Prod.snd (Prod.snd x_1)))) ∧ List.length (Nd.ks (List.getD l (Int.toNat i) default)) - Prod.fst x_1 < List.length (Nd.ks (List.getD l (Int.toNat
 i) default)) - Prod.fst x)) (∃ (e : Nat), ∃ (l : List Nd), ∃ (b : List UInt8), ∃ (lg : Bool), PH (Prod.fst (Prod.snd x)) id e l b lg ∧ (1 : Nat) ≤ (1000000 : Nat) ∧ ∀ (h2 : Heap) (b2 : List UInt8) (lg2 : Bool), PH h2 id e l b2 lg2 → Tx b lg [(41 : UInt8)] b2 lg2 → Q (IV.tuple []) h2))) ((∃ (x : Nat ×
 Heap × List UInt8 × Bool), some (TV.v (IV.ptr id (0 : Nat))) = some (TV.v (IV.ptr id (0 : Nat))) ∧ some (TV.v (IV.vslice i9 e10 l11 (1 : Nat) c12)) = some (TV.v (IV.vslice none (0 : Nat) (List.length (Nd.ks (List.getD l (Int.toNat i) default))) (1 : Nat) (List.map (IV.int IntKind.i64) (Nd.ks (List.getD
 l (Int.toNat i) default))))) ∧ some (TV.v (IV.int IntKind.i64 (↑l11 : Int))) = some (TV.v (IV.int IntKind.i64 (↑(List.length (Nd.ks (List.getD l (Int.toNat i) default))) : Int))) ∧ some (TV.v (IV.int IntKind.i64 (0 : Int))) = some (TV.v (IV.int IntKind.i64 (↑(Prod.fst x) : Int))) ∧ h2 = Prod.fst (Prod.snd
 x) ∧ (Prod.fst x ≤ List.length (Nd.ks (List.getD l (Int.toNat i) default)) ∧ PH (Prod.fst (Prod.snd x)) id e l (Prod.fst (Prod.snd (Prod.snd x))) (Prod.snd (Prod.snd (Prod.snd x))) ∧ Tx b lg ((40 : UInt8) :: (hdT (Nd.op (List.getD l (Int.toNat i) default)) (Nd.im (List.getD l (Int.toNat i) default))
 ++ kdT (tsA l) (List.take (Prod.fst x) (Nd.ks (List.getD l (Int.toNat i) default))))) (Prod.fst (Prod.snd (Prod.snd x))) (Prod.snd (Prod.snd (Prod.snd x)))) ∧ True) ∧ ∀ (x : Nat × Heap × List UInt8 × Bool) (b_2 : FF), Prod.fst x ≤ List.length (Nd.ks (List.getD l (Int.toNat i) default)) ∧ PH (Prod.fst
 (Prod.snd x)) id e l (Prod.fst (Prod.snd (Prod.snd x))) (Prod.snd (Prod.snd (Prod.snd x))) ∧ Tx b lg ((40 : UInt8) :: (hdT (Nd.op (List.getD l (Int.toNat i) default)) (Nd.im (List.getD l (Int.toNat i) default)) ++ kdT (tsA l) (List.take (Prod.fst x) (Nd.ks (List.getD l (Int.toNat i) default))))) (Prod.fst
 (Prod.snd (Prod.snd x))) (Prod.snd (Prod.snd (Prod.snd x))) → brS (decide ((↑(Prod.fst x) : Int) < (↑(List.length (Nd.ks (List.getD l (Int.toNat i) default))) : Int))) (needS (decide ((0 : Int) ≤ (↑(Prod.fst x) : Int)) && decide ((↑(Prod.fst x) : Int) < (↑(List.length (Nd.ks (List.getD l (Int.toNat i)
 default))) : Int))) (ldIS IntKind.i64 (List.map (IV.int IntKind.i64) (Nd.ks (List.getD l (Int.toNat i) default))) (Int.toNat (↑(Prod.fst x) : Int) * (1 : Nat)) fun (n14 : Int) => ∃ (e_2 : Nat), ∃ (l_2 : List Nd), ∃ (b_3 : List UInt8), ∃ (lg_2 : Bool), PH (Prod.fst (Prod.snd x)) id e_2 l_2 b_3 lg_2 ∧
 (1 : Nat) ≤ (1000000 : Nat) ∧ ∀ (h2 : Heap) (b2 : List UInt8) (lg2 : Bool), PH h2 id e_2 l_2 b2 lg2 → Tx b_3 lg_2 [(32 : UInt8)] b2 lg2 → ∃ (e_3 : Nat), ∃ (l_3 : List Nd), ∃ (b_4 : List UInt8), ∃ (lg_3 : Bool), PH h2 id e_3 l_3 b_4 lg_3 ∧ ((0 : Int) ≤ n14 ∧ n14 < (↑dd : Int) ∧ n14 < (↑(List.length l_3)
 : Int)) ∧ PGL l_3 ∧ ∀ (h2 : Heap) (b2 : List UInt8) (lg2 : Bool), PH h2 id e_3 l_3 b2 lg2 → Tx b_4 lg_3 (T10 l_3 (Int.toNat n14)) b2 lg2 → ∃ (x_1 : Nat × Heap × List UInt8 × Bool), some (TV.v (IV.ptr id (0 : Nat))) = some (TV.v (IV.ptr id (0 : Nat))) ∧ some (TV.v (IV.vslice none (0 : Nat) (List.length
 (Nd.ks (List.getD l (Int.toNat i) default))) (1 : Nat) (List.map (IV.int IntKind.i64) (Nd.ks (List.getD l (Int.toNat i) default))))) = some (TV.v (IV.vslice none (0 : Nat) (List.length (Nd.ks (List.getD l (Int.toNat i) default))) (1 : Nat) (List.map (IV.int IntKind.i64) (Nd.ks (List.getD l (Int.toNat
 i) default))))) ∧ some (TV.v (IV.int IntKind.i64 (↑(List.length (Nd.ks (List.getD l (Int.toNat i) default))) : Int))) = some (TV.v (IV.int IntKind.i64 (↑(List.length (Nd.ks (List.getD l (Int.toNat i) default))) : Int))) ∧ some (TV.v (IV.int IntKind.i64 (IntKind.wrap IntKind.i64 ((↑(Prod.fst x) : Int)
 + (1 : Int))))) = some (TV.v (IV.int IntKind.i64 (↑(Prod.fst x_1) : Int))) ∧ h2 = Prod.fst (Prod.snd x_1) ∧ (Prod.fst x_1 ≤ List.length (Nd.ks (List.getD l (Int.toNat i) default)) ∧ PH (Prod.fst (Prod.snd x_1)) id e l (Prod.fst (Prod.snd (Prod.snd x_1))) (Prod.snd (Prod.snd (Prod.snd x_1))) ∧ Tx b lg
 ((40 : UInt8) :: (hdT (Nd.op (List.getD l (Int.toNat i) default)) (Nd.im (List.getD l (Int.toNat i) default)) ++ kdT (tsA l) (List.take (Prod.fst x_1) (Nd.ks (List.getD l (Int.toNat i) default))))) (Prod.fst (Prod.snd (Prod.snd x_1))) (Prod.snd (Prod.snd (Prod.snd x_1)))) ∧ List.length (Nd.ks (List.getD
 l (Int.toNat i) default)) - Prod.fst x_1 < List.length (Nd.ks (List.getD l (Int.toNat i) default)) - Prod.fst x)) (∃ (e : Nat), ∃ (l : List Nd), ∃ (b : List UInt8), ∃ (lg : Bool), PH (Prod.fst (Prod.snd x)) id e l b lg ∧ (1 : Nat) ≤ (1000000 : Nat) ∧ ∀ (h2 : Heap) (b2 : List UInt8) (lg2 : Bool), PH h2
 id e l b2 lg2 → Tx b lg [(41 : UInt8)] b2 lg2 → Q (IV.tuple []) h2)))))))))) := by kernel_rfl
set_option maxHeartbeats 2000000 in
theorem rPNode : ∀ d xs h Q, kPNode d xs h Q → CallW env 21 xs h Q := by
  intro d
  induction d with
  | zero =>
    intro xs h Q hk
    unfold kPNode at hk
    split at hk
    · rename_i id i
      obtain ⟨e, l, b, lg, hp, hi, hg, hk⟩ := hk
      have := hi.2.1
      omega
    · exact hk.elim
  | succ dd ih =>
    intro xs h Q hk
    unfold kPNode at hk
    split at hk
    · rename_i id i
      obtain ⟨e, l, b, lg, hp, hi, hg, hk⟩ := hk
      refine dF_run (sound_add ih (okPText)) (vPNode dd id i e l b lg h Q) ?_
      have tn : ∀ x : Nat, (x : Int).toNat = x := Int.toNat_natCast
      obtain ⟨hi0, hid, hil⟩ := hi
      have hgg := hg
      obtain ⟨hb, hn, hll⟩ := hg
      have hlt : i.toNat < l.length := by omega
      have eD : l.getD i.toNat default = l[i.toNat] := by rw [List.getD_eq_getElem?_getD, List.getElem?_eq_getElem hlt]; rfl
      obtain ⟨hop, hop3, him, hkl, hlk⟩ := hn _ (List.getElem_mem hlt)
      have htl := txt_len him
      simp only [eD]
      obtain ⟨pid, pbl, bv, pg, pbv⟩ := (show PH h id e l b lg from hp)
      refine hget_intro pg ?_
      show brS lg _ _
      refine brS_intro (fun c => ?_) (fun c => ?_)
      · subst c
        exact hk _ _ true hp Tx.long
      refine hget_intro pg (ldV_at rfl (needS_intro (by simp; omega) (ldNd hlt rfl ?_)))
      have leaf : ∀ s, lf l[i.toNat].op = true → lfT l[i.toNat].op l[i.toNat].im = s → ∀ h2 b2 lg2, PH h2 id e l b2 lg2 → Tx b lg s b2 lg2 → Q (.tuple []) h2 := fun s h1 h2 g2 b2 lg2 p2 t2 => hk g2 b2 lg2 p2 (by rw [T10_leaf hb hlt h1, h2]; exact t2)
      refine brS_intro (fun c1 => ?_) (fun c1 => brS_intro (fun c2 => ?_) (fun c2 => brS_intro (fun c3 => absurd (beq_iff_eq.1 c3) hop3.1) (fun c3 => brS_intro (fun c4 => ?_) (fun c4 => ?_))))
      · rw [beq_iff_eq] at c1
        exact ⟨him, e, l, b, lg, hp, by omega, leaf _ (by rw [c1]; rfl) (by rw [c1]; rfl)⟩
      · rw [beq_iff_eq] at c2
        exact ⟨him, needS_intro (by rw [Nat.ble_eq]; omega) ⟨e, l, b, lg, hp, by rw [List.length_cons]; omega, leaf _ (by rw [c2]; rfl) (by rw [c2]; rfl)⟩⟩
      · rw [beq_iff_eq] at c4
        exact ⟨e, l, b, lg, hp, by decide, leaf _ (by rw [c4]; rfl) (by rw [c4]; rfl)⟩
      · rw [beq_eq_false_iff_ne] at c1 c2 c3 c4
        have hf : lf l[i.toNat].op = false := by
          unfold lf
          rw [decide_eq_false_iff_not]
          omega
        have hnl := tnm_len l[i.toNat].op
        refine ⟨hop, needS_intro (by rw [Nat.ble_eq]; omega) ⟨e, l, b, lg, hp, by rw [List.length_cons]; omega, fun h2 b2 lg2 p2 t2 => brS_intro (fun ch => ⟨him, needS_intro (by rw [Nat.ble_eq]; omega) ⟨e, l, b2, lg2, p2, by rw [List.length_cons]; omega, fun h3 b3 lg3 p3 t3 => ?_⟩⟩) (fun ch => ?_)⟩⟩
        · replace t3 : Tx b lg (40 :: hdT l[i.toNat].op l[i.toNat].im) b3 lg3 := by
            have := t2.trans t3
            unfold hdT
            rw [if_pos ch]
            exact this
          · refine ⟨⟨(0, h3, b3, lg3), (by first | rfl | exact True.intro), (by first | rfl | exact True.intro), (by first | rfl | exact True.intro), (by first | rfl | exact True.intro), (by first | rfl | exact True.intro), ⟨Nat.zero_le _, p3, ?_⟩, trivial⟩, ?_⟩
            · rw [show kdT (tsA l) (l[i.toNat].ks.take 0) = [] from rfl, List.append_nil]
              exact t3
            rintro ⟨j, g, b4, lg4⟩ _ ⟨hj, p4, t4⟩
            dsimp only at hj p4 t4 ⊢
            refine brS_intro (fun c => ?_) (fun c => ?_)
            · rw [decide_eq_true_eq] at c
              have hjl : j < l[i.toNat].ks.length := by omega
              have hbk := hb i.toNat _ (List.getElem?_eq_getElem hlt) _ (List.getElem_mem hjl)
              refine needS_intro (by simp; omega) (ldI1 hjl (by rw [Nat.mul_one, tn]) ⟨e, l, b4, lg4, p4, by decide, fun h5 b5 lg5 p5 t5 => ⟨e, l, b5, lg5, p5, ⟨hbk.1, by omega, by omega⟩, hgg, fun h6 b6 lg6 p6 t6 => ⟨(j + 1, h6, b6, lg6), (by first | rfl | exact True.intro), (by first | rfl | exact True.intro), (by first | rfl | exact True.intro), ?_, (by first | rfl | exact True.intro), ⟨hjl, p6, ?_⟩, by dsimp only; omega⟩⟩⟩)
              · rw [IntWalk.i64_in _ (by omega)]; rfl
              · have := t4.trans (t5.trans t6)
                rw [kdT_take hjl]
                simpa [T10] using this
            · rw [decide_eq_false_iff_not] at c
              refine ⟨e, l, b4, lg4, p4, by decide, fun h5 b5 lg5 p5 t5 => hk h5 b5 lg5 p5 ?_⟩
              rw [List.take_of_length_le (by omega)] at t4
              rw [T10_node hb hlt hf]
              exact t4.trans t5
        · have t3 : Tx b lg (40 :: hdT l[i.toNat].op l[i.toNat].im) b2 lg2 := by
            unfold hdT
            rw [if_neg (by rw [ch]; exact Bool.false_ne_true), List.append_nil]
            exact t2
          · refine ⟨⟨(0, h2, b2, lg2), (by first | rfl | exact True.intro), (by first | rfl | exact True.intro), (by first | rfl | exact True.intro), (by first | rfl | exact True.intro), (by first | rfl | exact True.intro), ⟨Nat.zero_le _, p2, ?_⟩, trivial⟩, ?_⟩
            · rw [show kdT (tsA l) (l[i.toNat].ks.take 0) = [] from rfl, List.append_nil]
              exact t3
            rintro ⟨j, g, b4, lg4⟩ _ ⟨hj, p4, t4⟩
            dsimp only at hj p4 t4 ⊢
            refine brS_intro (fun c => ?_) (fun c => ?_)
            · rw [decide_eq_true_eq] at c
              have hjl : j < l[i.toNat].ks.length := by omega
              have hbk := hb i.toNat _ (List.getElem?_eq_getElem hlt) _ (List.getElem_mem hjl)
              refine needS_intro (by simp; omega) (ldI1 hjl (by rw [Nat.mul_one, tn]) ⟨e, l, b4, lg4, p4, by decide, fun h5 b5 lg5 p5 t5 => ⟨e, l, b5, lg5, p5, ⟨hbk.1, by omega, by omega⟩, hgg, fun h6 b6 lg6 p6 t6 => ⟨(j + 1, h6, b6, lg6), (by first | rfl | exact True.intro), (by first | rfl | exact True.intro), (by first | rfl | exact True.intro), ?_, (by first | rfl | exact True.intro), ⟨hjl, p6, ?_⟩, by dsimp only; omega⟩⟩⟩)
              · rw [IntWalk.i64_in _ (by omega)]; rfl
              · have := t4.trans (t5.trans t6)
                rw [kdT_take hjl]
                simpa [T10] using this
            · rw [decide_eq_false_iff_not] at c
              refine ⟨e, l, b4, lg4, p4, by decide, fun h5 b5 lg5 p5 t5 => hk h5 b5 lg5 p5 ?_⟩
              rw [List.take_of_length_le (by omega)] at t4
              rw [T10_node hb hlt hf]
              exact t4.trans t5
    · exact hk.elim
def cPNode := addC 21 (fun xs h K => ∃ d, kPNode d xs h K) cPText
theorem okPNode : Sound env cPNode := sound_add (fun xs h Q hk => hk.elim fun d hk => rPNode d xs h Q hk) (okPText)

def kPrint (xs : List IV) (h : Heap) (K : IV → Heap → Prop) : Prop := match xs with
  | [.vslice none e1 n1 3 c1, .int .i64 i] => ∃ l : List Nd, (n1 = l.length ∧ c1 = l.flatMap cN) ∧ (PGL l ∧ WFG l ∧ l.length ≤ 1000000 ∧ 0 ≤ i ∧ i < l.length) ∧ K (.str (prn l i.toNat)) h
  | _ => False
set_option maxRecDepth 100000 in
theorem vPrint (l : List Nd) (i : Int) (e1 : Nat) (h : Heap) (Q : IV → Heap → Prop) : dF (stdS cPNode) env 7 noU noI noI [.vslice none e1 (l).length 3 ((l).flatMap cN), .int .i64 i] h Q = (
  needS (pureL [IV.vslice none (0 : Nat) (List.length l) (3 : Nat) (List.flatMap cN l), IV.int IntKind.i64 i])
 (∃ (l_1 : List Nd),
 (List.length l = List.length l_1 ∧ List.flatMap cN l = List.flatMap cN l_1) ∧
 ((∀ (x : Nd), x ∈ l_1 → List.length (Nd.ks x) ≤ (1000000 : Nat) ∧ Nd.op x ≠ (30 : Int)) ∧ List.length l_1 ≤ (1000000 : Nat) ∧ (0 : Int) ≤ i ∧ i < (↑(List.length l_1) : Int)) ∧
 brS (List.getD (sortsG l_1) (Int.toNat i) (0 : Int) == (0 : Int)) (Q (IV.str []) h)
 (∃ (d : Nat),
 ∃ (e : Nat),
 ∃ (l_2 : List Nd),
 ∃ (b : List UInt8),
 ∃ (lg : Bool),
 PH (Heap.mk (PT.node PT.nil (some (IObj.cells [IV.vslice none (0 : Nat) (List.length l) (3 : Nat) (List.flatMap cN l), IV.nilslice, IV.bool false])) PT.nil) ((0 : Nat) + (1 : Nat))) (0 : Nat) e l_2 b lg ∧
 ((0 : Int) ≤ i ∧ i < (↑d : Int) ∧ i < (↑(List.length l_2) : Int)) ∧
 PGL l_2 ∧
 ∀ (h2 : Heap) (b2 : List UInt8) (lg2 : Bool),
 PH h2 (0 : Nat) e l_2 b2 lg2 →
 Tx b lg (T10 l_2 (Int.toNat i)) b2 lg2 →
 hgetS h2 (0 : Nat) fun (r0 : List IV) =>
 ldBS r0 (2 : Nat) fun (b1 : Bool) =>
 brS b1 (Q (IV.str []) h) (hgetS h2 (0 : Nat) fun (r2 : List IV) => ldNVS (1 : Nat) r2 (1 : Nat) (Q (IV.str []) h) fun (i3 e4 l5 : Nat) (c6 : List IV) => bytS c6 fun (s7 : List UInt8) => Q (IV.str s7) h)))) := by kernel_rfl
set_option maxHeartbeats 1000000 in
theorem sPrint : ∀ xs h Q, kPrint xs h Q → CallW env 7 xs h Q := by
  intro xs h Q hk
  unfold kPrint at hk
  split at hk
  · rename_i e1 n1 c1 i
    obtain ⟨l, ⟨rfl, rfl⟩, hb, hk⟩ := hk
    refine dF_run (okPNode) (vPrint l i e1 h Q) ?_
    obtain ⟨hg, hw, hll, hi0, hil⟩ := hb
    have hgg := hg
    obtain ⟨hb, hn, _⟩ := hg
    have hq : i.toNat < (sortsG l).length := by rw [sortsG_len]; omega
    have hs : (sortsG l).getD i.toNat 0 ≠ 0 := by
      rw [List.getD_eq_getElem?_getD, List.getElem?_eq_getElem hq]
      exact hw _ (List.getElem_mem hq)
    refine needS_intro (by simp only [pureL, pureB, pureL_cN, Bool.and_true]) ⟨l, ⟨rfl, rfl⟩, ⟨fun x hx => ⟨(hn x hx).2.2.2.1, (hn x hx).2.1.2⟩, hll, hi0, hil⟩, brS_intro (fun c => absurd (beq_iff_eq.1 c) hs) (fun _ => ⟨i.toNat + 1, 0, l, [], false, ⟨Nat.one_pos, by simp, .nilslice, rfl, .inl ⟨rfl, rfl⟩⟩, ⟨hi0, by omega, hil⟩, hgg, fun h2 b2 lg2 p2 t2 => ?_⟩)⟩
    obtain ⟨pid, pbl, bv, pg, pbv⟩ := p2
    unfold Tx at t2
    simp only [Bool.false_eq_true, if_false, List.length_nil, List.nil_append, Nat.zero_add] at t2
    refine hget_intro pg ?_
    show brS lg2 _ _
    unfold prn at hk
    refine brS_intro (fun c => ?_) (fun c => ?_)
    · subst c
      split at t2
      · exact absurd t2.1 (by decide)
      · rename_i hx
        rw [if_neg hx] at hk
        exact hk
    · subst c
      split at t2
      · rename_i hx
        rw [if_pos hx] at hk
        obtain ⟨_, rfl⟩ := t2
        refine hget_intro pg ?_
        rcases pbv with ⟨rfl, q⟩ | ⟨ib, rfl, _⟩
        · rw [q] at hk
          exact ldNV_nil rfl hk
        · exact ldNV_v rfl (byt_intro (bytes_u8 _) hk)
      · exact absurd t2 (by decide)
  · exact hk.elim
def cPrint := addC 7 kPrint cPNode
theorem okPrint : Sound env cPrint := sound_add sPrint (okPNode)

end Go.Proofs.Ythoehkkoaegeoaa
