/-
  The target machine: texts of numbers and instructions (program).
  Conditions: none.
-/
import Derived.Test.YtfmcdageaananaaDoorB29
import Derived.Test.YtfmcdageaananaaDoorV29
import Derived.KernelRfl
set_option linter.unusedVariables false
set_option linter.unusedSimpArgs false
namespace Go.Proofs.YtfmcdageaananaaDoor
open Go.Pv Go.M29
def dw (n : Int) : Int := IntKind.wrap IntKind.u64 (Int.tdiv n (10 : Int))
def db (n : Int) : UInt8 := UInt8.ofNat (Int.toNat (IntKind.wrap IntKind.u8 (IntKind.wrap IntKind.u64 ((48 : Int) + Int.tmod n (10 : Int)))))
/-- digits, the last one first -/
def dchain (P : List UInt8 → Prop) : Nat → Int → List UInt8 → Prop
  | 0, _, _ => False
  | k + 1, x, acc => brS (dw x == 0) (P (db x :: acc)) (dchain P k (dw x) (db x :: acc))
theorem u64_in {x : Int} (h : 0 ≤ x ∧ x < 18446744073709551616) : IntKind.u64.wrap x = x := by
  simp only [IntKind.wrap, IntKind.bits, IntKind.signed]
  simp
  omega
theorem u8_in {x : Int} (h : 0 ≤ x ∧ x < 256) : IntKind.u8.wrap x = x := by
  simp only [IntKind.wrap, IntKind.bits, IntKind.signed]
  simp
  omega
theorem dw_nat {m : Nat} (h : m < 18446744073709551616) : dw m = ((m / 10 : Nat) : Int) := by
  unfold dw
  have : (m : Int).tdiv 10 = ((m / 10 : Nat) : Int) := by
    rw [Int.tdiv_eq_ediv_of_nonneg (by omega)]
    omega
  rw [this, u64_in (by omega)]
theorem db_nat {m : Nat} : db m = UInt8.ofNat (48 + m % 10) := by
  unfold db
  have : (m : Int).tmod 10 = ((m % 10 : Nat) : Int) := by
    rw [Int.tmod_eq_emod_of_nonneg (by omega)]
    omega
  rw [this, u64_in (by omega), u8_in (by omega)]
  congr 1
theorem dchain_ok {P : List UInt8 → Prop} (k : Nat) : ∀ (m : Nat) (acc : List UInt8), m < 18446744073709551616 → m < 10 ^ (k + 1) → P (digN m ++ acc) → dchain P (k + 1) m acc := by
  induction k with
  | zero =>
    intro m acc hb h hP
    refine brS_intro (fun _ => ?_) (fun c => ?_)
    · rw [digN_lt (by simpa using h)] at hP
      rw [db_nat, Nat.mod_eq_of_lt (by simpa using h)]
      exact hP
    · rw [dw_nat hb, beq_eq_false_iff_ne] at c
      omega
  | succ k ih =>
    intro m acc hb h hP
    refine brS_intro (fun c => ?_) (fun c => ?_)
    · rw [dw_nat hb, beq_iff_eq] at c
      have h2 : m < 10 := by omega
      rw [digN_lt h2] at hP
      rw [db_nat, Nat.mod_eq_of_lt h2]
      exact hP
    · rw [dw_nat hb, beq_eq_false_iff_ne] at c
      have h2 : ¬ m < 10 := by omega
      rw [dw_nat hb, db_nat]
      refine ih (m / 10) _ (by omega) ?_ ?_
      · rw [Nat.div_lt_iff_lt_mul (by omega)]
        rw [Nat.pow_succ] at h
        exact h
      · rw [digN_ge h2] at hP
        simpa using hP
theorem txt_u (n : Int) (h : -9223372036854775808 ≤ n ∧ n ≤ 9223372036854775807) : if n < 0 then IntKind.u64.wrap (0 - IntKind.u64.wrap n) = (n.natAbs : Int) else IntKind.u64.wrap n = (n.natAbs : Int) := by
  simp only [IntKind.wrap, IntKind.bits, IntKind.signed]
  split <;> simp <;> omega
theorem chr_at {s : List UInt8} {i : Nat} {K : Int → Prop} (h : i < s.length) (hk : K s[i].toNat) : chrS s i K := by
  unfold chrS
  rw [List.getElem?_eq_getElem h]
  exact hk
theorem dig_split (u : Nat) : digN u = (if u / 10 = 0 then [] else digN (u / 10)) ++ [db u] := by
  rw [db_nat]
  by_cases h : u < 10
  · rw [if_pos (by omega), digN_lt h, Nat.mod_eq_of_lt h]; rfl
  · rw [if_neg (by omega), digN_ge h]
def fiOk (n : Int) (u : Nat) (t : List UInt8) : Prop := u < 18446744073709551616 ∧ ((t = [] ∧ u = n.natAbs) ∨ (t ≠ [] ∧ digN n.natAbs = (if u = 0 then [] else digN u) ++ t))
theorem fi_len {n : Int} {u : Nat} {t : List UInt8} (hb : -9223372036854775808 ≤ n ∧ n ≤ 9223372036854775807) (h : fiOk n u t) : t.length ≤ 19 := by
  have hdl := digN_len 18 n.natAbs (by omega)
  rcases h.2 with ⟨e, _⟩ | ⟨_, e⟩
  · rw [e]; simp
  · rw [e, List.length_append] at hdl; omega
theorem fi_step {n : Int} {u : Nat} {t : List UInt8} (h : fiOk n u t) (hc : 0 < u ∨ t = []) : fiOk n (u / 10) (db u :: t) ∧ (u / 10 + if (db u :: t) = [] then 1 else 0) < u + if t = [] then 1 else 0 := by
  obtain ⟨h1, h2⟩ := h
  refine ⟨⟨by omega, .inr ⟨by simp, ?_⟩⟩, ?_⟩
  · rcases h2 with ⟨e, e2⟩ | ⟨e, e2⟩
    · subst e
      rw [← e2]
      exact dig_split u
    · have hu : u ≠ 0 := by
        rcases hc with q | q
        · omega
        · exact absurd q e
      rw [e2, if_neg hu]
      conv => lhs; rw [dig_split u]
      rw [List.append_assoc]
      rfl
  · rw [if_neg (by simp)]
    split
    · omega
    · rename_i ht
      rcases hc with q | q
      · omega
      · exact absurd q ht
theorem i64_rng (x : Int) : -9223372036854775808 ≤ IntKind.i64.wrap x ∧ IntKind.i64.wrap x ≤ 9223372036854775807 := by
  simp only [IntKind.wrap, IntKind.bits, IntKind.signed]
  simp
  split <;> omega
theorem neg_w {a : Int} (h : 0 ≤ a ∧ a ≤ 9223372036854775808) : IntKind.i64.wrap (IntKind.u64.wrap (0 - a)) = -a := by
  simp only [IntKind.wrap, IntKind.bits, IntKind.signed]
  simp
  split <;> omega
theorem neg_w2 {a : Int} (h : 0 ≤ a ∧ a ≤ 9223372036854775808) : IntKind.i64.wrap (0 - IntKind.i64.wrap a) = -a := by
  simp only [IntKind.wrap, IntKind.bits, IntKind.signed]
  simp
  repeat' split
  all_goals omega
theorem pureL_strs : ∀ {l : List (List UInt8)}, pureL (l.map IV.str) = true
  | [] => rfl
  | _ :: r => by simp only [List.map_cons, pureL, pureB, Bool.true_and]; exact pureL_strs
def ngS (s : List UInt8) : Bool := s.head? == some 45
def tlS (s : List UInt8) : List UInt8 := if ngS s then s.drop 1 else s
def okAt (s : List UInt8) (i : Nat) (a : Int) : Prop := (0 ≤ a ∧ a < 18446744073709551616) ∧ ∀ n : Int, (-9223372036854775808 ≤ n ∧ n ≤ 9223372036854775807) → s = txt n → a = val ((tlS s).take i)
theorem ng_at {s : List UInt8} (h : 0 < s.length) : ((s[0].toNat : Int) == 45) = ngS s := by
  cases s with
  | nil => simp at h
  | cons b r =>
    unfold ngS
    rw [Bool.eq_iff_iff]
    simp only [List.getElem_cons_zero, List.head?_cons, beq_iff_eq, Option.some.injEq]
    constructor
    · intro q
      have : b.toNat = (45 : UInt8).toNat := by
        show b.toNat = 45
        omega
      exact UInt8.toNat_inj.1 this
    · intro q; subst q; rfl
theorem txt_ng (n : Int) : ngS (txt n) = decide (n < 0) ∧ tlS (txt n) = digN n.natAbs := by
  by_cases h : n < 0
  · have e : ngS (txt n) = true := by rw [txt_neg h]; rfl
    unfold tlS
    rw [e, txt_neg h]
    simp [h]
  · have e : ngS (txt n) = false := by
      rw [txt_nn (by omega)]
      unfold ngS
      rw [beq_eq_false_iff_ne]
      cases hd : digN n.natAbs with
      | nil => simp
      | cons c r =>
        intro q
        rw [List.head?_cons, Option.some.injEq] at q
        have := digN_no hd
        rw [q] at this
        exact not45 this
    unfold tlS
    rw [e, txt_nn (by omega)]
    simp [h]
theorem val_le (b : List UInt8) : ∀ a : Nat, a ≤ b.foldl (fun a b => a * 10 + (b.toNat - 48)) a := by
  induction b with
  | nil => intro a; exact Nat.le_refl _
  | cons c r ih =>
    intro a
    rw [List.foldl_cons]
    exact Nat.le_trans (by omega) (ih _)
theorem val_take (l : List UInt8) (i : Nat) : val (l.take i) ≤ val l := by
  conv => rhs; rw [← List.take_append_drop i l]
  unfold val
  rw [List.foldl_append]
  exact val_le _ _
theorem val_succ {l : List UInt8} {i : Nat} (h : i < l.length) : val (l.take (i + 1)) = val (l.take i) * 10 + (l[i].toNat - 48) := by
  rw [List.take_succ_eq_append_getElem h, val_snoc]
theorem u64_rng (x : Int) : 0 ≤ IntKind.u64.wrap x ∧ IntKind.u64.wrap x < 18446744073709551616 := by
  simp only [IntKind.wrap, IntKind.bits, IntKind.signed]
  simp
  omega
theorem okAt_zero (s : List UInt8) : okAt s 0 0 := ⟨by omega, fun n _ _ => by simp [val]⟩
theorem okAt_step {s : List UInt8} {i : Nat} {a y : Int} (h : okAt s i a) (hi : i < (tlS s).length) (hy : y = a * 10) (h1 : ¬ ((tlS s)[i].toNat : Int) < 48) (h2 : ¬ ((tlS s)[i].toNat : Int) > 57) :
    okAt s (i + 1) (IntKind.u64.wrap (IntKind.u64.wrap y + IntKind.u64.wrap (IntKind.u8.wrap (((tlS s)[i].toNat : Int) - 48)))) := by
  refine ⟨u64_rng _, fun n hn e => ?_⟩
  have ha := h.2 n hn e
  have hs := val_succ hi
  have hle := val_take (tlS s) (i + 1)
  have hm : val (tlS s) = n.natAbs := by rw [e, (txt_ng n).2, val_digN]
  rw [u8_in (by omega), u64_in (x := _ - 48) (by omega), u64_in (x := y) (by omega), u64_in (by omega)]
  omega
def Rl (s : List UInt8) (v : Int) (b : Bool) : Prop := ∀ n : Int, (-9223372036854775808 ≤ n ∧ n ≤ 9223372036854775807) → s = txt n → v = n ∧ b = true
theorem tl_ne {s : List UInt8} {n : Int} (e : s = txt n) : 0 < (tlS s).length := by rw [e, (txt_ng n).2]; exact digN_pos _
theorem tl_19 {s : List UInt8} {n : Int} (hn : -9223372036854775808 ≤ n ∧ n ≤ 9223372036854775807) (e : s = txt n) : (tlS s).length ≤ 19 := by rw [e, (txt_ng n).2]; exact digN_len 18 _ (by omega)
theorem tl_dig {s : List UInt8} {n : Int} {i : Nat} (e : s = txt n) (h : i < (tlS s).length) : 48 ≤ (tlS s)[i].toNat ∧ (tlS s)[i].toNat ≤ 57 := by
  have := digN_all n.natAbs (tlS s)[i] (by rw [← (txt_ng n).2, ← e]; exact List.getElem_mem h)
  exact this
theorem tl_48 {s : List UInt8} {n : Int} (e : s = txt n) (h : 0 < (tlS s).length) (h48 : (tlS s)[0].toNat = 48) : n = 0 := by
  by_cases hz : n = 0
  · exact hz
  · obtain ⟨c, r, e2, hc⟩ := digN_head n.natAbs (by omega)
    have e3 : tlS s = c :: r := by rw [e, (txt_ng n).2, e2]
    have : (tlS s)[0] = c := by simp [e3]
    rw [this] at h48
    exact absurd (UInt8.toNat_inj.1 (show c.toNat = (48 : UInt8).toNat from h48)) hc
theorem tl_len (s : List UInt8) : (tlS s).length = s.length - (if ngS s then 1 else 0) := by
  unfold tlS
  split <;> simp [*]
theorem tl_get {s : List UInt8} {i : Nat} (h : (if ngS s then 1 else 0) + i < s.length) : ∃ h2 : i < (tlS s).length, s[(if ngS s then 1 else 0) + i] = (tlS s)[i] := by
  refine ⟨by rw [tl_len]; omega, ?_⟩
  unfold tlS
  by_cases hs : ngS s = true
  · simp only [hs, if_true]
    rw [List.getElem_drop]
  · simp only [hs]
    simp
def kDigits (xs : List IV) (h : Heap) (K : IV → Heap → Prop) : Prop := match xs with
  | [.int .u64 n] => (0 ≤ n ∧ n < 18446744073709551616) ∧ K (.str (digN n.toNat)) h
  | _ => False
set_option maxRecDepth 100000 in
theorem vDigits (n : Int) (h : Heap) (Q : IV → Heap → Prop) : dF (stdS cRWrites) env 46 (fun k => match Nat.beq k 4 with | true => 20 | false => 0) noI noI [.int .u64 n] h Q = (
  dchain (fun l => Q (.str l) h) 20 n []) := by kernel_rfl
set_option maxHeartbeats 4000000 in
theorem sDigits : ∀ xs h Q, kDigits xs h Q → CallW env 46 xs h Q := by
  intro xs h Q hk
  unfold kDigits at hk
  split at hk
  · rename_i n
    refine dF_sound (okRWrites) (mp_eq (vDigits n h Q) ?_)
    obtain ⟨⟨h0, h1⟩, hk⟩ := hk
    obtain ⟨m, rfl⟩ := Int.eq_ofNat_of_zero_le h0
    refine dchain_ok 19 m [] (by omega) (by omega) ?_
    rw [List.append_nil]
    exact hk
  · exact hk.elim
def cDigits := addC 46 kDigits cRWrites
theorem okDigits : Sound env cDigits := sound_add sDigits (okRWrites)

def kText (xs : List IV) (h : Heap) (K : IV → Heap → Prop) : Prop := match xs with
  | [.int .i64 n] => (-9223372036854775808 ≤ n ∧ n ≤ 9223372036854775807) ∧ K (.str (txt n)) h
  | _ => False
set_option maxRecDepth 100000 in
theorem vText (n : Int) (h : Heap) (Q : IV → Heap → Prop) : dF (stdS cDigits) env 33 noU noI noI [.int .i64 n] h Q = (
  brS (decide (n < (0 : Int)))
 (((0 : Int) ≤ IntKind.wrap IntKind.u64 ((0 : Int) - IntKind.wrap IntKind.u64 n) ∧ IntKind.wrap IntKind.u64 ((0 : Int) - IntKind.wrap IntKind.u64 n) < (18446744073709551616 : Int)) ∧
 needS (Nat.ble ((1 : Nat) + List.length (digN (Int.toNat (IntKind.wrap IntKind.u64 ((0 : Int) - IntKind.wrap IntKind.u64 n))))) (9223372036854775807 : Nat))
 (Q (IV.str ((45 : UInt8) :: digN (Int.toNat (IntKind.wrap IntKind.u64 ((0 : Int) - IntKind.wrap IntKind.u64 n))))) h))
 (((0 : Int) ≤ IntKind.wrap IntKind.u64 n ∧ IntKind.wrap IntKind.u64 n < (18446744073709551616 : Int)) ∧ Q (IV.str (digN (Int.toNat (IntKind.wrap IntKind.u64 n)))) h)) := by kernel_rfl
theorem sText : ∀ xs h Q, kText xs h Q → CallW env 33 xs h Q := by
  intro xs h Q hk
  unfold kText at hk
  split at hk
  · rename_i n
    refine dF_sound (okDigits) (mp_eq (vText n h Q) ?_)
    obtain ⟨hb, hk⟩ := hk
    have hu := txt_u n hb
    have hl := txt_len hb
    refine brS_intro (fun c => ?_) (fun c => ?_)
    · rw [decide_eq_true_eq] at c
      rw [if_pos c] at hu
      rw [hu]
      rw [txt_neg c] at hk hl
      simp only [List.length_cons] at hl
      refine ⟨by omega, needS_intro (by rw [Nat.ble_eq]; simp only [Int.toNat_natCast]; omega) ?_⟩
      rw [Int.toNat_natCast]
      exact hk
    · rw [decide_eq_false_iff_not] at c
      rw [if_neg c] at hu
      rw [hu, Int.toNat_natCast]
      rw [txt_nn (by omega)] at hk
      exact ⟨by omega, hk⟩
  · exact hk.elim
def cText := addC 33 kText cDigits
theorem okText : Sound env cText := sound_add sText (okDigits)

def fiInv (n : Int) : Inv' := atX (Nat × List UInt8) (fun x => [(0, .v (.int .i64 n)), (3, .v (.int .u64 x.1)), (4, .v (.str x.2))]) (fun _ => []) (fun _ => Heap.empty)
  (fun x => x.1 < 18446744073709551616 ∧ ((x.2 = [] ∧ x.1 = n.natAbs) ∨ (x.2 ≠ [] ∧ digN n.natAbs = (if x.1 = 0 then [] else digN x.1) ++ x.2))) (fun x => x.1 + (if x.2 = [] then 1 else 0))
def kFmtInt (xs : List IV) (h : Heap) (K : IV → Heap → Prop) : Prop := match xs with
  | [.int .i64 n] => (-9223372036854775808 ≤ n ∧ n ≤ 9223372036854775807) ∧ K (.str (txt n)) h
  | _ => False
set_option maxRecDepth 100000 in
theorem vFmtInt (n : Int) (h : Heap) (Q : IV → Heap → Prop) : dF (stdS cText) env 39 noU (ic1 6 (fiInv n)) noI [.int .i64 n] h Q = (
  brS (decide (n < (0 : Int)))
 ((∃ (x : Nat × List UInt8),
 some (TV.v (IV.int IntKind.i64 n)) = some (TV.v (IV.int IntKind.i64 n)) ∧
 some (TV.v (IV.int IntKind.u64 (IntKind.wrap IntKind.u64 ((0 : Int) - IntKind.wrap IntKind.u64 n)))) = some (TV.v (IV.int IntKind.u64 (↑(Prod.fst x) : Int))) ∧
 some (TV.v (IV.str [])) = some (TV.v (IV.str (Prod.snd x))) ∧
 Heap.mk PT.nil (0 : Nat) = Heap.mk PT.nil (0 : Nat) ∧
 (Prod.fst x < (18446744073709551616 : Nat) ∧ (Prod.snd x = [] ∧ Prod.fst x = Int.natAbs n ∨ Prod.snd x ≠ [] ∧ digN (Int.natAbs n) = (if Prod.fst x = (0 : Nat) then [] else digN (Prod.fst x)) ++ Prod.snd x)) ∧ True) ∧
 ∀ (x : Nat × List UInt8) (b : FF),
 Prod.fst x < (18446744073709551616 : Nat) ∧ (Prod.snd x = [] ∧ Prod.fst x = Int.natAbs n ∨ Prod.snd x ≠ [] ∧ digN (Int.natAbs n) = (if Prod.fst x = (0 : Nat) then [] else digN (Prod.fst x)) ++ Prod.snd x) →
 brS (decide ((↑(Prod.fst x) : Int) > (0 : Int)))
 (needS (Nat.ble (List.length [UInt8.ofNat (Int.toNat (IntKind.wrap IntKind.u8 (IntKind.wrap IntKind.u64 ((48 : Int) + Int.tmod (↑(Prod.fst x) : Int) (10 : Int)))))] + List.length (Prod.snd x)) (9223372036854775807 : Nat))
 (∃ (x_1 : Nat × List UInt8),
 some (TV.v (IV.int IntKind.i64 n)) = some (TV.v (IV.int IntKind.i64 n)) ∧
 some (TV.v (IV.int IntKind.u64 (IntKind.wrap IntKind.u64 (Int.tdiv (↑(Prod.fst x) : Int) (10 : Int))))) = some (TV.v (IV.int IntKind.u64 (↑(Prod.fst x_1) : Int))) ∧
 some (TV.v (IV.str (UInt8.ofNat (Int.toNat (IntKind.wrap IntKind.u8 (IntKind.wrap IntKind.u64 ((48 : Int) + Int.tmod (↑(Prod.fst x) : Int) (10 : Int))))) :: Prod.snd x))) = some (TV.v (IV.str (Prod.snd x_1))) ∧
 Heap.mk PT.nil (0 : Nat) = Heap.mk PT.nil (0 : Nat) ∧
 (Prod.fst x_1 < (18446744073709551616 : Nat) ∧
 (Prod.snd x_1 = [] ∧ Prod.fst x_1 = Int.natAbs n ∨ Prod.snd x_1 ≠ [] ∧ digN (Int.natAbs n) = (if Prod.fst x_1 = (0 : Nat) then [] else digN (Prod.fst x_1)) ++ Prod.snd x_1)) ∧
 (Prod.fst x_1 + if Prod.snd x_1 = [] then (1 : Nat) else (0 : Nat)) < Prod.fst x + if Prod.snd x = [] then (1 : Nat) else (0 : Nat)))
 (brS (Prod.snd x == [])
 (needS (Nat.ble (List.length [UInt8.ofNat (Int.toNat (IntKind.wrap IntKind.u8 (IntKind.wrap IntKind.u64 ((48 : Int) + Int.tmod (↑(Prod.fst x) : Int) (10 : Int)))))] + List.length (Prod.snd x)) (9223372036854775807 : Nat))
 (∃ (x_1 : Nat × List UInt8),
 some (TV.v (IV.int IntKind.i64 n)) = some (TV.v (IV.int IntKind.i64 n)) ∧
 some (TV.v (IV.int IntKind.u64 (IntKind.wrap IntKind.u64 (Int.tdiv (↑(Prod.fst x) : Int) (10 : Int))))) = some (TV.v (IV.int IntKind.u64 (↑(Prod.fst x_1) : Int))) ∧
 some (TV.v (IV.str (UInt8.ofNat (Int.toNat (IntKind.wrap IntKind.u8 (IntKind.wrap IntKind.u64 ((48 : Int) + Int.tmod (↑(Prod.fst x) : Int) (10 : Int))))) :: Prod.snd x))) = some (TV.v (IV.str (Prod.snd x_1))) ∧
 Heap.mk PT.nil (0 : Nat) = Heap.mk PT.nil (0 : Nat) ∧
 (Prod.fst x_1 < (18446744073709551616 : Nat) ∧
 (Prod.snd x_1 = [] ∧ Prod.fst x_1 = Int.natAbs n ∨ Prod.snd x_1 ≠ [] ∧ digN (Int.natAbs n) = (if Prod.fst x_1 = (0 : Nat) then [] else digN (Prod.fst x_1)) ++ Prod.snd x_1)) ∧
 (Prod.fst x_1 + if Prod.snd x_1 = [] then (1 : Nat) else (0 : Nat)) < Prod.fst x + if Prod.snd x = [] then (1 : Nat) else (0 : Nat)))
 (brS (decide (n < (0 : Int))) (needS (Nat.ble ((1 : Nat) + List.length (Prod.snd x)) (9223372036854775807 : Nat)) (Q (IV.str ((45 : UInt8) :: Prod.snd x)) h)) (Q (IV.str (Prod.snd x)) h))))
 ((∃ (x : Nat × List UInt8),
 some (TV.v (IV.int IntKind.i64 n)) = some (TV.v (IV.int IntKind.i64 n)) ∧
 some (TV.v (IV.int IntKind.u64 (IntKind.wrap IntKind.u64 n))) = some (TV.v (IV.int IntKind.u64 (↑(Prod.fst x) : Int))) ∧
 some (TV.v (IV.str [])) = some (TV.v (IV.str (Prod.snd x))) ∧
 Heap.mk PT.nil (0 : Nat) = Heap.mk PT.nil (0 : Nat) ∧
 (Prod.fst x < (18446744073709551616 : Nat) ∧ (Prod.snd x = [] ∧ Prod.fst x = Int.natAbs n ∨ Prod.snd x ≠ [] ∧ digN (Int.natAbs n) = (if Prod.fst x = (0 : Nat) then [] else digN (Prod.fst x)) ++ Prod.snd x)) ∧ True) ∧
 ∀ (x : Nat × List UInt8) (b : FF),
 Prod.fst x < (18446744073709551616 : Nat) ∧ (Prod.snd x = [] ∧ Prod.fst x = Int.natAbs n ∨ Prod.snd x ≠ [] ∧ digN (Int.natAbs n) = (if Prod.fst x = (0 : Nat) then [] else digN (Prod.fst x)) ++ Prod.snd x) →
 brS (decide ((↑(Prod.fst x) : Int) > (0 : Int)))
 (needS (Nat.ble (List.length [UInt8.ofNat (Int.toNat (IntKind.wrap IntKind.u8 (IntKind.wrap IntKind.u64 ((48 : Int) + Int.tmod (↑(Prod.fst x) : Int) (10 : Int)))))] + List.length (Prod.snd x)) (9223372036854775807 : Nat))
 (∃ (x_1 : Nat × List UInt8),
 some (TV.v (IV.int IntKind.i64 n)) = some (TV.v (IV.int IntKind.i64 n)) ∧
 some (TV.v (IV.int IntKind.u64 (IntKind.wrap IntKind.u64 (Int.tdiv (↑(Prod.fst x) : Int) (10 : Int))))) = some (TV.v (IV.int IntKind.u64 (↑(Prod.fst x_1) : Int))) ∧
 some (TV.v (IV.str (UInt8.ofNat (Int.toNat (IntKind.wrap IntKind.u8 (IntKind.wrap IntKind.u64 ((48 : Int) + Int.tmod (↑(Prod.fst x) : Int) (10 : Int))))) :: Prod.snd x))) = some (TV.v (IV.str (Prod.snd x_1))) ∧
 Heap.mk PT.nil (0 : Nat) = Heap.mk PT.nil (0 : Nat) ∧
 (Prod.fst x_1 < (18446744073709551616 : Nat) ∧
 (Prod.snd x_1 = [] ∧ Prod.fst x_1 = Int.natAbs n ∨ Prod.snd x_1 ≠ [] ∧ digN (Int.natAbs n) = (if Prod.fst x_1 = (0 : Nat) then [] else digN (Prod.fst x_1)) ++ Prod.snd x_1)) ∧
 (Prod.fst x_1 + if Prod.snd x_1 = [] then (1 : Nat) else (0 : Nat)) < Prod.fst x + if Prod.snd x = [] then (1 : Nat) else (0 : Nat)))
 (brS (Prod.snd x == [])
 (needS (Nat.ble (List.length [UInt8.ofNat (Int.toNat (IntKind.wrap IntKind.u8 (IntKind.wrap IntKind.u64 ((48 : Int) + Int.tmod (↑(Prod.fst x) : Int) (10 : Int)))))] + List.length (Prod.snd x)) (9223372036854775807 : Nat))
 (∃ (x_1 : Nat × List UInt8),
 some (TV.v (IV.int IntKind.i64 n)) = some (TV.v (IV.int IntKind.i64 n)) ∧
 some (TV.v (IV.int IntKind.u64 (IntKind.wrap IntKind.u64 (Int.tdiv (↑(Prod.fst x) : Int) (10 : Int))))) = some (TV.v (IV.int IntKind.u64 (↑(Prod.fst x_1) : Int))) ∧
 some (TV.v (IV.str (UInt8.ofNat (Int.toNat (IntKind.wrap IntKind.u8 (IntKind.wrap IntKind.u64 ((48 : Int) + Int.tmod (↑(Prod.fst x) : Int) (10 : Int))))) :: Prod.snd x))) = some (TV.v (IV.str (Prod.snd x_1))) ∧
 Heap.mk PT.nil (0 : Nat) = Heap.mk PT.nil (0 : Nat) ∧
 (Prod.fst x_1 < (18446744073709551616 : Nat) ∧
 (Prod.snd x_1 = [] ∧ Prod.fst x_1 = Int.natAbs n ∨ Prod.snd x_1 ≠ [] ∧ digN (Int.natAbs n) = (if Prod.fst x_1 = (0 : Nat) then [] else digN (Prod.fst x_1)) ++ Prod.snd x_1)) ∧
 (Prod.fst x_1 + if Prod.snd x_1 = [] then (1 : Nat) else (0 : Nat)) < Prod.fst x + if Prod.snd x = [] then (1 : Nat) else (0 : Nat)))
 (brS (decide (n < (0 : Int))) (needS (Nat.ble ((1 : Nat) + List.length (Prod.snd x)) (9223372036854775807 : Nat)) (Q (IV.str ((45 : UInt8) :: Prod.snd x)) h)) (Q (IV.str (Prod.snd x)) h))))) := by kernel_rfl
set_option maxHeartbeats 2000000 in
theorem sFmtInt : ∀ xs h Q, kFmtInt xs h Q → CallW env 39 xs h Q := by
  intro xs h Q hk
  unfold kFmtInt at hk
  split at hk
  · rename_i n
    refine dF_sound (okText) (mp_eq (vFmtInt n h Q) ?_)
    obtain ⟨hb, hk⟩ := hk
    have hu := txt_u n hb
    refine brS_intro (fun c => ?_) (fun c => ?_)
    · rw [decide_eq_true_eq] at c
      rw [if_pos c] at hu
      refine ⟨⟨(n.natAbs, []), (by first | rfl | trivial), by rw [hu], (by first | rfl | trivial), (by first | rfl | trivial), ⟨(by simp only; omega), .inl ⟨rfl, rfl⟩⟩, trivial⟩, fun x _ hx => ?_⟩
      obtain ⟨u, t⟩ := x
      replace hx : fiOk n u t := hx
      have ht := fi_len hb hx
      simp only
      refine brS_intro (fun c1 => ?_) (fun c1 => brS_intro (fun c2 => ?_) (fun c2 => ?_))
      · rw [decide_eq_true_eq] at c1
        have hs := fi_step hx (.inl (by omega))
        exact needS_intro (by rw [Nat.ble_eq]; (try simp); omega) ⟨(u / 10, db u :: t), (by first | rfl | trivial), by show some (TV.v (IV.int .u64 (dw u))) = _; rw [dw_nat hx.1], (by first | rfl | trivial), (by first | rfl | trivial), hs.1, hs.2⟩
      · rw [beq_iff_eq] at c2
        have hs := fi_step hx (.inr c2)
        exact needS_intro (by rw [Nat.ble_eq]; (try simp); omega) ⟨(u / 10, db u :: t), (by first | rfl | trivial), by show some (TV.v (IV.int .u64 (dw u))) = _; rw [dw_nat hx.1], (by first | rfl | trivial), (by first | rfl | trivial), hs.1, hs.2⟩
      · rw [decide_eq_false_iff_not] at c1
        rw [beq_eq_false_iff_ne] at c2
        have hu0 : u = 0 := by omega
        have e : digN n.natAbs = t := by
          rcases hx.2 with q | q
          · exact absurd q.1 c2
          · rw [q.2, if_pos hu0]; rfl
        refine brS_intro (fun c3 => needS_intro (by rw [Nat.ble_eq]; (try simp); omega) ?_) (fun c3 => ?_)
        · rw [decide_eq_true_eq] at c3
          rw [txt_neg c3, e] at hk
          exact hk
        · rw [decide_eq_false_iff_not] at c3
          rw [txt_nn (by omega), e] at hk
          exact hk
    · rw [decide_eq_false_iff_not] at c
      rw [if_neg c] at hu
      refine ⟨⟨(n.natAbs, []), (by first | rfl | trivial), by rw [hu], (by first | rfl | trivial), (by first | rfl | trivial), ⟨(by simp only; omega), .inl ⟨rfl, rfl⟩⟩, trivial⟩, fun x _ hx => ?_⟩
      obtain ⟨u, t⟩ := x
      replace hx : fiOk n u t := hx
      have ht := fi_len hb hx
      simp only
      refine brS_intro (fun c1 => ?_) (fun c1 => brS_intro (fun c2 => ?_) (fun c2 => ?_))
      · rw [decide_eq_true_eq] at c1
        have hs := fi_step hx (.inl (by omega))
        exact needS_intro (by rw [Nat.ble_eq]; (try simp); omega) ⟨(u / 10, db u :: t), (by first | rfl | trivial), by show some (TV.v (IV.int .u64 (dw u))) = _; rw [dw_nat hx.1], (by first | rfl | trivial), (by first | rfl | trivial), hs.1, hs.2⟩
      · rw [beq_iff_eq] at c2
        have hs := fi_step hx (.inr c2)
        exact needS_intro (by rw [Nat.ble_eq]; (try simp); omega) ⟨(u / 10, db u :: t), (by first | rfl | trivial), by show some (TV.v (IV.int .u64 (dw u))) = _; rw [dw_nat hx.1], (by first | rfl | trivial), (by first | rfl | trivial), hs.1, hs.2⟩
      · rw [decide_eq_false_iff_not] at c1
        rw [beq_eq_false_iff_ne] at c2
        have hu0 : u = 0 := by omega
        have e : digN n.natAbs = t := by
          rcases hx.2 with q | q
          · exact absurd q.1 c2
          · rw [q.2, if_pos hu0]; rfl
        refine brS_intro (fun c3 => needS_intro (by rw [Nat.ble_eq]; (try simp); omega) ?_) (fun c3 => ?_)
        · rw [decide_eq_true_eq] at c3
          rw [txt_neg c3, e] at hk
          exact hk
        · rw [decide_eq_false_iff_not] at c3
          rw [txt_nn (by omega), e] at hk
          exact hk
  · exact hk.elim
def cFmtInt := addC 39 kFmtInt cText
theorem okFmtInt : Sound env cFmtInt := sound_add sFmtInt (okText)

def kRegi (xs : List IV) (h : Heap) (K : IV → Heap → Prop) : Prop := match xs with
  | [.str s] => ∀ v : Int, (-9223372036854775808 ≤ v ∧ v ≤ 9223372036854775807) → (∀ n : Int, 0 ≤ n → n ≤ 7 → s = 114 :: txt n → v = n) → K (.int .i64 v) h
  | _ => False
set_option maxRecDepth 100000 in
theorem vRegi (s : List UInt8) (h : Heap) (Q : IV → Heap → Prop) : dF (stdS cFmtInt) env 31 noU noI noI [.str s] h Q = (
  brS ((↑(List.length s) : Int) != (2 : Int)) (Q (IV.int IntKind.i64 (-1 : Int)) h)
 (chrS s (0 : Nat) fun (c0 : Int) =>
 brS (c0 != (114 : Int)) (Q (IV.int IntKind.i64 (-1 : Int)) h)
 (chrS s (1 : Nat) fun (c1 : Int) =>
 brS (decide (c1 < (48 : Int))) (Q (IV.int IntKind.i64 (-1 : Int)) h)
 (chrS s (1 : Nat) fun (c2 : Int) =>
 brS (decide (c2 > (55 : Int))) (Q (IV.int IntKind.i64 (-1 : Int)) h) (chrS s (1 : Nat) fun (c3 : Int) => Q (IV.int IntKind.i64 (IntKind.wrap IntKind.i64 (IntKind.wrap IntKind.u8 (c3 - (48 : Int))))) h))))) := by kernel_rfl
theorem sRegi : ∀ xs h Q, kRegi xs h Q → CallW env 31 xs h Q := by
  intro xs h Q hk
  unfold kRegi at hk
  split at hk
  · rename_i s
    refine dF_sound (okFmtInt) (mp_eq (vRegi s h Q) ?_)
    have hs : ∀ n : Int, 0 ≤ n → n ≤ 7 → s = 114 :: txt n → ∃ y : UInt8, s = [114, y] ∧ (y.toNat : Int) = 48 + n := fun n h0 h7 e => ⟨_, by rw [e, txt_nn h0, digN_lt (by omega)], by rw [(isD_of (by omega)).2]; omega⟩
    have no : (∀ y : UInt8, s = [114, y] → 48 ≤ y.toNat → y.toNat ≤ 55 → False) → Q (IV.int IntKind.i64 (-1)) h := fun hn => hk (-1) (by omega) fun n h0 h7 e => by
      obtain ⟨y, e2, ey⟩ := hs n h0 h7 e
      exact (hn y e2 (by omega) (by omega)).elim
    refine brS_intro (fun c => no fun y e _ _ => ?_) (fun c => ?_)
    · rw [e] at c; simp at c
    · rw [bne_eq_false_iff_eq] at c
      have h2 : s.length = 2 := by omega
      refine chr_at (by omega) (brS_intro (fun c1 => no fun y e _ _ => ?_) (fun c1 => chr_at (by omega) (brS_intro (fun c2 => no fun y e _ _ => ?_) (fun c2 => chr_at (by omega) (brS_intro (fun c3 => no fun y e _ _ => ?_) (fun c3 => chr_at (by omega) ?_))))))
      · subst e; simp at c1
      · subst e; simp at c2; omega
      · subst e; simp at c3; omega
      · rw [decide_eq_false_iff_not] at c2 c3
        have hv : IntKind.i64.wrap (IntKind.u8.wrap ((s[1].toNat : Int) - 48)) = (s[1].toNat : Int) - 48 := by rw [u8_in (by omega), IntWalk.i64_in _ (by omega)]
        rw [hv]
        refine hk _ (by omega) fun n h0 h7 e => ?_
        obtain ⟨y, e2, ey⟩ := hs n h0 h7 e
        subst e2
        show (y.toNat : Int) - 48 = n
        omega
  · exact hk.elim
def cRegi := addC 31 kRegi cFmtInt
theorem okRegi : Sound env cRegi := sound_add sRegi (okFmtInt)

def wpA (s : List UInt8) : Inv' := atC [(4, .v (.str s)), (5, .v (.bool (ngS s)))] [] Heap.empty
def wpB (s : List UInt8) : Inv' := atC [(4, .v (.str (tlS s))), (5, .v (.bool (ngS s)))] [] Heap.empty
def wpC (s : List UInt8) : Inv' := atP ((tlS s).length ≤ 19) [(4, .v (.str (tlS s))), (5, .v (.bool (ngS s)))] [] Heap.empty
def wpInv (s : List UInt8) : Inv' := atX (Nat × Int) (fun x => [(4, .v (.str (tlS s))), (5, .v (.bool (ngS s))), (6, .v (.int .u64 x.2)), (7, .v (.int .i64 x.1))]) (fun _ => []) (fun _ => Heap.empty)
  (fun x => (x.1 ≤ (tlS s).length ∧ (tlS s).length ≤ 19) ∧ okAt s x.1 x.2) (fun x => (tlS s).length - x.1)
def wpD (s : List UInt8) : Inv' := atX Int (fun a => [(5, .v (.bool (ngS s))), (6, .v (.int .u64 a))]) (fun _ => []) (fun _ => Heap.empty) (fun a => okAt s (tlS s).length a) (fun _ => 0)
def kWParse (xs : List IV) (h : Heap) (K : IV → Heap → Prop) : Prop := match xs with
  | [.str s] => ∀ (v : Int) (b : Bool), (-9223372036854775808 ≤ v ∧ v ≤ 9223372036854775807) → (∀ n : Int, (-9223372036854775808 ≤ n ∧ n ≤ 9223372036854775807) → s = txt n → v = n ∧ b = true) → K (.tuple [.int .i64 v, .bool b]) h
  | _ => False
set_option maxRecDepth 100000 in
theorem vWParse (s : List UInt8) (h : Heap) (Q : IV → Heap → Prop) : dF (stdS cRegi) env 32 noU (ic1 10 (wpInv s)) (icS (icA 4 (wpA s) (icA 6 (wpB s) (icA 8 (wpC s) (ic1 15 (wpD s)))))) [.str s] h Q = (
  brS (decide ((↑(List.length s) : Int) > (0 : Int)))
 (chrS s (0 : Nat) fun (c0 : Int) => some (TV.v (IV.str s)) = some (TV.v (IV.str s)) ∧ some (TV.v (IV.bool (c0 == (45 : Int)))) = some (TV.v (IV.bool (ngS s))) ∧ Heap.mk PT.nil (0 : Nat) = Heap.mk PT.nil (0 : Nat) ∧ True ∧ True)
 (some (TV.v (IV.str s)) = some (TV.v (IV.str s)) ∧ some (TV.v (IV.bool false)) = some (TV.v (IV.bool (ngS s))) ∧ Heap.mk PT.nil (0 : Nat) = Heap.mk PT.nil (0 : Nat) ∧ True ∧ True) ∧
 (∀ (x : Unit) (b : FF),
 True →
 brS (ngS s)
 (needS (true && (decide ((1 : Int) ≤ (↑(List.length s) : Int)) && decide ((↑(List.length s) : Int) ≤ (↑(List.length s) : Int))))
 (some (TV.v (IV.str (List.take (Int.toNat (↑(List.length s) : Int) - (1 : Nat)) (List.drop (1 : Nat) s)))) = some (TV.v (IV.str (tlS s))) ∧
 some (TV.v (IV.bool (ngS s))) = some (TV.v (IV.bool (ngS s))) ∧ Heap.mk PT.nil (0 : Nat) = Heap.mk PT.nil (0 : Nat) ∧ True ∧ True))
 (some (TV.v (IV.str s)) = some (TV.v (IV.str (tlS s))) ∧ some (TV.v (IV.bool (ngS s))) = some (TV.v (IV.bool (ngS s))) ∧ Heap.mk PT.nil (0 : Nat) = Heap.mk PT.nil (0 : Nat) ∧ True ∧ True)) ∧
 (∀ (x : Unit) (b : FF),
 True →
 brS (decide ((↑(List.length (tlS s)) : Int) < (1 : Int))) (Q (IV.tuple [IV.int IntKind.i64 (0 : Int), IV.bool false]) h)
 (brS (decide ((↑(List.length (tlS s)) : Int) > (19 : Int))) (Q (IV.tuple [IV.int IntKind.i64 (0 : Int), IV.bool false]) h)
 (chrS (tlS s) (0 : Nat) fun (c1 : Int) =>
 brS (c1 == (48 : Int))
 (brS (decide ((↑(List.length (tlS s)) : Int) > (1 : Int))) (Q (IV.tuple [IV.int IntKind.i64 (0 : Int), IV.bool false]) h)
 (brS (ngS s) (Q (IV.tuple [IV.int IntKind.i64 (0 : Int), IV.bool false]) h)
 (some (TV.v (IV.str (tlS s))) = some (TV.v (IV.str (tlS s))) ∧
 some (TV.v (IV.bool (ngS s))) = some (TV.v (IV.bool (ngS s))) ∧ Heap.mk PT.nil (0 : Nat) = Heap.mk PT.nil (0 : Nat) ∧ Nat.le (List.length (tlS s)) (19 : Nat) ∧ True)))
 (some (TV.v (IV.str (tlS s))) = some (TV.v (IV.str (tlS s))) ∧
 some (TV.v (IV.bool (ngS s))) = some (TV.v (IV.bool (ngS s))) ∧ Heap.mk PT.nil (0 : Nat) = Heap.mk PT.nil (0 : Nat) ∧ Nat.le (List.length (tlS s)) (19 : Nat) ∧ True)))) ∧
 (∀ (x : Unit) (b : FF),
 List.length (tlS s) ≤ (19 : Nat) →
 (∃ (x : Nat × Int),
 some (TV.v (IV.str (tlS s))) = some (TV.v (IV.str (tlS s))) ∧
 some (TV.v (IV.bool (ngS s))) = some (TV.v (IV.bool (ngS s))) ∧
 some (TV.v (IV.int IntKind.u64 (0 : Int))) = some (TV.v (IV.int IntKind.u64 (Prod.snd x))) ∧
 some (TV.v (IV.int IntKind.i64 (0 : Int))) = some (TV.v (IV.int IntKind.i64 (↑(Prod.fst x) : Int))) ∧
 Heap.mk PT.nil (0 : Nat) = Heap.mk PT.nil (0 : Nat) ∧
 ((Prod.fst x ≤ List.length (tlS s) ∧ List.length (tlS s) ≤ (19 : Nat)) ∧
 ((0 : Int) ≤ Prod.snd x ∧ Prod.snd x < (18446744073709551616 : Int)) ∧
 ∀ (n : Int), (-9223372036854775808 : Int) ≤ n ∧ n ≤ (9223372036854775807 : Int) → s = txt n → Prod.snd x = (↑(val (List.take (Prod.fst x) (tlS s))) : Int)) ∧
 True) ∧
 ∀ (x : Nat × Int) (b : FF),
 (Prod.fst x ≤ List.length (tlS s) ∧ List.length (tlS s) ≤ (19 : Nat)) ∧ okAt s (Prod.fst x) (Prod.snd x) →
 brS (decide ((↑(Prod.fst x) : Int) < (↑(List.length (tlS s)) : Int)))
 (chrS (tlS s) (Int.toNat (↑(Prod.fst x) : Int)) fun (c2 : Int) =>
 brS (decide (c2 < (48 : Int))) (Q (IV.tuple [IV.int IntKind.i64 (0 : Int), IV.bool false]) h)
 (chrS (tlS s) (Int.toNat (↑(Prod.fst x) : Int)) fun (c3 : Int) =>
 brS (decide (c3 > (57 : Int))) (Q (IV.tuple [IV.int IntKind.i64 (0 : Int), IV.bool false]) h)
 (chrS (tlS s) (Int.toNat (↑(Prod.fst x) : Int)) fun (c4 : Int) =>
 ∃ (x_1 : Nat × Int),
 some (TV.v (IV.str (tlS s))) = some (TV.v (IV.str (tlS s))) ∧
 some (TV.v (IV.bool (ngS s))) = some (TV.v (IV.bool (ngS s))) ∧
 some (TV.v (IV.int IntKind.u64 (IntKind.wrap IntKind.u64 (IntKind.wrap IntKind.u64 ((10 : Int) * Prod.snd x) + IntKind.wrap IntKind.u64 (IntKind.wrap IntKind.u8 (c4 - (48 : Int))))))) =
 some (TV.v (IV.int IntKind.u64 (Prod.snd x_1))) ∧
 some (TV.v (IV.int IntKind.i64 (IntKind.wrap IntKind.i64 ((↑(Prod.fst x) : Int) + (1 : Int))))) = some (TV.v (IV.int IntKind.i64 (↑(Prod.fst x_1) : Int))) ∧
 Heap.mk PT.nil (0 : Nat) = Heap.mk PT.nil (0 : Nat) ∧
 ((Prod.fst x_1 ≤ List.length (tlS s) ∧ List.length (tlS s) ≤ (19 : Nat)) ∧
 ((0 : Int) ≤ Prod.snd x_1 ∧ Prod.snd x_1 < (18446744073709551616 : Int)) ∧
 ∀ (n : Int), (-9223372036854775808 : Int) ≤ n ∧ n ≤ (9223372036854775807 : Int) → s = txt n → Prod.snd x_1 = (↑(val (List.take (Prod.fst x_1) (tlS s))) : Int)) ∧
 List.length (tlS s) - Prod.fst x_1 < List.length (tlS s) - Prod.fst x)))
 (∃ (x_1 : Int),
 some (TV.v (IV.bool (ngS s))) = some (TV.v (IV.bool (ngS s))) ∧
 some (TV.v (IV.int IntKind.u64 (Prod.snd x))) = some (TV.v (IV.int IntKind.u64 x_1)) ∧
 Heap.mk PT.nil (0 : Nat) = Heap.mk PT.nil (0 : Nat) ∧
 (((0 : Int) ≤ x_1 ∧ x_1 < (18446744073709551616 : Int)) ∧
 ∀ (n : Int), (-9223372036854775808 : Int) ≤ n ∧ n ≤ (9223372036854775807 : Int) → s = txt n → x_1 = (↑(val (List.take (List.length (tlS s)) (tlS s))) : Int)) ∧
 True)) ∧
 (∀ (x : Int) (b : FF),
 okAt s (List.length (tlS s)) x →
 brS (ngS s)
 (brS (decide (x > (9223372036854775808 : Int))) (Q (IV.tuple [IV.int IntKind.i64 (0 : Int), IV.bool false]) h)
 (brS (ngS s) (Q (IV.tuple [IV.int IntKind.i64 (IntKind.wrap IntKind.i64 (IntKind.wrap IntKind.u64 ((0 : Int) - x))), IV.bool true]) h) (Q (IV.tuple [IV.int IntKind.i64 (IntKind.wrap IntKind.i64 x), IV.bool true]) h)))
 (brS (decide (x > (9223372036854775807 : Int))) (Q (IV.tuple [IV.int IntKind.i64 (0 : Int), IV.bool false]) h)
 (brS (ngS s) (Q (IV.tuple [IV.int IntKind.i64 (IntKind.wrap IntKind.i64 (IntKind.wrap IntKind.u64 ((0 : Int) - x))), IV.bool true]) h) (Q (IV.tuple [IV.int IntKind.i64 (IntKind.wrap IntKind.i64 x), IV.bool true]) h)))) ∧
 True) := by kernel_rfl
set_option maxHeartbeats 2000000 in
theorem sWParse : ∀ xs h Q, kWParse xs h Q → CallW env 32 xs h Q := by
  intro xs h Q hk
  unfold kWParse at hk
  split at hk
  · rename_i s
    refine dF_sound (okRegi) (mp_eq (vWParse s h Q) ?_)
    have fls : (∀ n : Int, (-9223372036854775808 ≤ n ∧ n ≤ 9223372036854775807) → s = txt n → False) → Q (IV.tuple [IV.int IntKind.i64 0, IV.bool false]) h := fun hn => hk 0 false (by omega) fun n h e => (hn n h e).elim
    refine ⟨?_, fun _ _ _ => ?_, fun _ _ _ => ?_, fun _ _ h19 => ⟨⟨(0, 0), (by first | rfl | trivial), (by first | rfl | trivial), (by first | rfl | trivial), (by first | rfl | trivial), (by first | rfl | trivial), ⟨⟨Nat.zero_le _, h19⟩, okAt_zero s⟩, trivial⟩, fun x _ hx => ?_⟩, fun a _ ha => ?_, trivial⟩
    · refine brS_intro (fun c => ?_) (fun c => ?_)
      · rw [decide_eq_true_eq] at c
        refine chr_at (i := 0) (by omega) ⟨(by first | rfl | trivial), ?_, (by first | rfl | trivial), trivial, trivial⟩
        rw [ng_at]
      · rw [decide_eq_false_iff_not] at c
        have e : s = [] := List.eq_nil_of_length_eq_zero (by omega)
        subst e
        exact ⟨(by first | rfl | trivial), (by first | rfl | trivial), (by first | rfl | trivial), trivial, trivial⟩
    · refine brS_intro (fun c => ?_) (fun c => ?_)
      · have hp : 0 < s.length := by
          cases s with
          | nil => simp [ngS] at c
          | cons b r => simp
        refine needS_intro (by simp; omega) ⟨?_, (by first | rfl | trivial), (by first | rfl | trivial), trivial, trivial⟩
        unfold tlS
        rw [c, if_pos rfl, List.take_of_length_le (by simp)]
      · refine ⟨?_, (by first | rfl | trivial), (by first | rfl | trivial), trivial, trivial⟩
        unfold tlS
        rw [c]
        rfl
    · refine brS_intro (fun c => fls fun n hn e => ?_) (fun c => brS_intro (fun c1 => fls fun n hn e => ?_) (fun c1 => ?_))
      · rw [decide_eq_true_eq] at c
        have := tl_ne e
        omega
      · rw [decide_eq_true_eq] at c1
        have := tl_19 hn e
        omega
      · rw [decide_eq_false_iff_not] at c c1
        have h19 : (tlS s).length ≤ 19 := by omega
        refine chr_at (i := 0) (by omega) (brS_intro (fun c2 => brS_intro (fun c3 => fls fun n hn e => ?_) (fun c3 => brS_intro (fun c4 => fls fun n hn e => ?_) (fun c4 => ⟨(by first | rfl | trivial), (by first | rfl | trivial), (by first | rfl | trivial), h19, trivial⟩))) (fun c2 => ⟨(by first | rfl | trivial), (by first | rfl | trivial), (by first | rfl | trivial), h19, trivial⟩))
        · rw [beq_iff_eq] at c2
          rw [decide_eq_true_eq] at c3
          have hz := tl_48 e (by omega) (by omega)
          subst hz
          rw [e, (txt_ng 0).2, digN_lt (by decide)] at c3
          simp at c3
        · rw [beq_iff_eq] at c2
          have hz := tl_48 e (by omega) (by omega)
          subst hz
          rw [e, (txt_ng 0).1] at c4
          simp at c4
    · obtain ⟨i, a⟩ := x
      obtain ⟨⟨hi, h19⟩, ha⟩ := hx
      simp only at hi ha ⊢
      rw [Int.toNat_natCast]
      refine brS_intro (fun c => ?_) (fun c => ?_)
      · rw [decide_eq_true_eq] at c
        have hlt : i < (tlS s).length := by omega
        refine chr_at hlt (brS_intro (fun c1 => fls fun n hn e => ?_) (fun c1 => chr_at hlt (brS_intro (fun c2 => fls fun n hn e => ?_) (fun c2 => chr_at hlt ⟨(i + 1, _), (by first | rfl | trivial), (by first | rfl | trivial), (by first | rfl | trivial), by rw [IntWalk.i64_in _ (by omega)]; rfl, (by first | rfl | trivial), ⟨⟨hlt, h19⟩, okAt_step ha hlt (Int.mul_comm _ _) (by simpa using c1) (by simpa using c2)⟩, by simp only; omega⟩))))
        · have := tl_dig e hlt
          rw [decide_eq_true_eq] at c1
          omega
        · have := tl_dig e hlt
          rw [decide_eq_true_eq] at c2
          omega
      · rw [decide_eq_false_iff_not] at c
        have : i = (tlS s).length := by omega
        subst this
        exact ⟨a, (by first | rfl | trivial), (by first | rfl | trivial), (by first | rfl | trivial), ha, trivial⟩
    · have hv : ∀ n : Int, (-9223372036854775808 ≤ n ∧ n ≤ 9223372036854775807) → s = txt n → a = n.natAbs ∧ ngS s = decide (n < 0) := fun n hn e => by
        have := ha.2 n hn e
        rw [List.take_length] at this
        rw [this, e, (txt_ng n).2, val_digN]
        exact ⟨rfl, (txt_ng n).1⟩
      have hr := ha.1
      refine brS_intro (fun c => ?_) (fun c => ?_)
      · rw [c, brS_t]
        refine brS_intro (fun c1 => fls fun n hn e => ?_) (fun c1 => hk _ _ (by have := i64_rng (IntKind.u64.wrap (0 - a)); omega) fun n hn e => ?_)
        · rw [decide_eq_true_eq] at c1
          obtain ⟨h1, h2⟩ := hv n hn e
          omega
        · obtain ⟨h1, h2⟩ := hv n hn e
          rw [c] at h2
          have hn0 : n < 0 := by simpa using h2.symm
          refine ⟨?_, rfl⟩
          rw [neg_w (by omega)]
          omega
      · rw [c, brS_f]
        refine brS_intro (fun c1 => fls fun n hn e => ?_) (fun c1 => hk _ _ (by have := i64_rng a; omega) fun n hn e => ?_)
        · rw [decide_eq_true_eq] at c1
          obtain ⟨h1, h2⟩ := hv n hn e
          rw [c] at h2
          have hn0 : ¬ n < 0 := by simpa using h2.symm
          omega
        · obtain ⟨h1, h2⟩ := hv n hn e
          rw [c] at h2
          have hn0 : ¬ n < 0 := by simpa using h2.symm
          refine ⟨?_, rfl⟩
          rw [IntWalk.i64_in _ (by omega)]
          omega
  · exact hk.elim
def cWParse := addC 32 kWParse cRegi
theorem okWParse : Sound env cWParse := sound_add sWParse (okRegi)

def ngN (s : List UInt8) : Nat := if ngS s then 1 else 0
def piA (s : List UInt8) : Inv' := atC [(0, .v (.str s)), (4, .v (.int .u64 0)), (5, .v (.int .i64 (ngN s)))] [] Heap.empty
def piB (s : List UInt8) : Inv' := atP (ngN s ≤ s.length ∧ s.length ≤ 20) [(0, .v (.str s)), (4, .v (.int .u64 0)), (5, .v (.int .i64 (ngN s)))] [] Heap.empty
def piInv (s : List UInt8) : Inv' := atX (Nat × Int) (fun x => [(0, .v (.str s)), (4, .v (.int .u64 x.2)), (5, .v (.int .i64 (ngN s))), (6, .v (.int .i64 ((ngN s + x.1 : Nat) : Int)))]) (fun _ => []) (fun _ => Heap.empty)
  (fun x => (ngN s + x.1 ≤ s.length ∧ s.length ≤ 20) ∧ okAt s x.1 x.2) (fun x => s.length - (ngN s + x.1))
def piD (s : List UInt8) : Inv' := atX Int (fun a => [(0, .v (.str s)), (4, .v (.int .u64 a)), (5, .v (.int .i64 (ngN s)))]) (fun _ => []) (fun _ => Heap.empty) (fun a => okAt s (tlS s).length a) (fun _ => 0)
def kPInt (xs : List IV) (h : Heap) (K : IV → Heap → Prop) : Prop := match xs with
  | [.str s] => ∀ (v : Int) (b : Bool), (-9223372036854775808 ≤ v ∧ v ≤ 9223372036854775807) → (∀ n : Int, (-9223372036854775808 ≤ n ∧ n ≤ 9223372036854775807) → s = txt n → v = n ∧ b = true) → K (.tuple [.int .i64 v, .bool b]) h
  | _ => False
set_option maxRecDepth 100000 in
theorem vPInt (s : List UInt8) (h : Heap) (Q : IV → Heap → Prop) : dF (stdS cWParse) env 41 noU (ic1 9 (piInv s)) (icS (icA 6 (piA s) (icA 8 (piB s) (ic1 14 (piD s))))) [.str s] h Q = (
  brS (decide ((↑(List.length s) : Int) > (0 : Int)))
 (chrS s (0 : Nat) fun (c0 : Int) =>
 brS (c0 == (45 : Int))
 (some (TV.v (IV.str s)) = some (TV.v (IV.str s)) ∧
 some (TV.v (IV.int IntKind.u64 (0 : Int))) = some (TV.v (IV.int IntKind.u64 (0 : Int))) ∧
 some (TV.v (IV.int IntKind.i64 (1 : Int))) = some (TV.v (IV.int IntKind.i64 (↑(ngN s) : Int))) ∧ Heap.mk PT.nil (0 : Nat) = Heap.mk PT.nil (0 : Nat) ∧ True ∧ True)
 (some (TV.v (IV.str s)) = some (TV.v (IV.str s)) ∧
 some (TV.v (IV.int IntKind.u64 (0 : Int))) = some (TV.v (IV.int IntKind.u64 (0 : Int))) ∧
 some (TV.v (IV.int IntKind.i64 (0 : Int))) = some (TV.v (IV.int IntKind.i64 (↑(ngN s) : Int))) ∧ Heap.mk PT.nil (0 : Nat) = Heap.mk PT.nil (0 : Nat) ∧ True ∧ True))
 (some (TV.v (IV.str s)) = some (TV.v (IV.str s)) ∧
 some (TV.v (IV.int IntKind.u64 (0 : Int))) = some (TV.v (IV.int IntKind.u64 (0 : Int))) ∧
 some (TV.v (IV.int IntKind.i64 (0 : Int))) = some (TV.v (IV.int IntKind.i64 (↑(ngN s) : Int))) ∧ Heap.mk PT.nil (0 : Nat) = Heap.mk PT.nil (0 : Nat) ∧ True ∧ True) ∧
 (∀ (x : Unit) (b : FF),
 True →
 brS ((↑(List.length s) : Int) == (↑(ngN s) : Int)) (Q (IV.tuple [IV.int IntKind.i64 (0 : Int), IV.bool false]) h)
 (brS (decide ((↑(List.length s) : Int) > (20 : Int))) (Q (IV.tuple [IV.int IntKind.i64 (0 : Int), IV.bool false]) h)
 (some (TV.v (IV.str s)) = some (TV.v (IV.str s)) ∧
 some (TV.v (IV.int IntKind.u64 (0 : Int))) = some (TV.v (IV.int IntKind.u64 (0 : Int))) ∧
 some (TV.v (IV.int IntKind.i64 (↑(ngN s) : Int))) = some (TV.v (IV.int IntKind.i64 (↑(ngN s) : Int))) ∧ Heap.mk PT.nil (0 : Nat) = Heap.mk PT.nil (0 : Nat) ∧ (ngN s ≤ List.length s ∧ List.length s ≤ (20 : Nat)) ∧ True))) ∧
 (∀ (x : Unit) (b : FF),
 ngN s ≤ List.length s ∧ List.length s ≤ (20 : Nat) →
 (∃ (x : Nat × Int),
 some (TV.v (IV.str s)) = some (TV.v (IV.str s)) ∧
 some (TV.v (IV.int IntKind.u64 (0 : Int))) = some (TV.v (IV.int IntKind.u64 (Prod.snd x))) ∧
 some (TV.v (IV.int IntKind.i64 (↑(ngN s) : Int))) = some (TV.v (IV.int IntKind.i64 (↑(ngN s) : Int))) ∧
 some (TV.v (IV.int IntKind.i64 (↑(ngN s) : Int))) = some (TV.v (IV.int IntKind.i64 (↑(ngN s + Prod.fst x) : Int))) ∧
 Heap.mk PT.nil (0 : Nat) = Heap.mk PT.nil (0 : Nat) ∧
 ((ngN s + Prod.fst x ≤ List.length s ∧ List.length s ≤ (20 : Nat)) ∧
 ((0 : Int) ≤ Prod.snd x ∧ Prod.snd x < (18446744073709551616 : Int)) ∧
 ∀ (n : Int), (-9223372036854775808 : Int) ≤ n ∧ n ≤ (9223372036854775807 : Int) → s = txt n → Prod.snd x = (↑(val (List.take (Prod.fst x) (tlS s))) : Int)) ∧
 True) ∧
 ∀ (x : Nat × Int) (b : FF),
 (ngN s + Prod.fst x ≤ List.length s ∧ List.length s ≤ (20 : Nat)) ∧ okAt s (Prod.fst x) (Prod.snd x) →
 brS (decide ((↑(ngN s + Prod.fst x) : Int) < (↑(List.length s) : Int)))
 (chrS s (Int.toNat (↑(ngN s + Prod.fst x) : Int)) fun (c1 : Int) =>
 brS (decide (c1 < (48 : Int))) (Q (IV.tuple [IV.int IntKind.i64 (0 : Int), IV.bool false]) h)
 (chrS s (Int.toNat (↑(ngN s + Prod.fst x) : Int)) fun (c2 : Int) =>
 brS (decide (c2 > (57 : Int))) (Q (IV.tuple [IV.int IntKind.i64 (0 : Int), IV.bool false]) h)
 (chrS s (Int.toNat (↑(ngN s + Prod.fst x) : Int)) fun (c3 : Int) =>
 ∃ (x_1 : Nat × Int),
 some (TV.v (IV.str s)) = some (TV.v (IV.str s)) ∧
 some (TV.v (IV.int IntKind.u64 (IntKind.wrap IntKind.u64 (IntKind.wrap IntKind.u64 (Prod.snd x * (10 : Int)) + IntKind.wrap IntKind.u64 (IntKind.wrap IntKind.u8 (c3 - (48 : Int))))))) =
 some (TV.v (IV.int IntKind.u64 (Prod.snd x_1))) ∧
 some (TV.v (IV.int IntKind.i64 (↑(ngN s) : Int))) = some (TV.v (IV.int IntKind.i64 (↑(ngN s) : Int))) ∧
 some (TV.v (IV.int IntKind.i64 (IntKind.wrap IntKind.i64 ((↑(ngN s + Prod.fst x) : Int) + (1 : Int))))) = some (TV.v (IV.int IntKind.i64 (↑(ngN s + Prod.fst x_1) : Int))) ∧
 Heap.mk PT.nil (0 : Nat) = Heap.mk PT.nil (0 : Nat) ∧
 ((ngN s + Prod.fst x_1 ≤ List.length s ∧ List.length s ≤ (20 : Nat)) ∧
 ((0 : Int) ≤ Prod.snd x_1 ∧ Prod.snd x_1 < (18446744073709551616 : Int)) ∧
 ∀ (n : Int), (-9223372036854775808 : Int) ≤ n ∧ n ≤ (9223372036854775807 : Int) → s = txt n → Prod.snd x_1 = (↑(val (List.take (Prod.fst x_1) (tlS s))) : Int)) ∧
 List.length s - (ngN s + Prod.fst x_1) < List.length s - (ngN s + Prod.fst x))))
 (∃ (x_1 : Int),
 some (TV.v (IV.str s)) = some (TV.v (IV.str s)) ∧
 some (TV.v (IV.int IntKind.u64 (Prod.snd x))) = some (TV.v (IV.int IntKind.u64 x_1)) ∧
 some (TV.v (IV.int IntKind.i64 (↑(ngN s) : Int))) = some (TV.v (IV.int IntKind.i64 (↑(ngN s) : Int))) ∧
 Heap.mk PT.nil (0 : Nat) = Heap.mk PT.nil (0 : Nat) ∧
 (((0 : Int) ≤ x_1 ∧ x_1 < (18446744073709551616 : Int)) ∧
 ∀ (n : Int), (-9223372036854775808 : Int) ≤ n ∧ n ≤ (9223372036854775807 : Int) → s = txt n → x_1 = (↑(val (List.take (List.length (tlS s)) (tlS s))) : Int)) ∧
 True)) ∧
 (∀ (x : Int) (b : FF),
 okAt s (List.length (tlS s)) x →
 brS ((↑(ngN s) : Int) == (1 : Int))
 (((-9223372036854775808 : Int) ≤ IntKind.wrap IntKind.i64 ((0 : Int) - IntKind.wrap IntKind.i64 x) ∧ IntKind.wrap IntKind.i64 ((0 : Int) - IntKind.wrap IntKind.i64 x) ≤ (9223372036854775807 : Int)) ∧
 Q (IV.tuple [IV.int IntKind.i64 (IntKind.wrap IntKind.i64 ((0 : Int) - IntKind.wrap IntKind.i64 x)), IV.bool (txt (IntKind.wrap IntKind.i64 ((0 : Int) - IntKind.wrap IntKind.i64 x)) == s)]) h)
 (((-9223372036854775808 : Int) ≤ IntKind.wrap IntKind.i64 x ∧ IntKind.wrap IntKind.i64 x ≤ (9223372036854775807 : Int)) ∧
 Q (IV.tuple [IV.int IntKind.i64 (IntKind.wrap IntKind.i64 x), IV.bool (txt (IntKind.wrap IntKind.i64 x) == s)]) h)) ∧
 True) := by kernel_rfl
set_option maxHeartbeats 2000000 in
theorem sPInt : ∀ xs h Q, kPInt xs h Q → CallW env 41 xs h Q := by
  intro xs h Q hk
  unfold kPInt at hk
  split at hk
  · rename_i s
    refine dF_sound (okWParse) (mp_eq (vPInt s h Q) ?_)
    have fls : (∀ n : Int, (-9223372036854775808 ≤ n ∧ n ≤ 9223372036854775807) → s = txt n → False) → Q (IV.tuple [IV.int IntKind.i64 0, IV.bool false]) h := fun hn => hk 0 false (by omega) fun n h e => (hn n h e).elim
    have hN : ngN s ≤ 1 := by unfold ngN; split <;> omega
    have hng : ngN s = if ngS s then 1 else 0 := rfl
    have htl := tl_len s
    rw [← hng] at htl
    refine ⟨?_, fun _ _ _ => ?_, fun _ _ hle => ⟨⟨(0, 0), (by first | rfl | trivial), (by first | rfl | trivial), (by first | rfl | trivial), (by first | rfl | trivial), (by first | rfl | trivial), ⟨hle, okAt_zero s⟩, trivial⟩, fun x _ hx => ?_⟩, fun a _ ha => ?_, trivial⟩
    · refine brS_intro (fun c => ?_) (fun c => ?_)
      · rw [decide_eq_true_eq] at c
        refine chr_at (i := 0) (by omega) ?_
        rw [ng_at]
        refine brS_intro (fun c2 => ⟨(by first | rfl | trivial), (by first | rfl | trivial), by rw [hng, c2]; rfl, (by first | rfl | trivial), trivial, trivial⟩) (fun c2 => ⟨(by first | rfl | trivial), (by first | rfl | trivial), by rw [hng, c2]; rfl, (by first | rfl | trivial), trivial, trivial⟩)
      · rw [decide_eq_false_iff_not] at c
        have e : s = [] := List.eq_nil_of_length_eq_zero (by omega)
        subst e
        exact ⟨(by first | rfl | trivial), (by first | rfl | trivial), (by first | rfl | trivial), (by first | rfl | trivial), trivial, trivial⟩
    · refine brS_intro (fun c => fls fun n hn e => ?_) (fun c => brS_intro (fun c1 => fls fun n hn e => ?_) (fun c1 => ⟨(by first | rfl | trivial), (by first | rfl | trivial), (by first | rfl | trivial), (by first | rfl | trivial), (show ngN s ≤ s.length ∧ s.length ≤ 20 from ⟨?_, by rw [decide_eq_false_iff_not] at c1; omega⟩), trivial⟩))
      · rw [beq_iff_eq] at c
        have := tl_ne e
        omega
      · rw [decide_eq_true_eq] at c1
        have := tl_19 hn e
        omega
      · rw [hng]
        split
        · rename_i q
          cases s with
          | nil => simp [ngS] at q
          | cons b r => simp
        · omega
    · obtain ⟨i, a⟩ := x
      obtain ⟨⟨hi, h20⟩, ha⟩ := hx
      simp only at hi ha ⊢
      rw [Int.toNat_natCast]
      refine brS_intro (fun c => ?_) (fun c => ?_)
      · rw [decide_eq_true_eq] at c
        have hlt : ngN s + i < s.length := by omega
        obtain ⟨hlt2, eg⟩ := tl_get (s := s) (i := i) hlt
        replace eg : s[ngN s + i] = (tlS s)[i] := eg
        refine chr_at hlt (brS_intro (fun c1 => fls fun n hn e => ?_) (fun c1 => chr_at hlt (brS_intro (fun c2 => fls fun n hn e => ?_) (fun c2 => chr_at hlt ?_))))
        · have := tl_dig e hlt2
          rw [decide_eq_true_eq, eg] at c1
          omega
        · have := tl_dig e hlt2
          rw [decide_eq_true_eq, eg] at c2
          omega
        · rw [eg] at c1 c2 ⊢
          exact ⟨(i + 1, _), (by first | rfl | trivial), (by first | rfl | trivial), (by first | rfl | trivial), by rw [IntWalk.i64_in _ (by omega)]; congr 2, (by first | rfl | trivial), ⟨⟨by simp only; omega, h20⟩, okAt_step ha hlt2 rfl (by simpa using c1) (by simpa using c2)⟩, by simp only; omega⟩
      · rw [decide_eq_false_iff_not] at c
        have : i = (tlS s).length := by omega
        subst this
        exact ⟨a, (by first | rfl | trivial), (by first | rfl | trivial), (by first | rfl | trivial), (by first | rfl | trivial), ha, trivial⟩
    · have hv : ∀ n : Int, (-9223372036854775808 ≤ n ∧ n ≤ 9223372036854775807) → s = txt n → a = n.natAbs ∧ ngS s = decide (n < 0) := fun n hn e => by
        have := ha.2 n hn e
        rw [List.take_length] at this
        rw [this, e, (txt_ng n).2, val_digN]
        exact ⟨rfl, (txt_ng n).1⟩
      have hr := ha.1
      refine brS_intro (fun c => ?_) (fun c => ?_)
      · rw [beq_iff_eq] at c
        have hg : ngS s = true := by
          cases q : ngS s with
          | true => rfl
          | false => rw [hng, q] at c; simp at c
        have rng := i64_rng (0 - IntKind.i64.wrap a)
        refine ⟨rng, hk _ _ rng fun n hn e => ?_⟩
        obtain ⟨h1, h2⟩ := hv n hn e
        rw [hg] at h2
        have hn0 : n < 0 := by simpa using h2.symm
        have ev : IntKind.i64.wrap (0 - IntKind.i64.wrap a) = n := by rw [neg_w2 (by omega)]; omega
        exact ⟨ev, by rw [ev, e]; simp⟩
      · rw [beq_eq_false_iff_ne] at c
        have hg : ngS s = false := by
          cases q : ngS s with
          | false => rfl
          | true => rw [hng, q] at c; simp at c
        have rng := i64_rng a
        refine ⟨rng, hk _ _ rng fun n hn e => ?_⟩
        obtain ⟨h1, h2⟩ := hv n hn e
        rw [hg] at h2
        have hn0 : ¬ n < 0 := by simpa using h2.symm
        have ev : IntKind.i64.wrap a = n := by rw [IntWalk.i64_in _ (by omega)]; omega
        exact ⟨ev, by rw [ev, e]; simp⟩
  · exact hk.elim
def cPInt := addC 41 kPInt cWParse
theorem okPInt : Sound env cPInt := sound_add sPInt (okWParse)

def spInv (s : List UInt8) : Inv' := atX Nat (fun i => [(0, .v (.str s)), (4, .v (.int .i64 i))]) (fun _ => []) (fun _ => Heap.empty) (fun i => i ≤ s.length ∧ ∀ b ∈ s.take i, b ≠ 32) (fun i => s.length - i)
def spA (s : List UInt8) : Inv' := atC [(0, .v (.str s)), (4, .v (.int .i64 (nameS s).length))] [] Heap.empty
def spB (s : List UInt8) : Inv' := atP ((nameS s).length < s.length) [(0, .v (.str s)), (4, .v (.int .i64 (nameS s).length)), (5, .v (.str (nameS s)))] [] Heap.empty
def spInv2 (s : List UInt8) : Inv' := .or
  (atX (Nat × Nat) (fun x => [(0, .v (.str s)), (5, .v (.str (nameS s))), (6, .v .nilslice), (7, .v (.int .i64 x.1)), (8, .v (.int .i64 x.2))]) (fun _ => []) (fun _ => Heap.empty)
    (fun x => (x.1 ≤ x.2 ∧ x.2 ≤ s.length) ∧ cpl (cutS s x.1 x.2) (s.drop x.2) = cpl [] (restS s)) (fun x => s.length - x.2))
  (atX (Nat × Nat × List (List UInt8)) (fun x => [(0, .v (.str s)), (5, .v (.str (nameS s))), (6, .v (.vslice (some 0) x.2.2.length x.2.2.length 1 (x.2.2.map IV.str))), (7, .v (.int .i64 x.1)), (8, .v (.int .i64 x.2.1))]) (fun _ => []) (fun x => ⟨.node .nil (some (.tip (x.2.2).length)) .nil, 1⟩)
    (fun x => (x.1 ≤ x.2.1 ∧ x.2.1 ≤ s.length ∧ x.2.2.length ≤ x.2.1) ∧ x.2.2 ++ cpl (cutS s x.1 x.2.1) (s.drop x.2.1) = cpl [] (restS s)) (fun x => s.length - x.2.1))
def spC (s : List UInt8) : Inv' := .or
  (atX Nat (fun x => [(0, .v (.str s)), (5, .v (.str (nameS s))), (6, .v .nilslice), (7, .v (.int .i64 x))]) (fun _ => []) (fun _ => Heap.empty)
    (fun x => (x ≤ s.length ∧ (nameS s).length < s.length) ∧ [s.drop x] = cpl [] (restS s)) (fun x => 0))
  (atX (Nat × List (List UInt8)) (fun x => [(0, .v (.str s)), (5, .v (.str (nameS s))), (6, .v (.vslice (some 0) x.2.length x.2.length 1 (x.2.map IV.str))), (7, .v (.int .i64 x.1))]) (fun _ => []) (fun x => ⟨.node .nil (some (.tip (x.2).length)) .nil, 1⟩)
    (fun x => (x.1 ≤ s.length ∧ (nameS s).length < s.length ∧ x.2.length ≤ s.length) ∧ x.2 ++ [s.drop x.1] = cpl [] (restS s)) (fun x => 0))
def kSplit (xs : List IV) (h : Heap) (K : IV → Heap → Prop) : Prop := match xs with
  | [.str s] => s.length ≤ 1000000000000 ∧ K (.tuple [.str (nameS s), .vslice none 0 (pcsS s).length 1 ((pcsS s).map IV.str)]) h
  | _ => False
set_option maxRecDepth 100000 in
theorem vSplit (s : List UInt8) (h : Heap) (Q : IV → Heap → Prop) : dF (stdS cPInt) env 29 noU (icA 3 (spInv s) (ic1 11 (spInv2 s))) (icS (icA 5 (spA s) (icA 8 (spB s) (ic1 17 (spC s))))) [.str s] h Q = (
  ((∃ (x : Nat),
 some (TV.v (IV.str s)) = some (TV.v (IV.str s)) ∧
 some (TV.v (IV.int IntKind.i64 (0 : Int))) = some (TV.v (IV.int IntKind.i64 (↑x : Int))) ∧ Heap.mk PT.nil (0 : Nat) = Heap.mk PT.nil (0 : Nat) ∧ (x ≤ List.length s ∧ ∀ (b : UInt8), b ∈ List.take x s → b ≠ (32 : UInt8)) ∧ True) ∧
 ∀ (x : Nat) (b : FF),
 (x ≤ List.length s ∧ ∀ (b : UInt8), b ∈ List.take x s → b ≠ (32 : UInt8)) →
 brS (decide ((↑x : Int) < (↑(List.length s) : Int)))
 (chrS s (Int.toNat (↑x : Int)) fun (c0 : Int) =>
 brS (c0 != (32 : Int))
 (∃ (x_1 : Nat),
 some (TV.v (IV.str s)) = some (TV.v (IV.str s)) ∧
 some (TV.v (IV.int IntKind.i64 (IntKind.wrap IntKind.i64 ((↑x : Int) + (1 : Int))))) = some (TV.v (IV.int IntKind.i64 (↑x_1 : Int))) ∧
 Heap.mk PT.nil (0 : Nat) = Heap.mk PT.nil (0 : Nat) ∧ (x_1 ≤ List.length s ∧ ∀ (b : UInt8), b ∈ List.take x_1 s → b ≠ (32 : UInt8)) ∧ List.length s - x_1 < List.length s - x)
 (some (TV.v (IV.str s)) = some (TV.v (IV.str s)) ∧
 some (TV.v (IV.int IntKind.i64 (↑x : Int))) = some (TV.v (IV.int IntKind.i64 (↑(List.length (nameS s)) : Int))) ∧ Heap.mk PT.nil (0 : Nat) = Heap.mk PT.nil (0 : Nat) ∧ True ∧ True))
 (some (TV.v (IV.str s)) = some (TV.v (IV.str s)) ∧
 some (TV.v (IV.int IntKind.i64 (↑x : Int))) = some (TV.v (IV.int IntKind.i64 (↑(List.length (nameS s)) : Int))) ∧ Heap.mk PT.nil (0 : Nat) = Heap.mk PT.nil (0 : Nat) ∧ True ∧ True)) ∧
 (∀ (x : Unit) (b : FF),
 True →
 needS (true && (decide ((0 : Int) ≤ (↑(List.length (nameS s)) : Int)) && decide ((↑(List.length (nameS s)) : Int) ≤ (↑(List.length s) : Int))))
 (brS ((↑(List.length (nameS s)) : Int) == (↑(List.length s) : Int)) (Q (IV.tuple [IV.str (List.take (Int.toNat (↑(List.length (nameS s)) : Int) - (0 : Nat)) s), IV.vslice none (0 : Nat) (0 : Nat) (1 : Nat) []]) h)
 (some (TV.v (IV.str s)) = some (TV.v (IV.str s)) ∧
 some (TV.v (IV.int IntKind.i64 (↑(List.length (nameS s)) : Int))) = some (TV.v (IV.int IntKind.i64 (↑(List.length (nameS s)) : Int))) ∧
 some (TV.v (IV.str (List.take (Int.toNat (↑(List.length (nameS s)) : Int) - (0 : Nat)) s))) = some (TV.v (IV.str (nameS s))) ∧
 Heap.mk PT.nil (0 : Nat) = Heap.mk PT.nil (0 : Nat) ∧ Nat.le (Nat.succ (List.length (nameS s))) (List.length s) ∧ True))) ∧
 (∀ (x : Unit) (b : FF),
 List.length (nameS s) < List.length s →
 ((∃ (x : Nat × Nat),
 some (TV.v (IV.str s)) = some (TV.v (IV.str s)) ∧
 some (TV.v (IV.str (nameS s))) = some (TV.v (IV.str (nameS s))) ∧
 some (TV.v IV.nilslice) = some (TV.v IV.nilslice) ∧
 some (TV.v (IV.int IntKind.i64 (IntKind.wrap IntKind.i64 ((↑(List.length (nameS s)) : Int) + (1 : Int))))) = some (TV.v (IV.int IntKind.i64 (↑(Prod.fst x) : Int))) ∧
 some (TV.v (IV.int IntKind.i64 (IntKind.wrap IntKind.i64 ((↑(List.length (nameS s)) : Int) + (1 : Int))))) = some (TV.v (IV.int IntKind.i64 (↑(Prod.snd x) : Int))) ∧
 Heap.mk PT.nil (0 : Nat) = Heap.mk PT.nil (0 : Nat) ∧ ((Prod.fst x ≤ Prod.snd x ∧ Prod.snd x ≤ List.length s) ∧ cpl (cutS s (Prod.fst x) (Prod.snd x)) (List.drop (Prod.snd x) s) = cpl [] (restS s)) ∧ True) ∨
 ∃ (x : Nat × Nat × List (List UInt8)),
 some (TV.v (IV.str s)) = some (TV.v (IV.str s)) ∧
 some (TV.v (IV.str (nameS s))) = some (TV.v (IV.str (nameS s))) ∧
 some (TV.v IV.nilslice) = some (TV.v (IV.vslice (some (0 : Nat)) (List.length (Prod.snd (Prod.snd x))) (List.length (Prod.snd (Prod.snd x))) (1 : Nat) (List.map IV.str (Prod.snd (Prod.snd x))))) ∧
 some (TV.v (IV.int IntKind.i64 (IntKind.wrap IntKind.i64 ((↑(List.length (nameS s)) : Int) + (1 : Int))))) = some (TV.v (IV.int IntKind.i64 (↑(Prod.fst x) : Int))) ∧
 some (TV.v (IV.int IntKind.i64 (IntKind.wrap IntKind.i64 ((↑(List.length (nameS s)) : Int) + (1 : Int))))) = some (TV.v (IV.int IntKind.i64 (↑(Prod.fst (Prod.snd x)) : Int))) ∧
 Heap.mk PT.nil (0 : Nat) = Heap.mk (PT.node PT.nil (some (IObj.tip (List.length (Prod.snd (Prod.snd x))))) PT.nil) (1 : Nat) ∧
 ((Prod.fst x ≤ Prod.fst (Prod.snd x) ∧ Prod.fst (Prod.snd x) ≤ List.length s ∧ List.length (Prod.snd (Prod.snd x)) ≤ Prod.fst (Prod.snd x)) ∧
 Prod.snd (Prod.snd x) ++ cpl (cutS s (Prod.fst x) (Prod.fst (Prod.snd x))) (List.drop (Prod.fst (Prod.snd x)) s) = cpl [] (restS s)) ∧
 True) ∧
 (∀ (x : Nat × Nat) (b : FF),
 (Prod.fst x ≤ Prod.snd x ∧ Prod.snd x ≤ List.length s) ∧ cpl (cutS s (Prod.fst x) (Prod.snd x)) (List.drop (Prod.snd x) s) = cpl [] (restS s) →
 brS (decide (IntKind.wrap IntKind.i64 ((↑(Prod.snd x) : Int) + (1 : Int)) < (↑(List.length s) : Int)))
 (chrS s (Int.toNat (↑(Prod.snd x) : Int)) fun (c1 : Int) =>
 brS (c1 == (44 : Int))
 (needS (decide ((0 : Int) ≤ IntKind.wrap IntKind.i64 ((↑(Prod.snd x) : Int) + (1 : Int))))
 (chrS s (Int.toNat (IntKind.wrap IntKind.i64 ((↑(Prod.snd x) : Int) + (1 : Int)))) fun (c2 : Int) =>
 brS (c2 == (32 : Int))
 (needS (decide ((0 : Int) ≤ (↑(Prod.fst x) : Int)) && (decide ((↑(Prod.fst x) : Int) ≤ (↑(Prod.snd x) : Int)) && decide ((↑(Prod.snd x) : Int) ≤ (↑(List.length s) : Int))))
 ((∃ (x_1 : Nat × Nat),
 some (TV.v (IV.str s)) = some (TV.v (IV.str s)) ∧
 some (TV.v (IV.str (nameS s))) = some (TV.v (IV.str (nameS s))) ∧
 some
 (TV.v
 (IV.vslice (some (0 : Nat)) (1 : Nat) (1 : Nat) (1 : Nat)
 [IV.str (List.take (Int.toNat (↑(Prod.snd x) : Int) - Int.toNat (↑(Prod.fst x) : Int)) (List.drop (Int.toNat (↑(Prod.fst x) : Int)) s))])) =
 some (TV.v IV.nilslice) ∧
 some (TV.v (IV.int IntKind.i64 (IntKind.wrap IntKind.i64 ((↑(Prod.snd x) : Int) + (2 : Int))))) = some (TV.v (IV.int IntKind.i64 (↑(Prod.fst x_1) : Int))) ∧
 some (TV.v (IV.int IntKind.i64 (IntKind.wrap IntKind.i64 (IntKind.wrap IntKind.i64 ((↑(Prod.snd x) : Int) + (1 : Int)) + (1 : Int))))) = some (TV.v (IV.int IntKind.i64 (↑(Prod.snd x_1) : Int))) ∧
 Heap.mk (PT.node PT.nil (some (IObj.tip (1 : Nat))) PT.nil) ((0 : Nat) + (1 : Nat)) = Heap.mk PT.nil (0 : Nat) ∧
 ((Prod.fst x_1 ≤ Prod.snd x_1 ∧ Prod.snd x_1 ≤ List.length s) ∧ cpl (cutS s (Prod.fst x_1) (Prod.snd x_1)) (List.drop (Prod.snd x_1) s) = cpl [] (restS s)) ∧
 List.length s - Prod.snd x_1 < List.length s - Prod.snd x) ∨
 ∃ (x_1 : Nat × Nat × List (List UInt8)),
 some (TV.v (IV.str s)) = some (TV.v (IV.str s)) ∧
 some (TV.v (IV.str (nameS s))) = some (TV.v (IV.str (nameS s))) ∧
 some
 (TV.v
 (IV.vslice (some (0 : Nat)) (1 : Nat) (1 : Nat) (1 : Nat)
 [IV.str (List.take (Int.toNat (↑(Prod.snd x) : Int) - Int.toNat (↑(Prod.fst x) : Int)) (List.drop (Int.toNat (↑(Prod.fst x) : Int)) s))])) =
 some (TV.v (IV.vslice (some (0 : Nat)) (List.length (Prod.snd (Prod.snd x_1))) (List.length (Prod.snd (Prod.snd x_1))) (1 : Nat) (List.map IV.str (Prod.snd (Prod.snd x_1))))) ∧
 some (TV.v (IV.int IntKind.i64 (IntKind.wrap IntKind.i64 ((↑(Prod.snd x) : Int) + (2 : Int))))) = some (TV.v (IV.int IntKind.i64 (↑(Prod.fst x_1) : Int))) ∧
 some (TV.v (IV.int IntKind.i64 (IntKind.wrap IntKind.i64 (IntKind.wrap IntKind.i64 ((↑(Prod.snd x) : Int) + (1 : Int)) + (1 : Int))))) =
 some (TV.v (IV.int IntKind.i64 (↑(Prod.fst (Prod.snd x_1)) : Int))) ∧
 Heap.mk (PT.node PT.nil (some (IObj.tip (1 : Nat))) PT.nil) ((0 : Nat) + (1 : Nat)) = Heap.mk (PT.node PT.nil (some (IObj.tip (List.length (Prod.snd (Prod.snd x_1))))) PT.nil) (1 : Nat) ∧
 ((Prod.fst x_1 ≤ Prod.fst (Prod.snd x_1) ∧ Prod.fst (Prod.snd x_1) ≤ List.length s ∧ List.length (Prod.snd (Prod.snd x_1)) ≤ Prod.fst (Prod.snd x_1)) ∧
 Prod.snd (Prod.snd x_1) ++ cpl (cutS s (Prod.fst x_1) (Prod.fst (Prod.snd x_1))) (List.drop (Prod.fst (Prod.snd x_1)) s) = cpl [] (restS s)) ∧
 List.length s - Prod.fst (Prod.snd x_1) < List.length s - Prod.snd x))
 ((∃ (x_1 : Nat × Nat),
 some (TV.v (IV.str s)) = some (TV.v (IV.str s)) ∧
 some (TV.v (IV.str (nameS s))) = some (TV.v (IV.str (nameS s))) ∧
 some (TV.v IV.nilslice) = some (TV.v IV.nilslice) ∧
 some (TV.v (IV.int IntKind.i64 (↑(Prod.fst x) : Int))) = some (TV.v (IV.int IntKind.i64 (↑(Prod.fst x_1) : Int))) ∧
 some (TV.v (IV.int IntKind.i64 (IntKind.wrap IntKind.i64 ((↑(Prod.snd x) : Int) + (1 : Int))))) = some (TV.v (IV.int IntKind.i64 (↑(Prod.snd x_1) : Int))) ∧
 Heap.mk PT.nil (0 : Nat) = Heap.mk PT.nil (0 : Nat) ∧
 ((Prod.fst x_1 ≤ Prod.snd x_1 ∧ Prod.snd x_1 ≤ List.length s) ∧ cpl (cutS s (Prod.fst x_1) (Prod.snd x_1)) (List.drop (Prod.snd x_1) s) = cpl [] (restS s)) ∧
 List.length s - Prod.snd x_1 < List.length s - Prod.snd x) ∨
 ∃ (x_1 : Nat × Nat × List (List UInt8)),
 some (TV.v (IV.str s)) = some (TV.v (IV.str s)) ∧
 some (TV.v (IV.str (nameS s))) = some (TV.v (IV.str (nameS s))) ∧
 some (TV.v IV.nilslice) = some (TV.v (IV.vslice (some (0 : Nat)) (List.length (Prod.snd (Prod.snd x_1))) (List.length (Prod.snd (Prod.snd x_1))) (1 : Nat) (List.map IV.str (Prod.snd (Prod.snd x_1))))) ∧
 some (TV.v (IV.int IntKind.i64 (↑(Prod.fst x) : Int))) = some (TV.v (IV.int IntKind.i64 (↑(Prod.fst x_1) : Int))) ∧
 some (TV.v (IV.int IntKind.i64 (IntKind.wrap IntKind.i64 ((↑(Prod.snd x) : Int) + (1 : Int))))) = some (TV.v (IV.int IntKind.i64 (↑(Prod.fst (Prod.snd x_1)) : Int))) ∧
 Heap.mk PT.nil (0 : Nat) = Heap.mk (PT.node PT.nil (some (IObj.tip (List.length (Prod.snd (Prod.snd x_1))))) PT.nil) (1 : Nat) ∧
 ((Prod.fst x_1 ≤ Prod.fst (Prod.snd x_1) ∧ Prod.fst (Prod.snd x_1) ≤ List.length s ∧ List.length (Prod.snd (Prod.snd x_1)) ≤ Prod.fst (Prod.snd x_1)) ∧
 Prod.snd (Prod.snd x_1) ++ cpl (cutS s (Prod.fst x_1) (Prod.fst (Prod.snd x_1))) (List.drop (Prod.fst (Prod.snd x_1)) s) = cpl [] (restS s)) ∧
 List.length s - Prod.fst (Prod.snd x_1) < List.length s - Prod.snd x)))
 ((∃ (x_1 : Nat × Nat),
 some (TV.v (IV.str s)) = some (TV.v (IV.str s)) ∧
 some (TV.v (IV.str (nameS s))) = some (TV.v (IV.str (nameS s))) ∧
 some (TV.v IV.nilslice) = some (TV.v IV.nilslice) ∧
 some (TV.v (IV.int IntKind.i64 (↑(Prod.fst x) : Int))) = some (TV.v (IV.int IntKind.i64 (↑(Prod.fst x_1) : Int))) ∧
 some (TV.v (IV.int IntKind.i64 (IntKind.wrap IntKind.i64 ((↑(Prod.snd x) : Int) + (1 : Int))))) = some (TV.v (IV.int IntKind.i64 (↑(Prod.snd x_1) : Int))) ∧
 Heap.mk PT.nil (0 : Nat) = Heap.mk PT.nil (0 : Nat) ∧
 ((Prod.fst x_1 ≤ Prod.snd x_1 ∧ Prod.snd x_1 ≤ List.length s) ∧ cpl (cutS s (Prod.fst x_1) (Prod.snd x_1)) (List.drop (Prod.snd x_1) s) = cpl [] (restS s)) ∧
 List.length s - Prod.snd x_1 < List.length s - Prod.snd x) ∨
 ∃ (x_1 : Nat × Nat × List (List UInt8)),
 some (TV.v (IV.str s)) = some (TV.v (IV.str s)) ∧
 some (TV.v (IV.str (nameS s))) = some (TV.v (IV.str (nameS s))) ∧
 some (TV.v IV.nilslice) = some (TV.v (IV.vslice (some (0 : Nat)) (List.length (Prod.snd (Prod.snd x_1))) (List.length (Prod.snd (Prod.snd x_1))) (1 : Nat) (List.map IV.str (Prod.snd (Prod.snd x_1))))) ∧
 some (TV.v (IV.int IntKind.i64 (↑(Prod.fst x) : Int))) = some (TV.v (IV.int IntKind.i64 (↑(Prod.fst x_1) : Int))) ∧
 some (TV.v (IV.int IntKind.i64 (IntKind.wrap IntKind.i64 ((↑(Prod.snd x) : Int) + (1 : Int))))) = some (TV.v (IV.int IntKind.i64 (↑(Prod.fst (Prod.snd x_1)) : Int))) ∧
 Heap.mk PT.nil (0 : Nat) = Heap.mk (PT.node PT.nil (some (IObj.tip (List.length (Prod.snd (Prod.snd x_1))))) PT.nil) (1 : Nat) ∧
 ((Prod.fst x_1 ≤ Prod.fst (Prod.snd x_1) ∧ Prod.fst (Prod.snd x_1) ≤ List.length s ∧ List.length (Prod.snd (Prod.snd x_1)) ≤ Prod.fst (Prod.snd x_1)) ∧
 Prod.snd (Prod.snd x_1) ++ cpl (cutS s (Prod.fst x_1) (Prod.fst (Prod.snd x_1))) (List.drop (Prod.fst (Prod.snd x_1)) s) = cpl [] (restS s)) ∧
 List.length s - Prod.fst (Prod.snd x_1) < List.length s - Prod.snd x))
 ((∃ (x_1 : Nat),
 some (TV.v (IV.str s)) = some (TV.v (IV.str s)) ∧
 some (TV.v (IV.str (nameS s))) = some (TV.v (IV.str (nameS s))) ∧
 some (TV.v IV.nilslice) = some (TV.v IV.nilslice) ∧
 some (TV.v (IV.int IntKind.i64 (↑(Prod.fst x) : Int))) = some (TV.v (IV.int IntKind.i64 (↑x_1 : Int))) ∧
 Heap.mk PT.nil (0 : Nat) = Heap.mk PT.nil (0 : Nat) ∧ ((x_1 ≤ List.length s ∧ List.length (nameS s) < List.length s) ∧ [List.drop x_1 s] = cpl [] (restS s)) ∧ True) ∨
 ∃ (x_1 : Nat × List (List UInt8)),
 some (TV.v (IV.str s)) = some (TV.v (IV.str s)) ∧
 some (TV.v (IV.str (nameS s))) = some (TV.v (IV.str (nameS s))) ∧
 some (TV.v IV.nilslice) = some (TV.v (IV.vslice (some (0 : Nat)) (List.length (Prod.snd x_1)) (List.length (Prod.snd x_1)) (1 : Nat) (List.map IV.str (Prod.snd x_1)))) ∧
 some (TV.v (IV.int IntKind.i64 (↑(Prod.fst x) : Int))) = some (TV.v (IV.int IntKind.i64 (↑(Prod.fst x_1) : Int))) ∧
 Heap.mk PT.nil (0 : Nat) = Heap.mk (PT.node PT.nil (some (IObj.tip (List.length (Prod.snd x_1)))) PT.nil) (1 : Nat) ∧
 ((Prod.fst x_1 ≤ List.length s ∧ List.length (nameS s) < List.length s ∧ List.length (Prod.snd x_1) ≤ List.length s) ∧ Prod.snd x_1 ++ [List.drop (Prod.fst x_1) s] = cpl [] (restS s)) ∧ True)) ∧
 ∀ (x : Nat × Nat × List (List UInt8)) (b : FF),
 (Prod.fst x ≤ Prod.fst (Prod.snd x) ∧ Prod.fst (Prod.snd x) ≤ List.length s ∧ List.length (Prod.snd (Prod.snd x)) ≤ Prod.fst (Prod.snd x)) ∧
 Prod.snd (Prod.snd x) ++ cpl (cutS s (Prod.fst x) (Prod.fst (Prod.snd x))) (List.drop (Prod.fst (Prod.snd x)) s) = cpl [] (restS s) →
 brS (decide (IntKind.wrap IntKind.i64 ((↑(Prod.fst (Prod.snd x)) : Int) + (1 : Int)) < (↑(List.length s) : Int)))
 (chrS s (Int.toNat (↑(Prod.fst (Prod.snd x)) : Int)) fun (c3 : Int) =>
 brS (c3 == (44 : Int))
 (needS (decide ((0 : Int) ≤ IntKind.wrap IntKind.i64 ((↑(Prod.fst (Prod.snd x)) : Int) + (1 : Int))))
 (chrS s (Int.toNat (IntKind.wrap IntKind.i64 ((↑(Prod.fst (Prod.snd x)) : Int) + (1 : Int)))) fun (c4 : Int) =>
 brS (c4 == (32 : Int))
 (needS (decide ((0 : Int) ≤ (↑(Prod.fst x) : Int)) && (decide ((↑(Prod.fst x) : Int) ≤ (↑(Prod.fst (Prod.snd x)) : Int)) && decide ((↑(Prod.fst (Prod.snd x)) : Int) ≤ (↑(List.length s) : Int))))
 (needS (Nat.beq (List.length (Prod.snd (Prod.snd x))) (List.length (Prod.snd (Prod.snd x))) && Nat.ble ((List.length (Prod.snd (Prod.snd x)) + (1 : Nat)) * (16 : Nat)) (140737488355328 : Nat))
 ((∃ (x_1 : Nat × Nat),
 some (TV.v (IV.str s)) = some (TV.v (IV.str s)) ∧
 some (TV.v (IV.str (nameS s))) = some (TV.v (IV.str (nameS s))) ∧
 some
 (TV.v
 (IV.vslice (some (0 : Nat)) (List.length (Prod.snd (Prod.snd x)) + (1 : Nat)) (List.length (Prod.snd (Prod.snd x)) + (1 : Nat)) (1 : Nat)
 (List.map IV.str (Prod.snd (Prod.snd x)) ++
 [IV.str (List.take (Int.toNat (↑(Prod.fst (Prod.snd x)) : Int) - Int.toNat (↑(Prod.fst x) : Int)) (List.drop (Int.toNat (↑(Prod.fst x) : Int)) s))]))) =
 some (TV.v IV.nilslice) ∧
 some (TV.v (IV.int IntKind.i64 (IntKind.wrap IntKind.i64 ((↑(Prod.fst (Prod.snd x)) : Int) + (2 : Int))))) = some (TV.v (IV.int IntKind.i64 (↑(Prod.fst x_1) : Int))) ∧
 some (TV.v (IV.int IntKind.i64 (IntKind.wrap IntKind.i64 (IntKind.wrap IntKind.i64 ((↑(Prod.fst (Prod.snd x)) : Int) + (1 : Int)) + (1 : Int))))) =
 some (TV.v (IV.int IntKind.i64 (↑(Prod.snd x_1) : Int))) ∧
 Heap.mk (PT.node PT.nil (some (IObj.tip (List.length (Prod.snd (Prod.snd x)) + (1 : Nat)))) PT.nil) (1 : Nat) = Heap.mk PT.nil (0 : Nat) ∧
 ((Prod.fst x_1 ≤ Prod.snd x_1 ∧ Prod.snd x_1 ≤ List.length s) ∧ cpl (cutS s (Prod.fst x_1) (Prod.snd x_1)) (List.drop (Prod.snd x_1) s) = cpl [] (restS s)) ∧
 List.length s - Prod.snd x_1 < List.length s - Prod.fst (Prod.snd x)) ∨
 ∃ (x_1 : Nat × Nat × List (List UInt8)),
 some (TV.v (IV.str s)) = some (TV.v (IV.str s)) ∧
 some (TV.v (IV.str (nameS s))) = some (TV.v (IV.str (nameS s))) ∧
 some
 (TV.v
 (IV.vslice (some (0 : Nat)) (List.length (Prod.snd (Prod.snd x)) + (1 : Nat)) (List.length (Prod.snd (Prod.snd x)) + (1 : Nat)) (1 : Nat)
 (List.map IV.str (Prod.snd (Prod.snd x)) ++
 [IV.str (List.take (Int.toNat (↑(Prod.fst (Prod.snd x)) : Int) - Int.toNat (↑(Prod.fst x) : Int)) (List.drop (Int.toNat (↑(Prod.fst x) : Int)) s))]))) =
 some (TV.v (IV.vslice (some (0 : Nat)) (List.length (Prod.snd (Prod.snd x_1))) (List.length (Prod.snd (Prod.snd x_1))) (1 : Nat) (List.map IV.str (Prod.snd (Prod.snd x_1))))) ∧
 some (TV.v (IV.int IntKind.i64 (IntKind.wrap IntKind.i64 ((↑(Prod.fst (Prod.snd x)) : Int) + (2 : Int))))) = some (TV.v (IV.int IntKind.i64 (↑(Prod.fst x_1) : Int))) ∧
 some (TV.v (IV.int IntKind.i64 (IntKind.wrap IntKind.i64 (IntKind.wrap IntKind.i64 ((↑(Prod.fst (Prod.snd x)) : Int) + (1 : Int)) + (1 : Int))))) =
 some (TV.v (IV.int IntKind.i64 (↑(Prod.fst (Prod.snd x_1)) : Int))) ∧
 Heap.mk (PT.node PT.nil (some (IObj.tip (List.length (Prod.snd (Prod.snd x)) + (1 : Nat)))) PT.nil) (1 : Nat) =
 Heap.mk (PT.node PT.nil (some (IObj.tip (List.length (Prod.snd (Prod.snd x_1))))) PT.nil) (1 : Nat) ∧
 ((Prod.fst x_1 ≤ Prod.fst (Prod.snd x_1) ∧ Prod.fst (Prod.snd x_1) ≤ List.length s ∧ List.length (Prod.snd (Prod.snd x_1)) ≤ Prod.fst (Prod.snd x_1)) ∧
 Prod.snd (Prod.snd x_1) ++ cpl (cutS s (Prod.fst x_1) (Prod.fst (Prod.snd x_1))) (List.drop (Prod.fst (Prod.snd x_1)) s) = cpl [] (restS s)) ∧
 List.length s - Prod.fst (Prod.snd x_1) < List.length s - Prod.fst (Prod.snd x))))
 ((∃ (x_1 : Nat × Nat),
 some (TV.v (IV.str s)) = some (TV.v (IV.str s)) ∧
 some (TV.v (IV.str (nameS s))) = some (TV.v (IV.str (nameS s))) ∧
 some (TV.v (IV.vslice (some (0 : Nat)) (List.length (Prod.snd (Prod.snd x))) (List.length (Prod.snd (Prod.snd x))) (1 : Nat) (List.map IV.str (Prod.snd (Prod.snd x))))) = some (TV.v IV.nilslice) ∧
 some (TV.v (IV.int IntKind.i64 (↑(Prod.fst x) : Int))) = some (TV.v (IV.int IntKind.i64 (↑(Prod.fst x_1) : Int))) ∧
 some (TV.v (IV.int IntKind.i64 (IntKind.wrap IntKind.i64 ((↑(Prod.fst (Prod.snd x)) : Int) + (1 : Int))))) = some (TV.v (IV.int IntKind.i64 (↑(Prod.snd x_1) : Int))) ∧
 Heap.mk (PT.node PT.nil (some (IObj.tip (List.length (Prod.snd (Prod.snd x))))) PT.nil) (1 : Nat) = Heap.mk PT.nil (0 : Nat) ∧
 ((Prod.fst x_1 ≤ Prod.snd x_1 ∧ Prod.snd x_1 ≤ List.length s) ∧ cpl (cutS s (Prod.fst x_1) (Prod.snd x_1)) (List.drop (Prod.snd x_1) s) = cpl [] (restS s)) ∧
 List.length s - Prod.snd x_1 < List.length s - Prod.fst (Prod.snd x)) ∨
 ∃ (x_1 : Nat × Nat × List (List UInt8)),
 some (TV.v (IV.str s)) = some (TV.v (IV.str s)) ∧
 some (TV.v (IV.str (nameS s))) = some (TV.v (IV.str (nameS s))) ∧
 some (TV.v (IV.vslice (some (0 : Nat)) (List.length (Prod.snd (Prod.snd x))) (List.length (Prod.snd (Prod.snd x))) (1 : Nat) (List.map IV.str (Prod.snd (Prod.snd x))))) =
 some (TV.v (IV.vslice (some (0 : Nat)) (List.length (Prod.snd (Prod.snd x_1))) (List.length (Prod.snd (Prod.snd x_1))) (1 : Nat) (List.map IV.str (Prod.snd (Prod.snd x_1))))) ∧
 some (TV.v (IV.int IntKind.i64 (↑(Prod.fst x) : Int))) = some (TV.v (IV.int IntKind.i64 (↑(Prod.fst x_1) : Int))) ∧
 some (TV.v (IV.int IntKind.i64 (IntKind.wrap IntKind.i64 ((↑(Prod.fst (Prod.snd x)) : Int) + (1 : Int))))) = some (TV.v (IV.int IntKind.i64 (↑(Prod.fst (Prod.snd x_1)) : Int))) ∧
 Heap.mk (PT.node PT.nil (some (IObj.tip (List.length (Prod.snd (Prod.snd x))))) PT.nil) (1 : Nat) =
 Heap.mk (PT.node PT.nil (some (IObj.tip (List.length (Prod.snd (Prod.snd x_1))))) PT.nil) (1 : Nat) ∧
 ((Prod.fst x_1 ≤ Prod.fst (Prod.snd x_1) ∧ Prod.fst (Prod.snd x_1) ≤ List.length s ∧ List.length (Prod.snd (Prod.snd x_1)) ≤ Prod.fst (Prod.snd x_1)) ∧
 Prod.snd (Prod.snd x_1) ++ cpl (cutS s (Prod.fst x_1) (Prod.fst (Prod.snd x_1))) (List.drop (Prod.fst (Prod.snd x_1)) s) = cpl [] (restS s)) ∧
 List.length s - Prod.fst (Prod.snd x_1) < List.length s - Prod.fst (Prod.snd x))))
 ((∃ (x_1 : Nat × Nat),
 some (TV.v (IV.str s)) = some (TV.v (IV.str s)) ∧
 some (TV.v (IV.str (nameS s))) = some (TV.v (IV.str (nameS s))) ∧
 some (TV.v (IV.vslice (some (0 : Nat)) (List.length (Prod.snd (Prod.snd x))) (List.length (Prod.snd (Prod.snd x))) (1 : Nat) (List.map IV.str (Prod.snd (Prod.snd x))))) = some (TV.v IV.nilslice) ∧
 some (TV.v (IV.int IntKind.i64 (↑(Prod.fst x) : Int))) = some (TV.v (IV.int IntKind.i64 (↑(Prod.fst x_1) : Int))) ∧
 some (TV.v (IV.int IntKind.i64 (IntKind.wrap IntKind.i64 ((↑(Prod.fst (Prod.snd x)) : Int) + (1 : Int))))) = some (TV.v (IV.int IntKind.i64 (↑(Prod.snd x_1) : Int))) ∧
 Heap.mk (PT.node PT.nil (some (IObj.tip (List.length (Prod.snd (Prod.snd x))))) PT.nil) (1 : Nat) = Heap.mk PT.nil (0 : Nat) ∧
 ((Prod.fst x_1 ≤ Prod.snd x_1 ∧ Prod.snd x_1 ≤ List.length s) ∧ cpl (cutS s (Prod.fst x_1) (Prod.snd x_1)) (List.drop (Prod.snd x_1) s) = cpl [] (restS s)) ∧
 List.length s - Prod.snd x_1 < List.length s - Prod.fst (Prod.snd x)) ∨
 ∃ (x_1 : Nat × Nat × List (List UInt8)),
 some (TV.v (IV.str s)) = some (TV.v (IV.str s)) ∧
 some (TV.v (IV.str (nameS s))) = some (TV.v (IV.str (nameS s))) ∧
 some (TV.v (IV.vslice (some (0 : Nat)) (List.length (Prod.snd (Prod.snd x))) (List.length (Prod.snd (Prod.snd x))) (1 : Nat) (List.map IV.str (Prod.snd (Prod.snd x))))) =
 some (TV.v (IV.vslice (some (0 : Nat)) (List.length (Prod.snd (Prod.snd x_1))) (List.length (Prod.snd (Prod.snd x_1))) (1 : Nat) (List.map IV.str (Prod.snd (Prod.snd x_1))))) ∧
 some (TV.v (IV.int IntKind.i64 (↑(Prod.fst x) : Int))) = some (TV.v (IV.int IntKind.i64 (↑(Prod.fst x_1) : Int))) ∧
 some (TV.v (IV.int IntKind.i64 (IntKind.wrap IntKind.i64 ((↑(Prod.fst (Prod.snd x)) : Int) + (1 : Int))))) = some (TV.v (IV.int IntKind.i64 (↑(Prod.fst (Prod.snd x_1)) : Int))) ∧
 Heap.mk (PT.node PT.nil (some (IObj.tip (List.length (Prod.snd (Prod.snd x))))) PT.nil) (1 : Nat) = Heap.mk (PT.node PT.nil (some (IObj.tip (List.length (Prod.snd (Prod.snd x_1))))) PT.nil) (1 : Nat) ∧
 ((Prod.fst x_1 ≤ Prod.fst (Prod.snd x_1) ∧ Prod.fst (Prod.snd x_1) ≤ List.length s ∧ List.length (Prod.snd (Prod.snd x_1)) ≤ Prod.fst (Prod.snd x_1)) ∧
 Prod.snd (Prod.snd x_1) ++ cpl (cutS s (Prod.fst x_1) (Prod.fst (Prod.snd x_1))) (List.drop (Prod.fst (Prod.snd x_1)) s) = cpl [] (restS s)) ∧
 List.length s - Prod.fst (Prod.snd x_1) < List.length s - Prod.fst (Prod.snd x)))
 ((∃ (x_1 : Nat),
 some (TV.v (IV.str s)) = some (TV.v (IV.str s)) ∧
 some (TV.v (IV.str (nameS s))) = some (TV.v (IV.str (nameS s))) ∧
 some (TV.v (IV.vslice (some (0 : Nat)) (List.length (Prod.snd (Prod.snd x))) (List.length (Prod.snd (Prod.snd x))) (1 : Nat) (List.map IV.str (Prod.snd (Prod.snd x))))) = some (TV.v IV.nilslice) ∧
 some (TV.v (IV.int IntKind.i64 (↑(Prod.fst x) : Int))) = some (TV.v (IV.int IntKind.i64 (↑x_1 : Int))) ∧
 Heap.mk (PT.node PT.nil (some (IObj.tip (List.length (Prod.snd (Prod.snd x))))) PT.nil) (1 : Nat) = Heap.mk PT.nil (0 : Nat) ∧
 ((x_1 ≤ List.length s ∧ List.length (nameS s) < List.length s) ∧ [List.drop x_1 s] = cpl [] (restS s)) ∧ True) ∨
 ∃ (x_1 : Nat × List (List UInt8)),
 some (TV.v (IV.str s)) = some (TV.v (IV.str s)) ∧
 some (TV.v (IV.str (nameS s))) = some (TV.v (IV.str (nameS s))) ∧
 some (TV.v (IV.vslice (some (0 : Nat)) (List.length (Prod.snd (Prod.snd x))) (List.length (Prod.snd (Prod.snd x))) (1 : Nat) (List.map IV.str (Prod.snd (Prod.snd x))))) =
 some (TV.v (IV.vslice (some (0 : Nat)) (List.length (Prod.snd x_1)) (List.length (Prod.snd x_1)) (1 : Nat) (List.map IV.str (Prod.snd x_1)))) ∧
 some (TV.v (IV.int IntKind.i64 (↑(Prod.fst x) : Int))) = some (TV.v (IV.int IntKind.i64 (↑(Prod.fst x_1) : Int))) ∧
 Heap.mk (PT.node PT.nil (some (IObj.tip (List.length (Prod.snd (Prod.snd x))))) PT.nil) (1 : Nat) = Heap.mk (PT.node PT.nil (some (IObj.tip (List.length (Prod.snd x_1)))) PT.nil) (1 : Nat) ∧
 ((Prod.fst x_1 ≤ List.length s ∧ List.length (nameS s) < List.length s ∧ List.length (Prod.snd x_1) ≤ List.length s) ∧ Prod.snd x_1 ++ [List.drop (Prod.fst x_1) s] = cpl [] (restS s)) ∧ True)) ∧
 ((∀ (x : Nat) (b : FF),
 (x ≤ List.length s ∧ List.length (nameS s) < List.length s) ∧ [List.drop x s] = cpl [] (restS s) →
 needS (decide ((0 : Int) ≤ (↑x : Int)) && (decide ((↑x : Int) ≤ (↑(List.length s) : Int)) && decide ((↑(List.length s) : Int) ≤ (↑(List.length s) : Int))))
 (Q (IV.tuple [IV.str (nameS s), IV.vslice none (0 : Nat) (1 : Nat) (1 : Nat) [IV.str (List.take (Int.toNat (↑(List.length s) : Int) - Int.toNat (↑x : Int)) (List.drop (Int.toNat (↑x : Int)) s))]]) h)) ∧
 ∀ (x : Nat × List (List UInt8)) (b : FF),
 (Prod.fst x ≤ List.length s ∧ List.length (nameS s) < List.length s ∧ List.length (Prod.snd x) ≤ List.length s) ∧ Prod.snd x ++ [List.drop (Prod.fst x) s] = cpl [] (restS s) →
 needS (decide ((0 : Int) ≤ (↑(Prod.fst x) : Int)) && (decide ((↑(Prod.fst x) : Int) ≤ (↑(List.length s) : Int)) && decide ((↑(List.length s) : Int) ≤ (↑(List.length s) : Int))))
 (needS (Nat.beq (List.length (Prod.snd x)) (List.length (Prod.snd x)) && Nat.ble ((List.length (Prod.snd x) + (1 : Nat)) * (16 : Nat)) (140737488355328 : Nat))
 (needS
 (pureL
 [IV.str (nameS s),
 IV.vslice none (0 : Nat) (List.length (Prod.snd x) + (1 : Nat)) (1 : Nat)
 (List.map IV.str (Prod.snd x) ++ [IV.str (List.take (Int.toNat (↑(List.length s) : Int) - Int.toNat (↑(Prod.fst x) : Int)) (List.drop (Int.toNat (↑(Prod.fst x) : Int)) s))])])
 (Q
 (IV.tuple
 [IV.str (nameS s),
 IV.vslice none (0 : Nat) (List.length (Prod.snd x) + (1 : Nat)) (1 : Nat)
 (List.map IV.str (Prod.snd x) ++ [IV.str (List.take (Int.toNat (↑(List.length s) : Int) - Int.toNat (↑(Prod.fst x) : Int)) (List.drop (Int.toNat (↑(Prod.fst x) : Int)) s))])])
 h)))) ∧
 True) := by kernel_rfl
set_option maxHeartbeats 2000000 in
theorem sSplit : ∀ xs h Q, kSplit xs h Q → CallW env 29 xs h Q := by
  intro xs h Q hk
  unfold kSplit at hk
  split at hk
  · rename_i s
    refine dF_sound (okPInt) (mp_eq (vSplit s h Q) ?_)
    obtain ⟨hl, hk⟩ := hk
    have hnl := name_le s
    have hend : ∀ x : Nat, (x : Int).toNat = x := Int.toNat_natCast
    refine ⟨⟨⟨0, (by first | rfl | trivial), (by first | rfl | trivial), (by first | rfl | trivial), ⟨Nat.zero_le _, by simp⟩, trivial⟩, fun i _ hi => ?_⟩, fun _ _ _ => ?_, fun _ _ hnm => ⟨.inl ⟨((nameS s).length + 1, (nameS s).length + 1), (by first | rfl | trivial), (by first | rfl | trivial), (by first | rfl | trivial), ?_, ?_, (by first | rfl | trivial), ⟨⟨Nat.le_refl _, hnm⟩, ?_⟩, trivial⟩, fun x _ hx => ?_, fun x _ hx => ?_⟩, ⟨fun x _ hx => ?_, fun x _ hx => ?_⟩, trivial⟩
    · obtain ⟨h1, h2⟩ := hi
      have w1 : IntKind.i64.wrap ((i : Int) + 1) = ((i + 1 : Nat) : Int) := by rw [IntWalk.i64_in _ (by omega)]; rfl
      rw [hend]
      refine brS_intro (fun c => ?_) (fun c => ?_)
      · rw [decide_eq_true_eq] at c
        have hlt : i < s.length := by omega
        refine chr_at hlt (brS_intro (fun c1 => ?_) (fun c1 => ?_))
        · rw [bne_iff_ne] at c1
          exact ⟨i + 1, (by first | rfl | trivial), by rw [w1], (by first | rfl | trivial), ⟨hlt, take_no hlt h2 fun q => c1 (by rw [q]; rfl)⟩, by omega⟩
        · rw [bne_eq_false_iff_eq] at c1
          have e1 : s[i] = 32 := b_eq (c := 32) (by show _ = 32; omega)
          rw [name_at h1 h2 fun _ => e1]
          exact ⟨(by first | rfl | trivial), (by first | rfl | trivial), (by first | rfl | trivial), trivial, trivial⟩
      · rw [decide_eq_false_iff_not] at c
        rw [name_at h1 h2 fun q => by omega]
        exact ⟨(by first | rfl | trivial), (by first | rfl | trivial), (by first | rfl | trivial), trivial, trivial⟩
    · rw [hend, Nat.sub_zero, name_take]
      refine needS_intro (by simp; omega) (brS_intro (fun c => ?_) (fun c => ⟨(by first | rfl | trivial), (by first | rfl | trivial), (by first | rfl | trivial), (by first | rfl | trivial), (show (nameS s).length < s.length from ?_), trivial⟩))
      · rw [beq_iff_eq] at c
        unfold pcsS at hk
        rw [if_pos (by omega)] at hk
        exact hk
      · rw [beq_eq_false_iff_ne] at c
        omega
    · rw [IntWalk.i64_in _ (by omega)]; rfl
    · rw [IntWalk.i64_in _ (by omega)]; rfl
    · simp only [cutS_self]; rfl
    · obtain ⟨fr, i⟩ := x
      obtain ⟨⟨h1, h2⟩, hs⟩ := hx
      simp only at h1 h2 hs ⊢
      have w1 : IntKind.i64.wrap ((i : Int) + 1) = ((i + 1 : Nat) : Int) := by rw [IntWalk.i64_in _ (by omega)]; rfl
      have w2 : IntKind.i64.wrap ((i : Int) + 2) = ((i + 2 : Nat) : Int) := by rw [IntWalk.i64_in _ (by omega)]; rfl
      have w3 : IntKind.i64.wrap (((i + 1 : Nat) : Int) + 1) = ((i + 2 : Nat) : Int) := by rw [IntWalk.i64_in _ (by omega)]; omega
      simp only [w1, w2, w3, Int.toNat_natCast]
      refine brS_intro (fun c => ?_) (fun c => ?_)
      · rw [decide_eq_true_eq] at c
        have hlt : i + 1 < s.length := by omega
        refine chr_at (i := i) (by omega) (brS_intro (fun c1 => ?_) (fun c1 => ?_))
        · rw [beq_iff_eq] at c1
          have e1 : s[i] = 44 := b_eq (c := 44) (by show _ = 44; omega)
          refine needS_intro (by simp; omega) (chr_at (i := i + 1) hlt (brS_intro (fun c2 => ?_) (fun c2 => ?_)))
          · rw [beq_iff_eq] at c2
            have e2 : s[i + 1] = 32 := b_eq (c := 32) (by show _ = 32; omega)
            have hy := cpl_yes (fr := fr) hlt ⟨e1, e2⟩
            refine needS_intro (by simp; omega) ((.inr ⟨(i + 2, i + 2, [cutS s fr i]), (by first | rfl | trivial), (by first | rfl | trivial), (by first | rfl | trivial), (by first | rfl | trivial), (by first | rfl | trivial), (by first | rfl | trivial), ⟨⟨Nat.le_refl _, (show i + 2 ≤ s.length by omega), ?_⟩, ?_⟩, by simp only; omega⟩))
            · simp <;> omega
            · simp only [cutS_self, List.singleton_append]
              rw [← hy]
              exact hs
          · rw [beq_eq_false_iff_ne] at c2
            refine .inl ⟨(fr, i + 1), (by first | rfl | trivial), (by first | rfl | trivial), (by first | rfl | trivial), (by first | rfl | trivial), (by first | rfl | trivial), (by first | rfl | trivial), ⟨⟨(show fr ≤ i + 1 by omega), (show i + 1 ≤ s.length by omega)⟩, ?_⟩, by simp only; omega⟩
            simp only
            have NN : ¬ (s[i] = 44 ∧ s[i + 1] = 32) := fun q => c2 (by rw [q.2]; rfl)
            rw [← cpl_no h1 hlt NN]; exact hs
        · rw [beq_eq_false_iff_ne] at c1
          refine .inl ⟨(fr, i + 1), (by first | rfl | trivial), (by first | rfl | trivial), (by first | rfl | trivial), (by first | rfl | trivial), (by first | rfl | trivial), (by first | rfl | trivial), ⟨⟨(show fr ≤ i + 1 by omega), (show i + 1 ≤ s.length by omega)⟩, ?_⟩, by simp only; omega⟩
          try simp only
          have NN : ¬ (s[i] = 44 ∧ s[i + 1] = 32) := fun q => c1 (by rw [q.1]; rfl)
          rw [← cpl_no h1 hlt NN]; exact hs
      · rw [decide_eq_false_iff_not] at c
        refine .inl ⟨fr, (by first | rfl | trivial), (by first | rfl | trivial), (by first | rfl | trivial), (by first | rfl | trivial), (by first | rfl | trivial), ⟨⟨(show fr ≤ s.length by omega), hnm⟩, ?_⟩, trivial⟩
        try simp only
        rw [← cpl_end h1 h2 (by omega)]
        exact hs
    · obtain ⟨fr, i, acc⟩ := x
      obtain ⟨⟨h1, h2, h3⟩, hs⟩ := hx
      simp only at h1 h2 h3 hs ⊢
      have w1 : IntKind.i64.wrap ((i : Int) + 1) = ((i + 1 : Nat) : Int) := by rw [IntWalk.i64_in _ (by omega)]; rfl
      have w2 : IntKind.i64.wrap ((i : Int) + 2) = ((i + 2 : Nat) : Int) := by rw [IntWalk.i64_in _ (by omega)]; rfl
      have w3 : IntKind.i64.wrap (((i + 1 : Nat) : Int) + 1) = ((i + 2 : Nat) : Int) := by rw [IntWalk.i64_in _ (by omega)]; omega
      simp only [w1, w2, w3, Int.toNat_natCast]
      refine brS_intro (fun c => ?_) (fun c => ?_)
      · rw [decide_eq_true_eq] at c
        have hlt : i + 1 < s.length := by omega
        refine chr_at (i := i) (by omega) (brS_intro (fun c1 => ?_) (fun c1 => ?_))
        · rw [beq_iff_eq] at c1
          have e1 : s[i] = 44 := b_eq (c := 44) (by show _ = 44; omega)
          refine needS_intro (by simp; omega) (chr_at (i := i + 1) hlt (brS_intro (fun c2 => ?_) (fun c2 => ?_)))
          · rw [beq_iff_eq] at c2
            have e2 : s[i + 1] = 32 := b_eq (c := 32) (by show _ = 32; omega)
            have hy := cpl_yes (fr := fr) hlt ⟨e1, e2⟩
            refine needS_intro (by simp; omega) (needS_intro (by rw [Bool.and_eq_true, nbeq_t, Nat.ble_eq]; omega) (.inr ⟨(i + 2, i + 2, acc ++ [cutS s fr i]), (by first | rfl | trivial), (by first | rfl | trivial), by simp [cutS], (by first | rfl | trivial), (by first | rfl | trivial), by simp, ⟨⟨Nat.le_refl _, (show i + 2 ≤ s.length by omega), ?_⟩, ?_⟩, by simp only; omega⟩))
            · simp <;> omega
            · simp only [cutS_self, List.append_assoc, List.singleton_append]
              rw [← hy]
              exact hs
          · rw [beq_eq_false_iff_ne] at c2
            refine .inr ⟨(fr, i + 1, acc), (by first | rfl | trivial), (by first | rfl | trivial), (by first | rfl | trivial), (by first | rfl | trivial), (by first | rfl | trivial), (by first | rfl | trivial), ⟨⟨(show fr ≤ i + 1 by omega), (show i + 1 ≤ s.length by omega), (show acc.length ≤ i + 1 by omega)⟩, ?_⟩, by simp only; omega⟩
            simp only
            have NN : ¬ (s[i] = 44 ∧ s[i + 1] = 32) := fun q => c2 (by rw [q.2]; rfl)
            rw [← cpl_no h1 hlt NN]; exact hs
        · rw [beq_eq_false_iff_ne] at c1
          refine .inr ⟨(fr, i + 1, acc), (by first | rfl | trivial), (by first | rfl | trivial), (by first | rfl | trivial), (by first | rfl | trivial), (by first | rfl | trivial), (by first | rfl | trivial), ⟨⟨(show fr ≤ i + 1 by omega), (show i + 1 ≤ s.length by omega), (show acc.length ≤ i + 1 by omega)⟩, ?_⟩, by simp only; omega⟩
          try simp only
          have NN : ¬ (s[i] = 44 ∧ s[i + 1] = 32) := fun q => c1 (by rw [q.1]; rfl)
          rw [← cpl_no h1 hlt NN]; exact hs
      · rw [decide_eq_false_iff_not] at c
        refine .inr ⟨(fr, acc), (by first | rfl | trivial), (by first | rfl | trivial), (by first | rfl | trivial), (by first | rfl | trivial), (by first | rfl | trivial), ⟨⟨(show fr ≤ s.length by omega), hnm, (show acc.length ≤ s.length by omega)⟩, ?_⟩, trivial⟩
        try simp only
        rw [← cpl_end h1 h2 (by omega)]
        exact hs
    · obtain ⟨⟨h1, hnm⟩, hs⟩ := hx
      simp only [hend]
      rw [List.take_of_length_le (by simp)]
      unfold pcsS at hk
      rw [if_neg (by omega), ← hs] at hk
      exact needS_intro (by simp; omega) hk
    · obtain ⟨fr, acc⟩ := x
      obtain ⟨⟨h1, hnm, h3⟩, hs⟩ := hx
      simp only [hend] at h1 h3 hs ⊢
      rw [List.take_of_length_le (by simp)]
      unfold pcsS at hk
      rw [if_neg (by omega), ← hs] at hk
      refine needS_intro (by simp; omega) (needS_intro (by rw [Bool.and_eq_true, nbeq_t, Nat.ble_eq]; omega) (needS_intro ?_ ?_))
      · have : List.map IV.str acc ++ [IV.str (s.drop fr)] = (acc ++ [s.drop fr]).map IV.str := by simp
        rw [this]
        simp only [pureL, pureB, pureL_strs, Bool.and_true]
      · simpa using hk
  · exact hk.elim
def cSplit := addC 29 kSplit cPInt
theorem okSplit : Sound env cSplit := sound_add sSplit (okPInt)

def rsInv (s : List UInt8) : Inv' := .or
  (atX (Nat × Nat) (fun x => [(0, .v (.str s)), (3, .v .nilslice), (4, .v (.int .i64 x.1)), (5, .v (.int .i64 x.2))]) (fun _ => []) (fun _ => Heap.empty)
    (fun x => (x.1 ≤ s.length ∧ x.2 ≤ s.length) ∧ rsOk s x.1 x.2 []) (fun x => s.length - x.2))
  (atX (Nat × Nat × List (List UInt8)) (fun x => [(0, .v (.str s)), (3, .v (.vslice (some 0) x.2.2.length x.2.2.length 1 (x.2.2.map IV.str))), (4, .v (.int .i64 x.1)), (5, .v (.int .i64 x.2.1))]) (fun _ => []) (fun x => ⟨.node .nil (some (.tip (x.2.2).length)) .nil, 1⟩)
    (fun x => (x.1 ≤ s.length ∧ x.2.1 ≤ s.length ∧ x.2.2.length ≤ x.2.1) ∧ rsOk s x.1 x.2.1 x.2.2) (fun x => s.length - x.2.1))
def rsC (s : List UInt8) : Inv' := .or
  (atX Nat (fun x => [(0, .v (.str s)), (3, .v .nilslice), (4, .v (.int .i64 x))]) (fun _ => []) (fun _ => Heap.empty)
    (fun x => x ≤ s.length ∧ [s.drop x] = cpl [] s) (fun x => 0))
  (atX (Nat × List (List UInt8)) (fun x => [(0, .v (.str s)), (3, .v (.vslice (some 0) x.2.length x.2.length 1 (x.2.map IV.str))), (4, .v (.int .i64 x.1))]) (fun _ => []) (fun x => ⟨.node .nil (some (.tip (x.2).length)) .nil, 1⟩)
    (fun x => (x.1 ≤ s.length ∧ x.2.length ≤ s.length) ∧ x.2 ++ [s.drop x.1] = cpl [] s) (fun x => 0))
def kRSplit (xs : List IV) (h : Heap) (K : IV → Heap → Prop) : Prop := match xs with
  | [.str s] => s.length ≤ 1000000000000 ∧ K (.vslice none 0 (cpl [] s).length 1 ((cpl [] s).map IV.str)) h
  | _ => False
set_option maxRecDepth 100000 in
theorem vRSplit (s : List UInt8) (h : Heap) (Q : IV → Heap → Prop) : dF (stdS cSplit) env 40 noU (ic1 5 (rsInv s)) (icS (ic1 10 (rsC s))) [.str s] h Q = (
  (((∃ (x : Nat × Nat),
 some (TV.v (IV.str s)) = some (TV.v (IV.str s)) ∧
 some (TV.v IV.nilslice) = some (TV.v IV.nilslice) ∧
 some (TV.v (IV.int IntKind.i64 (0 : Int))) = some (TV.v (IV.int IntKind.i64 (↑(Prod.fst x) : Int))) ∧
 some (TV.v (IV.int IntKind.i64 (0 : Int))) = some (TV.v (IV.int IntKind.i64 (↑(Prod.snd x) : Int))) ∧
 Heap.mk PT.nil (0 : Nat) = Heap.mk PT.nil (0 : Nat) ∧ ((Prod.fst x ≤ List.length s ∧ Prod.snd x ≤ List.length s) ∧ rsOk s (Prod.fst x) (Prod.snd x) []) ∧ True) ∨
 ∃ (x : Nat × Nat × List (List UInt8)),
 some (TV.v (IV.str s)) = some (TV.v (IV.str s)) ∧
 some (TV.v IV.nilslice) = some (TV.v (IV.vslice (some (0 : Nat)) (List.length (Prod.snd (Prod.snd x))) (List.length (Prod.snd (Prod.snd x))) (1 : Nat) (List.map IV.str (Prod.snd (Prod.snd x))))) ∧
 some (TV.v (IV.int IntKind.i64 (0 : Int))) = some (TV.v (IV.int IntKind.i64 (↑(Prod.fst x) : Int))) ∧
 some (TV.v (IV.int IntKind.i64 (0 : Int))) = some (TV.v (IV.int IntKind.i64 (↑(Prod.fst (Prod.snd x)) : Int))) ∧
 Heap.mk PT.nil (0 : Nat) = Heap.mk (PT.node PT.nil (some (IObj.tip (List.length (Prod.snd (Prod.snd x))))) PT.nil) (1 : Nat) ∧
 ((Prod.fst x ≤ List.length s ∧ Prod.fst (Prod.snd x) ≤ List.length s ∧ List.length (Prod.snd (Prod.snd x)) ≤ Prod.fst (Prod.snd x)) ∧ rsOk s (Prod.fst x) (Prod.fst (Prod.snd x)) (Prod.snd (Prod.snd x))) ∧ True) ∧
 (∀ (x : Nat × Nat) (b : FF),
 (Prod.fst x ≤ List.length s ∧ Prod.snd x ≤ List.length s) ∧ rsOk s (Prod.fst x) (Prod.snd x) [] →
 brS (decide (IntKind.wrap IntKind.i64 ((↑(Prod.snd x) : Int) + (1 : Int)) < (↑(List.length s) : Int)))
 (chrS s (Int.toNat (↑(Prod.snd x) : Int)) fun (c0 : Int) =>
 brS (c0 == (44 : Int))
 (needS (decide ((0 : Int) ≤ IntKind.wrap IntKind.i64 ((↑(Prod.snd x) : Int) + (1 : Int))))
 (chrS s (Int.toNat (IntKind.wrap IntKind.i64 ((↑(Prod.snd x) : Int) + (1 : Int)))) fun (c1 : Int) =>
 brS (c1 == (32 : Int))
 (needS (decide ((0 : Int) ≤ (↑(Prod.fst x) : Int)) && (decide ((↑(Prod.fst x) : Int) ≤ (↑(Prod.snd x) : Int)) && decide ((↑(Prod.snd x) : Int) ≤ (↑(List.length s) : Int))))
 ((∃ (x_1 : Nat × Nat),
 some (TV.v (IV.str s)) = some (TV.v (IV.str s)) ∧
 some (TV.v (IV.vslice (some (0 : Nat)) (1 : Nat) (1 : Nat) (1 : Nat) [IV.str (List.take (Int.toNat (↑(Prod.snd x) : Int) - Int.toNat (↑(Prod.fst x) : Int)) (List.drop (Int.toNat (↑(Prod.fst x) : Int)) s))])) =
 some (TV.v IV.nilslice) ∧
 some (TV.v (IV.int IntKind.i64 (IntKind.wrap IntKind.i64 ((↑(Prod.snd x) : Int) + (2 : Int))))) = some (TV.v (IV.int IntKind.i64 (↑(Prod.fst x_1) : Int))) ∧
 some (TV.v (IV.int IntKind.i64 (IntKind.wrap IntKind.i64 ((↑(Prod.snd x) : Int) + (1 : Int))))) = some (TV.v (IV.int IntKind.i64 (↑(Prod.snd x_1) : Int))) ∧
 Heap.mk (PT.node PT.nil (some (IObj.tip (1 : Nat))) PT.nil) ((0 : Nat) + (1 : Nat)) = Heap.mk PT.nil (0 : Nat) ∧
 ((Prod.fst x_1 ≤ List.length s ∧ Prod.snd x_1 ≤ List.length s) ∧ rsOk s (Prod.fst x_1) (Prod.snd x_1) []) ∧ List.length s - Prod.snd x_1 < List.length s - Prod.snd x) ∨
 ∃ (x_1 : Nat × Nat × List (List UInt8)),
 some (TV.v (IV.str s)) = some (TV.v (IV.str s)) ∧
 some (TV.v (IV.vslice (some (0 : Nat)) (1 : Nat) (1 : Nat) (1 : Nat) [IV.str (List.take (Int.toNat (↑(Prod.snd x) : Int) - Int.toNat (↑(Prod.fst x) : Int)) (List.drop (Int.toNat (↑(Prod.fst x) : Int)) s))])) =
 some (TV.v (IV.vslice (some (0 : Nat)) (List.length (Prod.snd (Prod.snd x_1))) (List.length (Prod.snd (Prod.snd x_1))) (1 : Nat) (List.map IV.str (Prod.snd (Prod.snd x_1))))) ∧
 some (TV.v (IV.int IntKind.i64 (IntKind.wrap IntKind.i64 ((↑(Prod.snd x) : Int) + (2 : Int))))) = some (TV.v (IV.int IntKind.i64 (↑(Prod.fst x_1) : Int))) ∧
 some (TV.v (IV.int IntKind.i64 (IntKind.wrap IntKind.i64 ((↑(Prod.snd x) : Int) + (1 : Int))))) = some (TV.v (IV.int IntKind.i64 (↑(Prod.fst (Prod.snd x_1)) : Int))) ∧
 Heap.mk (PT.node PT.nil (some (IObj.tip (1 : Nat))) PT.nil) ((0 : Nat) + (1 : Nat)) = Heap.mk (PT.node PT.nil (some (IObj.tip (List.length (Prod.snd (Prod.snd x_1))))) PT.nil) (1 : Nat) ∧
 ((Prod.fst x_1 ≤ List.length s ∧ Prod.fst (Prod.snd x_1) ≤ List.length s ∧ List.length (Prod.snd (Prod.snd x_1)) ≤ Prod.fst (Prod.snd x_1)) ∧
 rsOk s (Prod.fst x_1) (Prod.fst (Prod.snd x_1)) (Prod.snd (Prod.snd x_1))) ∧
 List.length s - Prod.fst (Prod.snd x_1) < List.length s - Prod.snd x))
 ((∃ (x_1 : Nat × Nat),
 some (TV.v (IV.str s)) = some (TV.v (IV.str s)) ∧
 some (TV.v IV.nilslice) = some (TV.v IV.nilslice) ∧
 some (TV.v (IV.int IntKind.i64 (↑(Prod.fst x) : Int))) = some (TV.v (IV.int IntKind.i64 (↑(Prod.fst x_1) : Int))) ∧
 some (TV.v (IV.int IntKind.i64 (IntKind.wrap IntKind.i64 ((↑(Prod.snd x) : Int) + (1 : Int))))) = some (TV.v (IV.int IntKind.i64 (↑(Prod.snd x_1) : Int))) ∧
 Heap.mk PT.nil (0 : Nat) = Heap.mk PT.nil (0 : Nat) ∧
 ((Prod.fst x_1 ≤ List.length s ∧ Prod.snd x_1 ≤ List.length s) ∧ rsOk s (Prod.fst x_1) (Prod.snd x_1) []) ∧ List.length s - Prod.snd x_1 < List.length s - Prod.snd x) ∨
 ∃ (x_1 : Nat × Nat × List (List UInt8)),
 some (TV.v (IV.str s)) = some (TV.v (IV.str s)) ∧
 some (TV.v IV.nilslice) = some (TV.v (IV.vslice (some (0 : Nat)) (List.length (Prod.snd (Prod.snd x_1))) (List.length (Prod.snd (Prod.snd x_1))) (1 : Nat) (List.map IV.str (Prod.snd (Prod.snd x_1))))) ∧
 some (TV.v (IV.int IntKind.i64 (↑(Prod.fst x) : Int))) = some (TV.v (IV.int IntKind.i64 (↑(Prod.fst x_1) : Int))) ∧
 some (TV.v (IV.int IntKind.i64 (IntKind.wrap IntKind.i64 ((↑(Prod.snd x) : Int) + (1 : Int))))) = some (TV.v (IV.int IntKind.i64 (↑(Prod.fst (Prod.snd x_1)) : Int))) ∧
 Heap.mk PT.nil (0 : Nat) = Heap.mk (PT.node PT.nil (some (IObj.tip (List.length (Prod.snd (Prod.snd x_1))))) PT.nil) (1 : Nat) ∧
 ((Prod.fst x_1 ≤ List.length s ∧ Prod.fst (Prod.snd x_1) ≤ List.length s ∧ List.length (Prod.snd (Prod.snd x_1)) ≤ Prod.fst (Prod.snd x_1)) ∧
 rsOk s (Prod.fst x_1) (Prod.fst (Prod.snd x_1)) (Prod.snd (Prod.snd x_1))) ∧
 List.length s - Prod.fst (Prod.snd x_1) < List.length s - Prod.snd x)))
 ((∃ (x_1 : Nat × Nat),
 some (TV.v (IV.str s)) = some (TV.v (IV.str s)) ∧
 some (TV.v IV.nilslice) = some (TV.v IV.nilslice) ∧
 some (TV.v (IV.int IntKind.i64 (↑(Prod.fst x) : Int))) = some (TV.v (IV.int IntKind.i64 (↑(Prod.fst x_1) : Int))) ∧
 some (TV.v (IV.int IntKind.i64 (IntKind.wrap IntKind.i64 ((↑(Prod.snd x) : Int) + (1 : Int))))) = some (TV.v (IV.int IntKind.i64 (↑(Prod.snd x_1) : Int))) ∧
 Heap.mk PT.nil (0 : Nat) = Heap.mk PT.nil (0 : Nat) ∧
 ((Prod.fst x_1 ≤ List.length s ∧ Prod.snd x_1 ≤ List.length s) ∧ rsOk s (Prod.fst x_1) (Prod.snd x_1) []) ∧ List.length s - Prod.snd x_1 < List.length s - Prod.snd x) ∨
 ∃ (x_1 : Nat × Nat × List (List UInt8)),
 some (TV.v (IV.str s)) = some (TV.v (IV.str s)) ∧
 some (TV.v IV.nilslice) = some (TV.v (IV.vslice (some (0 : Nat)) (List.length (Prod.snd (Prod.snd x_1))) (List.length (Prod.snd (Prod.snd x_1))) (1 : Nat) (List.map IV.str (Prod.snd (Prod.snd x_1))))) ∧
 some (TV.v (IV.int IntKind.i64 (↑(Prod.fst x) : Int))) = some (TV.v (IV.int IntKind.i64 (↑(Prod.fst x_1) : Int))) ∧
 some (TV.v (IV.int IntKind.i64 (IntKind.wrap IntKind.i64 ((↑(Prod.snd x) : Int) + (1 : Int))))) = some (TV.v (IV.int IntKind.i64 (↑(Prod.fst (Prod.snd x_1)) : Int))) ∧
 Heap.mk PT.nil (0 : Nat) = Heap.mk (PT.node PT.nil (some (IObj.tip (List.length (Prod.snd (Prod.snd x_1))))) PT.nil) (1 : Nat) ∧
 ((Prod.fst x_1 ≤ List.length s ∧ Prod.fst (Prod.snd x_1) ≤ List.length s ∧ List.length (Prod.snd (Prod.snd x_1)) ≤ Prod.fst (Prod.snd x_1)) ∧
 rsOk s (Prod.fst x_1) (Prod.fst (Prod.snd x_1)) (Prod.snd (Prod.snd x_1))) ∧
 List.length s - Prod.fst (Prod.snd x_1) < List.length s - Prod.snd x))
 ((∃ (x_1 : Nat),
 some (TV.v (IV.str s)) = some (TV.v (IV.str s)) ∧
 some (TV.v IV.nilslice) = some (TV.v IV.nilslice) ∧
 some (TV.v (IV.int IntKind.i64 (↑(Prod.fst x) : Int))) = some (TV.v (IV.int IntKind.i64 (↑x_1 : Int))) ∧
 Heap.mk PT.nil (0 : Nat) = Heap.mk PT.nil (0 : Nat) ∧ (x_1 ≤ List.length s ∧ [List.drop x_1 s] = cpl [] s) ∧ True) ∨
 ∃ (x_1 : Nat × List (List UInt8)),
 some (TV.v (IV.str s)) = some (TV.v (IV.str s)) ∧
 some (TV.v IV.nilslice) = some (TV.v (IV.vslice (some (0 : Nat)) (List.length (Prod.snd x_1)) (List.length (Prod.snd x_1)) (1 : Nat) (List.map IV.str (Prod.snd x_1)))) ∧
 some (TV.v (IV.int IntKind.i64 (↑(Prod.fst x) : Int))) = some (TV.v (IV.int IntKind.i64 (↑(Prod.fst x_1) : Int))) ∧
 Heap.mk PT.nil (0 : Nat) = Heap.mk (PT.node PT.nil (some (IObj.tip (List.length (Prod.snd x_1)))) PT.nil) (1 : Nat) ∧
 ((Prod.fst x_1 ≤ List.length s ∧ List.length (Prod.snd x_1) ≤ List.length s) ∧ Prod.snd x_1 ++ [List.drop (Prod.fst x_1) s] = cpl [] s) ∧ True)) ∧
 ∀ (x : Nat × Nat × List (List UInt8)) (b : FF),
 (Prod.fst x ≤ List.length s ∧ Prod.fst (Prod.snd x) ≤ List.length s ∧ List.length (Prod.snd (Prod.snd x)) ≤ Prod.fst (Prod.snd x)) ∧ rsOk s (Prod.fst x) (Prod.fst (Prod.snd x)) (Prod.snd (Prod.snd x)) →
 brS (decide (IntKind.wrap IntKind.i64 ((↑(Prod.fst (Prod.snd x)) : Int) + (1 : Int)) < (↑(List.length s) : Int)))
 (chrS s (Int.toNat (↑(Prod.fst (Prod.snd x)) : Int)) fun (c2 : Int) =>
 brS (c2 == (44 : Int))
 (needS (decide ((0 : Int) ≤ IntKind.wrap IntKind.i64 ((↑(Prod.fst (Prod.snd x)) : Int) + (1 : Int))))
 (chrS s (Int.toNat (IntKind.wrap IntKind.i64 ((↑(Prod.fst (Prod.snd x)) : Int) + (1 : Int)))) fun (c3 : Int) =>
 brS (c3 == (32 : Int))
 (needS (decide ((0 : Int) ≤ (↑(Prod.fst x) : Int)) && (decide ((↑(Prod.fst x) : Int) ≤ (↑(Prod.fst (Prod.snd x)) : Int)) && decide ((↑(Prod.fst (Prod.snd x)) : Int) ≤ (↑(List.length s) : Int))))
 (needS (Nat.beq (List.length (Prod.snd (Prod.snd x))) (List.length (Prod.snd (Prod.snd x))) && Nat.ble ((List.length (Prod.snd (Prod.snd x)) + (1 : Nat)) * (16 : Nat)) (140737488355328 : Nat))
 ((∃ (x_1 : Nat × Nat),
 some (TV.v (IV.str s)) = some (TV.v (IV.str s)) ∧
 some
 (TV.v
 (IV.vslice (some (0 : Nat)) (List.length (Prod.snd (Prod.snd x)) + (1 : Nat)) (List.length (Prod.snd (Prod.snd x)) + (1 : Nat)) (1 : Nat)
 (List.map IV.str (Prod.snd (Prod.snd x)) ++ [IV.str (List.take (Int.toNat (↑(Prod.fst (Prod.snd x)) : Int) - Int.toNat (↑(Prod.fst x) : Int)) (List.drop (Int.toNat (↑(Prod.fst x) : Int)) s))]))) =
 some (TV.v IV.nilslice) ∧
 some (TV.v (IV.int IntKind.i64 (IntKind.wrap IntKind.i64 ((↑(Prod.fst (Prod.snd x)) : Int) + (2 : Int))))) = some (TV.v (IV.int IntKind.i64 (↑(Prod.fst x_1) : Int))) ∧
 some (TV.v (IV.int IntKind.i64 (IntKind.wrap IntKind.i64 ((↑(Prod.fst (Prod.snd x)) : Int) + (1 : Int))))) = some (TV.v (IV.int IntKind.i64 (↑(Prod.snd x_1) : Int))) ∧
 Heap.mk (PT.node PT.nil (some (IObj.tip (List.length (Prod.snd (Prod.snd x)) + (1 : Nat)))) PT.nil) (1 : Nat) = Heap.mk PT.nil (0 : Nat) ∧
 ((Prod.fst x_1 ≤ List.length s ∧ Prod.snd x_1 ≤ List.length s) ∧ rsOk s (Prod.fst x_1) (Prod.snd x_1) []) ∧ List.length s - Prod.snd x_1 < List.length s - Prod.fst (Prod.snd x)) ∨
 ∃ (x_1 : Nat × Nat × List (List UInt8)),
 some (TV.v (IV.str s)) = some (TV.v (IV.str s)) ∧
 some
 (TV.v
 (IV.vslice (some (0 : Nat)) (List.length (Prod.snd (Prod.snd x)) + (1 : Nat)) (List.length (Prod.snd (Prod.snd x)) + (1 : Nat)) (1 : Nat)
 (List.map IV.str (Prod.snd (Prod.snd x)) ++ [IV.str (List.take (Int.toNat (↑(Prod.fst (Prod.snd x)) : Int) - Int.toNat (↑(Prod.fst x) : Int)) (List.drop (Int.toNat (↑(Prod.fst x) : Int)) s))]))) =
 some (TV.v (IV.vslice (some (0 : Nat)) (List.length (Prod.snd (Prod.snd x_1))) (List.length (Prod.snd (Prod.snd x_1))) (1 : Nat) (List.map IV.str (Prod.snd (Prod.snd x_1))))) ∧
 some (TV.v (IV.int IntKind.i64 (IntKind.wrap IntKind.i64 ((↑(Prod.fst (Prod.snd x)) : Int) + (2 : Int))))) = some (TV.v (IV.int IntKind.i64 (↑(Prod.fst x_1) : Int))) ∧
 some (TV.v (IV.int IntKind.i64 (IntKind.wrap IntKind.i64 ((↑(Prod.fst (Prod.snd x)) : Int) + (1 : Int))))) = some (TV.v (IV.int IntKind.i64 (↑(Prod.fst (Prod.snd x_1)) : Int))) ∧
 Heap.mk (PT.node PT.nil (some (IObj.tip (List.length (Prod.snd (Prod.snd x)) + (1 : Nat)))) PT.nil) (1 : Nat) =
 Heap.mk (PT.node PT.nil (some (IObj.tip (List.length (Prod.snd (Prod.snd x_1))))) PT.nil) (1 : Nat) ∧
 ((Prod.fst x_1 ≤ List.length s ∧ Prod.fst (Prod.snd x_1) ≤ List.length s ∧ List.length (Prod.snd (Prod.snd x_1)) ≤ Prod.fst (Prod.snd x_1)) ∧
 rsOk s (Prod.fst x_1) (Prod.fst (Prod.snd x_1)) (Prod.snd (Prod.snd x_1))) ∧
 List.length s - Prod.fst (Prod.snd x_1) < List.length s - Prod.fst (Prod.snd x))))
 ((∃ (x_1 : Nat × Nat),
 some (TV.v (IV.str s)) = some (TV.v (IV.str s)) ∧
 some (TV.v (IV.vslice (some (0 : Nat)) (List.length (Prod.snd (Prod.snd x))) (List.length (Prod.snd (Prod.snd x))) (1 : Nat) (List.map IV.str (Prod.snd (Prod.snd x))))) = some (TV.v IV.nilslice) ∧
 some (TV.v (IV.int IntKind.i64 (↑(Prod.fst x) : Int))) = some (TV.v (IV.int IntKind.i64 (↑(Prod.fst x_1) : Int))) ∧
 some (TV.v (IV.int IntKind.i64 (IntKind.wrap IntKind.i64 ((↑(Prod.fst (Prod.snd x)) : Int) + (1 : Int))))) = some (TV.v (IV.int IntKind.i64 (↑(Prod.snd x_1) : Int))) ∧
 Heap.mk (PT.node PT.nil (some (IObj.tip (List.length (Prod.snd (Prod.snd x))))) PT.nil) (1 : Nat) = Heap.mk PT.nil (0 : Nat) ∧
 ((Prod.fst x_1 ≤ List.length s ∧ Prod.snd x_1 ≤ List.length s) ∧ rsOk s (Prod.fst x_1) (Prod.snd x_1) []) ∧ List.length s - Prod.snd x_1 < List.length s - Prod.fst (Prod.snd x)) ∨
 ∃ (x_1 : Nat × Nat × List (List UInt8)),
 some (TV.v (IV.str s)) = some (TV.v (IV.str s)) ∧
 some (TV.v (IV.vslice (some (0 : Nat)) (List.length (Prod.snd (Prod.snd x))) (List.length (Prod.snd (Prod.snd x))) (1 : Nat) (List.map IV.str (Prod.snd (Prod.snd x))))) =
 some (TV.v (IV.vslice (some (0 : Nat)) (List.length (Prod.snd (Prod.snd x_1))) (List.length (Prod.snd (Prod.snd x_1))) (1 : Nat) (List.map IV.str (Prod.snd (Prod.snd x_1))))) ∧
 some (TV.v (IV.int IntKind.i64 (↑(Prod.fst x) : Int))) = some (TV.v (IV.int IntKind.i64 (↑(Prod.fst x_1) : Int))) ∧
 some (TV.v (IV.int IntKind.i64 (IntKind.wrap IntKind.i64 ((↑(Prod.fst (Prod.snd x)) : Int) + (1 : Int))))) = some (TV.v (IV.int IntKind.i64 (↑(Prod.fst (Prod.snd x_1)) : Int))) ∧
 Heap.mk (PT.node PT.nil (some (IObj.tip (List.length (Prod.snd (Prod.snd x))))) PT.nil) (1 : Nat) = Heap.mk (PT.node PT.nil (some (IObj.tip (List.length (Prod.snd (Prod.snd x_1))))) PT.nil) (1 : Nat) ∧
 ((Prod.fst x_1 ≤ List.length s ∧ Prod.fst (Prod.snd x_1) ≤ List.length s ∧ List.length (Prod.snd (Prod.snd x_1)) ≤ Prod.fst (Prod.snd x_1)) ∧
 rsOk s (Prod.fst x_1) (Prod.fst (Prod.snd x_1)) (Prod.snd (Prod.snd x_1))) ∧
 List.length s - Prod.fst (Prod.snd x_1) < List.length s - Prod.fst (Prod.snd x))))
 ((∃ (x_1 : Nat × Nat),
 some (TV.v (IV.str s)) = some (TV.v (IV.str s)) ∧
 some (TV.v (IV.vslice (some (0 : Nat)) (List.length (Prod.snd (Prod.snd x))) (List.length (Prod.snd (Prod.snd x))) (1 : Nat) (List.map IV.str (Prod.snd (Prod.snd x))))) = some (TV.v IV.nilslice) ∧
 some (TV.v (IV.int IntKind.i64 (↑(Prod.fst x) : Int))) = some (TV.v (IV.int IntKind.i64 (↑(Prod.fst x_1) : Int))) ∧
 some (TV.v (IV.int IntKind.i64 (IntKind.wrap IntKind.i64 ((↑(Prod.fst (Prod.snd x)) : Int) + (1 : Int))))) = some (TV.v (IV.int IntKind.i64 (↑(Prod.snd x_1) : Int))) ∧
 Heap.mk (PT.node PT.nil (some (IObj.tip (List.length (Prod.snd (Prod.snd x))))) PT.nil) (1 : Nat) = Heap.mk PT.nil (0 : Nat) ∧
 ((Prod.fst x_1 ≤ List.length s ∧ Prod.snd x_1 ≤ List.length s) ∧ rsOk s (Prod.fst x_1) (Prod.snd x_1) []) ∧ List.length s - Prod.snd x_1 < List.length s - Prod.fst (Prod.snd x)) ∨
 ∃ (x_1 : Nat × Nat × List (List UInt8)),
 some (TV.v (IV.str s)) = some (TV.v (IV.str s)) ∧
 some (TV.v (IV.vslice (some (0 : Nat)) (List.length (Prod.snd (Prod.snd x))) (List.length (Prod.snd (Prod.snd x))) (1 : Nat) (List.map IV.str (Prod.snd (Prod.snd x))))) =
 some (TV.v (IV.vslice (some (0 : Nat)) (List.length (Prod.snd (Prod.snd x_1))) (List.length (Prod.snd (Prod.snd x_1))) (1 : Nat) (List.map IV.str (Prod.snd (Prod.snd x_1))))) ∧
 some (TV.v (IV.int IntKind.i64 (↑(Prod.fst x) : Int))) = some (TV.v (IV.int IntKind.i64 (↑(Prod.fst x_1) : Int))) ∧
 some (TV.v (IV.int IntKind.i64 (IntKind.wrap IntKind.i64 ((↑(Prod.fst (Prod.snd x)) : Int) + (1 : Int))))) = some (TV.v (IV.int IntKind.i64 (↑(Prod.fst (Prod.snd x_1)) : Int))) ∧
 Heap.mk (PT.node PT.nil (some (IObj.tip (List.length (Prod.snd (Prod.snd x))))) PT.nil) (1 : Nat) = Heap.mk (PT.node PT.nil (some (IObj.tip (List.length (Prod.snd (Prod.snd x_1))))) PT.nil) (1 : Nat) ∧
 ((Prod.fst x_1 ≤ List.length s ∧ Prod.fst (Prod.snd x_1) ≤ List.length s ∧ List.length (Prod.snd (Prod.snd x_1)) ≤ Prod.fst (Prod.snd x_1)) ∧
 rsOk s (Prod.fst x_1) (Prod.fst (Prod.snd x_1)) (Prod.snd (Prod.snd x_1))) ∧
 List.length s - Prod.fst (Prod.snd x_1) < List.length s - Prod.fst (Prod.snd x)))
 ((∃ (x_1 : Nat),
 some (TV.v (IV.str s)) = some (TV.v (IV.str s)) ∧
 some (TV.v (IV.vslice (some (0 : Nat)) (List.length (Prod.snd (Prod.snd x))) (List.length (Prod.snd (Prod.snd x))) (1 : Nat) (List.map IV.str (Prod.snd (Prod.snd x))))) = some (TV.v IV.nilslice) ∧
 some (TV.v (IV.int IntKind.i64 (↑(Prod.fst x) : Int))) = some (TV.v (IV.int IntKind.i64 (↑x_1 : Int))) ∧
 Heap.mk (PT.node PT.nil (some (IObj.tip (List.length (Prod.snd (Prod.snd x))))) PT.nil) (1 : Nat) = Heap.mk PT.nil (0 : Nat) ∧ (x_1 ≤ List.length s ∧ [List.drop x_1 s] = cpl [] s) ∧ True) ∨
 ∃ (x_1 : Nat × List (List UInt8)),
 some (TV.v (IV.str s)) = some (TV.v (IV.str s)) ∧
 some (TV.v (IV.vslice (some (0 : Nat)) (List.length (Prod.snd (Prod.snd x))) (List.length (Prod.snd (Prod.snd x))) (1 : Nat) (List.map IV.str (Prod.snd (Prod.snd x))))) =
 some (TV.v (IV.vslice (some (0 : Nat)) (List.length (Prod.snd x_1)) (List.length (Prod.snd x_1)) (1 : Nat) (List.map IV.str (Prod.snd x_1)))) ∧
 some (TV.v (IV.int IntKind.i64 (↑(Prod.fst x) : Int))) = some (TV.v (IV.int IntKind.i64 (↑(Prod.fst x_1) : Int))) ∧
 Heap.mk (PT.node PT.nil (some (IObj.tip (List.length (Prod.snd (Prod.snd x))))) PT.nil) (1 : Nat) = Heap.mk (PT.node PT.nil (some (IObj.tip (List.length (Prod.snd x_1)))) PT.nil) (1 : Nat) ∧
 ((Prod.fst x_1 ≤ List.length s ∧ List.length (Prod.snd x_1) ≤ List.length s) ∧ Prod.snd x_1 ++ [List.drop (Prod.fst x_1) s] = cpl [] s) ∧ True)) ∧
 ((∀ (x : Nat) (b : FF),
 x ≤ List.length s ∧ [List.drop x s] = cpl [] s →
 needS (decide ((0 : Int) ≤ (↑x : Int)) && (decide ((↑x : Int) ≤ (↑(List.length s) : Int)) && decide ((↑(List.length s) : Int) ≤ (↑(List.length s) : Int))))
 (Q (IV.vslice none (0 : Nat) (1 : Nat) (1 : Nat) [IV.str (List.take (Int.toNat (↑(List.length s) : Int) - Int.toNat (↑x : Int)) (List.drop (Int.toNat (↑x : Int)) s))]) h)) ∧
 ∀ (x : Nat × List (List UInt8)) (b : FF),
 (Prod.fst x ≤ List.length s ∧ List.length (Prod.snd x) ≤ List.length s) ∧ Prod.snd x ++ [List.drop (Prod.fst x) s] = cpl [] s →
 needS (decide ((0 : Int) ≤ (↑(Prod.fst x) : Int)) && (decide ((↑(Prod.fst x) : Int) ≤ (↑(List.length s) : Int)) && decide ((↑(List.length s) : Int) ≤ (↑(List.length s) : Int))))
 (needS (Nat.beq (List.length (Prod.snd x)) (List.length (Prod.snd x)) && Nat.ble ((List.length (Prod.snd x) + (1 : Nat)) * (16 : Nat)) (140737488355328 : Nat))
 (needS
 (pureL
 [IV.vslice none (0 : Nat) (List.length (Prod.snd x) + (1 : Nat)) (1 : Nat)
 (List.map IV.str (Prod.snd x) ++ [IV.str (List.take (Int.toNat (↑(List.length s) : Int) - Int.toNat (↑(Prod.fst x) : Int)) (List.drop (Int.toNat (↑(Prod.fst x) : Int)) s))])])
 (Q
 (IV.vslice none (0 : Nat) (List.length (Prod.snd x) + (1 : Nat)) (1 : Nat)
 (List.map IV.str (Prod.snd x) ++ [IV.str (List.take (Int.toNat (↑(List.length s) : Int) - Int.toNat (↑(Prod.fst x) : Int)) (List.drop (Int.toNat (↑(Prod.fst x) : Int)) s))]))
 h)))) ∧
 True) := by kernel_rfl
set_option maxHeartbeats 2000000 in
theorem sRSplit : ∀ xs h Q, kRSplit xs h Q → CallW env 40 xs h Q := by
  intro xs h Q hk
  unfold kRSplit at hk
  split at hk
  · rename_i s
    refine dF_sound (okSplit) (mp_eq (vRSplit s h Q) ?_)
    obtain ⟨hl, hk⟩ := hk
    have hend : ∀ x : Nat, (x : Int).toNat = x := Int.toNat_natCast
    refine ⟨⟨.inl ⟨(0, 0), (by first | rfl | trivial), (by first | rfl | trivial), (by first | rfl | trivial), (by first | rfl | trivial), (by first | rfl | trivial), ⟨⟨Nat.zero_le _, Nat.zero_le _⟩, rs_zero s⟩, trivial⟩, fun x _ hx => ?_, fun x _ hx => ?_⟩, ⟨fun x _ hx => ?_, fun x _ hx => ?_⟩, trivial⟩
    · obtain ⟨fr, i⟩ := x
      obtain ⟨⟨h1, h2⟩, hs⟩ := hx
      simp only at h1 h2 hs ⊢
      have w1 : IntKind.i64.wrap ((i : Int) + 1) = ((i + 1 : Nat) : Int) := by rw [IntWalk.i64_in _ (by omega)]; rfl
      have w2 : IntKind.i64.wrap ((i : Int) + 2) = ((i + 2 : Nat) : Int) := by rw [IntWalk.i64_in _ (by omega)]; rfl
      simp only [w1, w2, Int.toNat_natCast]
      refine brS_intro (fun c => ?_) (fun c => ?_)
      · rw [decide_eq_true_eq] at c
        have hlt : i + 1 < s.length := by omega
        refine chr_at (i := i) (by omega) (brS_intro (fun c1 => ?_) (fun c1 => ?_))
        · rw [beq_iff_eq] at c1
          have e1 : s[i] = 44 := b_eq (c := 44) (by show _ = 44; omega)
          refine needS_intro (by simp; omega) (chr_at (i := i + 1) hlt (brS_intro (fun c2 => ?_) (fun c2 => ?_)))
          · rw [beq_iff_eq] at c2
            have e2 : s[i + 1] = 32 := b_eq (c := 32) (by show _ = 32; omega)
            obtain ⟨hfi, hy⟩ := rs_yes hs hlt ⟨e1, e2⟩
            refine needS_intro (by simp; omega) ((.inr ⟨(i + 2, i + 1, [cutS s fr i]), (by first | rfl | trivial), (by first | rfl | trivial), (by first | rfl | trivial), (by first | rfl | trivial), (by first | rfl | trivial), ⟨⟨(show i + 2 ≤ s.length by omega), (show i + 1 ≤ s.length by omega), ?_⟩, hy⟩, by simp only; omega⟩))
            simp <;> omega
          · rw [beq_eq_false_iff_ne] at c2
            have NN : ¬ (s[i] = 44 ∧ s[i + 1] = 32) := fun q => c2 (by rw [q.2]; rfl)
            exact .inl ⟨(fr, i + 1), (by first | rfl | trivial), (by first | rfl | trivial), (by first | rfl | trivial), (by first | rfl | trivial), (by first | rfl | trivial), ⟨⟨h1, (show i + 1 ≤ s.length by omega)⟩, rs_no hs hlt NN⟩, by simp only; omega⟩
        · rw [beq_eq_false_iff_ne] at c1
          have NN : ¬ (s[i] = 44 ∧ s[i + 1] = 32) := fun q => c1 (by rw [q.1]; rfl)
          exact .inl ⟨(fr, i + 1), (by first | rfl | trivial), (by first | rfl | trivial), (by first | rfl | trivial), (by first | rfl | trivial), (by first | rfl | trivial), ⟨⟨h1, (show i + 1 ≤ s.length by omega)⟩, rs_no hs hlt NN⟩, by simp only; omega⟩
      · rw [decide_eq_false_iff_not] at c
        exact .inl ⟨fr, (by first | rfl | trivial), (by first | rfl | trivial), (by first | rfl | trivial), (by first | rfl | trivial), ⟨h1, rs_end hs h2 (by omega)⟩, trivial⟩
    · obtain ⟨fr, i, acc⟩ := x
      obtain ⟨⟨h1, h2, h3⟩, hs⟩ := hx
      simp only at h1 h2 h3 hs ⊢
      have w1 : IntKind.i64.wrap ((i : Int) + 1) = ((i + 1 : Nat) : Int) := by rw [IntWalk.i64_in _ (by omega)]; rfl
      have w2 : IntKind.i64.wrap ((i : Int) + 2) = ((i + 2 : Nat) : Int) := by rw [IntWalk.i64_in _ (by omega)]; rfl
      simp only [w1, w2, Int.toNat_natCast]
      refine brS_intro (fun c => ?_) (fun c => ?_)
      · rw [decide_eq_true_eq] at c
        have hlt : i + 1 < s.length := by omega
        refine chr_at (i := i) (by omega) (brS_intro (fun c1 => ?_) (fun c1 => ?_))
        · rw [beq_iff_eq] at c1
          have e1 : s[i] = 44 := b_eq (c := 44) (by show _ = 44; omega)
          refine needS_intro (by simp; omega) (chr_at (i := i + 1) hlt (brS_intro (fun c2 => ?_) (fun c2 => ?_)))
          · rw [beq_iff_eq] at c2
            have e2 : s[i + 1] = 32 := b_eq (c := 32) (by show _ = 32; omega)
            obtain ⟨hfi, hy⟩ := rs_yes hs hlt ⟨e1, e2⟩
            refine needS_intro (by simp; omega) (needS_intro (by rw [Bool.and_eq_true, nbeq_t, Nat.ble_eq]; omega) (.inr ⟨(i + 2, i + 1, acc ++ [cutS s fr i]), (by first | rfl | trivial), by simp [cutS], (by first | rfl | trivial), (by first | rfl | trivial), by simp, ⟨⟨(show i + 2 ≤ s.length by omega), (show i + 1 ≤ s.length by omega), ?_⟩, hy⟩, by simp only; omega⟩))
            simp <;> omega
          · rw [beq_eq_false_iff_ne] at c2
            have NN : ¬ (s[i] = 44 ∧ s[i + 1] = 32) := fun q => c2 (by rw [q.2]; rfl)
            exact .inr ⟨(fr, i + 1, acc), (by first | rfl | trivial), (by first | rfl | trivial), (by first | rfl | trivial), (by first | rfl | trivial), (by first | rfl | trivial), ⟨⟨h1, (show i + 1 ≤ s.length by omega), (show acc.length ≤ i + 1 by omega)⟩, rs_no hs hlt NN⟩, by simp only; omega⟩
        · rw [beq_eq_false_iff_ne] at c1
          have NN : ¬ (s[i] = 44 ∧ s[i + 1] = 32) := fun q => c1 (by rw [q.1]; rfl)
          exact .inr ⟨(fr, i + 1, acc), (by first | rfl | trivial), (by first | rfl | trivial), (by first | rfl | trivial), (by first | rfl | trivial), (by first | rfl | trivial), ⟨⟨h1, (show i + 1 ≤ s.length by omega), (show acc.length ≤ i + 1 by omega)⟩, rs_no hs hlt NN⟩, by simp only; omega⟩
      · rw [decide_eq_false_iff_not] at c
        exact .inr ⟨(fr, acc), (by first | rfl | trivial), (by first | rfl | trivial), (by first | rfl | trivial), (by first | rfl | trivial), ⟨⟨h1, (show acc.length ≤ s.length by omega)⟩, rs_end hs h2 (by omega)⟩, trivial⟩
    · obtain ⟨h1, hs⟩ := hx
      simp only [hend]
      rw [List.take_of_length_le (by simp)]
      rw [← hs] at hk
      exact needS_intro (by simp; omega) hk
    · obtain ⟨fr, acc⟩ := x
      obtain ⟨⟨h1, h3⟩, hs⟩ := hx
      simp only [hend] at h1 h3 hs ⊢
      rw [List.take_of_length_le (by simp)]
      rw [← hs] at hk
      refine needS_intro (by simp; omega) (needS_intro (by rw [Bool.and_eq_true, nbeq_t, Nat.ble_eq]; omega) (needS_intro ?_ ?_))
      · have : List.map IV.str acc ++ [IV.str (s.drop fr)] = (acc ++ [s.drop fr]).map IV.str := by simp
        rw [this]
        simp only [pureL, pureB, pureL_strs, Bool.and_true]
      · simpa using hk
  · exact hk.elim
def cRSplit := addC 40 kRSplit cSplit
theorem okRSplit : Sound env cRSplit := sound_add sRSplit (okSplit)

end Go.Proofs.YtfmcdageaananaaDoor
