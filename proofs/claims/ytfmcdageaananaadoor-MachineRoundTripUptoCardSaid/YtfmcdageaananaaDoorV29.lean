/-
  The target machine: texts of numbers and of instructions, in plain Lean.
  Conditions: none.
-/
import Derived.Test.YtfmcdageaananaaDoorN29
namespace Go.M29
/-- decimal digits -/
def digN (n : Nat) : List UInt8 := if n < 10 then [UInt8.ofNat (48 + n)] else digN (n / 10) ++ [UInt8.ofNat (48 + n % 10)]
termination_by n
decreasing_by omega
theorem digN_lt {n : Nat} (h : n < 10) : digN n = [UInt8.ofNat (48 + n)] := by rw [digN, if_pos h]
theorem digN_ge {n : Nat} (h : ¬ n < 10) : digN n = digN (n / 10) ++ [UInt8.ofNat (48 + n % 10)] := by rw [digN, if_neg h]
/-- the text of a number -/
def txt (n : Int) : List UInt8 := if n < 0 then 45 :: digN n.natAbs else digN n.natAbs
def isD (b : UInt8) : Prop := 48 ≤ b.toNat ∧ b.toNat ≤ 57
theorem isD_of {k : Nat} (h : k < 10) : isD (UInt8.ofNat (48 + k)) ∧ (UInt8.ofNat (48 + k)).toNat = 48 + k := by
  have : (UInt8.ofNat (48 + k)).toNat = 48 + k := by
    rw [UInt8.toNat_ofNat']
    omega
  unfold isD
  rw [this]
  omega
theorem digN_all (n : Nat) : ∀ b ∈ digN n, isD b := by
  induction n using Nat.strongRecOn with
  | _ n ih =>
    by_cases h : n < 10
    · rw [digN_lt h]
      intro b hb
      rw [List.mem_singleton] at hb
      subst hb
      exact (isD_of h).1
    · rw [digN_ge h]
      intro b hb
      rcases List.mem_append.1 hb with hb | hb
      · exact ih (n / 10) (by omega) b hb
      · rw [List.mem_singleton] at hb
        subst hb
        exact (isD_of (by omega)).1
/-- what a list of digits is worth -/
def val (l : List UInt8) : Nat := l.foldl (fun a b => a * 10 + (b.toNat - 48)) 0
theorem val_snoc (l : List UInt8) (b : UInt8) : val (l ++ [b]) = val l * 10 + (b.toNat - 48) := by
  unfold val
  rw [List.foldl_append]
  rfl
theorem val_digN (n : Nat) : val (digN n) = n := by
  induction n using Nat.strongRecOn with
  | _ n ih =>
    by_cases h : n < 10
    · rw [digN_lt h]
      show 0 * 10 + ((UInt8.ofNat (48 + n)).toNat - 48) = n
      rw [(isD_of h).2]
      omega
    · rw [digN_ge h, val_snoc, ih (n / 10) (by omega), (isD_of (by omega)).2]
      omega
theorem digN_pos (n : Nat) : 0 < (digN n).length := by
  by_cases h : n < 10
  · rw [digN_lt h]; simp
  · rw [digN_ge h]; simp
theorem digN_len (k : Nat) : ∀ n : Nat, n < 10 ^ (k + 1) → (digN n).length ≤ k + 1 := by
  induction k with
  | zero => intro n h; rw [digN_lt (by simpa using h)]; simp
  | succ k ih =>
    intro n h
    by_cases h2 : n < 10
    · rw [digN_lt h2]; simp
    · rw [digN_ge h2, List.length_append]
      have : n / 10 < 10 ^ (k + 1) := by
        rw [Nat.div_lt_iff_lt_mul (by omega)]
        rw [Nat.pow_succ] at h
        exact h
      have := ih _ this
      simp
      omega
theorem digN_head (n : Nat) (h : n ≠ 0) : ∃ c r, digN n = c :: r ∧ c ≠ 48 := by
  induction n using Nat.strongRecOn with
  | _ n ih =>
    by_cases h2 : n < 10
    · refine ⟨_, [], digN_lt h2, fun e => ?_⟩
      have := (isD_of h2).2
      rw [e] at this
      have h3 : (48 : UInt8).toNat = 48 := rfl
      omega
    · obtain ⟨c, r, e, hc⟩ := ih (n / 10) (by omega) (by omega)
      exact ⟨c, r ++ [UInt8.ofNat (48 + n % 10)], by rw [digN_ge h2, e]; rfl, hc⟩
theorem txt_nn {n : Int} (h : 0 ≤ n) : txt n = digN n.natAbs := if_neg (by omega)
theorem txt_neg {n : Int} (h : n < 0) : txt n = 45 :: digN n.natAbs := if_pos h
theorem digN_inj {m n : Nat} (h : digN m = digN n) : m = n := by rw [← val_digN m, h, val_digN]
theorem digN_no {n : Nat} {c : UInt8} {r : List UInt8} (h : digN n = c :: r) : isD c := digN_all n c (by rw [h]; simp)
theorem not45 : ¬ isD 45 := by unfold isD; decide
theorem txt_inj {m n : Int} (h : txt m = txt n) : m = n := by
  by_cases hm : m < 0 <;> by_cases hn : n < 0
  · rw [txt_neg hm, txt_neg hn] at h
    have := digN_inj (List.cons.inj h).2
    omega
  · rw [txt_neg hm, txt_nn (by omega)] at h
    exact absurd (digN_no h.symm) not45
  · rw [txt_nn (by omega), txt_neg hn] at h
    exact absurd (digN_no h) not45
  · rw [txt_nn (by omega), txt_nn (by omega)] at h
    have := digN_inj h
    omega
/-- a byte of a number's text -/
def isT (b : UInt8) : Prop := isD b ∨ b = 45
theorem txt_all (n : Int) : ∀ b ∈ txt n, isT b := by
  intro b hb
  by_cases hn : n < 0
  · rw [txt_neg hn] at hb
    rcases List.mem_cons.1 hb with e | e
    · exact .inr e
    · exact .inl (digN_all _ b e)
  · rw [txt_nn (by omega)] at hb
    exact .inl (digN_all _ b hb)
theorem txt_len {n : Int} (h : -9223372036854775808 ≤ n ∧ n ≤ 9223372036854775807) : (txt n).length ≤ 20 := by
  have := digN_len 18 n.natAbs (by omega)
  by_cases hn : n < 0
  · rw [txt_neg hn, List.length_cons]; omega
  · rw [txt_nn (by omega)]; omega
theorem txt_pos (n : Int) : 0 < (txt n).length := by
  have := digN_pos n.natAbs
  by_cases hn : n < 0
  · rw [txt_neg hn, List.length_cons]; omega
  · rw [txt_nn (by omega)]; exact this
/-- operands -/
def opsS (i : In) : List (List UInt8) :=
  (if fA (fmI i.op) then [if i.op = 6 then txt i.a else 114 :: txt i.a] else []) ++ ((if fB (fmI i.op) then [114 :: txt i.b] else []) ++ ((if fC (fmI i.op) then [114 :: txt i.c] else []) ++ (if fN (fmI i.op) then [txt i.n] else [])))
def joinR : List (List UInt8) → List UInt8
  | [] => []
  | x :: r => 44 :: 32 :: (x ++ joinR r)
def joinO : List (List UInt8) → List UInt8
  | [] => []
  | x :: r => 32 :: (x ++ joinR r)
/-- the text of an instruction -/
def fmtV (i : In) : List UInt8 := (rowOf i.op).nm ++ joinO (opsS i)
def vIn (i : In) : Bool := validI i.op i.a i.b i.c i.n
def fmtS (i : In) : List UInt8 := if vIn i then fmtV i else []
/-- the pieces of a text -/
def cpl (cur : List UInt8) : List UInt8 → List (List UInt8)
  | [] => [cur]
  | [b] => [cur ++ [b]]
  | b :: c :: r => if b = 44 ∧ c = 32 then cur :: cpl [] r else cpl (cur ++ [b]) (c :: r)
/-- a text without commas is one piece -/
def noC (x : List UInt8) : Prop := ∀ b ∈ x, b ≠ 44
theorem cpl_one (x : List UInt8) (h : noC x) : ∀ cur, cpl cur x = [cur ++ x] := by
  induction x with
  | nil => intro cur; simp [cpl]
  | cons b r ih =>
    intro cur
    have hb : b ≠ 44 := h b (by simp)
    have hr : noC r := fun y hy => h y (by simp [hy])
    cases r with
    | nil => simp [cpl]
    | cons c r =>
      rw [cpl, if_neg (fun e => hb e.1), ih hr]
      simp
theorem cpl_sep (x r : List UInt8) (h : noC x) : ∀ cur, cpl cur (x ++ 44 :: 32 :: r) = (cur ++ x) :: cpl [] r := by
  induction x with
  | nil => intro cur; simp [cpl]
  | cons b y ih =>
    intro cur
    have hb : b ≠ 44 := h b (by simp)
    have hy : noC y := fun z hz => h z (by simp [hz])
    have := ih hy (cur ++ [b])
    cases y with
    | nil =>
      simp only [List.nil_append, List.append_nil, List.cons_append] at this ⊢
      rw [cpl, if_neg (fun e => hb e.1), this]
    | cons c y =>
      simp only [List.cons_append] at this ⊢
      rw [cpl, if_neg (fun e => hb e.1), this]
      simp
theorem cpl_join (x : List UInt8) (r : List (List UInt8)) (hx : noC x) (hr : ∀ y ∈ r, noC y) : cpl [] (x ++ joinR r) = x :: r := by
  induction r generalizing x with
  | nil => simp only [joinR, List.append_nil]; rw [cpl_one x hx]; rfl
  | cons y r ih =>
    rw [joinR, cpl_sep x _ hx, ih y (hr y (by simp)) fun z hz => hr z (by simp [hz])]
    rfl
theorem noC_txt (n : Int) : noC (txt n) := by
  intro b hb e
  rcases txt_all n b hb with h | h
  · subst e; unfold isD at h; revert h; decide
  · subst e; revert h; decide
theorem noC_r {x : List UInt8} (h : noC x) : noC (114 :: x) := by
  intro b hb
  rcases List.mem_cons.1 hb with rfl | hb
  · decide
  · exact h b hb
theorem ops_noC (i : In) : ∀ x ∈ opsS i, noC x := by
  intro x hx
  unfold opsS at hx
  simp only [List.mem_append] at hx
  rcases hx with hx | hx | hx | hx <;> split at hx <;> simp at hx
  · subst hx
    split
    · exact noC_txt _
    · exact noC_r (noC_txt _)
  · subst hx; exact noC_r (noC_txt _)
  · subst hx; exact noC_r (noC_txt _)
  · subst hx; exact noC_txt _
/-- names have no blank -/
theorem nm_at : ∀ k : Fin 37, ∀ b ∈ (rowOf ((k : Nat) + 1)).nm, b ≠ 32 := by decide +kernel
theorem nm_no {op : Int} (h : 1 ≤ op ∧ op ≤ 37) : ∀ b ∈ (rowOf op).nm, b ≠ 32 := by
  have e := nm_at ⟨(op - 1).toNat, by omega⟩
  have e2 : (((op - 1).toNat : Nat) : Int) + 1 = op := by omega
  simp only [e2] at e
  exact e
theorem lkp_at : ∀ k : Fin 37, lkp rows 1 (rowOf ((k : Nat) + 1)).nm = (((k : Nat) + 1 : Int), true) := by decide +kernel
theorem lkp_nm {op : Int} (h : 1 ≤ op ∧ op ≤ 37) : lkp rows 1 (rowOf op).nm = (op, true) := by
  have e := lkp_at ⟨(op - 1).toNat, by omega⟩
  have e2 : (((op - 1).toNat : Nat) : Int) + 1 = op := by omega
  simp only [e2] at e
  exact e
/-- a text's first word and what follows -/
theorem word1 (x y : List UInt8) (hx : ∀ b ∈ x, b ≠ 32) (hy : y = [] ∨ ∃ r, y = 32 :: r) : (x ++ y).takeWhile (fun b => b != 32) = x := by
  induction x with
  | nil => rcases hy with rfl | ⟨r, rfl⟩ <;> simp
  | cons b x ih =>
    have := hx b (by simp)
    simp only [List.cons_append]
    rw [List.takeWhile_cons_of_pos (by simpa using this), ih fun c hc => hx c (by simp [hc])]
theorem joinO_hd (l : List (List UInt8)) : joinO l = [] ∨ ∃ r, joinO l = 32 :: r := by
  cases l with
  | nil => exact .inl rfl
  | cons x r => exact .inr ⟨_, rfl⟩
theorem vIn_op {i : In} (h : vIn i = true) : 1 ≤ i.op ∧ i.op ≤ 37 := by
  unfold vIn validI okI at h
  simp only [Bool.and_eq_true, decide_eq_true_eq] at h
  omega
theorem fmtS_v {i : In} (h : vIn i = true) : fmtS i = fmtV i := if_pos h
theorem fmtS_name {i : In} (h : vIn i = true) : (fmtS i).takeWhile (fun b => b != 32) = (rowOf i.op).nm := by
  rw [fmtS_v h]
  exact word1 _ _ (nm_no (vIn_op h)) (joinO_hd _)
theorem nm_ne : ∀ k : Fin 37, (rowOf ((k : Nat) + 1)).nm ≠ [] := by decide +kernel
theorem fmtS_ne {i : In} (h : vIn i = true) : fmtS i ≠ [] := by
  have e := nm_ne ⟨(i.op - 1).toNat, by have := vIn_op h; omega⟩
  have e2 : (((i.op - 1).toNat : Nat) : Int) + 1 = i.op := by have := vIn_op h; omega
  simp only [e2] at e
  rw [fmtS_v h]
  unfold fmtV
  intro h
  exact e (List.append_eq_nil_iff.1 h).1
theorem joinO_inj {l m : List (List UInt8)} (hl : ∀ y ∈ l, noC y) (hm : ∀ y ∈ m, noC y) (h : joinO l = joinO m) : l = m := by
  cases l with
  | nil => cases m with
    | nil => rfl
    | cons y m => simp [joinO] at h
  | cons x l => cases m with
    | nil => simp [joinO] at h
    | cons y m =>
      have h2 := (List.cons.inj h).2
      have e1 := cpl_join x l (hl x (by simp)) fun z hz => hl z (by simp [hz])
      have e2 := cpl_join y m (hm y (by simp)) fun z hz => hm z (by simp [hz])
      rw [← e1, ← e2, h2]
theorem fmtS_inj {i j : In} (hi : vIn i = true) (hj : vIn j = true) (h : fmtS i = fmtS j) : i = j := by
  have hn : (rowOf i.op).nm = (rowOf j.op).nm := by rw [← fmtS_name hi, h, fmtS_name hj]
  have ho : i.op = j.op := by
    have e := lkp_nm (vIn_op hi)
    rw [hn, lkp_nm (vIn_op hj)] at e
    exact (Prod.mk.inj e).1.symm
  rw [fmtS_v hi, fmtS_v hj] at h
  unfold fmtV at h
  rw [hn] at h
  have ho2 := joinO_inj (ops_noC i) (ops_noC j) (List.append_cancel_left h)
  obtain ⟨o, a, b, c, n⟩ := i
  obtain ⟨o', a', b', c', n'⟩ := j
  simp only at ho
  subst ho
  unfold vIn validI at hi hj
  unfold opsS at ho2
  simp only [Bool.and_eq_true, Bool.or_eq_true, beq_iff_eq, decide_eq_true_eq] at hi hj ho2
  have key : (fA (fmI o) = true → a = a') ∧ (fB (fmI o) = true → b = b') ∧ (fC (fmI o) = true → c = c') ∧ (fN (fmI o) = true → n = n') := by
    revert ho2
    cases fA (fmI o) <;> cases fB (fmI o) <;> cases fC (fmI o) <;> cases fN (fmI o) <;> (by_cases h6 : o = 6 <;> simp [h6] <;> (intros; simp_all [fun m n => show txt m = txt n ↔ m = n from ⟨txt_inj, fun e => by rw [e]⟩]))
  have ha : a = a' := by rcases hi.1.1.1.1.1.1.1.2 with q | q
                         · exact key.1 q
                         · rcases hj.1.1.1.1.1.1.1.2 with q2 | q2
                           · exact key.1 q2
                           · omega
  have hb : b = b' := by rcases hi.1.1.1.1.1.1.2 with q | q
                         · exact key.2.1 q
                         · rcases hj.1.1.1.1.1.1.2 with q2 | q2
                           · exact key.2.1 q2
                           · omega
  have hc : c = c' := by rcases hi.1.1.1.1.1.2 with q | q
                         · exact key.2.2.1 q
                         · rcases hj.1.1.1.1.1.2 with q2 | q2
                           · exact key.2.2.1 q2
                           · omega
  have hn : n = n' := by rcases hi.1.1.1.1.2 with q | q
                         · exact key.2.2.2 q
                         · rcases hj.1.1.1.1.2 with q2 | q2
                           · exact key.2.2.2 q2
                           · omega
  rw [ha, hb, hc, hn]
/-- a text's first word, what follows, the pieces of that -/
def nameS (s : List UInt8) : List UInt8 := s.takeWhile (fun b => b != 32)
def restS (s : List UInt8) : List UInt8 := s.drop ((nameS s).length + 1)
def pcsS (s : List UInt8) : List (List UInt8) := if (nameS s).length = s.length then [] else cpl [] (restS s)
def cutS (s : List UInt8) (i j : Nat) : List UInt8 := (s.drop i).take (j - i)
theorem name_cons (b : UInt8) (s : List UInt8) : nameS (b :: s) = if b = 32 then [] else b :: nameS s := by
  unfold nameS
  by_cases h : b = 32
  · rw [if_pos h, List.takeWhile_cons_of_neg (by simpa using h)]
  · rw [if_neg h, List.takeWhile_cons_of_pos (by simpa using h)]
theorem name_le (s : List UInt8) : (nameS s).length ≤ s.length := by
  induction s with
  | nil => exact Nat.le_refl _
  | cons b s ih =>
    rw [name_cons]
    split <;> simp
    exact ih
theorem name_take (s : List UInt8) : s.take (nameS s).length = nameS s := by
  induction s with
  | nil => rfl
  | cons b s ih =>
    rw [name_cons]
    split
    · rfl
    · rw [List.length_cons, List.take_succ_cons, ih]
theorem name_at : ∀ {s : List UInt8} {i : Nat}, i ≤ s.length → (∀ b ∈ s.take i, b ≠ 32) → (∀ h : i < s.length, s[i] = 32) → (nameS s).length = i
  | [], i, h, _, _ => by
    have : i = 0 := by simpa using h
    rw [this]; rfl
  | b :: s, 0, _, _, he => by
    have := he (by simp)
    rw [name_cons, if_pos (by simpa using this)]
    rfl
  | b :: s, i + 1, h, ha, he => by
    have hb : b ≠ 32 := ha b (by simp)
    rw [name_cons, if_neg hb, List.length_cons, name_at (s := s) (i := i) (by simpa using h) (fun c hc => ha c (by simp [hc])) fun q => he (Nat.succ_lt_succ q)]
theorem take_no {s : List UInt8} {i : Nat} (h : i < s.length) (ha : ∀ b ∈ s.take i, b ≠ 32) (hb : s[i] ≠ 32) : ∀ b ∈ s.take (i + 1), b ≠ 32 := by
  rw [List.take_succ_eq_append_getElem h]
  intro b hb2
  rcases List.mem_append.1 hb2 with q | q
  · exact ha b q
  · rw [List.mem_singleton] at q; subst q; exact hb
theorem cutS_succ {s : List UInt8} {fr i : Nat} (h : fr ≤ i) (hi : i < s.length) : cutS s fr (i + 1) = cutS s fr i ++ [s[i]] := by
  unfold cutS
  have hd : i - fr < (s.drop fr).length := by simp; omega
  rw [show i + 1 - fr = (i - fr) + 1 by omega, List.take_succ_eq_append_getElem hd]
  have e : fr + (i - fr) = i := by omega
  simp only [List.getElem_drop, e]
theorem cutS_self (s : List UInt8) (i : Nat) : cutS s i i = [] := by simp [cutS]
theorem drop_two {s : List UInt8} {i : Nat} (h : i + 1 < s.length) : s.drop i = s[i] :: s[i + 1] :: s.drop (i + 2) := by
  rw [List.drop_eq_getElem_cons (by omega), List.drop_eq_getElem_cons (i := i + 1) (by omega)]
theorem cpl_no {s : List UInt8} {fr i : Nat} (h : fr ≤ i) (hi : i + 1 < s.length) (hn : ¬ (s[i] = 44 ∧ s[i + 1] = 32)) : cpl (cutS s fr i) (s.drop i) = cpl (cutS s fr (i + 1)) (s.drop (i + 1)) := by
  rw [drop_two hi, cpl, if_neg hn, cutS_succ h (by omega), List.drop_eq_getElem_cons (i := i + 1) hi]
theorem cpl_yes {s : List UInt8} {fr i : Nat} (hi : i + 1 < s.length) (hy : s[i] = 44 ∧ s[i + 1] = 32) : cpl (cutS s fr i) (s.drop i) = cutS s fr i :: cpl [] (s.drop (i + 2)) := by
  rw [drop_two hi, cpl, if_pos hy]
theorem cpl_end {s : List UInt8} {fr i : Nat} (h : fr ≤ i) (hi : i ≤ s.length) (he : s.length ≤ i + 1) : cpl (cutS s fr i) (s.drop i) = [s.drop fr] := by
  rcases Nat.lt_or_ge i s.length with q | q
  · rw [List.drop_eq_getElem_cons q, List.drop_of_length_le (by omega), cpl, ← cutS_succ h q]
    unfold cutS
    rw [List.take_of_length_le (by simp; omega)]
  · rw [List.drop_of_length_le q, cpl]
    unfold cutS
    rw [List.take_of_length_le (by simp; omega)]
theorem b_eq {b c : UInt8} (h : b.toNat = c.toNat) : b = c := UInt8.toNat_inj.1 h
/-- how far the reference has split a text -/
def rsOk (s : List UInt8) (fr i : Nat) (acc : List (List UInt8)) : Prop := (fr ≤ i ∧ acc ++ cpl (cutS s fr i) (s.drop i) = cpl [] s) ∨ (fr = i + 1 ∧ (∃ r, s.drop i = 32 :: r) ∧ acc ++ cpl [] (s.drop fr) = cpl [] s)
theorem rs_yes {s : List UInt8} {fr i : Nat} {acc : List (List UInt8)} (h : rsOk s fr i acc) (hi : i + 1 < s.length) (hy : s[i] = 44 ∧ s[i + 1] = 32) : fr ≤ i ∧ rsOk s (i + 2) (i + 1) (acc ++ [cutS s fr i]) := by
  rcases h with ⟨h1, h2⟩ | ⟨h1, ⟨r, hr⟩, h2⟩
  · refine ⟨h1, .inr ⟨rfl, ⟨s.drop (i + 2), ?_⟩, ?_⟩⟩
    · rw [List.drop_eq_getElem_cons (i := i + 1) hi, hy.2]
    · rw [List.append_assoc, List.singleton_append, ← cpl_yes hi hy]
      exact h2
  · rw [drop_two hi, hy.1] at hr
    exact absurd (List.cons.inj hr).1 (by decide)
theorem rs_no {s : List UInt8} {fr i : Nat} {acc : List (List UInt8)} (h : rsOk s fr i acc) (hi : i + 1 < s.length) (hn : ¬ (s[i] = 44 ∧ s[i + 1] = 32)) : rsOk s fr (i + 1) acc := by
  rcases h with ⟨h1, h2⟩ | ⟨h1, ⟨r, hr⟩, h2⟩
  · exact .inl ⟨by omega, by rw [← cpl_no h1 hi hn]; exact h2⟩
  · subst h1
    exact .inl ⟨Nat.le_refl _, by rw [cutS_self]; exact h2⟩
theorem rs_end {s : List UInt8} {fr i : Nat} {acc : List (List UInt8)} (h : rsOk s fr i acc) (hi : i ≤ s.length) (he : s.length ≤ i + 1) : acc ++ [s.drop fr] = cpl [] s := by
  rcases h with ⟨h1, h2⟩ | ⟨h1, ⟨r, hr⟩, h2⟩
  · rw [← cpl_end h1 hi he]; exact h2
  · rw [← h2, List.drop_of_length_le (by omega)]; rfl
theorem rs_zero (s : List UInt8) : rsOk s 0 0 [] := .inl ⟨Nat.le_refl _, by rw [cutS_self]; rfl⟩
end Go.M29
