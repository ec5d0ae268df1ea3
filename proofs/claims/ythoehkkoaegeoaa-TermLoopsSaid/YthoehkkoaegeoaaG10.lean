/-
  Sorts of arbitrary nodes, loops and calls too, in plain Lean.
  Conditions: none.
-/
import Derived.Test.YthoehkkoaegeoaaS10
set_option linter.unusedVariables false
namespace Go.M10
open Go.M15 Go.Pv
/-- the sorts of a loop's operands -/
def lsL (m : Nat) : List Int := 2 :: (List.replicate m 1 ++ 2 :: List.replicate (m - 1) 1)
def lsOk (k : List Int) : Bool := decide (k.length % 2 = 1) && (decide (3 ≤ k.length) && (decide (k.length ≤ 33) && decide (k = lsL (k.length / 2))))
def clOk (k : List Int) : Bool := match k with
  | [] => false
  | a :: r => decide (r.length ≤ 6) && (decide (a = 2) && r.all fun x => decide (x = 1))
/-- the sort of a node: e is the number of operands of the node that its first operand names -/
def nsortG (e : Nat) (op im : Int) (k : List Int) : Int :=
  if op = 31 then (if lsOk k = true ∧ vImm 31 im = true then 3 else 0)
  else if op = 30 then (if clOk k = true ∧ vImm 30 im = true then 2 else 0)
  else if op = 25 then (if k = [3] ∧ 0 ≤ im ∧ im ≤ 15 ∧ 2 * im + 3 ≤ e then (if im = 0 then 2 else 1) else 0)
  else nsort op im k
def eK (l : List Nd) (n : Nd) : Nat := (l.getD (n.ks.getD 0 0).toNat default).ks.length
def sstepG (l : List Nd) (out : List Int) (n : Nd) : Int := if n.ks.all (kidOk out) = true then nsortG (eK l n) n.op n.im (n.ks.map fun q => out.getD q.toNat 0) else 0
def sortsH : List Nd → List Int → List Nd → List Int
  | _, out, [] => out
  | p, out, n :: r => sortsH (p ++ [n]) (out ++ [sstepG p out n]) r
def sortsG (l : List Nd) : List Int := sortsH [] [] l
theorem sortsH_snoc (n : Nd) : ∀ (l p : List Nd) (out : List Int), sortsH p out (l ++ [n]) = sortsH p out l ++ [sstepG (p ++ l) (sortsH p out l) n]
  | [], p, out => by
    rw [List.append_nil]
    rfl
  | x :: l, p, out => by
    rw [List.cons_append, sortsH, sortsH, sortsH_snoc n l, List.append_assoc, List.singleton_append]
theorem sortsG_snoc (l : List Nd) (n : Nd) : sortsG (l ++ [n]) = sortsG l ++ [sstepG l (sortsG l) n] := by
  have := sortsH_snoc n l [] []
  rwa [List.nil_append] at this
theorem sortsH_len : ∀ (l p : List Nd) (out : List Int), (sortsH p out l).length = out.length + l.length
  | [], p, out => rfl
  | x :: l, p, out => by
    rw [sortsH, sortsH_len l]
    simp only [List.length_append, List.length_cons, List.length_nil]
    omega
theorem sortsG_len (l : List Nd) : (sortsG l).length = l.length := by unfold sortsG; rw [sortsH_len]; simp
theorem sortsH_pre : ∀ (l p : List Nd) (out : List Int), out <+: sortsH p out l
  | [], p, out => List.prefix_refl _
  | x :: l, p, out => (List.prefix_append _ _).trans (sortsH_pre l _ _)
theorem sortsH_app : ∀ (l r p : List Nd) (out : List Int), sortsH p out (l ++ r) = sortsH (p ++ l) (sortsH p out l) r
  | [], r, p, out => by rw [List.append_nil]; rfl
  | x :: l, r, p, out => by rw [List.cons_append, sortsH, sortsH, sortsH_app l r, List.append_assoc, List.singleton_append]
theorem sortsG_pre {l y : List Nd} (h : l <+: y) : sortsG l <+: sortsG y := by
  obtain ⟨r, rfl⟩ := h
  unfold sortsG
  rw [sortsH_app]
  exact sortsH_pre _ _ _
theorem sortsG_step {l : List Nd} {i : Nat} (h : i < l.length) : sortsG (l.take (i + 1)) = sortsG (l.take i) ++ [sstepG (l.take i) (sortsG (l.take i)) l[i]] := by
  rw [List.take_succ_eq_append_getElem h, sortsG_snoc]
theorem sstepG_bad {p : List Nd} {out : List Int} {n : Nd} {q : Int} (hm : q ∈ n.ks) (h : kidOk out q = false) : sstepG p out n = 0 := by
  unfold sstepG
  rw [if_neg]
  intro e
  rw [List.all_eq_true.1 e q hm] at h
  cases h
/-- the sorts of a node's operands so far -/
def SIG (l : List Nd) (i j : Nat) (k : List Int) : Prop := ∃ n, l[i]? = some n ∧ (j ≤ n.ks.length ∧ k.length = j) ∧ (n.ks.take j).all (kidOk (sortsG (l.take i))) = true ∧ k = (n.ks.take j).map fun q => (sortsG (l.take i)).getD q.toNat 0
theorem SIG.zero {l : List Nd} {i : Nat} (h : i < l.length) : SIG l i 0 [] := ⟨l[i], List.getElem?_eq_getElem h, ⟨Nat.zero_le _, rfl⟩, rfl, rfl⟩
theorem SIG.step {l : List Nd} {i j : Nat} {k : List Int} (h : SIG l i j k) (hi : i < l.length) (hj : j < l[i].ks.length) (hq : kidOk (sortsG (l.take i)) l[i].ks[j] = true) : SIG l i (j + 1) (k ++ [(sortsG (l.take i)).getD (l[i].ks[j]).toNat 0]) := by
  obtain ⟨n, h1, h2, h3, h4⟩ := h
  obtain rfl : l[i] = n := by rw [List.getElem?_eq_getElem hi] at h1; exact Option.some.inj h1
  refine ⟨_, h1, ⟨hj, by simp [h2.2]⟩, ?_, ?_⟩
  · rw [List.take_succ_eq_append_getElem hj, List.all_append, h3]
    simp [hq]
  · rw [List.take_succ_eq_append_getElem hj, List.map_append, h4]
    rfl
theorem kidOk_b {out : List Int} {q : Int} (h : kidOk out q = true) : 0 ≤ q ∧ q < out.length ∧ out.getD q.toNat 0 ≠ 0 := by
  unfold kidOk at h
  simp only [Bool.and_eq_true, decide_eq_true_eq] at h
  exact h
theorem lsOk_odd {k : List Int} (h : lsOk k = true) : k.length % 2 = 1 ∧ 3 ≤ k.length ∧ k.length ≤ 33 ∧ k = lsL (k.length / 2) := by
  unfold lsOk at h
  simp only [Bool.and_eq_true, decide_eq_true_eq] at h
  exact h
theorem lsL_len {m : Nat} (h : 1 ≤ m) : (lsL m).length = 2 * m + 1 := by
  unfold lsL
  simp
  omega
theorem lsOk_ls {m : Nat} (h1 : 1 ≤ m) (h2 : m ≤ 16) : lsOk (lsL m) = true := by
  unfold lsOk
  rw [lsL_len h1, show (2 * m + 1) / 2 = m by omega]
  simp only [Bool.and_eq_true, decide_eq_true_eq]
  exact ⟨by omega, by omega, by omega, trivial⟩
theorem nsort_ne3 {op im : Int} {k : List Int} : nsort op im k ≠ 3 := by
  unfold nsort
  repeat' split
  all_goals omega
theorem nsortG_3 {e : Nat} {op im : Int} {k : List Int} (h : nsortG e op im k = 3) : op = 31 ∧ lsOk k = true := by
  unfold nsortG at h
  split at h
  · rename_i c
    split at h
    · rename_i d; exact ⟨c, d.1⟩
    · omega
  · split at h
    · split at h <;> omega
    · split at h
      · split at h
        · split at h <;> omega
        · omega
      · exact absurd h nsort_ne3
theorem sortsG_at : ∀ {l : List Nd} {j : Nat} {n : Nd}, l[j]? = some n → (sortsG l).getD j 0 = sstepG (l.take j) (sortsG (l.take j)) n := by
  intro l j n h
  obtain ⟨hlt, rfl⟩ := List.getElem?_eq_some_iff.1 h
  have e : l.take (j + 1) = l.take j ++ [l[j]] := List.take_succ_eq_append_getElem hlt
  have h1 := sortsG_snoc (l.take j) l[j]
  rw [← e] at h1
  have h2 := pre_getD (sortsG_pre (List.take_prefix (j + 1) l)) (i := j) (by rw [sortsG_len, List.length_take]; omega)
  rw [h2, h1, List.getD_eq_getElem?_getD, List.getElem?_append_right (by rw [sortsG_len, List.length_take]; omega), sortsG_len, List.length_take, show j - min j l.length = 0 by omega]
  rfl
/-- what has the sort 3 is a loop with an odd number of operands -/
theorem sortsG_odd {l : List Nd} {q : Nat} (h : (sortsG l).getD q 0 = 3) : (l.getD q default).ks.length % 2 = 1 := by
  rcases Nat.lt_or_ge q l.length with c | c
  · have hq := List.getElem?_eq_getElem c
    rw [sortsG_at hq] at h
    unfold sstepG at h
    split at h
    · have := lsOk_odd (nsortG_3 h).2
      rw [List.length_map] at this
      rw [List.getD_eq_getElem?_getD, hq]
      exact this.1
    · omega
  · rw [List.getD_eq_getElem?_getD, List.getElem?_eq_none (by rw [sortsG_len]; exact c)] at h
    cases h
theorem take_getD {l : List Nd} {i q : Nat} (h : q < i) : (l.take i).getD q default = l.getD q default := by
  rw [List.getD_eq_getElem?_getD, List.getD_eq_getElem?_getD, List.getElem?_take_of_lt h]
/-- a node whose operands are all well-formed -/
theorem SIG.last {l : List Nd} {i j : Nat} {k : List Int} (h : SIG l i j k) (hi : i < l.length) (hj : l[i].ks.length ≤ j) :
    sstepG (l.take i) (sortsG (l.take i)) l[i] = nsortG (eK (l.take i) l[i]) l[i].op l[i].im k ∧ k.length = l[i].ks.length ∧ (∀ q ∈ l[i].ks, 0 ≤ q ∧ q < i) ∧ (k = [3] → eK l l[i] % 2 = 1 ∧ eK (l.take i) l[i] = eK l l[i]) := by
  obtain ⟨n, h1, h2, h3, h4⟩ := h
  obtain rfl : l[i] = n := by rw [List.getElem?_eq_getElem hi] at h1; exact Option.some.inj h1
  rw [List.take_of_length_le hj] at h3 h4
  have hq : ∀ q ∈ l[i].ks, 0 ≤ q ∧ q < i := fun q hq => by
    have := kidOk_b (List.all_eq_true.1 h3 q hq)
    rw [sortsG_len, List.length_take] at this
    omega
  refine ⟨?_, by rw [h4]; simp, hq, fun e => ?_⟩
  · unfold sstepG
    rw [if_pos h3, h4]
  · rw [e] at h4
    cases hk : l[i].ks with
    | nil => rw [hk] at h4; cases h4
    | cons q r =>
      rw [hk, List.map_cons, List.cons.injEq] at h4
      have h5 := hq q (by rw [hk]; exact List.mem_cons_self)
      have h6 := sortsG_odd h4.1.symm
      have e1 : eK (l.take i) l[i] = ((l.take i).getD q.toNat default).ks.length := by unfold eK; rw [hk]; rfl
      have e2 : eK l l[i] = (l.getD q.toNat default).ks.length := by unfold eK; rw [hk]; rfl
      rw [take_getD (by omega)] at h6 e1
      exact ⟨by rw [e2]; exact h6, by rw [e1, e2]⟩
theorem lsL_mem {m : Nat} : ∀ x ∈ lsL m, x = 1 ∨ x = 2 := by
  intro x hx
  unfold lsL at hx
  simp only [List.mem_cons, List.mem_append, List.mem_replicate] at hx
  omega
theorem all1 {k : List Int} (h : (k.all fun x => decide (x = 1)) = true) : k = List.replicate k.length 1 := List.eq_replicate_iff.2 ⟨rfl, fun x hx => by simpa using List.all_eq_true.1 h x hx⟩
theorem lsOk_of {k : List Int} {m : Nat} (hm : k.length = 2 * m + 1) (h1 : 1 ≤ m) (h2 : m ≤ 16) (h3 : k[0]? = some 2) (h4 : (((k.drop 1).take m).all fun x => decide (x = 1)) = true) (h5 : k[m + 1]? = some 2) (h6 : ((k.drop (m + 2)).all fun x => decide (x = 1)) = true) : lsOk k = true := by
  cases k with
  | nil => cases h3
  | cons a t =>
    simp only [List.length_cons] at hm
    rw [List.getElem?_cons_zero, Option.some.injEq] at h3
    rw [List.getElem?_cons_succ] at h5
    rw [List.drop_succ_cons, List.drop_zero] at h4
    rw [show m + 2 = (m + 1) + 1 by omega, List.drop_succ_cons] at h6
    have hlt : m < t.length := by omega
    have hd : t.drop m = 2 :: t.drop (m + 1) := by
      rw [List.drop_eq_getElem_cons hlt]
      rw [List.getElem?_eq_getElem hlt, Option.some.injEq] at h5
      rw [h5]
    have e1 := all1 h4
    have e2 := all1 h6
    rw [List.length_take, Nat.min_eq_left (by omega)] at e1
    rw [List.length_drop, show t.length - (m + 1) = m - 1 by omega] at e2
    have et : t = List.replicate m 1 ++ 2 :: List.replicate (m - 1) 1 := by
      rw [← e1, ← e2, ← hd, List.take_append_drop]
    rw [et, h3]
    exact lsOk_ls h1 h2
theorem lsOk_p {k : List Int} (h : lsOk k = true) : k[0]? = some 2 ∧ (((k.drop 1).take (k.length / 2)).all fun x => decide (x = 1)) = true ∧ k[k.length / 2 + 1]? = some 2 ∧ ((k.drop (k.length / 2 + 2)).all fun x => decide (x = 1)) = true := by
  obtain ⟨h1, h2, h3, h4⟩ := lsOk_odd h
  generalize k.length / 2 = m at h4
  subst h4
  unfold lsL
  refine ⟨rfl, ?_, ?_, ?_⟩
  · simp
  · simp
  · rw [List.drop_succ_cons, List.drop_append]
    simp
theorem nsortG_e {e e2 : Nat} {op im : Int} {k : List Int} (h : k = [3] → e = e2) : nsortG e op im k = nsortG e2 op im k := by
  unfold nsortG
  by_cases c : k = [3]
  · rw [h c]
  · simp [c]
theorem SIG.lst {l : List Nd} {i j : Nat} {k : List Int} (h : SIG l i j k) (hi : i < l.length) (hj : l[i].ks.length ≤ j) :
    sstepG (l.take i) (sortsG (l.take i)) l[i] = nsortG (eK l l[i]) l[i].op l[i].im k ∧ k.length = l[i].ks.length ∧ (∀ q ∈ l[i].ks, 0 ≤ q ∧ q < l.length) ∧ (k = [3] → eK l l[i] % 2 = 1) := by
  obtain ⟨h1, h2, h3, h4⟩ := h.last hi hj
  exact ⟨h1.trans (nsortG_e fun e => (h4 e).2), h2, fun q hq => by have := h3 q hq; omega, fun e => (h4 e).1⟩
theorem nsortG_rng {e : Nat} {op im : Int} {k : List Int} (hr : ∀ x ∈ k, 1 ≤ x ∧ x ≤ 3) : 0 ≤ nsortG e op im k ∧ nsortG e op im k ≤ 3 := by
  unfold nsortG
  repeat' split
  all_goals first | omega | exact nsort_rng hr
theorem sstepG_rng {p : List Nd} {out : List Int} {n : Nd} (h : ∀ x ∈ out, 0 ≤ x ∧ x ≤ 3) : 0 ≤ sstepG p out n ∧ sstepG p out n ≤ 3 := by
  unfold sstepG
  split
  · rename_i ha
    refine nsortG_rng fun x hx => ?_
    obtain ⟨q, hq, rfl⟩ := List.mem_map.1 hx
    obtain ⟨p1, p2, p3⟩ := kidOk_b (List.all_eq_true.1 ha q hq)
    have hlt : q.toNat < out.length := by omega
    have e : out.getD q.toNat 0 = out[q.toNat] := by rw [List.getD_eq_getElem?_getD, List.getElem?_eq_getElem hlt]; rfl
    have := h _ (List.getElem_mem hlt)
    rw [e] at p3 ⊢
    omega
  · omega
theorem sortsH_rng : ∀ (l p : List Nd) (out : List Int), (∀ x ∈ out, 0 ≤ x ∧ x ≤ 3) → ∀ x ∈ sortsH p out l, 0 ≤ x ∧ x ≤ 3
  | [], p, out, h => h
  | n :: r, p, out, h => by
    rw [sortsH]
    refine sortsH_rng r _ _ fun x hx => ?_
    rcases List.mem_append.1 hx with hx | hx
    · exact h x hx
    · rw [List.mem_singleton.1 hx]
      exact sstepG_rng h
theorem sortsG_rng (l : List Nd) : ∀ x ∈ sortsG l, 0 ≤ x ∧ x ≤ 3 := sortsH_rng l [] [] (fun x h => by cases h)
theorem SIG.rng {l : List Nd} {i j : Nat} {k : List Int} (h : SIG l i j k) : ∀ x ∈ k, 1 ≤ x ∧ x ≤ 3 := by
  obtain ⟨n, h1, h2, h3, h4⟩ := h
  intro x hx
  rw [h4] at hx
  obtain ⟨q, hq, rfl⟩ := List.mem_map.1 hx
  obtain ⟨p1, p2, p3⟩ := kidOk_b (List.all_eq_true.1 h3 q hq)
  have hlt : q.toNat < (sortsG (l.take i)).length := by omega
  have e : (sortsG (l.take i)).getD q.toNat 0 = (sortsG (l.take i))[q.toNat] := by rw [List.getD_eq_getElem?_getD, List.getElem?_eq_getElem hlt]; rfl
  have := sortsG_rng _ _ (List.getElem_mem hlt)
  rw [e] at p3 ⊢
  omega
/-- what has the sort 3 has 3 to 33 operands -/
theorem sortsG_33 {l : List Nd} {q : Nat} (h : (sortsG l).getD q 0 = 3) : q < l.length ∧ 3 ≤ (l.getD q default).ks.length ∧ (l.getD q default).ks.length ≤ 33 := by
  rcases Nat.lt_or_ge q l.length with c | c
  · have hq := List.getElem?_eq_getElem c
    rw [sortsG_at hq] at h
    unfold sstepG at h
    split at h
    · have := lsOk_odd (nsortG_3 h).2
      rw [List.length_map] at this
      rw [List.getD_eq_getElem?_getD, hq]
      exact ⟨c, this.2.1, this.2.2.1⟩
    · omega
  · rw [List.getD_eq_getElem?_getD, List.getElem?_eq_none (by rw [sortsG_len]; exact c)] at h
    cases h
def vOpsG (op : Int) (s : List Int) : Bool := if op = 31 then lsOk s else if op = 25 then decide (s = [3]) else vOps op s
def vImmG (e : Nat) (op im : Int) : Bool := if op = 25 then decide (0 ≤ im ∧ 2 * im + 3 ≤ e) else vImm op im
def svoG (op im : Int) (k : List Int) : Int := if op = 31 then 3 else if op = 25 then (if im = 0 then 2 else 1) else svo op im k
theorem nsortG_vo {e : Nat} {op im : Int} {k : List Int} (h30 : op ≠ 30) (hr : ∀ x ∈ k, 1 ≤ x ∧ x ≤ 3) (he : k = [3] → e ≤ 33) : nsortG e op im k = if vOpsG op k = true ∧ vImmG e op im = true then svoG op im k else 0 := by
  unfold nsortG vOpsG vImmG svoG
  by_cases o31 : op = 31
  · subst o31
    simp
  by_cases o25 : op = 25
  · subst o25
    simp only [show ¬ ((25 : Int) = 31) by decide, show ¬ ((25 : Int) = 30) by decide, if_false, if_true]
    by_cases c : k = [3]
    · have := he c
      by_cases d : 0 ≤ im ∧ 2 * im + 3 ≤ (e : Int)
      · rw [if_pos (show k = [3] ∧ 0 ≤ im ∧ im ≤ 15 ∧ 2 * im + 3 ≤ (e : Int) from ⟨c, d.1, by omega, d.2⟩), if_pos (show decide (k = [3]) = true ∧ decide (0 ≤ im ∧ 2 * im + 3 ≤ (e : Int)) = true from ⟨by simp [c], by simp [d]⟩)]
      · rw [if_neg (fun q => d ⟨q.2.1, q.2.2.2⟩), if_neg (fun q => d (by simpa using q.2))]
    · rw [if_neg (fun q => c q.1), if_neg (fun q => c (by simpa using q.1))]
  rw [if_neg o31, if_neg h30, if_neg o25, if_neg o31, if_neg o25, if_neg o25, if_neg o31, if_neg o25]
  exact nsort_vo ⟨o25, h30, o31⟩ hr
theorem SIG.fin {l : List Nd} {i j : Nat} {k : List Int} (h : SIG l i j k) (hi : i < l.length) (hj : l[i].ks.length ≤ j) (h30 : l[i].op ≠ 30) :
    sstepG (l.take i) (sortsG (l.take i)) l[i] = (if vOpsG l[i].op k = true ∧ vImmG (eK l l[i]) l[i].op l[i].im = true then svoG l[i].op l[i].im k else 0) ∧ k.length = l[i].ks.length ∧ (vOpsG l[i].op k = true → l[i].op = 25 → ∃ q : Int, l[i].ks = [q] ∧ (0 ≤ q ∧ q < l.length) ∧ 3 ≤ (l.getD q.toNat default).ks.length ∧ (l.getD q.toNat default).ks.length ≤ 33) := by
  have hr := h.rng
  obtain ⟨h1, h2, h3, h4⟩ := h.lst hi hj
  have h33 : k = [3] → ∃ q : Int, l[i].ks = [q] ∧ (0 ≤ q ∧ q < l.length) ∧ 3 ≤ (l.getD q.toNat default).ks.length ∧ (l.getD q.toNat default).ks.length ≤ 33 := fun e => by
    obtain ⟨n, e1, e2, e3, e4⟩ := h
    obtain rfl : l[i] = n := by rw [List.getElem?_eq_getElem hi] at e1; exact Option.some.inj e1
    rw [List.take_of_length_le hj, e] at e4
    have hl : l[i].ks.length = 1 := by rw [← h2, e]; rfl
    match hks : l[i].ks, hl with
    | [q], _ =>
      rw [hks, List.map_cons, List.cons.injEq] at e4
      have h5 := h3 q (by rw [hks]; exact List.mem_cons_self)
      have h6 := sortsG_33 e4.1.symm
      rw [take_getD (by have := h6.1; rw [List.length_take] at this; omega)] at h6
      exact ⟨q, rfl, h5, h6.2⟩
  refine ⟨?_, h2, fun v o => ?_⟩
  · rw [h1]
    refine nsortG_vo h30 hr fun e => ?_
    obtain ⟨q, e1, e2, e3, e4⟩ := h33 e
    show (l.getD (l[i].ks.getD 0 0).toNat default).ks.length ≤ 33
    rw [e1]
    exact e4
  · unfold vOpsG at v
    rw [o, if_neg (by decide), if_pos rfl, decide_eq_true_eq] at v
    exact h33 v
/-- what sortOf is given: the sorts so far, in the heap -/
def SPG (h : Heap) (id : Nat) (l : List Nd) (i : Nat) (k0 : List Int) : Prop := (i < l.length ∧ (∀ x ∈ l, x.ks.length ≤ 1000000 ∧ x.op ≠ 30) ∧ l.length ≤ 1000000) ∧ h.get id = .cells (k0.map (IV.int .i64)) ∧ id < h.next ∧ k0.length = l.length ∧ k0.take i = sortsG (l.take i)
end Go.M10
