import Derived.Test.YtmfnadojephcpaaM15
set_option linter.unusedVariables false
namespace Go.M15
open Go.Pv
def opOk (op : Int) : Bool := decide (op = 1 \/ (4 <= op /\ op <= 24) \/ op = 27 \/ op = 28 \/ op = 29)
def opk (op : Int) : List Int :=
 if op = 23 \/ op = 27 \/ op = 29 then [2, 1]
 else if op = 24 then [2]
 else if op = 28 then [2, 1, 1]
 else if 4 <= op /\ op <= 19 then [1, 1]
 else if op = 20 \/ op = 21 then [1]
 else if op = 22 then [1, 1, 1] else []
def opS (op : Int) : Int := if opOk op = true then sort op else 0
def mxI (op : Int) : Int := if op = 2 then 5 else if op = 3 then 255 else if op = 23 \/ op = 28 then 3 else if op = 27 then 1000016 else if op = 30 then 7 else if op = 31 \/ op = 25 then 15 else -1
def vImm (op n : Int) : Bool := decide (op = 1 \/ (op ≠ 1 /\ mxI op < 0 /\ n = 0) \/ (op ≠ 1 /\ ¬ mxI op < 0 /\ 0 <= n /\ n <= mxI op /\ (op ≠ 27 \/ 0 < n)))
def vIm (op im iv imms : Int) : Bool := decide ((iv ≠ 0 /\ (op = 1 \/ op = 23 \/ op = 27 \/ op = 28) /\ im = 0 /\ 1 <= iv /\ iv <= imms) \/ (iv = 0 /\ (op = 23 \/ op = 28) /\ 0 <= im /\ im < 4) \/
 (iv = 0 /\ op = 27 /\ 1 <= im /\ im <= 1000016) \/ (iv = 0 /\ op ≠ 23 /\ op ≠ 28 /\ op ≠ 27 /\ (op = 1 \/ im = 0)))
theorem mxI_cases {op : Int} (h : op = 1 \/ (4 <= op /\ op <= 24) \/ op = 27 \/ op = 28 \/ op = 29) : ((op = 23 \/ op = 28) /\ mxI op = 3) \/ (op = 27 /\ mxI op = 1000016) \/ (op ≠ 23 /\ op ≠ 28 /\ op ≠ 27 /\ mxI op = -1) := by
 unfold mxI
 repeat' split
 all_goals omega
def nodeOk (op im iv : Int) (n : Nat) (s imms : Int) : Prop := opOk op = true /\ n = (opk op).length /\ (s = 0 \/ s = opS op) /\ vIm op im iv imms = true
instance (op im iv : Int) (n : Nat) (s imms : Int) : Decidable (nodeOk op im iv n s imms) := inferInstanceAs (Decidable (_ /\ _))
def badVar (v op im iv : Int) (n m : Nat) : Prop := v < 1 \/ v > m \/ op ≠ 0 \/ im ≠ 0 \/ iv ≠ 0 \/ 0 < n
instance (v op im iv : Int) (n m : Nat) : Decidable (badVar v op im iv n m) := inferInstanceAs (Decidable (_ \/ _))
mutual
def valP : T -> Int -> Int -> List Int -> Bool × List Int
 | .mk v op im iv ks, s, imms, vs =>
   if v ≠ 0 then
    if badVar v op im iv ks.length vs.length then (false, vs)
    else if vs.getD (v - 1).toNat 0 = 0 then (true, vs.set (v - 1).toNat s)
    else (decide (s = 0 \/ s = vs.getD (v - 1).toNat 0), vs)
   else if nodeOk op im iv ks.length s imms then valPs ks (opk op) imms vs else (false, vs)
def valPs : List T -> List Int -> Int -> List Int -> Bool × List Int
 | [], _, _, vs => (true, vs)
 | t :: r, q, imms, vs => match valP t (q.headD 0) imms vs with
   | (true, vs') => valPs r q.tail imms vs'
   | (false, vs') => (false, vs')
end
section
variable {v op im iv s imms : Int} {ks : List T} {vs : List Int}
theorem valP_bad (hv : v ≠ 0) (hb : badVar v op im iv ks.length vs.length) : valP (.mk v op im iv ks) s imms vs = (false, vs) := by
 rw [valP, if_pos hv, if_pos hb]
theorem valP_new (hv : v ≠ 0) (hb : ¬ badVar v op im iv ks.length vs.length) (h0 : vs.getD (v - 1).toNat 0 = 0) : valP (.mk v op im iv ks) s imms vs = (true, vs.set (v - 1).toNat s) := by
 rw [valP, if_pos hv, if_neg hb, if_pos h0]
theorem valP_old (hv : v ≠ 0) (hb : ¬ badVar v op im iv ks.length vs.length) (h0 : vs.getD (v - 1).toNat 0 ≠ 0) : valP (.mk v op im iv ks) s imms vs = (decide (s = 0 \/ s = vs.getD (v - 1).toNat 0), vs) := by
 rw [valP, if_pos hv, if_neg hb, if_neg h0]
theorem valP_no (hv : v = 0) (hn : ¬ nodeOk op im iv ks.length s imms) : valP (.mk v op im iv ks) s imms vs = (false, vs) := by
 rw [valP, if_neg (by simpa using hv), if_neg hn]
theorem valP_node (hv : v = 0) (hn : nodeOk op im iv ks.length s imms) : valP (.mk v op im iv ks) s imms vs = valPs ks (opk op) imms vs := by
 rw [valP, if_neg (by simpa using hv), if_pos hn]
end
theorem valPs_end {ks : List T} {q : List Int} {imms : Int} {vs : List Int} {i : Nat} (h : ks.length <= i) : valPs (ks.drop i) q imms vs = (true, vs) := by
 rw [List.drop_eq_nil_of_le h, valPs]
theorem valPs_step {ks : List T} {q : List Int} {imms : Int} {vs : List Int} {i : Nat} (h : i < ks.length) (hq : i < q.length) : valPs (ks.drop i) (q.drop i) imms vs = match valP ks[i] q[i] imms vs with
 | (true, vs') => valPs (ks.drop (i + 1)) (q.drop (i + 1)) imms vs'
 | (false, vs') => (false, vs') := by
 rw [List.drop_eq_getElem_cons h, List.drop_eq_getElem_cons hq, valPs]
 rfl
theorem tail_len : ∀ {l : List Int}, l.tail.length = l.length - 1 := by simp
mutual
theorem valP_len : ∀ (t : T) (s imms : Int) (vs : List Int), (valP t s imms vs).2.length = vs.length
 | .mk v op im iv ks, s, imms, vs => by
   rw [valP]
   split
   ·split
    ·rfl
    ·split
     ·simp
     ·rfl
   ·split
    ·exact valPs_len ks (opk op) imms vs
    ·rfl
theorem valPs_len : ∀ (ks : List T) (q : List Int) (imms : Int) (vs : List Int), (valPs ks q imms vs).2.length = vs.length
 | [], q, imms, vs => by rw [valPs]
 | t :: r, q, imms, vs => by
   rw [valPs]
   have h := valP_len t (q.headD 0) imms vs
   split
   ·rename_i vs' e
    rw [e] at h
    rw [valPs_len r q.tail imms vs']
    exact h
   ·rename_i vs' e
    rw [e] at h
    exact h
end
def valB (t : T) (vars imms : Int) : Bool := decide (0 <= vars /\ vars <= 6 /\ 0 <= imms /\ imms <= 6) && (decide (t.size <= 24) && (valP t 0 imms (List.replicate vars.toNat 0)).1)
theorem opk_no {op : Int} (h : opOk op = false) : opk op = [] /\ opS op = 0 := by
 refine ⟨?_, by unfold opS; rw [if_neg (by rw [h]; exact Bool.false_ne_true)]⟩
 unfold opOk at h
 rw [decide_eq_false_iff_not] at h
 unfold opk
 repeat' split
 all_goals first | rfl | (exfalso; omega)
theorem set_same {l : List Int} {i : Nat} {x : Int} (h : l.getD i 0 = x) (hi : i < l.length) : l.set i x = l := by
 rw [List.getD_eq_getElem?_getD, List.getElem?_eq_getElem hi] at h
 have h : l[i] = x := h
 rw [<- h, List.set_getElem_self]
theorem opk_ar {op : Int} (h : opOk op = true) : ((opk op).length : Int) = ar op := by
 unfold opOk at h
 rw [decide_eq_true_eq] at h
 unfold opk ar
 repeat' split
 all_goals first | rfl | (exfalso; omega)
theorem opk_at {op : Int} (h : opOk op = true) {i : Nat} (hi : i < (opk op).length) : osort op i = (opk op)[i] := by
 have hl := opk_ar h
 have h3 : (opk op).length <= 3 := by unfold opk; (repeat' split) <;> simp
 unfold opOk at h
 rw [decide_eq_true_eq] at h
 have hc : i = 0 \/ i = 1 \/ i = 2 := by omega
 revert hi
 unfold opk osort sort
 rcases hc with rfl | rfl | rfl
 all_goals
  repeat' split
  all_goals intro hi
  all_goals first | rfl | (exfalso; omega) | (simp at hi) | (exfalso; simp at hi; omega)
theorem nodeOk_ref {op im iv s imms : Int} {n : Nat} : nodeOk op im iv n s imms ↔ (opOk op = true /\ (n : Int) = ar op /\ (s = 0 \/ sort op = s) /\ 0 <= iv /\ iv <= imms /\ ¬ (0 < iv /\ (im ≠ 0 \/ hasImm op = false)) /\ ¬ (iv = 0 /\ vImm op im = false)) \/ (nodeOk op im iv n s imms /\ imms < 0) := by
 constructor
 ·intro h
  by_cases hi : imms < 0
  ·exact .inr ⟨h, hi⟩
  obtain ⟨h1, h2, h3, h4⟩ := h
  have hl := opk_ar h1
  refine .inl ⟨h1, by omega, ?_, ?_⟩
  ·unfold opS at h3
   rw [if_pos h1] at h3
   omega
  unfold opOk at h1
  rw [decide_eq_true_eq] at h1
  have hm := mxI_cases h1
  simp only [vIm, vImm, hasImm, decide_eq_true_eq, decide_eq_false_iff_not] at h4 ⊢
  omega
 ·rintro (⟨h1, h2, h3, h4, h5, h6, h7⟩ | h)
  ·have hl := opk_ar h1
   refine ⟨h1, by omega, ?_, ?_⟩
   ·unfold opS
    rw [if_pos h1]
    omega
   unfold opOk at h1
   rw [decide_eq_true_eq] at h1
   have hm := mxI_cases h1
   simp only [vIm, vImm, hasImm, decide_eq_true_eq, decide_eq_false_iff_not] at h6 h7 ⊢
   omega
  ·exact h.1
theorem nodeOk_iff {op im iv s imms : Int} {n : Nat} (hi : 0 <= imms) : nodeOk op im iv n s imms ↔ (opOk op = true /\ (n : Int) = ar op /\ (s = 0 \/ sort op = s) /\ 0 <= iv /\ iv <= imms /\ ¬ (0 < iv /\ (im ≠ 0 \/ hasImm op = false)) /\ ¬ (iv = 0 /\ vImm op im = false)) := by
 rw [nodeOk_ref]
 constructor
 ·rintro (h | h)
  ·exact h
  ·omega
 ·exact .inl
end Go.M15
namespace Go.Pv
theorem repl_zero (n : Nat) : repl n [.int .i64 0] = (List.replicate n (0 : Int)).map (IV.int .i64) := by
 induction n with
 | zero => rfl
 | succ n ih => simp [repl, ih, List.replicate_succ]
end Go.Pv
