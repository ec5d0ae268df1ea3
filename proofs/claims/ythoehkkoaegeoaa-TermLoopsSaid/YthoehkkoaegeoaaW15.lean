/-
  Texts of this proof, one after the other.
  Conditions: none.
-/
import Derived.Test.YthoehkkoaegeoaaPvVS
import Derived.IntWalk
section
/-
  Patterns: trees, in plain Lean, and their cells.
  Conditions: none.
-/
set_option linter.unusedVariables false
namespace Go.M15
/-- a pattern: its variable, its operation, its immediate operand, its immediate variable, its operands -/
inductive T where
  | mk (v op im iv : Int) (ks : List T)
  deriving Inhabited
def T.v : T → Int | .mk v _ _ _ _ => v
def T.op : T → Int | .mk _ op _ _ _ => op
def T.im : T → Int | .mk _ _ im _ _ => im
def T.iv : T → Int | .mk _ _ _ iv _ => iv
def T.ks : T → List T | .mk _ _ _ _ ks => ks
mutual
/-- the number of parts, as the program counts it -/
def T.size : T → Int
  | .mk _ _ _ _ ks => sizes 1 ks
def sizes (n : Int) : List T → Int
  | [] => n
  | t :: r => sizes (IntKind.i64.wrap (n + t.size)) r
end
mutual
/-- the number of parts -/
def T.num : T → Nat
  | .mk _ _ _ _ ks => nums ks + 1
def nums : List T → Nat
  | [] => 0
  | t :: r => t.num + nums r
end
theorem num_lt : ∀ {ks : List T} {t : T}, t ∈ ks → t.num ≤ nums ks
  | x :: r, t, h => by
    rcases List.mem_cons.1 h with rfl | h
    · simp only [nums]; omega
    · have := num_lt h
      simp only [nums]; omega
theorem num_kid {t k : T} (h : k ∈ t.ks) : k.num < t.num := by
  cases t with
  | mk v op im iv ks =>
    have := num_lt (ks := ks) h
    simp only [T.num]
    omega
theorem sizes_take {ks : List T} {n : Int} : ∀ {i : Nat}, i < ks.length → sizes n (ks.take (i + 1)) = IntKind.i64.wrap (sizes n (ks.take i) + (ks[i]?.getD default).size) := by
  intro i h
  induction ks generalizing n i with
  | nil => simp at h
  | cons x r ih =>
    cases i with
    | zero => simp [sizes]
    | succ i =>
      simp only [List.take_succ_cons, sizes]
      rw [ih (by simpa using h)]
      simp
def bnd : Nat → Nat
  | 0 => 1
  | n + 1 => 3 * bnd n + 1
def i64b (n : Int) : Prop := -9223372036854775808 ≤ n ∧ n ≤ 9223372036854775807
instance (n : Int) : Decidable (i64b n) := inferInstanceAs (Decidable (_ ∧ _))
mutual
/-- all numbers are int64 -/
def T.ok : T → Prop
  | .mk v op im iv ks => (i64b v ∧ i64b op ∧ i64b im ∧ i64b iv) ∧ oks ks
def oks : List T → Prop
  | [] => True
  | t :: r => t.ok ∧ oks r
end
theorem oks_append : ∀ {a b : List T}, oks (a ++ b) ↔ oks a ∧ oks b
  | [], b => by simp [oks]
  | x :: a, b => by simp [oks, oks_append (a := a), and_assoc]
theorem nums_append : ∀ {a b : List T}, nums (a ++ b) = nums a + nums b
  | [], b => by simp [nums]
  | x :: a, b => by simp [nums, nums_append (a := a)]; omega
theorem ok_kid : ∀ {ks : List T} {t : T}, oks ks → t ∈ ks → t.ok
  | x :: r, t, h, hm => by
    rcases List.mem_cons.1 hm with rfl | hm
    · exact h.1
    · exact ok_kid h.2 hm
mutual
/-- no row is too long to be counted -/
def T.thin : T → Prop
  | .mk _ _ _ _ ks => ks.length ≤ 1000000000000000 ∧ thins ks
def thins : List T → Prop
  | [] => True
  | t :: r => t.thin ∧ thins r
end
theorem num_pos (t : T) : 1 ≤ t.num := by cases t; simp only [T.num]; omega
theorem len_nums : ∀ ks : List T, ks.length ≤ nums ks
  | [] => Nat.le_refl _
  | t :: r => by have := len_nums r; have := num_pos t; simp only [nums, List.length_cons]; omega
mutual
theorem thin_num : ∀ t : T, t.num ≤ 1000000000000000 → t.thin
  | .mk _ _ _ _ ks, h => by
    simp only [T.num] at h
    have := len_nums ks
    exact ⟨by omega, thins_nums ks (by omega)⟩
theorem thins_nums : ∀ ks : List T, nums ks ≤ 1000000000000000 → thins ks
  | [], _ => trivial
  | t :: r, h => by
    simp only [nums] at h
    exact ⟨thin_num t (by omega), thins_nums r (by omega)⟩
end
theorem thin_kid : ∀ {ks : List T} {t : T}, thins ks → t ∈ ks → t.thin
  | x :: r, t, h, hm => by
    rcases List.mem_cons.1 hm with rfl | hm
    · exact h.1
    · exact thin_kid h.2 hm
theorem thin_ks {t : T} (h : t.thin) : t.ks.length ≤ 1000000000000000 ∧ thins t.ks := by cases t; exact h
theorem size_ks (t : T) : t.size = sizes 1 t.ks := by cases t; rfl
theorem sizes_next {ks : List T} {n : Int} {i : Nat} (h : i < ks.length) : sizes n (ks.take (i + 1)) = IntKind.i64.wrap (sizes n (ks.take i) + sizes 1 ks[i].ks) := by
  rw [sizes_take h, List.getElem?_eq_getElem h, ← size_ks]
  rfl
/-- the number of an operation's operands -/
def ar (op : Int) : Int :=
  if op = 1 ∨ op = 2 ∨ op = 3 ∨ op = 26 then 0
  else if op = 20 ∨ op = 21 ∨ op = 24 ∨ op = 25 then 1
  else if (4 ≤ op ∧ op ≤ 19) ∨ op = 23 ∨ op = 27 ∨ op = 29 then 2
  else if op = 22 ∨ op = 28 then 3
  else if op = 30 ∨ op = 31 then -1 else 0
def arOk (op : Int) : Bool := decide (1 ≤ op ∧ op ≤ 31)
/-- a value (1) or a state (2) -/
def sort (op : Int) : Int := if op = 27 ∨ op = 28 ∨ op = 29 then 2 else 1
def osort (op k : Int) : Int := if k = 0 ∧ (sort op = 2 ∨ op = 23 ∨ op = 24) then 2 else 1
def hasImm (op : Int) : Bool := decide (op = 1 ∨ op = 23 ∨ op = 27 ∨ op = 28)
end Go.M15
namespace Go.Pv
theorem hget_intro {h : Heap} {id : Nat} {cs : List IV} {K : List IV → Prop} (e : h.get id = .cells cs) (hk : K cs) : hgetS h id K := by
  unfold hgetS; rw [e]; exact hk
theorem tip_intro {h : Heap} {id m : Nat} {K : Nat → Prop} (e : h.get id = .tip m) (hk : K m) : tipS h id K := by
  unfold tipS; rw [e]; exact hk
theorem ldV0 {sz : Nat} {io : Option Nat} {e n : Nat} {cs r : List IV} {K : Option Nat → Nat → Nat → List IV → Prop} (hk : K io e n cs) : ldVS sz (.vslice io e n sz cs :: r) 0 K := by
  unfold ldVS
  simpa using hk
theorem get_set_eq {h : Heap} {id : Nat} {x : IObj} : (h.set id x).get id = x := by rw [Heap.get_set, if_pos rfl]
theorem get_set_ne {h : Heap} {id j : Nat} {x : IObj} (hn : j ≠ id) : (h.set id x).get j = h.get j := by rw [Heap.get_set, if_neg hn]
theorem get_push_eq {h : Heap} {x : IObj} : (h.push x).get h.next = x := by rw [Heap.get_push, if_pos rfl]
theorem get_push_lt {h : Heap} {j : Nat} {x : IObj} (hn : j < h.next) : (h.push x).get j = h.get j := by rw [Heap.get_push, if_neg (by omega)]
theorem next_set {h : Heap} {id : Nat} {x : IObj} : (h.set id x).next = h.next := rfl
theorem next_push {h : Heap} {x : IObj} : (h.push x).next = h.next + 1 := rfl
/-- what lay there before lies there still, but for one object -/
def HF (id : Nat) (h h' : Heap) : Prop := h.next ≤ h'.next ∧ ∀ j, j < h.next → j ≠ id → h'.get j = h.get j
theorem HF.refl {id : Nat} {h : Heap} : HF id h h := ⟨Nat.le_refl _, fun _ _ _ => rfl⟩
theorem HF.trans {id : Nat} {a b c : Heap} (x : HF id a b) (y : HF id b c) : HF id a c :=
  ⟨Nat.le_trans x.1 y.1, fun j hj hn => by rw [y.2 j (Nat.lt_of_lt_of_le hj x.1) hn, x.2 j hj hn]⟩
theorem HF.set {id : Nat} {h : Heap} {x : IObj} : HF id h (h.set id x) := ⟨Nat.le_refl _, fun j _ hn => get_set_ne hn⟩
theorem HF.push {id : Nat} {h : Heap} {x : IObj} : HF id h (h.push x) := ⟨Nat.le_succ _, fun j hj _ => get_push_lt hj⟩
end Go.Pv
namespace Go.M15
open Go.Pv
theorem wrap_b (n : Int) : i64b (IntKind.i64.wrap n) := by
  unfold i64b
  rw [IntKind.wrap_i64]
  omega
theorem bnd_pos : ∀ n, 1 ≤ bnd n
  | 0 => Nat.le_refl _
  | n + 1 => by have := bnd_pos n; simp only [bnd]; omega
/-- a reader of seeds in the heap -/
def RD (h : Heap) (id : Nat) : Prop := id < h.next ∧ ∃ io e lp, ∃ l : List Int, (∀ x ∈ l, i64b x) ∧ h.get id = .cells [.vslice io e l.length 1 (l.map (IV.int .i64)), .int .i64 lp]
theorem RD.push {h : Heap} {id : Nat} {x : IObj} (r : RD h id) : RD (h.push x) id := by
  obtain ⟨h1, io, e, lp, l, h2, h3⟩ := r
  exact ⟨Nat.lt_succ_of_lt h1, io, e, lp, l, h2, by rw [get_push_lt h1]; exact h3⟩
theorem RD.set {h : Heap} {id i : Nat} {x : IObj} (r : RD h id) (hn : i ≠ id) : RD (h.set i x) id := by
  obtain ⟨h1, io, e, lp, l, h2, h3⟩ := r
  exact ⟨h1, io, e, lp, l, h2, by rw [get_set_ne (fun e => hn e.symm)]; exact h3⟩
/-- what the generator knows of its heap -/
def GH (h : Heap) (id : Nat) (h2 : Heap) : Prop := RD h2 id ∧ HF id h h2
theorem GH.push {h h2 : Heap} {id : Nat} {x : IObj} (g : GH h id h2) : GH h id (h2.push x) := ⟨g.1.push, g.2.trans HF.push⟩
theorem GH.set {h h2 : Heap} {id i : Nat} {x : IObj} (g : GH h id h2) (hi : h.next ≤ i) (hn : i ≠ id) : GH h id (h2.set i x) :=
  ⟨g.1.set hn, g.2.1, fun j hj hne => by rw [get_set_ne (by omega)]; exact g.2.2 j hj hne⟩
theorem GH.trans {h h1 h2 : Heap} {id : Nat} (g : GH h id h1) (k : GH h1 id h2) : GH h id h2 := ⟨k.1, g.2.trans k.2⟩
end Go.M15
namespace Go.Pv
open Go.M15
mutual
/-- a pattern's cells -/
def cT : T → List IV
  | .mk v op im iv ks => [.int .i64 v, .int .i64 op, .int .i64 im, .int .i64 iv, .vslice none 0 ks.length 5 (cTs ks)]
def cTs : List T → List IV
  | [] => []
  | t :: r => cT t ++ cTs r
end
/-- a row of patterns -/
def rT (ks : List T) : IV := .vslice none 0 ks.length 5 (cTs ks)
theorem cT_len (t : T) : (cT t).length = 5 := by cases t; rfl
theorem cTs_len : ∀ ks : List T, (cTs ks).length = ks.length * 5
  | [] => rfl
  | t :: r => by simp only [cTs, List.length_append, cT_len, cTs_len r, List.length_cons]; omega
theorem cTs_append : ∀ (a b : List T), cTs (a ++ b) = cTs a ++ cTs b
  | [], b => rfl
  | x :: a, b => by simp only [List.cons_append, cTs, cTs_append a b, List.append_assoc]
theorem cTs_at : ∀ {ks : List T} {i j : Nat} (h : i < ks.length), j < 5 → (cTs ks)[i * 5 + j]? = (cT ks[i])[j]?
  | x :: r, 0, j, _, hj => by
    rw [cTs, Nat.zero_mul, Nat.zero_add, List.getElem?_append_left (by rw [cT_len]; exact hj)]
    rfl
  | x :: r, i + 1, j, h, hj => by
    rw [cTs, List.getElem?_append_right (by rw [cT_len]; omega), cT_len, show (i + 1) * 5 + j - 5 = i * 5 + j by omega]
    exact cTs_at (ks := r) (by simpa using h) hj
/-- a pattern is loaded out of a row -/
theorem ldT {ks : List T} {i o : Nat} {K : Int → Int → Int → Int → Option Nat → Nat → Nat → List IV → Prop} (h : i < ks.length) (ho : o = i * 5)
    (hk : K ks[i].v ks[i].op ks[i].im ks[i].iv none 0 ks[i].ks.length (cTs ks[i].ks)) :
    ldIS .i64 (cTs ks) o fun a => ldIS .i64 (cTs ks) (o + 1) fun b => ldIS .i64 (cTs ks) (o + 1 + 1) fun c => ldIS .i64 (cTs ks) (o + 1 + 1 + 1) fun d => ldVS 5 (cTs ks) (o + 1 + 1 + 1 + 1) fun p q r s => K a b c d p q r s := by
  subst ho
  have e0 := cTs_at (j := 0) h (by omega)
  have e1 := cTs_at (j := 1) h (by omega)
  have e2 := cTs_at (j := 2) h (by omega)
  have e3 := cTs_at (j := 3) h (by omega)
  have e4 := cTs_at (j := 4) h (by omega)
  generalize ks[i] = t at *
  cases t
  unfold ldIS ldVS
  simp only [Nat.add_zero] at e0
  simp only [Nat.add_assoc, Nat.reduceAdd, e0, e1, e2, e3, e4]
  exact hk
theorem pureL_app : ∀ {l m : List IV}, pureL (l ++ m) = (pureL l && pureL m) := pureL_append
mutual
theorem pureL_cT : ∀ t : T, pureL (cT t) = true
  | .mk v op im iv ks => by simp only [cT, pureL, pureB, pureL_cTs ks, Bool.and_true]
theorem pureL_cTs : ∀ ks : List T, pureL (cTs ks) = true
  | [] => rfl
  | t :: r => by simp only [cTs, pureL_append, pureL_cT t, pureL_cTs r, Bool.and_true]
end
end Go.Pv

end

section
/-
  Patterns: which are valid, in plain Lean.
  Conditions: none.
-/
set_option linter.unusedVariables false
namespace Go.M15
open Go.Pv
/-- may an operation occur in a pattern -/
def opOk (op : Int) : Bool := decide (op = 1 ∨ (4 ≤ op ∧ op ≤ 24) ∨ op = 27 ∨ op = 28 ∨ op = 29)
/-- the sorts of its operands -/
def opk (op : Int) : List Int :=
  if op = 23 ∨ op = 27 ∨ op = 29 then [2, 1]
  else if op = 24 then [2]
  else if op = 28 then [2, 1, 1]
  else if 4 ≤ op ∧ op ≤ 19 then [1, 1]
  else if op = 20 ∨ op = 21 then [1]
  else if op = 22 then [1, 1, 1] else []
def opS (op : Int) : Int := if opOk op = true then sort op else 0
/-- the largest immediate operand -/
def mxI (op : Int) : Int := if op = 2 then 5 else if op = 3 then 255 else if op = 23 ∨ op = 28 then 3 else if op = 27 then 1000016 else if op = 30 then 7 else if op = 31 ∨ op = 25 then 15 else -1
def vImm (op n : Int) : Bool := decide (op = 1 ∨ (op ≠ 1 ∧ mxI op < 0 ∧ n = 0) ∨ (op ≠ 1 ∧ ¬ mxI op < 0 ∧ 0 ≤ n ∧ n ≤ mxI op ∧ (op ≠ 27 ∨ 0 < n)))
/-- is the immediate operand, or the immediate variable, as it has to be -/
def vIm (op im iv imms : Int) : Bool := decide ((iv ≠ 0 ∧ (op = 1 ∨ op = 23 ∨ op = 27 ∨ op = 28) ∧ im = 0 ∧ 1 ≤ iv ∧ iv ≤ imms) ∨ (iv = 0 ∧ (op = 23 ∨ op = 28) ∧ 0 ≤ im ∧ im < 4) ∨
  (iv = 0 ∧ op = 27 ∧ 1 ≤ im ∧ im ≤ 1000016) ∨ (iv = 0 ∧ op ≠ 23 ∧ op ≠ 28 ∧ op ≠ 27 ∧ (op = 1 ∨ im = 0)))
theorem mxI_cases {op : Int} (h : op = 1 ∨ (4 ≤ op ∧ op ≤ 24) ∨ op = 27 ∨ op = 28 ∨ op = 29) : ((op = 23 ∨ op = 28) ∧ mxI op = 3) ∨ (op = 27 ∧ mxI op = 1000016) ∨ (op ≠ 23 ∧ op ≠ 28 ∧ op ≠ 27 ∧ mxI op = -1) := by
  unfold mxI
  repeat' split
  all_goals omega
def nodeOk (op im iv : Int) (n : Nat) (s imms : Int) : Prop := opOk op = true ∧ n = (opk op).length ∧ (s = 0 ∨ s = opS op) ∧ vIm op im iv imms = true
instance (op im iv : Int) (n : Nat) (s imms : Int) : Decidable (nodeOk op im iv n s imms) := inferInstanceAs (Decidable (_ ∧ _))
def badVar (v op im iv : Int) (n m : Nat) : Prop := v < 1 ∨ v > m ∨ op ≠ 0 ∨ im ≠ 0 ∨ iv ≠ 0 ∨ 0 < n
instance (v op im iv : Int) (n m : Nat) : Decidable (badVar v op im iv n m) := inferInstanceAs (Decidable (_ ∨ _))
mutual
/-- is a pattern valid at a place of a sort (0: any), and the sorts of the variables then -/
def valP : T → Int → Int → List Int → Bool × List Int
  | .mk v op im iv ks, s, imms, vs =>
    if v ≠ 0 then
      if badVar v op im iv ks.length vs.length then (false, vs)
      else if vs.getD (v - 1).toNat 0 = 0 then (true, vs.set (v - 1).toNat s)
      else (decide (s = 0 ∨ s = vs.getD (v - 1).toNat 0), vs)
    else if nodeOk op im iv ks.length s imms then valPs ks (opk op) imms vs else (false, vs)
def valPs : List T → List Int → Int → List Int → Bool × List Int
  | [], _, _, vs => (true, vs)
  | t :: r, q, imms, vs => match valP t (q.headD 0) imms vs with
    | (true, vs') => valPs r q.tail imms vs'
    | (false, vs') => (false, vs')
end
section
variable {v op im iv s imms : Int} {ks : List T} {vs : List Int}
theorem valP_bad (hv : v ≠ 0) (hb : badVar v op im iv ks.length vs.length) : valP (.mk v op im iv ks) s imms vs = (false, vs) := by
  rw [valP, if_pos hv, if_pos hb]
theorem valP_new (hv : v ≠ 0) (hb : ¬ badVar v op im iv ks.length vs.length) (h0 : vs.getD (v - 1).toNat 0 = 0) : valP (.mk v op im iv ks) s imms vs = (true, vs.set (v - 1).toNat s) := by
  rw [valP, if_pos hv, if_neg hb, if_pos h0]
theorem valP_old (hv : v ≠ 0) (hb : ¬ badVar v op im iv ks.length vs.length) (h0 : vs.getD (v - 1).toNat 0 ≠ 0) : valP (.mk v op im iv ks) s imms vs = (decide (s = 0 ∨ s = vs.getD (v - 1).toNat 0), vs) := by
  rw [valP, if_pos hv, if_neg hb, if_neg h0]
theorem valP_no (hv : v = 0) (hn : ¬ nodeOk op im iv ks.length s imms) : valP (.mk v op im iv ks) s imms vs = (false, vs) := by
  rw [valP, if_neg (by simpa using hv), if_neg hn]
theorem valP_node (hv : v = 0) (hn : nodeOk op im iv ks.length s imms) : valP (.mk v op im iv ks) s imms vs = valPs ks (opk op) imms vs := by
  rw [valP, if_neg (by simpa using hv), if_pos hn]
end
theorem valPs_end {ks : List T} {q : List Int} {imms : Int} {vs : List Int} {i : Nat} (h : ks.length ≤ i) : valPs (ks.drop i) q imms vs = (true, vs) := by
  rw [List.drop_eq_nil_of_le h, valPs]
theorem valPs_step {ks : List T} {q : List Int} {imms : Int} {vs : List Int} {i : Nat} (h : i < ks.length) (hq : i < q.length) : valPs (ks.drop i) (q.drop i) imms vs = match valP ks[i] q[i] imms vs with
    | (true, vs') => valPs (ks.drop (i + 1)) (q.drop (i + 1)) imms vs'
    | (false, vs') => (false, vs') := by
  rw [List.drop_eq_getElem_cons h, List.drop_eq_getElem_cons hq, valPs]
  rfl
theorem tail_len : ∀ {l : List Int}, l.tail.length = l.length - 1 := by simp
mutual
theorem valP_len : ∀ (t : T) (s imms : Int) (vs : List Int), (valP t s imms vs).2.length = vs.length
  | .mk v op im iv ks, s, imms, vs => by
    rw [valP]
    split
    · split
      · rfl
      · split
        · simp
        · rfl
    · split
      · exact valPs_len ks (opk op) imms vs
      · rfl
theorem valPs_len : ∀ (ks : List T) (q : List Int) (imms : Int) (vs : List Int), (valPs ks q imms vs).2.length = vs.length
  | [], q, imms, vs => by rw [valPs]
  | t :: r, q, imms, vs => by
    rw [valPs]
    have h := valP_len t (q.headD 0) imms vs
    split
    · rename_i vs' e
      rw [e] at h
      rw [valPs_len r q.tail imms vs']
      exact h
    · rename_i vs' e
      rw [e] at h
      exact h
end
/-- what 15.1 asks -/
def valB (t : T) (vars imms : Int) : Bool := decide (0 ≤ vars ∧ vars ≤ 6 ∧ 0 ≤ imms ∧ imms ≤ 6) && (decide (t.size ≤ 24) && (valP t 0 imms (List.replicate vars.toNat 0)).1)
theorem opk_no {op : Int} (h : opOk op = false) : opk op = [] ∧ opS op = 0 := by
  refine ⟨?_, by unfold opS; rw [if_neg (by rw [h]; exact Bool.false_ne_true)]⟩
  unfold opOk at h
  rw [decide_eq_false_iff_not] at h
  unfold opk
  repeat' split
  all_goals first | rfl | (exfalso; omega)
theorem set_same {l : List Int} {i : Nat} {x : Int} (h : l.getD i 0 = x) (hi : i < l.length) : l.set i x = l := by
  rw [List.getD_eq_getElem?_getD, List.getElem?_eq_getElem hi] at h
  have h : l[i] = x := h
  rw [← h, List.set_getElem_self]
/-- the reference's way to say it -/
theorem opk_ar {op : Int} (h : opOk op = true) : ((opk op).length : Int) = ar op := by
  unfold opOk at h
  rw [decide_eq_true_eq] at h
  unfold opk ar
  repeat' split
  all_goals first | rfl | (exfalso; omega)
theorem opk_at {op : Int} (h : opOk op = true) {i : Nat} (hi : i < (opk op).length) : osort op i = (opk op)[i] := by
  have hl := opk_ar h
  have h3 : (opk op).length ≤ 3 := by unfold opk; (repeat' split) <;> simp
  unfold opOk at h
  rw [decide_eq_true_eq] at h
  have hc : i = 0 ∨ i = 1 ∨ i = 2 := by omega
  revert hi
  unfold opk osort sort
  rcases hc with rfl | rfl | rfl
  all_goals
    repeat' split
    all_goals intro hi
    all_goals first | rfl | (exfalso; omega) | (simp at hi) | (exfalso; simp at hi; omega)
theorem nodeOk_ref {op im iv s imms : Int} {n : Nat} : nodeOk op im iv n s imms ↔ (opOk op = true ∧ (n : Int) = ar op ∧ (s = 0 ∨ sort op = s) ∧ 0 ≤ iv ∧ iv ≤ imms ∧ ¬ (0 < iv ∧ (im ≠ 0 ∨ hasImm op = false)) ∧ ¬ (iv = 0 ∧ vImm op im = false)) ∨ (nodeOk op im iv n s imms ∧ imms < 0) := by
  constructor
  · intro h
    by_cases hi : imms < 0
    · exact .inr ⟨h, hi⟩
    obtain ⟨h1, h2, h3, h4⟩ := h
    have hl := opk_ar h1
    refine .inl ⟨h1, by omega, ?_, ?_⟩
    · unfold opS at h3
      rw [if_pos h1] at h3
      omega
    unfold opOk at h1
    rw [decide_eq_true_eq] at h1
    have hm := mxI_cases h1
    simp only [vIm, vImm, hasImm, decide_eq_true_eq, decide_eq_false_iff_not] at h4 ⊢
    omega
  · rintro (⟨h1, h2, h3, h4, h5, h6, h7⟩ | h)
    · have hl := opk_ar h1
      refine ⟨h1, by omega, ?_, ?_⟩
      · unfold opS
        rw [if_pos h1]
        omega
      unfold opOk at h1
      rw [decide_eq_true_eq] at h1
      have hm := mxI_cases h1
      simp only [vIm, vImm, hasImm, decide_eq_true_eq, decide_eq_false_iff_not] at h6 h7 ⊢
      omega
    · exact h.1
theorem nodeOk_iff {op im iv s imms : Int} {n : Nat} (hi : 0 ≤ imms) : nodeOk op im iv n s imms ↔ (opOk op = true ∧ (n : Int) = ar op ∧ (s = 0 ∨ sort op = s) ∧ 0 ≤ iv ∧ iv ≤ imms ∧ ¬ (0 < iv ∧ (im ≠ 0 ∨ hasImm op = false)) ∧ ¬ (iv = 0 ∧ vImm op im = false)) := by
  rw [nodeOk_ref]
  constructor
  · rintro (h | h)
    · exact h
    · omega
  · exact .inl
end Go.M15
namespace Go.Pv
theorem repl_zero (n : Nat) : repl n [.int .i64 0] = (List.replicate n (0 : Int)).map (IV.int .i64) := by
  induction n with
  | zero => rfl
  | succ n ih => simp [repl, ih, List.replicate_succ]
end Go.Pv

end

section
/-
  Patterns: the programs that they are compiled to, in plain Lean, and a program under construction in the heap.
  Conditions: none.
-/
set_option linter.unusedVariables false
namespace Go.M15
open Go.Pv
/-- an instruction -/
structure Ins where
  k : Int
  a : Int
  b : Int
  op : Int
  im : Int
  iv : Int
  deriving DecidableEq
/-- a program under construction: the instructions, the first unused register, the register of each variable -/
structure St where
  l : List Ins
  next : Int
  vars : List Int
def pad (vs : List Int) (v : Int) : List Int := vs ++ List.replicate (v.toNat - vs.length) (-1)
mutual
def comp : T → Int → St → St
  | .mk v op im iv ks, at_, st =>
    if 0 < v then
      if 0 ≤ (pad st.vars v).getD (v - 1).toNat 0 then { st with l := st.l ++ [⟨2, at_, (pad st.vars v).getD (v - 1).toNat 0, 0, 0, 0⟩], vars := pad st.vars v }
      else { st with vars := (pad st.vars v).set (v - 1).toNat at_ }
    else comps ks st.next 0 { l := st.l ++ [⟨1, at_, st.next, op, im, iv⟩], next := st.next + ks.length, vars := st.vars }
def comps : List T → Int → Nat → St → St
  | [], _, _, st => st
  | t :: r, b, i, st => comps r b (i + 1) (comp t (b + i) st)
end
mutual
/-- a pattern of the right shape -/
def T.wf : T → Prop
  | .mk v op _ _ ks => (v = 0 ∧ (ks.length : Int) = ar op ∧ wfs ks) ∨ (1 ≤ v ∧ v ≤ 6 ∧ ks = [])
def wfs : List T → Prop
  | [] => True
  | t :: r => t.wf ∧ wfs r
end
theorem wf_kid : ∀ {ks : List T} {t : T}, wfs ks → t ∈ ks → t.wf
  | x :: r, t, h, hm => by
    rcases List.mem_cons.1 hm with rfl | hm
    · exact h.1
    · exact wf_kid h.2 hm
theorem wfs_drop : ∀ {ks : List T} {i : Nat}, wfs ks → wfs (ks.drop i)
  | [], i, h => by simp [wfs]
  | x :: r, 0, h => h
  | x :: r, i + 1, h => wfs_drop (ks := r) (i := i) h.2
mutual
theorem valP_wf : ∀ (t : T) (s imms : Int) (vs : List Int), vs.length ≤ 6 → (valP t s imms vs).1 = true → t.wf
  | .mk v op im iv ks, s, imms, vs, hl, h => by
    by_cases hv : v = 0
    · by_cases hn : nodeOk op im iv ks.length s imms
      · rw [valP_node hv hn] at h
        exact .inl ⟨hv, by rw [hn.2.1]; exact opk_ar hn.1, valPs_wf ks (opk op) imms vs hl h⟩
      · rw [valP_no hv hn] at h
        cases h
    · by_cases hb : badVar v op im iv ks.length vs.length
      · rw [valP_bad hv hb] at h
        cases h
      · unfold badVar at hb
        refine .inr ⟨by omega, by omega, List.eq_nil_of_length_eq_zero (by omega)⟩
theorem valPs_wf : ∀ (ks : List T) (q : List Int) (imms : Int) (vs : List Int), vs.length ≤ 6 → (valPs ks q imms vs).1 = true → wfs ks
  | [], _, _, _, _, _ => trivial
  | t :: r, q, imms, vs, hl, h => by
    rw [valPs] at h
    have hlen := valP_len t (q.headD 0) imms vs
    have ht := valP_wf t (q.headD 0) imms vs hl
    split at h
    · rename_i vs' e
      rw [e] at ht hlen
      have hlen : vs'.length = vs.length := hlen
      exact ⟨ht rfl, valPs_wf r q.tail imms vs' (by omega) h⟩
    · cases h
end
theorem valB_wf {t : T} (h : valB t 6 6 = true) : t.wf ∧ t.size ≤ 24 := by
  unfold valB at h
  simp only [Bool.and_eq_true, decide_eq_true_eq] at h
  exact ⟨valP_wf t 0 6 _ (by simp) h.2.2, h.2.1⟩
mutual
theorem size_num : ∀ t : T, t.num ≤ 1000000000000000 → t.size = t.num
  | .mk _ _ _ _ ks, h => by
    simp only [T.num] at h ⊢
    show sizes 1 ks = _
    rw [sizes_nums ks 1 (by omega) (by omega)]
    omega
theorem sizes_nums : ∀ (ks : List T) (n : Int), 0 ≤ n → n + nums ks ≤ 1000000000000000 → sizes n ks = n + nums ks
  | [], n, _, _ => by simp [sizes, nums]
  | t :: r, n, h0, h => by
    simp only [nums] at h ⊢
    have hp := num_pos t
    rw [sizes, size_num t (by omega), IntWalk.i64_in _ (by omega), sizes_nums r _ (by omega) (by omega)]
    omega
end
theorem pad_len {vs : List Int} {v : Int} : (pad vs v).length = max vs.length v.toNat := by
  unfold pad
  simp only [List.length_append, List.length_replicate]
  omega
mutual
theorem comp_bd : ∀ (t : T) (a : Int) (st : St), t.wf → st.vars.length ≤ 6 → st.next ≤ (comp t a st).next ∧ (comp t a st).next + 1 ≤ st.next + t.num ∧ (comp t a st).l.length ≤ st.l.length + t.num ∧ (comp t a st).vars.length ≤ 6
  | .mk v op im iv ks, a, st, hw, hl => by
    rw [comp]
    rcases hw with ⟨rfl, h1, h2⟩ | ⟨h1, h2, rfl⟩
    · rw [if_neg (by omega)]
      have := comps_bd ks st.next 0 { l := st.l ++ [⟨1, a, st.next, op, im, iv⟩], next := st.next + ks.length, vars := st.vars } h2 hl
      simp only [T.num, List.length_append, List.length_cons, List.length_nil] at this ⊢
      omega
    · rw [if_pos (by omega)]
      have hp := pad_len (vs := st.vars) (v := v)
      split
      · simp only [T.num, nums, List.length_append, List.length_cons, List.length_nil, hp]
        omega
      · simp only [T.num, nums, List.length_set, hp]
        omega
theorem comps_bd : ∀ (ks : List T) (b : Int) (i : Nat) (st : St), wfs ks → st.vars.length ≤ 6 → st.next ≤ (comps ks b i st).next ∧ (comps ks b i st).next + ks.length ≤ st.next + nums ks ∧ (comps ks b i st).l.length ≤ st.l.length + nums ks ∧ (comps ks b i st).vars.length ≤ 6
  | [], b, i, st, _, hl => by simp only [comps, nums, List.length_nil]; omega
  | t :: r, b, i, st, hw, hl => by
    have h1 := comp_bd t (b + i) st hw.1 hl
    have h2 := comps_bd r b (i + 1) (comp t (b + i) st) hw.2 h1.2.2.2
    rw [comps]
    simp only [nums, List.length_cons]
    omega
end
theorem nums_drop {ks : List T} {i : Nat} (h : i < ks.length) : nums (ks.drop i) = ks[i].num + nums (ks.drop (i + 1)) := by
  rw [List.drop_eq_getElem_cons h, nums]
theorem comps_step {ks : List T} {b : Int} {i : Nat} {st : St} (h : i < ks.length) : comps (ks.drop i) b i st = comps (ks.drop (i + 1)) b (i + 1) (comp ks[i] (b + i) st) := by
  rw [List.drop_eq_getElem_cons h, comps]
theorem comps_end {ks : List T} {b : Int} {i j : Nat} {st : St} (h : ks.length ≤ i) : comps (ks.drop i) b j st = st := by
  rw [List.drop_eq_nil_of_le h, comps]
/-- what a valid pattern is compiled to -/
def compB (t : T) : List Ins × List Int := if valB t 6 6 = true then ((comp t 0 ⟨[], 1, []⟩).l, (comp t 0 ⟨[], 1, []⟩).vars) else ([], [])
end Go.M15
namespace Go.Pv
open Go.M15
theorem ldNV_nil {sz : Nat} {cs : List IV} {off : Nat} {A : Prop} {K : Nat → Nat → Nat → List IV → Prop} (e : cs[off]? = some .nilslice) (ha : A) : ldNVS sz cs off A K := by
  unfold ldNVS; rw [e]; exact ha
theorem ldNV_v {sz : Nat} {cs : List IV} {off : Nat} {A : Prop} {K : Nat → Nat → Nat → List IV → Prop} {i : Nat} {a n : Nat} {c : List IV} (e : cs[off]? = some (.vslice (some i) a n sz c)) (hk : K i a n c) : ldNVS sz cs off A K := by
  unfold ldNVS; rw [e]; simpa using hk
theorem ldNH_nil {sz : Nat} {cs : List IV} {off : Nat} {A : Prop} {K : Nat → Nat → Nat → Prop} (e : cs[off]? = some .nilslice) (ha : A) : ldNHS sz cs off A K := by
  unfold ldNHS; rw [e]; exact ha
theorem ldNH_h {sz : Nat} {cs : List IV} {off : Nat} {A : Prop} {K : Nat → Nat → Nat → Prop} {i a n : Nat} (e : cs[off]? = some (.hslice i a n sz)) (hk : K i a n) : ldNHS sz cs off A K := by
  unfold ldNHS; rw [e]; simpa using hk
theorem ldI_at {k : IntKind} {cs : List IV} {off : Nat} {K : Int → Prop} {n : Int} (e : cs[off]? = some (.int k n)) (hk : K n) : ldIS k cs off K := by
  unfold ldIS; rw [e]; simpa using hk
/-- an instruction's cells -/
def cI (x : Ins) : List IV := [.int .i64 x.k, .int .i64 x.a, .int .i64 x.b, .int .i64 x.op, .int .i64 x.im, .int .i64 x.iv]
end Go.Pv
namespace Go.M15
open Go.Pv
/-- a row of instructions that grows -/
def RL (h : Heap) (L : IV) (l : List Ins) : Prop := (L = .nilslice ∧ l = []) ∨ ∃ i, L = .vslice (some i) (l.length * 6) l.length 6 (l.flatMap cI) ∧ h.get i = .tip (l.length * 6) ∧ i < h.next
/-- a row of ints in the heap -/
def RV (h : Heap) (id : Nat) (V : IV) (v : List Int) : Prop := (V = .nilslice ∧ v = []) ∨ ∃ j, V = .hslice j 0 v.length 1 ∧ h.get j = .cells (v.map (IV.int .i64)) ∧ j < h.next ∧ j ≠ id
/-- the fields of a program under construction: rows, next, variables; or rows, variables, next -/
def lay (o : Bool) (L : IV) (n : Int) (V : IV) : List IV := match o with
  | true => [L, .int .i64 n, V]
  | false => [L, V, .int .i64 n]
def posV : Bool → Nat
  | true => 2
  | false => 1
def posN : Bool → Nat
  | true => 1
  | false => 2
/-- a program under construction in the heap; 'o': the order of its fields -/
def CS (o : Bool) (h : Heap) (id : Nat) (st : St) : Prop := id < h.next ∧ ∃ L V, h.get id = .cells (lay o L st.next V) ∧ RL h L st.l ∧ RV h id V st.vars
theorem RL.fr {h h' : Heap} {L : IV} {l : List Ins} (r : RL h L l) (hn : h.next ≤ h'.next) (hf : ∀ i m, h.get i = .tip m → i < h.next → h'.get i = .tip m) : RL h' L l := by
  rcases r with r | ⟨i, h1, h2, h3⟩
  · exact .inl r
  · exact .inr ⟨i, h1, hf i _ h2 h3, Nat.lt_of_lt_of_le h3 hn⟩
theorem RV.fr {h h' : Heap} {id : Nat} {V : IV} {v : List Int} (r : RV h id V v) (hn : h.next ≤ h'.next) (hf : ∀ j cs, h.get j = .cells cs → j < h.next → j ≠ id → h'.get j = .cells cs) : RV h' id V v := by
  rcases r with r | ⟨j, h1, h2, h3, h4⟩
  · exact .inl r
  · exact .inr ⟨j, h1, hf j _ h2 h3 h4, Nat.lt_of_lt_of_le h3 hn, h4⟩
section
variable {o : Bool} {g : Heap} {id : Nat} {st : St}
theorem CS.getV (c : CS o g id st) : (st.vars = [] ∧ ∃ r, g.get id = .cells r ∧ r[posV o]? = some .nilslice) ∨
    ∃ r j, g.get id = .cells r ∧ r[posV o]? = some (.hslice j 0 st.vars.length 1) ∧ g.get j = .cells (st.vars.map (IV.int .i64)) ∧ j < g.next ∧ j ≠ id := by
  obtain ⟨h0, L, V, h1, h2, h3⟩ := c
  rcases h3 with ⟨rfl, h3⟩ | ⟨j, rfl, h3, h4, h5⟩
  · exact .inl ⟨h3, _, h1, by cases o <;> rfl⟩
  · exact .inr ⟨_, j, h1, by cases o <;> rfl, h3, h4, h5⟩
theorem CS.getL (c : CS o g id st) : (st.l = [] ∧ ∃ r, g.get id = .cells r ∧ r[0]? = some .nilslice) ∨
    ∃ r i, g.get id = .cells r ∧ r[0]? = some (.vslice (some i) (st.l.length * 6) st.l.length 6 (st.l.flatMap cI)) ∧ g.get i = .tip (st.l.length * 6) ∧ i < g.next := by
  obtain ⟨h0, L, V, h1, h2, h3⟩ := c
  rcases h2 with ⟨rfl, h2⟩ | ⟨j, rfl, h2, h4⟩
  · exact .inl ⟨h2, _, h1, by cases o <;> rfl⟩
  · exact .inr ⟨_, j, h1, by cases o <;> rfl, h2, h4⟩
theorem CS.getN (c : CS o g id st) : ∃ r, g.get id = .cells r ∧ r[posN o]? = some (.int .i64 st.next) ∧ r.length = 3 := by
  obtain ⟨h0, L, V, h1, h2, h3⟩ := c
  exact ⟨_, h1, by cases o <;> rfl, by cases o <;> rfl⟩
theorem CS.addV_nil (c : CS o g id st) (hv : st.vars = []) (x : Int) : ∃ r, (g.push (.cells [.int .i64 x])).get id = .cells r ∧ r.length = 3 ∧
    CS o ((g.push (.cells [.int .i64 x])).set id (.cells (r.take (posV o) ++ [.hslice g.next 0 1 1] ++ r.drop (posV o + 1)))) id ⟨st.l, st.next, [x]⟩ := by
  obtain ⟨h0, L, V, h1, h2, h3⟩ := c
  refine ⟨lay o L st.next V, by rw [get_push_lt h0, h1], by cases o <;> rfl, Nat.lt_succ_of_lt h0, L, .hslice g.next 0 1 1, ?_, ?_, .inr ⟨g.next, rfl, ?_, Nat.lt_succ_self _, Nat.ne_of_gt h0⟩⟩
  · rw [get_set_eq]; cases o <;> rfl
  · refine h2.fr (Nat.le_succ _) (fun i m h hl => ?_)
    rw [get_set_ne (fun e => by subst e; rw [h1] at h; cases h), get_push_lt hl, h]
  · rw [get_set_ne (Nat.ne_of_gt h0), get_push_eq]; rfl
theorem CS.addV (c : CS o g id st) {r0 : List IV} {j : Nat} (e1 : g.get id = .cells r0) (e2 : r0[posV o]? = some (.hslice j 0 st.vars.length 1)) (e3 : g.get j = .cells (st.vars.map (IV.int .i64))) (e4 : j < g.next) (e5 : j ≠ id) (x : Int) :
    ∃ r, ((g.set j .dead).push (.cells (st.vars.map (IV.int .i64) ++ [.int .i64 x]))).get id = .cells r ∧ r.length = 3 ∧
    CS o (((g.set j .dead).push (.cells (st.vars.map (IV.int .i64) ++ [.int .i64 x]))).set id (.cells (r.take (posV o) ++ [.hslice g.next 0 (st.vars.length + 1) 1] ++ r.drop (posV o + 1)))) id ⟨st.l, st.next, st.vars ++ [x]⟩ := by
  obtain ⟨h0, L, V, h1, h2, h3⟩ := c
  have q : (g.set j .dead).next = g.next := rfl
  refine ⟨lay o L st.next V, by rw [get_push_lt (h := g.set j .dead) h0, get_set_ne e5.symm, h1], by cases o <;> rfl, Nat.lt_succ_of_lt h0, L, .hslice g.next 0 (st.vars.length + 1) 1, ?_, ?_, .inr ⟨g.next, by simp, ?_, Nat.lt_succ_self _, Nat.ne_of_gt h0⟩⟩
  · rw [get_set_eq]; cases o <;> rfl
  · refine h2.fr (Nat.le_succ _) (fun i m h hl => ?_)
    rw [get_set_ne (fun e => by subst e; rw [h1] at h; cases h), get_push_lt (h := g.set j .dead) hl, get_set_ne (fun e => by subst e; rw [e3] at h; cases h), h]
  · rw [get_set_ne (Nat.ne_of_gt h0), ← q, get_push_eq]; simp
theorem CS.addL_nil (c : CS o g id st) (hl : st.l = []) (x : Ins) : ∃ r, (g.push (.tip 6)).get id = .cells r ∧ r.length = 3 ∧
    CS o ((g.push (.tip 6)).set id (.cells (.vslice (some g.next) 6 1 6 (cI x) :: r.drop 1))) id ⟨[x], st.next, st.vars⟩ := by
  obtain ⟨h0, L, V, h1, h2, h3⟩ := c
  refine ⟨lay o L st.next V, by rw [get_push_lt h0, h1], by cases o <;> rfl, Nat.lt_succ_of_lt h0, .vslice (some g.next) 6 1 6 (cI x), V, ?_, .inr ⟨g.next, by simp, ?_, Nat.lt_succ_self _⟩, ?_⟩
  · rw [get_set_eq]; cases o <;> rfl
  · rw [get_set_ne (Nat.ne_of_gt h0), get_push_eq]; rfl
  · refine h3.fr (Nat.le_succ _) (fun j cs h hj hn => ?_)
    rw [get_set_ne hn, get_push_lt hj, h]
theorem CS.addL (c : CS o g id st) {i : Nat} (e3 : g.get i = .tip (st.l.length * 6)) (e4 : i < g.next) (x : Ins) :
    ∃ r, (g.set i (.tip (st.l.length * 6 + 6))).get id = .cells r ∧ r.length = 3 ∧
    CS o ((g.set i (.tip (st.l.length * 6 + 6))).set id (.cells (.vslice (some i) (st.l.length * 6 + 6) (st.l.length + 1) 6 (st.l.flatMap cI ++ cI x) :: r.drop 1))) id ⟨st.l ++ [x], st.next, st.vars⟩ := by
  obtain ⟨h0, L, V, h1, h2, h3⟩ := c
  have hne : id ≠ i := fun e => by subst e; rw [h1] at e3; cases e3
  refine ⟨lay o L st.next V, by rw [get_set_ne hne, h1], by cases o <;> rfl, h0, .vslice (some i) (st.l.length * 6 + 6) (st.l.length + 1) 6 (st.l.flatMap cI ++ cI x), V, ?_, .inr ⟨i, ?_, ?_, e4⟩, ?_⟩
  · rw [get_set_eq]; cases o <;> rfl
  · simp [Nat.succ_mul]
  · rw [get_set_ne hne.symm, get_set_eq]; simp [Nat.succ_mul]
  · refine h3.fr (Nat.le_refl _) (fun j cs h hj hn => ?_)
    rw [get_set_ne hn, get_set_ne (fun e => by subst e; rw [e3] at h; cases h), h]
theorem CS.setV (c : CS o g id st) {r0 : List IV} {j : Nat} (e1 : g.get id = .cells r0) (e2 : r0[posV o]? = some (.hslice j 0 st.vars.length 1)) (e4 : j < g.next) (e5 : j ≠ id) (vs : List Int) (hl : vs.length = st.vars.length) :
    CS o (g.set j (.cells (vs.map (IV.int .i64)))) id ⟨st.l, st.next, vs⟩ := by
  obtain ⟨h0, L, V, h1, h2, h3⟩ := c
  have hV : V = .hslice j 0 st.vars.length 1 := by
    rw [h1] at e1
    cases e1
    cases o <;> simpa [lay, posV] using e2
  subst hV
  refine ⟨h0, L, _, by rw [get_set_ne e5.symm, h1], ?_, .inr ⟨j, by rw [hl], get_set_eq, e4, e5⟩⟩
  refine h2.fr (Nat.le_refl _) (fun i m h hi => ?_)
  rw [get_set_ne (fun e => ?_), h]
  subst e
  rcases h3 with ⟨h3, _⟩ | ⟨j', h3, h4, _⟩
  · cases h3
  · cases h3
    rw [h4] at h
    cases h
theorem CS.setN (c : CS o g id st) (n : Int) {r : List IV} (e1 : g.get id = .cells r) : CS o (g.set id (.cells (r.take (posN o) ++ [.int .i64 n] ++ r.drop (posN o + 1)))) id ⟨st.l, n, st.vars⟩ := by
  obtain ⟨h0, L, V, h1, h2, h3⟩ := c
  rw [h1] at e1
  cases e1
  refine ⟨h0, L, V, by rw [get_set_eq]; cases o <;> rfl, ?_, ?_⟩
  · refine h2.fr (Nat.le_refl _) (fun i m h hi => ?_)
    rw [get_set_ne (fun e => by subst e; rw [h1] at h; cases h), h]
  · refine h3.fr (Nat.le_refl _) (fun j cs h hj hn => ?_)
    rw [get_set_ne hn, h]
end
theorem pad_succ {vs : List Int} {k : Nat} : vs ++ List.replicate k (-1 : Int) ++ [-1] = vs ++ List.replicate (k + 1) (-1) := by
  rw [List.append_assoc, List.replicate_succ']
end Go.M15

end

section
/-
  Patterns: what holds of the programs that they are compiled to, in plain Lean.
  Conditions: none.
-/
set_option linter.unusedVariables false
namespace Go.M15
/-- is a register opened (or none) -/
def opn (o : List Bool) (r : Int) : Bool := o.getD r.toNat true
/-- the check of a program: from the number of known registers and the opened ones on -/
def run : Int → List Bool → List Ins → Option Int
  | g, _, [] => some g
  | g, o, x :: r =>
    if 0 ≤ x.a ∧ x.a < g ∧ x.a < 64 ∧ opn o x.a = false then
      if x.k = 2 then
        if 0 ≤ x.b ∧ x.b < g ∧ opn o x.b = false then run g o r else none
      else if x.k = 1 ∧ x.b = g then run (g + ar x.op) (o.set x.a.toNat true) r else none
    else none
theorem opn_set {o : List Bool} {i j : Int} (hi : 0 ≤ i) (hj : 0 ≤ j) : opn (o.set i.toNat true) j = if j = i then true else opn o j := by
  unfold opn
  rw [List.getD_eq_getElem?_getD, List.getD_eq_getElem?_getD, List.getElem?_set]
  by_cases e : j = i
  · subst e
    rw [if_pos rfl, if_pos rfl]
    split <;> simp
  · rw [if_neg (by omega), if_neg e]
/-- what is known while a pattern at the register 'a' is compiled -/
structure Good (a : Int) (st : St) (o : List Bool) (n : Nat) : Prop where
  len : o.length = 64
  pos : 1 ≤ st.next
  a0 : 0 ≤ a
  a1 : a < st.next
  big : st.next + n ≤ 65
  cl : opn o a = false
  vars : ∀ x ∈ st.vars, x = -1 ∨ (0 ≤ x ∧ x < st.next ∧ x ≠ a ∧ opn o x = false)
  fr : ∀ r, st.next ≤ r → r < 64 → opn o r = false
/-- what is known then -/
structure Done (a : Int) (st st' : St) (o o' : List Bool) (ins : List Ins) : Prop where
  l : st'.l = st.l ++ ins
  run : ∀ rest, run st.next o (ins ++ rest) = run st'.next o' rest
  len : o'.length = 64
  keep : ∀ r, 0 ≤ r → r < st.next → r ≠ a → opn o' r = opn o r
  fr : ∀ r, st'.next ≤ r → r < 64 → opn o' r = false
  mono : st.next ≤ st'.next
  vars : ∀ x ∈ st'.vars, x = -1 ∨ (0 ≤ x ∧ x < st'.next ∧ opn o' x = false ∧ (x ∈ st.vars ∨ x = a ∨ st.next ≤ x))
/-- the same for operands, at the registers from 'lo' to 'hi' -/
structure DoneK (lo hi : Int) (st st' : St) (o o' : List Bool) (ins : List Ins) : Prop where
  l : st'.l = st.l ++ ins
  run : ∀ rest, run st.next o (ins ++ rest) = run st'.next o' rest
  len : o'.length = 64
  keep : ∀ r, 0 ≤ r → r < st.next → (r < lo ∨ hi ≤ r) → opn o' r = opn o r
  fr : ∀ r, st'.next ≤ r → r < 64 → opn o' r = false
  mono : st.next ≤ st'.next
  vars : ∀ x ∈ st'.vars, x = -1 ∨ (0 ≤ x ∧ x < st'.next ∧ opn o' x = false ∧ (x ∈ st.vars ∨ (lo ≤ x ∧ x < hi) ∨ st.next ≤ x))
theorem pad_mem {vs : List Int} {v x : Int} (h : x ∈ pad vs v) : x ∈ vs ∨ x = -1 := by
  unfold pad at h
  rcases List.mem_append.1 h with h | h
  · exact .inl h
  · exact .inr (List.eq_of_mem_replicate h)
mutual
theorem comp_done : ∀ (t : T) (a : Int) (st : St) (o : List Bool), t.wf → Good a st o t.num → ∃ o' ins, Done a st (comp t a st) o o' ins ∧ (comp t a st).next + 1 = st.next + t.num
  | .mk v op im iv ks, a, st, o, hw, g => by
    rw [comp]
    rcases hw with ⟨rfl, h1, h2⟩ | ⟨h1, h2, rfl⟩
    · rw [if_neg (by omega)]
      have hb := g.big
      simp only [T.num] at hb
      have hal : a < 64 := by have := g.a1; omega
      have hos : ∀ r, 0 ≤ r → opn (o.set a.toNat true) r = if r = a then true else opn o r := fun r hr => opn_set g.a0 hr
      have hln := len_nums ks
      have g2 : ∀ x ∈ st.vars, x = -1 ∨ (0 ≤ x ∧ x < st.next + ks.length ∧ (x < st.next + ((0 : Nat) : Int) ∨ st.next + ((0 : Nat) : Int) + ks.length ≤ x) ∧ opn (o.set a.toNat true) x = false) := fun x hx => by
        rcases g.vars x hx with e | ⟨e1, e2, e3, e4⟩
        · exact .inl e
        · refine .inr ⟨e1, by omega, .inl (by omega), ?_⟩
          rw [hos x e1, if_neg e3, e4]
      obtain ⟨o', ins, d, hn⟩ := comps_done ks st.next 0 { l := st.l ++ [⟨1, a, st.next, op, im, iv⟩], next := st.next + ks.length, vars := st.vars } (o.set a.toNat true) h2 (by simp [g.len]) (by have := g.pos; omega)
        (by show st.next + ((0 : Nat) : Int) + ks.length ≤ st.next + ks.length; omega) (by show st.next + (ks.length : Int) + nums ks ≤ 64 + ks.length; omega)
        (fun r hr1 hr2 => by rw [hos r (by have := g.pos; omega), if_neg (by have := g.a1; omega)]; exact g.fr r (by omega) (by omega))
        (fun r hr1 hr2 => by simp only at hr1; rw [hos r (by have := g.pos; omega), if_neg (by have := g.a1; omega)]; exact g.fr r (by omega) hr2) g2
      refine ⟨o', ⟨1, a, st.next, op, im, iv⟩ :: ins, ⟨?_, ?_, d.len, ?_, d.fr, ?_, ?_⟩, ?_⟩
      · rw [d.l]; simp
      · intro rest
        rw [List.cons_append, Go.M15.run]
        rw [if_pos ⟨g.a0, g.a1, hal, g.cl⟩, if_neg (show ¬ ((1 : Int) = 2) by decide), if_pos ⟨rfl, rfl⟩]
        have := d.run rest
        simp only at this ⊢
        rw [← this, h1]
      · intro r hr1 hr2 hr3
        rw [d.keep r hr1 (by simp only; omega) (by omega), hos r hr1, if_neg hr3]
      · have := d.mono
        simp only at this
        omega
      · intro x hx
        rcases d.vars x hx with e | ⟨e1, e2, e3, e4⟩
        · exact .inl e
        · refine .inr ⟨e1, e2, e3, ?_⟩
          rcases e4 with e4 | e4
          · exact .inl e4
          · right; right
            have e5 : st.next + ((0 : Nat) : Int) ≤ x ∧ x < st.next + ((0 : Nat) : Int) + ks.length ∨ st.next + (ks.length : Int) ≤ x := e4
            omega
      · simp only [T.num] at hn ⊢
        omega
    · rw [if_pos (by omega)]
      have hb := g.big
      simp only [T.num, nums] at hb
      have hgm : 0 ≤ (pad st.vars v).getD (v - 1).toNat 0 → (pad st.vars v).getD (v - 1).toNat 0 ∈ st.vars := fun hp => by
        have hlt : (v - 1).toNat < (pad st.vars v).length := by rw [pad_len]; omega
        rw [List.getD_eq_getElem?_getD, List.getElem?_eq_getElem hlt] at hp ⊢
        rcases pad_mem (List.getElem_mem hlt) with h | h
        · exact h
        · have hp : 0 ≤ (pad st.vars v)[(v - 1).toNat] := hp
          omega
      split
      · rename_i hp
        have hm := hgm hp
        rcases g.vars _ hm with e | ⟨e1, e2, e3, e4⟩
        · omega
        refine ⟨o, [⟨2, a, (pad st.vars v).getD (v - 1).toNat 0, 0, 0, 0⟩], ⟨rfl, ?_, g.len, fun _ _ _ _ => rfl, g.fr, Int.le_refl _, ?_⟩, by simp only [T.num, nums]; omega⟩
        · intro rest
          rw [List.cons_append, Go.M15.run, if_pos ⟨g.a0, g.a1, by have := g.a1; simp only; omega, g.cl⟩, if_pos rfl, if_pos ⟨e1, e2, e4⟩]
          rfl
        · intro x hx
          rcases pad_mem hx with h | h
          · rcases g.vars x h with e | ⟨f1, f2, f3, f4⟩
            · exact .inl e
            · exact .inr ⟨f1, f2, f4, .inl h⟩
          · exact .inl h
      · refine ⟨o, [], ⟨by simp, fun rest => rfl, g.len, fun _ _ _ _ => rfl, g.fr, Int.le_refl _, ?_⟩, by simp only [T.num, nums]; omega⟩
        intro x hx
        rcases List.mem_or_eq_of_mem_set hx with hx | rfl
        · rcases pad_mem hx with h | h
          · rcases g.vars x h with e | ⟨f1, f2, f3, f4⟩
            · exact .inl e
            · exact .inr ⟨f1, f2, f4, .inl h⟩
          · exact .inl h
        · exact .inr ⟨g.a0, g.a1, g.cl, .inr (.inl rfl)⟩
theorem comps_done : ∀ (ks : List T) (b : Int) (i : Nat) (st : St) (o : List Bool), wfs ks → o.length = 64 → 1 ≤ b → b + i + ks.length ≤ st.next → st.next + nums ks ≤ 64 + ks.length →
    (∀ r, b + i ≤ r → r < b + i + ks.length → opn o r = false) → (∀ r, st.next ≤ r → r < 64 → opn o r = false) →
    (∀ x ∈ st.vars, x = -1 ∨ (0 ≤ x ∧ x < st.next ∧ (x < b + i ∨ b + i + ks.length ≤ x) ∧ opn o x = false)) →
    ∃ o' ins, DoneK (b + i) (b + i + ks.length) st (comps ks b i st) o o' ins ∧ (comps ks b i st).next + ks.length = st.next + nums ks
  | [], b, i, st, o, _, hlen, _, _, _, _, hfr, hv => by
    refine ⟨o, [], ⟨by simp [comps], fun _ => rfl, hlen, fun _ _ _ _ => rfl, hfr, Int.le_refl _, fun x hx => ?_⟩, by simp [comps, nums]⟩
    rw [comps] at hx ⊢
    rcases hv x hx with e | ⟨e1, e2, e3, e4⟩
    · exact .inl e
    · exact .inr ⟨e1, e2, e4, .inl hx⟩
  | t :: r, b, i, st, o, hw, hlen, hb, hlo, hbig, hwin, hfr, hv => by
    simp only [List.length_cons, nums] at hlo hbig hwin hv ⊢
    have hlr := len_nums r
    have hnt := num_pos t
    obtain ⟨o1, ins1, d1, hn1⟩ := comp_done t (b + i) st o hw.1 ⟨hlen, by omega, by omega, by omega, by omega, hwin (b + i) (Int.le_refl _) (by omega), fun x hx => by
      rcases hv x hx with e | ⟨e1, e2, e3, e4⟩
      · exact .inl e
      · exact .inr ⟨e1, e2, by omega, e4⟩, hfr⟩
    have m1 := d1.mono
    obtain ⟨o2, ins2, d2, hn2⟩ := comps_done r b (i + 1) (comp t (b + i) st) o1 hw.2 d1.len hb (by omega) (by omega)
      (fun q hq1 hq2 => by rw [d1.keep q (by omega) (by omega) (by omega)]; exact hwin q (by omega) (by omega)) d1.fr (fun x hx => by
        rcases d1.vars x hx with e | ⟨e1, e2, e3, e4⟩
        · exact .inl e
        · refine .inr ⟨e1, e2, ?_, e3⟩
          rcases e4 with e4 | e4 | e4
          · rcases hv x e4 with e | ⟨f1, f2, f3, f4⟩
            · omega
            · omega
          · omega
          · omega)
    have m2 := d2.mono
    rw [comps]
    refine ⟨o2, ins1 ++ ins2, ⟨by rw [d2.l, d1.l, List.append_assoc], fun rest => by rw [List.append_assoc, d1.run, d2.run], d2.len, fun q hq1 hq2 hq3 => ?_, d2.fr, by omega, fun x hx => ?_⟩, by omega⟩
    · rw [d2.keep q hq1 (by omega) (by omega), d1.keep q hq1 hq2 (by omega)]
    · rcases d2.vars x hx with e | ⟨e1, e2, e3, e4⟩
      · exact .inl e
      · refine .inr ⟨e1, e2, e3, ?_⟩
        rcases e4 with e4 | e4 | e4
        · rcases d1.vars x e4 with e | ⟨f1, f2, f3, f4⟩
          · omega
          · rcases f4 with f4 | f4 | f4
            · exact .inl f4
            · right; left; omega
            · right; right; omega
        · right; left; omega
        · right; right; omega
end
/-- the check of what a valid pattern is compiled to -/
theorem run_comp {t : T} (hw : t.wf) (hn : t.num ≤ 64) : run 1 (List.replicate 64 false) (comp t 0 ⟨[], 1, []⟩).l = some t.num := by
  obtain ⟨o', ins, d, h⟩ := comp_done t 0 ⟨[], 1, []⟩ (List.replicate 64 false) hw ⟨by simp, by simp, by omega, by simp, by simp only; omega, rfl, by simp, fun r h1 h2 => by
    unfold opn
    rw [List.getD_eq_getElem?_getD, List.getElem?_replicate_of_lt (by simp only at h1; omega)]
    rfl⟩
  have := d.run []
  rw [List.append_nil] at this
  rw [d.l, List.nil_append, this]
  simp only [run] at h ⊢
  congr 1
  have h : (comp t 0 ⟨[], 1, []⟩).next + 1 = 1 + (t.num : Int) := h
  omega
end Go.M15

end

section
/-
  Patterns: nodes, their keys, instances, in plain Lean.
  Conditions: none.
-/
set_option linter.unusedVariables false
namespace Go.M15
open Go.Pv
structure Nd where
  op : Int
  im : Int
  ks : List Int
  deriving DecidableEq, Inhabited
def okN (n : Nd) : Prop := i64b n.op ∧ i64b n.im ∧ ∀ k ∈ n.ks, i64b k
/-- eight bytes -/
def b8 (n : Int) : List Int := [IntKind.u8.wrap (n.fdiv 1), IntKind.u8.wrap (n.fdiv 256), IntKind.u8.wrap (n.fdiv 65536), IntKind.u8.wrap (n.fdiv 16777216), IntKind.u8.wrap (n.fdiv 4294967296),
  IntKind.u8.wrap (n.fdiv 1099511627776), IntKind.u8.wrap (n.fdiv 281474976710656), IntKind.u8.wrap (n.fdiv 72057594037927936)]
def u64 (n : Int) : Int := IntKind.u64.wrap n
def keyI (n : Nd) : List Int := b8 (u64 n.op) ++ b8 (u64 n.im) ++ n.ks.flatMap fun k => b8 (u64 k)
def keyF (n : Nd) : List UInt8 := (keyI n).map fun x => UInt8.ofNat x.toNat
theorem u8w (n : Int) : IntKind.u8.wrap n = n % 256 := by
  simp [IntKind.wrap, IntKind.signed, IntKind.bits]
theorem u64w (n : Int) : IntKind.u64.wrap n = n % 18446744073709551616 := by
  simp [IntKind.wrap, IntKind.signed, IntKind.bits]
theorem b8_u8 (n : Int) : ∀ x ∈ b8 n, 0 ≤ x ∧ x < 256 := by
  intro x hx
  unfold b8 at hx
  simp only [u8w, List.mem_cons, List.not_mem_nil, or_false] at hx
  omega
theorem b8_inj {n m : Int} (hn : 0 ≤ n ∧ n < 18446744073709551616) (hm : 0 ≤ m ∧ m < 18446744073709551616) (h : b8 n = b8 m) : n = m := by
  unfold b8 at h
  simp only [u8w, List.cons.injEq, and_true] at h
  obtain ⟨h0, h1, h2, h3, h4, h5, h6, h7⟩ := h
  simp only [Int.fdiv_eq_ediv_of_nonneg _ (show (0 : Int) ≤ 1 by decide), Int.fdiv_eq_ediv_of_nonneg _ (show (0 : Int) ≤ 256 by decide), Int.fdiv_eq_ediv_of_nonneg _ (show (0 : Int) ≤ 65536 by decide), Int.fdiv_eq_ediv_of_nonneg _ (show (0 : Int) ≤ 16777216 by decide),
    Int.fdiv_eq_ediv_of_nonneg _ (show (0 : Int) ≤ 4294967296 by decide), Int.fdiv_eq_ediv_of_nonneg _ (show (0 : Int) ≤ 1099511627776 by decide), Int.fdiv_eq_ediv_of_nonneg _ (show (0 : Int) ≤ 281474976710656 by decide), Int.fdiv_eq_ediv_of_nonneg _ (show (0 : Int) ≤ 72057594037927936 by decide), Int.ediv_one] at h0 h1 h2 h3 h4 h5 h6 h7
  have e : ∀ x : Int, x / 65536 = x / 256 / 256 ∧ x / 16777216 = x / 65536 / 256 ∧ x / 4294967296 = x / 16777216 / 256 ∧ x / 1099511627776 = x / 4294967296 / 256 ∧ x / 281474976710656 = x / 1099511627776 / 256 ∧ x / 72057594037927936 = x / 281474976710656 / 256 := fun x => by
    refine ⟨?_, ?_, ?_, ?_, ?_, ?_⟩ <;> omega
  obtain ⟨a1, a2, a3, a4, a5, a6⟩ := e n
  obtain ⟨c1, c2, c3, c4, c5, c6⟩ := e m
  have k7 : n / 72057594037927936 = m / 72057594037927936 := by omega
  have k6 : n / 281474976710656 = m / 281474976710656 := by omega
  have k5 : n / 1099511627776 = m / 1099511627776 := by omega
  have k4 : n / 4294967296 = m / 4294967296 := by omega
  have k3 : n / 16777216 = m / 16777216 := by omega
  have k2 : n / 65536 = m / 65536 := by omega
  have k1 : n / 256 = m / 256 := by omega
  omega
theorem u64_b (n : Int) : 0 ≤ u64 n ∧ u64 n < 18446744073709551616 := by
  unfold u64
  rw [u64w]
  omega
theorem u64_inj {n m : Int} (hn : i64b n) (hm : i64b m) (h : u64 n = u64 m) : n = m := by
  unfold u64 at h
  rw [u64w, u64w] at h
  unfold i64b at hn hm
  omega
theorem b8_len (n : Int) : (b8 n).length = 8 := rfl
theorem flat_inj : ∀ {a b : List Int}, (∀ k ∈ a, i64b k) → (∀ k ∈ b, i64b k) → a.flatMap (fun k => b8 (u64 k)) = b.flatMap (fun k => b8 (u64 k)) → a = b
  | [], [], _, _, _ => rfl
  | [], y :: b, _, _, h => by simp [b8] at h
  | x :: a, [], _, _, h => by simp [b8] at h
  | x :: a, y :: b, ha, hb, h => by
    rw [List.flatMap_cons, List.flatMap_cons] at h
    obtain ⟨h1, h2⟩ := List.append_inj h (by rw [b8_len, b8_len])
    rw [u64_inj (ha x List.mem_cons_self) (hb y List.mem_cons_self) (b8_inj (u64_b _) (u64_b _) h1), flat_inj (fun k hk => ha k (List.mem_cons_of_mem _ hk)) (fun k hk => hb k (List.mem_cons_of_mem _ hk)) h2]
theorem keyI_inj {a b : Nd} (ha : okN a) (hb : okN b) (h : keyI a = keyI b) : a = b := by
  unfold keyI at h
  obtain ⟨h1, h2⟩ := List.append_inj h (by simp [b8_len])
  obtain ⟨h3, h4⟩ := List.append_inj h1 (by rw [b8_len, b8_len])
  have e1 := u64_inj ha.1 hb.1 (b8_inj (u64_b _) (u64_b _) h3)
  have e2 := u64_inj ha.2.1 hb.2.1 (b8_inj (u64_b _) (u64_b _) h4)
  have e3 := flat_inj ha.2.2 hb.2.2 h2
  cases a; cases b
  simp_all
theorem keyI_u8 (n : Nd) : ∀ x ∈ keyI n, 0 ≤ x ∧ x < 256 := by
  intro x hx
  unfold keyI at hx
  rcases List.mem_append.1 hx with hx | hx
  · rcases List.mem_append.1 hx with hx | hx
    · exact b8_u8 _ x hx
    · exact b8_u8 _ x hx
  · obtain ⟨k, _, hk⟩ := List.mem_flatMap.1 hx
    exact b8_u8 _ x hk
theorem u8_inj : ∀ {a b : List Int}, (∀ x ∈ a, 0 ≤ x ∧ x < 256) → (∀ x ∈ b, 0 ≤ x ∧ x < 256) → a.map (fun x => UInt8.ofNat x.toNat) = b.map (fun x => UInt8.ofNat x.toNat) → a = b
  | [], [], _, _, _ => rfl
  | [], _ :: _, _, _, h => by simp at h
  | _ :: _, [], _, _, h => by simp at h
  | x :: a, y :: b, ha, hb, h => by
    simp only [List.map_cons, List.cons.injEq] at h
    obtain ⟨h1, h2⟩ := h
    have hx := ha x List.mem_cons_self
    have hy := hb y List.mem_cons_self
    have e := congrArg UInt8.toNat h1
    rw [UInt8.toNat_ofNat_of_lt' (by show x.toNat < 256; omega), UInt8.toNat_ofNat_of_lt' (by show y.toNat < 256; omega)] at e
    rw [show x = y by omega, u8_inj (fun k hk => ha k (List.mem_cons_of_mem _ hk)) (fun k hk => hb k (List.mem_cons_of_mem _ hk)) h2]
theorem keyF_inj {a b : Nd} (ha : okN a) (hb : okN b) : (keyF a == keyF b) = decide (a = b) := by
  by_cases e : a = b
  · subst e; simp
  · have : keyF a ≠ keyF b := fun h => e (keyI_inj ha hb (u8_inj (keyI_u8 a) (keyI_u8 b) h))
    simp [e, this]
theorem bytesIV_map : ∀ l : List Int, bytesIV (l.map (IV.int .u8)) = some (l.map fun x => UInt8.ofNat x.toNat)
  | [] => rfl
  | x :: r => by simp [bytesIV, bytesIV_map r]
/-- the first place of a node -/
def fidx (n : Nd) : List Nd → Nat → Option Nat
  | [], _ => none
  | x :: r, i => if n = x then some i else fidx n r (i + 1)
def look (k : List UInt8) : List (List UInt8 × Int) → Option Int
  | [] => none
  | (x, v) :: r => if k == x then some v else look k r
def cE (es : List (List UInt8 × Int)) : List (IV × IV) := es.map fun p => (.str p.1, .int .i64 p.2)
theorem find_cE (k : List UInt8) : ∀ es, findIV .string (.str k) (cE es) = some ((look k es).map (IV.int .i64))
  | [] => rfl
  | (x, v) :: r => by
    have ih := find_cE k r
    unfold cE at ih ⊢
    simp only [List.map_cons, findIV, scalarEq, look]
    cases h : (k == x)
    · simpa using ih
    · simp
theorem upd_cE (k : List UInt8) (v : Int) : ∀ es, look k es = none → updIV .string (.str k) (.int .i64 v) (cE es) = some (cE (es ++ [(k, v)]))
  | [], _ => rfl
  | (x, w) :: r, h => by
    unfold look at h
    split at h
    · cases h
    · rename_i hx
      have ih := upd_cE k v r h
      unfold cE at ih ⊢
      simp only [List.map_cons, updIV, scalarEq, List.cons_append]
      rw [Bool.not_eq_true] at hx
      rw [hx]
      simp only [ih, Option.map_some]
/-- the map from keys to first places -/
def ixf : Nat → List (List UInt8 × Int) → List Nd → List (List UInt8 × Int)
  | _, acc, [] => acc
  | i, acc, n :: r => ixf (i + 1) (if (look (keyF n) acc).isSome then acc else acc ++ [(keyF n, (i : Int))]) r
def ixm (l : List Nd) : List (List UInt8 × Int) := ixf 0 [] l
theorem ixf_snoc (n : Nd) : ∀ (l : List Nd) (i : Nat) (acc : List (List UInt8 × Int)), ixf i acc (l ++ [n]) = if (look (keyF n) (ixf i acc l)).isSome then ixf i acc l else ixf i acc l ++ [(keyF n, ((i + l.length : Nat) : Int))]
  | [], i, acc => by
    simp only [List.nil_append, ixf, List.length_nil, Nat.add_zero]
    try rfl
  | x :: l, i, acc => by
    simp only [List.cons_append, ixf, List.length_cons]
    rw [ixf_snoc n l]
    rw [show i + 1 + l.length = i + (l.length + 1) by omega]
    try rfl
theorem look_app (k : List UInt8) : ∀ (a b : List (List UInt8 × Int)), look k (a ++ b) = (look k a).or (look k b)
  | [], b => rfl
  | (x, v) :: a, b => by
    simp only [List.cons_append, look]
    split
    · rfl
    · exact look_app k a b
theorem look_ixf {n : Nd} (hn : okN n) : ∀ (l : List Nd) (i : Nat) (acc : List (List UInt8 × Int)), (∀ x ∈ l, okN x) → look (keyF n) (ixf i acc l) = (look (keyF n) acc).or ((fidx n l i).map fun j => (j : Int))
  | [], i, acc, _ => by simp [ixf, fidx]
  | x :: l, i, acc, h => by
    simp only [ixf, fidx]
    have hx := h x List.mem_cons_self
    rw [look_ixf hn l (i + 1) _ (fun y hy => h y (List.mem_cons_of_mem _ hy))]
    have hk := keyF_inj hn hx
    by_cases e : n = x
    · subst e
      rw [if_pos rfl]
      cases hl : look (keyF n) acc with
      | some v => simp [hl]
      | none => simp [hl, look_app, look]
    · rw [if_neg e]
      rw [decide_eq_false e] at hk
      cases hl : look (keyF x) acc with
      | some v => simp
      | none =>
        simp only [Option.isSome_none, Bool.false_eq_true, if_false]
        rw [look_app]
        simp [look, hk]
theorem look_ixm {n : Nd} (hn : okN n) {l : List Nd} (h : ∀ x ∈ l, okN x) : look (keyF n) (ixm l) = (fidx n l 0).map fun j => (j : Int) := by
  unfold ixm
  rw [look_ixf hn l 0 [] h]
  rfl
/-- the node put: found, or appended -/
def putA (l : List Nd) (n : Nd) : List Nd × Int := match fidx n l 0 with
  | some i => (l, i)
  | none => (l ++ [n], l.length)
theorem ixm_put {n : Nd} (hn : okN n) {l : List Nd} (h : ∀ x ∈ l, okN x) (e : fidx n l 0 = none) : ixm (l ++ [n]) = ixm l ++ [(keyF n, (l.length : Int))] := by
  have h1 := look_ixm hn h
  rw [e] at h1
  unfold ixm at h1 ⊢
  rw [ixf_snoc, h1]
  simp
theorem fidx_lt {n : Nd} : ∀ {l : List Nd} {i j : Nat}, fidx n l i = some j → i ≤ j ∧ j < i + l.length
  | [], i, j, h => by cases h
  | x :: l, i, j, h => by
    unfold fidx at h
    split at h
    · cases h
      simp only [List.length_cons]
      omega
    · have := fidx_lt h
      simp only [List.length_cons]
      omega
mutual
/-- an instance: the nodes then, and its index -/
def instA : T → List Int → List Int → List Nd → List Nd × Int
  | .mk v op im iv ks, vars, imms, l =>
    if 0 < v then (l, vars.getD (v - 1).toNat 0)
    else putA (instAs ks vars imms l).1 ⟨op, if 0 < iv then imms.getD (iv - 1).toNat 0 else im, (instAs ks vars imms l).2⟩
def instAs : List T → List Int → List Int → List Nd → List Nd × List Int
  | [], _, _, l => (l, [])
  | t :: r, vars, imms, l => ((instAs r vars imms (instA t vars imms l).1).1, (instA t vars imms l).2 :: (instAs r vars imms (instA t vars imms l).1).2)
end
mutual
/-- variables and immediate variables are there -/
def T.wi : T → Int → Int → Prop
  | .mk v _ _ iv ks, nv, ni => (0 ≤ v ∧ v ≤ nv) ∧ (0 < v ∨ ((0 ≤ iv ∧ iv ≤ ni) ∧ wis ks nv ni))
def wis : List T → Int → Int → Prop
  | [], _, _ => True
  | t :: r, nv, ni => t.wi nv ni ∧ wis r nv ni
end
theorem wi_kid : ∀ {ks : List T} {t : T} {nv ni : Int}, wis ks nv ni → t ∈ ks → t.wi nv ni
  | x :: r, t, nv, ni, h, hm => by
    rcases List.mem_cons.1 hm with rfl | hm
    · exact h.1
    · exact wi_kid h.2 hm
mutual
theorem valP_wi : ∀ (t : T) (s imms : Int) (vs : List Int), 0 ≤ imms → (valP t s imms vs).1 = true → t.wi vs.length imms
  | .mk v op im iv ks, s, imms, vs, h0, h => by
    by_cases hv : v = 0
    · by_cases hn : nodeOk op im iv ks.length s imms
      · rw [valP_node hv hn] at h
        refine ⟨by omega, .inr ⟨?_, valPs_wi ks (opk op) imms vs h0 h⟩⟩
        have := hn.2.2.2
        simp only [vIm, decide_eq_true_eq] at this
        omega
      · rw [valP_no hv hn] at h
        cases h
    · by_cases hb : badVar v op im iv ks.length vs.length
      · rw [valP_bad hv hb] at h
        cases h
      · unfold badVar at hb
        exact ⟨by omega, .inl (by omega)⟩
theorem valPs_wi : ∀ (ks : List T) (q : List Int) (imms : Int) (vs : List Int), 0 ≤ imms → (valPs ks q imms vs).1 = true → wis ks vs.length imms
  | [], _, _, _, _, _ => trivial
  | t :: r, q, imms, vs, h0, h => by
    rw [valPs] at h
    have hlen := valP_len t (q.headD 0) imms vs
    have ht := valP_wi t (q.headD 0) imms vs h0
    split at h
    · rename_i vs' e
      rw [e] at ht hlen
      have hlen : vs'.length = vs.length := hlen
      have := valPs_wi r q.tail imms vs' h0 h
      rw [hlen] at this
      exact ⟨ht rfl, this⟩
    · cases h
end
theorem valB_wi {t : T} {nv ni : Int} (h : valB t nv ni = true) : t.wi nv ni ∧ t.size ≤ 24 ∧ 0 ≤ nv ∧ nv ≤ 6 ∧ 0 ≤ ni ∧ ni ≤ 6 := by
  unfold valB at h
  simp only [Bool.and_eq_true, decide_eq_true_eq] at h
  have := valP_wi t 0 ni _ h.1.2.2.1 h.2.2
  rw [List.length_replicate, Int.toNat_of_nonneg h.1.1] at this
  exact ⟨this, h.2.1, h.1⟩
theorem putA_len (l : List Nd) (n : Nd) : l.length ≤ (putA l n).1.length ∧ (putA l n).1.length ≤ l.length + 1 ∧ 0 ≤ (putA l n).2 ∧ (putA l n).2 ≤ l.length := by
  unfold putA
  split
  · rename_i i h
    have := fidx_lt h
    simp only
    omega
  · simp
theorem putA_ok {l : List Nd} {n : Nd} (hl : ∀ x ∈ l, okN x) (hn : okN n) : ∀ x ∈ (putA l n).1, okN x := by
  unfold putA
  split
  · exact hl
  · intro x hx
    rcases List.mem_append.1 hx with hx | hx
    · exact hl x hx
    · rw [List.mem_singleton.1 hx]
      exact hn
theorem getD_b {l : List Int} {i : Nat} (h : ∀ x ∈ l, i64b x) : i64b (l.getD i 0) := by
  rw [List.getD_eq_getElem?_getD]
  rcases Nat.lt_or_ge i l.length with q | q
  · rw [List.getElem?_eq_getElem q]
    exact h _ (List.getElem_mem q)
  · rw [List.getElem?_eq_none q]
    show i64b 0
    unfold i64b
    omega
mutual
theorem instA_len : ∀ (t : T) (vars imms : List Int) (l : List Nd), l.length ≤ (instA t vars imms l).1.length ∧ (instA t vars imms l).1.length ≤ l.length + t.num
  | .mk v op im iv ks, vars, imms, l => by
    rw [instA]
    split
    · simp only [T.num]; omega
    · have h1 := instAs_len ks vars imms l
      have h2 := putA_len (instAs ks vars imms l).1 ⟨op, if 0 < iv then imms.getD (iv - 1).toNat 0 else im, (instAs ks vars imms l).2⟩
      simp only [T.num]
      omega
theorem instAs_len : ∀ (ks : List T) (vars imms : List Int) (l : List Nd), l.length ≤ (instAs ks vars imms l).1.length ∧ (instAs ks vars imms l).1.length ≤ l.length + nums ks ∧ (instAs ks vars imms l).2.length = ks.length
  | [], vars, imms, l => by simp [instAs, nums]
  | t :: r, vars, imms, l => by
    have h1 := instA_len t vars imms l
    have h2 := instAs_len r vars imms (instA t vars imms l).1
    simp only [instAs, nums, List.length_cons]
    omega
end
mutual
theorem instA_ok : ∀ (t : T) (vars imms : List Int) (l : List Nd), t.ok → (∀ x ∈ vars, i64b x) → (∀ x ∈ imms, i64b x) → (∀ x ∈ l, okN x) → l.length + t.num ≤ 1000000000 → (∀ x ∈ (instA t vars imms l).1, okN x) ∧ i64b (instA t vars imms l).2
  | .mk v op im iv ks, vars, imms, l, ht, hv, hi, hl, hb => by
    rw [instA]
    split
    · exact ⟨hl, getD_b hv⟩
    · simp only [T.num] at hb
      have h1 := instAs_ok ks vars imms l ht.2 hv hi hl (by omega)
      have h3 := instAs_len ks vars imms l
      have hn : okN ⟨op, if 0 < iv then imms.getD (iv - 1).toNat 0 else im, (instAs ks vars imms l).2⟩ := ⟨ht.1.2.1, by
        show i64b (if 0 < iv then imms.getD (iv - 1).toNat 0 else im)
        split
        · exact getD_b hi
        · exact ht.1.2.2.1, h1.2⟩
      have h2 := putA_len (instAs ks vars imms l).1 ⟨op, if 0 < iv then imms.getD (iv - 1).toNat 0 else im, (instAs ks vars imms l).2⟩
      exact ⟨putA_ok h1.1 hn, by unfold i64b; omega⟩
theorem instAs_ok : ∀ (ks : List T) (vars imms : List Int) (l : List Nd), oks ks → (∀ x ∈ vars, i64b x) → (∀ x ∈ imms, i64b x) → (∀ x ∈ l, okN x) → l.length + nums ks ≤ 1000000000 → (∀ x ∈ (instAs ks vars imms l).1, okN x) ∧ ∀ x ∈ (instAs ks vars imms l).2, i64b x
  | [], vars, imms, l, ht, hv, hi, hl, hb => ⟨hl, by simp [instAs]⟩
  | t :: r, vars, imms, l, ht, hv, hi, hl, hb => by
    simp only [nums] at hb
    have h1 := instA_ok t vars imms l ht.1 hv hi hl (by omega)
    have h3 := instA_len t vars imms l
    have h2 := instAs_ok r vars imms (instA t vars imms l).1 ht.2 hv hi h1.1 (by omega)
    simp only [instAs]
    refine ⟨h2.1, fun x hx => ?_⟩
    rcases List.mem_cons.1 hx with rfl | hx
    · exact h1.2
    · exact h2.2 x hx
end
theorem instAs_step {ks : List T} {i : Nat} {vars imms : List Int} {l : List Nd} (h : i < ks.length) :
    instAs (ks.drop i) vars imms l = ((instAs (ks.drop (i + 1)) vars imms (instA ks[i] vars imms l).1).1, (instA ks[i] vars imms l).2 :: (instAs (ks.drop (i + 1)) vars imms (instA ks[i] vars imms l).1).2) := by
  rw [List.drop_eq_getElem_cons h, instAs]
theorem instAs_end {ks : List T} {i : Nat} {vars imms : List Int} {l : List Nd} (h : ks.length ≤ i) : instAs (ks.drop i) vars imms l = (l, []) := by
  rw [List.drop_eq_nil_of_le h, instAs]
/-- what Instantiate gives -/
def instB (l : List Nd) (t : T) (vars imms : List Int) : List Nd × Int :=
  if valB t vars.length imms.length = true ∧ vars.all (fun i => decide (0 ≤ i) && decide (i < l.length)) = true then instA t vars imms l else (l, -1)
end Go.M15
namespace Go.Pv
open Go.M15
/-- a node's cells -/
def cN (n : Nd) : List IV := [.int .i64 n.op, .int .i64 n.im, .vslice none 0 n.ks.length 1 (n.ks.map (IV.int .i64))]
theorem pureL_cN : ∀ {l : List Nd}, pureL (l.flatMap cN) = true
  | [] => rfl
  | x :: r => by
    rw [List.flatMap_cons, pureL_append, pureL_cN, Bool.and_true]
    simp only [cN, pureL, pureB, pureL_ints, Bool.and_true]
theorem cN_at {l : List Nd} {i j : Nat} (h : i < l.length) (hj : j < 3) : (l.flatMap cN)[i * 3 + j]? = (cN l[i])[j]? := by
  induction l generalizing i with
  | nil => simp at h
  | cons x r ih =>
    cases i with
    | zero =>
      rw [List.flatMap_cons, Nat.zero_mul, Nat.zero_add, List.getElem?_append_left (by exact hj)]
      rfl
    | succ i =>
      rw [List.flatMap_cons, List.getElem?_append_right (by show 3 ≤ _; omega), show (i + 1) * 3 + j - (cN x).length = i * 3 + j by show (i + 1) * 3 + j - 3 = _; omega]
      exact ih (by simpa using h)
theorem ldNd {l : List Nd} {i o : Nat} {K : Int → Int → Option Nat → Nat → Nat → List IV → Prop} (h : i < l.length) (ho : o = i * 3) (hk : K l[i].op l[i].im none 0 l[i].ks.length (l[i].ks.map (IV.int .i64))) :
    ldIS .i64 (l.flatMap cN) o fun a => ldIS .i64 (l.flatMap cN) (o + 1) fun b => ldVS 1 (l.flatMap cN) (o + 1 + 1) fun p q r s => K a b p q r s := by
  subst ho
  have e0 := cN_at (j := 0) h (by omega)
  have e1 := cN_at (j := 1) h (by omega)
  have e2 := cN_at (j := 2) h (by omega)
  unfold ldIS ldVS
  simp only [Nat.add_zero] at e0
  simp only [Nat.add_assoc, Nat.reduceAdd, e0, e1, e2]
  exact hk
end Go.Pv
namespace Go.Pv
theorem ldM_at {cs : List IV} {off id : Nat} {K : Nat → Prop} (e : cs[off]? = some (.map id)) (hk : K id) : ldMS cs off K := by
  unfold ldMS; rw [e]; exact hk
theorem ldP_at {cs : List IV} {off id o : Nat} {K : Nat → Nat → Prop} (e : cs[off]? = some (.ptr id o)) (hk : K id o) : ldPS cs off K := by
  unfold ldPS; rw [e]; exact hk
theorem ldV_at {sz : Nat} {cs : List IV} {off : Nat} {K : Option Nat → Nat → Nat → List IV → Prop} {i : Option Nat} {a n : Nat} {c : List IV} (e : cs[off]? = some (.vslice i a n sz c)) (hk : K i a n c) : ldVS sz cs off K := by
  unfold ldVS; rw [e]; simpa using hk
theorem byt_intro {cs : List IV} {b : List UInt8} {K : List UInt8 → Prop} (e : bytesIV cs = some b) (hk : K b) : bytS cs K := by
  unfold bytS; rw [e]; exact hk
theorem mlook_some {h : Heap} {id : Nat} {d : TypeDesc} {key v : IV} {es : List (IV × IV)} {K : List IV → Prop} {A : Prop} (e : h.get id = .map es) (f : findIV d key es = some (some v)) (hk : K [v]) : mlookS h id d key K A := by
  unfold mlookS; rw [e]; simp only [f]; exact hk
theorem mlook_none {h : Heap} {id : Nat} {d : TypeDesc} {key : IV} {es : List (IV × IV)} {K : List IV → Prop} {A : Prop} (e : h.get id = .map es) (f : findIV d key es = some none) (hk : A) : mlookS h id d key K A := by
  unfold mlookS; rw [e]; simp only [f]; exact hk
theorem mupd_intro {h : Heap} {id : Nat} {d : TypeDesc} {key v : IV} {es es' : List (IV × IV)} {K : List (IV × IV) → Prop} (e : h.get id = .map es) (f : updIV d key v es = some es') (hk : K es') : mupdS h id d key v K := by
  unfold mupdS; rw [e]; simp only [f]; exact hk
end Go.Pv
namespace Go.M15
open Go.Pv
theorem keyI_take {op im : Int} {ks : List Int} {k : Nat} (h : k < ks.length) : keyI ⟨op, im, ks.take (k + 1)⟩ = keyI ⟨op, im, ks.take k⟩ ++ b8 (u64 ks[k]) := by
  unfold keyI
  simp only [List.append_assoc, List.append_cancel_left_eq]
  rw [List.take_succ_eq_append_getElem h, List.flatMap_append]
  simp
/-- the bytes of a key, as cells -/
def isKey (n : Nd) (cs : List IV) : Prop := cs = (keyI n).map (IV.int .u8)
def isKy (n : Nd) (s : List UInt8) : Prop := s = keyF n
theorem keyI_len (n : Nd) : (keyI n).length = 16 + 8 * n.ks.length := by
  unfold keyI
  have : ∀ l : List Int, (l.flatMap fun k => b8 (u64 k)).length = 8 * l.length := by
    intro l
    induction l with
    | nil => rfl
    | cons x r ih => rw [List.flatMap_cons, List.length_append, ih, b8_len, List.length_cons]; omega
  rw [List.length_append, List.length_append, b8_len, b8_len, this]
/-- the program's instantiator in the heap: its fields, its rows, its map -/
def IS (h : Heap) (id m iL : Nat) (vars imms : List Int) (l : List Nd) : Prop := (id < h.next ∧ m < h.next ∧ iL < h.next) ∧
  h.get id = .cells [.vslice (some iL) (l.length * 3) l.length 3 (l.flatMap cN), .map m, .vslice none 0 vars.length 1 (vars.map (IV.int .i64)), .vslice none 0 imms.length 1 (imms.map (IV.int .i64))] ∧
  h.get iL = .tip (l.length * 3) ∧ h.get m = .map (cE (ixm l))
/-- all else lies as it lay -/
def FR3 (id m iL : Nat) (h h2 : Heap) : Prop := h.next ≤ h2.next ∧ ∀ j, j < h.next → j ≠ id → j ≠ m → j ≠ iL → h2.get j = h.get j
theorem FR3.refl {id m iL : Nat} {h : Heap} : FR3 id m iL h h := ⟨Nat.le_refl _, fun _ _ _ _ _ => rfl⟩
theorem FR3.trans {id m iL : Nat} {a b c : Heap} (x : FR3 id m iL a b) (y : FR3 id m iL b c) : FR3 id m iL a c :=
  ⟨Nat.le_trans x.1 y.1, fun j h1 h2 h3 h4 => by rw [y.2 j (Nat.lt_of_lt_of_le h1 x.1) h2 h3 h4, x.2 j h1 h2 h3 h4]⟩
theorem IS.ne {h : Heap} {id m iL : Nat} {vars imms : List Int} {l : List Nd} (s : IS h id m iL vars imms l) : id ≠ m ∧ id ≠ iL ∧ m ≠ iL := by
  obtain ⟨_, h1, h2, h3⟩ := s
  refine ⟨fun e => ?_, fun e => ?_, fun e => ?_⟩
  · subst e; rw [h1] at h3; cases h3
  · subst e; rw [h1] at h2; cases h2
  · subst e; rw [h2] at h3; cases h3
theorem FR3.push {id m iL : Nat} {h g : Heap} {x : IObj} (f : FR3 id m iL h g) : FR3 id m iL h (g.push x) :=
  ⟨Nat.le_succ_of_le f.1, fun j h1 h2 h3 h4 => by rw [get_push_lt (Nat.lt_of_lt_of_le h1 f.1), f.2 j h1 h2 h3 h4]⟩
theorem FR3.set {id m iL i : Nat} {h g : Heap} {x : IObj} (f : FR3 id m iL h g) (hi : h.next ≤ i) : FR3 id m iL h (g.set i x) :=
  ⟨f.1, fun j h1 h2 h3 h4 => by rw [get_set_ne (by omega), f.2 j h1 h2 h3 h4]⟩
theorem IS.push {h : Heap} {id m iL : Nat} {vars imms : List Int} {l : List Nd} (s : IS h id m iL vars imms l) {x : IObj} : IS (h.push x) id m iL vars imms l := by
  obtain ⟨⟨b1, b2, b3⟩, h1, h2, h3⟩ := s
  exact ⟨⟨Nat.lt_succ_of_lt b1, Nat.lt_succ_of_lt b2, Nat.lt_succ_of_lt b3⟩, by rw [get_push_lt b1, h1], by rw [get_push_lt b3, h2], by rw [get_push_lt b2, h3]⟩
theorem IS.set {h : Heap} {id m iL i : Nat} {vars imms : List Int} {l : List Nd} (s : IS h id m iL vars imms l) {x : IObj} (h4 : i ≠ id) (h5 : i ≠ m) (h6 : i ≠ iL) : IS (h.set i x) id m iL vars imms l := by
  obtain ⟨b, h1, h2, h3⟩ := s
  exact ⟨b, by rw [get_set_ne h4.symm, h1], by rw [get_set_ne h6.symm, h2], by rw [get_set_ne h5.symm, h3]⟩
/-- the instantiator, perhaps without nodes so far -/
def IZ (h : Heap) (id m : Nat) (vars imms : List Int) (l : List Nd) : Prop := (l = [] ∧ (id < h.next ∧ m < h.next ∧ id ≠ m) ∧ h.get id = .cells [.nilslice, .map m, .vslice none 0 vars.length 1 (vars.map (IV.int .i64)), .vslice none 0 imms.length 1 (imms.map (IV.int .i64))] ∧ h.get m = .map (cE [])) ∨
  ∃ iL, IS h id m iL vars imms l
/-- a node is in its row, not yet in its map -/
def IP (h : Heap) (id m : Nat) (vars imms : List Int) (l : List Nd) (n : Nd) : Prop := ∃ iL, (id < h.next ∧ m < h.next ∧ iL < h.next) ∧
  h.get id = .cells [.vslice (some iL) ((l ++ [n]).length * 3) (l ++ [n]).length 3 ((l ++ [n]).flatMap cN), .map m, .vslice none 0 vars.length 1 (vars.map (IV.int .i64)), .vslice none 0 imms.length 1 (imms.map (IV.int .i64))] ∧
  h.get iL = .tip ((l ++ [n]).length * 3) ∧ h.get m = .map (cE (ixm l))
theorem IZ.push {h : Heap} {id m : Nat} {vars imms : List Int} {l : List Nd} (s : IZ h id m vars imms l) {x : IObj} : IZ (h.push x) id m vars imms l := by
  rcases s with ⟨h0, ⟨b1, b2, b3⟩, h1, h2⟩ | ⟨iL, s⟩
  · exact .inl ⟨h0, ⟨Nat.lt_succ_of_lt b1, Nat.lt_succ_of_lt b2, b3⟩, by rw [get_push_lt b1, h1], by rw [get_push_lt b2, h2]⟩
  · exact .inr ⟨iL, s.push⟩
theorem IZ.toP {g : Heap} {id m : Nat} {vars imms : List Int} (b1 : id < g.next) (b2 : m < g.next) (hne : id ≠ m) (h1 : g.get id = .cells [.nilslice, .map m, .vslice none 0 vars.length 1 (vars.map (IV.int .i64)), .vslice none 0 imms.length 1 (imms.map (IV.int .i64))]) (h2 : g.get m = .map (cE [])) (n : Nd) :
    IP ((g.push (.tip 3)).set id (.cells (.vslice (some g.next) 3 1 3 (cN n) :: [.map m, .vslice none 0 vars.length 1 (vars.map (IV.int .i64)), .vslice none 0 imms.length 1 (imms.map (IV.int .i64))]))) id m vars imms [] n := by
  refine ⟨g.next, ⟨Nat.lt_succ_of_lt b1, Nat.lt_succ_of_lt b2, Nat.lt_succ_self _⟩, ?_, ?_, ?_⟩
  · rw [get_set_eq]; simp
  · rw [get_set_ne (Nat.ne_of_gt b1), get_push_eq]; rfl
  · rw [get_set_ne hne.symm, get_push_lt b2, h2]; rfl
theorem IS.toP {g : Heap} {id m iL : Nat} {vars imms : List Int} {l : List Nd} (s : IS g id m iL vars imms l) (n : Nd) :
    IP ((g.set iL (.tip (l.length * 3 + 3))).set id (.cells (.vslice (some iL) (l.length * 3 + 3) (l.length + 1) 3 (l.flatMap cN ++ cN n) :: [.map m, .vslice none 0 vars.length 1 (vars.map (IV.int .i64)), .vslice none 0 imms.length 1 (imms.map (IV.int .i64))]))) id m vars imms l n := by
  obtain ⟨n1, n2, n3⟩ := s.ne
  obtain ⟨b, h1, h2, h3⟩ := s
  refine ⟨iL, b, ?_, ?_, ?_⟩
  · rw [get_set_eq]; simp [Nat.succ_mul]
  · rw [get_set_ne n2.symm, get_set_eq]; simp [Nat.succ_mul]
  · rw [get_set_ne n1.symm, get_set_ne n3, h3]
theorem IP.found {h : Heap} {id m : Nat} {vars imms : List Int} {l : List Nd} {n : Nd} (s : IP h id m vars imms l n) (hn : okN n) (hl : ∀ x ∈ l, okN x) {i : Nat} (e : fidx n l 0 = some i) : IZ h id m vars imms (l ++ [n]) := by
  obtain ⟨iL, b, h1, h2, h3⟩ := s
  refine .inr ⟨iL, b, h1, h2, ?_⟩
  have hk := look_ixm hn hl
  rw [e] at hk
  unfold ixm at hk h3 ⊢
  rw [ixf_snoc, hk]
  exact h3
theorem IP.new {h : Heap} {id m : Nat} {vars imms : List Int} {l : List Nd} {n : Nd} (s : IP h id m vars imms l n) (hn : okN n) (hl : ∀ x ∈ l, okN x) (e : fidx n l 0 = none) : IZ (h.set m (.map (cE (ixm l ++ [(keyF n, (l.length : Int))])))) id m vars imms (l ++ [n]) := by
  obtain ⟨iL, b, h1, h2, h3⟩ := s
  refine .inr ⟨iL, b, ?_, ?_, ?_⟩
  · rw [get_set_ne (fun q => by subst q; rw [h1] at h3; cases h3), h1]
  · rw [get_set_ne (fun q => by subst q; rw [h2] at h3; cases h3), h2]
  · rw [get_set_eq, ixm_put hn hl e]
/-- no node has too many operands -/
def KB (l : List Nd) : Prop := ∀ x ∈ l, x.ks.length ≤ 1000000
theorem putA_kb {l : List Nd} {n : Nd} (hl : KB l) (hn : n.ks.length ≤ 1000000) : KB (putA l n).1 := by
  unfold putA
  split
  · exact hl
  · intro x hx
    rcases List.mem_append.1 hx with hx | hx
    · exact hl x hx
    · rw [List.mem_singleton.1 hx]
      exact hn
mutual
theorem instA_kb : ∀ (t : T) (vars imms : List Int) (l : List Nd), KB l → t.num ≤ 1000001 → KB (instA t vars imms l).1
  | .mk v op im iv ks, vars, imms, l, hl, hn => by
    rw [instA]
    split
    · exact hl
    · simp only [T.num] at hn
      have h1 := instAs_len ks vars imms l
      have h2 := len_nums ks
      exact putA_kb (instAs_kb ks vars imms l hl (by omega)) (by rw [h1.2.2]; omega)
theorem instAs_kb : ∀ (ks : List T) (vars imms : List Int) (l : List Nd), KB l → nums ks ≤ 1000001 → KB (instAs ks vars imms l).1
  | [], vars, imms, l, hl, _ => hl
  | t :: r, vars, imms, l, hl, hn => by
    simp only [nums] at hn
    rw [instAs]
    exact instAs_kb r vars imms _ (instA_kb t vars imms l hl (by omega)) (by omega)
end
theorem KB.step {l : List Nd} {t : T} {vars imms : List Int} (h : KB l) (hn : t.num ≤ 1000001) : KB (instA t vars imms l).1 := instA_kb t vars imms l h hn
/-- the immediate operand of an instance's node -/
def immV (iv im : Int) (imms : List Int) : Int := if 0 < iv then imms.getD (iv - 1).toNat 0 else im
theorem instA_node {v op im iv : Int} {ks : List T} {vars imms : List Int} {l : List Nd} (hv : ¬ 0 < v) : instA (.mk v op im iv ks) vars imms l = putA (instAs ks vars imms l).1 ⟨op, immV iv im imms, (instAs ks vars imms l).2⟩ := by
  rw [instA, if_neg hv]
  rfl
theorem instA_var {v op im iv : Int} {ks : List T} {vars imms : List Int} {l : List Nd} (hv : 0 < v) : instA (.mk v op im iv ks) vars imms l = (l, vars.getD (v - 1).toNat 0) := by
  rw [instA, if_pos hv]
/-- in the midst of the operands -/
def IK (ks : List T) (vars imms : List Int) (l : List Nd) (i : Nat) (li : List Nd) (kids : List Int) : Prop :=
  (instAs ks vars imms l = ((instAs (ks.drop i) vars imms li).1, kids ++ (instAs (ks.drop i) vars imms li).2) ∧ i ≤ ks.length ∧ kids.length = i) ∧
  ((∀ x ∈ li, okN x) ∧ (∀ x ∈ kids, i64b x) ∧ li.length + nums (ks.drop i) + 1 ≤ 1000000000)
theorem IK.step {ks : List T} {vars imms : List Int} {l li : List Nd} {i : Nat} {kids : List Int} (h : IK ks vars imms l i li kids) (hlt : i < ks.length) (hok : oks ks) (hv : ∀ x ∈ vars, i64b x) (hi : ∀ x ∈ imms, i64b x) :
    IK ks vars imms l (i + 1) (instA ks[i] vars imms li).1 (kids ++ [(instA ks[i] vars imms li).2]) ∧ li.length + ks[i].num ≤ 1000000000 := by
  obtain ⟨⟨h1, h2, h3⟩, h4, h5, h6⟩ := h
  rw [nums_drop hlt] at h6
  rw [instAs_step hlt] at h1
  have hl := instA_len ks[i] vars imms li
  have ho := instA_ok ks[i] vars imms li (ok_kid hok (List.getElem_mem hlt)) hv hi h4 (by omega)
  refine ⟨⟨⟨by rw [h1]; simp, hlt, by simp [h3]⟩, ho.1, fun x hx => ?_, by omega⟩, by omega⟩
  rcases List.mem_append.1 hx with hx | hx
  · exact h5 x hx
  · rw [List.mem_singleton.1 hx]
    exact ho.2
theorem IK.last {ks : List T} {vars imms : List Int} {l li : List Nd} {i : Nat} {kids : List Int} (h : IK ks vars imms l i li kids) (hlt : ks.length ≤ i) : instAs ks vars imms l = (li, kids) := by
  have := h.1.1
  rw [instAs_end hlt] at this
  simpa using this
/-- a node appended: the map, the row, the fields -/
theorem IS.app {h : Heap} {id m iL : Nat} {vars imms : List Int} {l : List Nd} (s : IS h id m iL vars imms l) {n : Nd} (hn : okN n) (hl : ∀ x ∈ l, okN x) (e : fidx n l 0 = none) (r : List IV) (hr : h.get id = .cells r) :
    IS (((h.set m (.map (cE (ixm l ++ [(keyF n, (l.length : Int))])))).set iL (.tip (l.length * 3 + 3))).set id (.cells (.vslice (some iL) (l.length * 3 + 3) (l.length + 1) 3 (l.flatMap cN ++ cN n) :: r.drop 1))) id m iL vars imms (l ++ [n]) := by
  obtain ⟨n1, n2, n3⟩ := s.ne
  obtain ⟨hb, h1, h2, h3⟩ := s
  rw [h1] at hr
  cases hr
  refine ⟨hb, ?_, ?_, ?_⟩
  · rw [get_set_eq]; simp [Nat.succ_mul]
  · rw [get_set_ne n2.symm, get_set_eq]; simp [Nat.succ_mul]
  · rw [get_set_ne n1.symm, get_set_ne n3, get_set_eq, ixm_put hn hl e]
end Go.M15

end

section
/-
  Patterns: instances keep what is there; sorts of nodes; in plain Lean.
  Conditions: none.
-/
set_option linter.unusedVariables false
namespace Go.M15
open Go.Pv
theorem fidx_app {n : Nd} {r : List Nd} : ∀ {l : List Nd} {i j : Nat}, fidx n l i = some j → fidx n (l ++ r) i = some j
  | [], i, j, h => by cases h
  | x :: l, i, j, h => by
    rw [List.cons_append]
    unfold fidx at h ⊢
    split at h
    · rw [if_pos (by assumption)]; exact h
    · rw [if_neg (by assumption)]; exact fidx_app h
theorem fidx_self {n : Nd} {r : List Nd} : ∀ {l : List Nd} {i : Nat}, fidx n l i = none → fidx n (l ++ n :: r) i = some (i + l.length)
  | [], i, h => by simp [fidx]
  | x :: l, i, h => by
    rw [List.cons_append]
    unfold fidx at h ⊢
    split at h
    · cases h
    · rw [if_neg (by assumption), fidx_self h]
      simp only [List.length_cons, Option.some.injEq]
      omega
theorem fidx_at {n : Nd} : ∀ {l : List Nd} {i j : Nat}, fidx n l i = some (i + j) → l[j]? = some n
  | [], i, j, h => by cases h
  | x :: l, i, j, h => by
    unfold fidx at h
    split at h
    · rename_i e
      simp only [Option.some.injEq] at h
      obtain rfl : j = 0 := by omega
      simp [e]
    · have hl := fidx_lt h
      obtain ⟨k, rfl⟩ : ∃ k, j = k + 1 := ⟨j - 1, by omega⟩
      rw [show i + (k + 1) = i + 1 + k by omega] at h
      simpa using fidx_at h
theorem putA_pre (l : List Nd) (n : Nd) : l <+: (putA l n).1 := by
  unfold putA
  split
  · exact List.prefix_refl _
  · exact List.prefix_append _ _
theorem putA_again {l y : List Nd} {n : Nd} (h : (putA l n).1 <+: y) : putA y n = (y, (putA l n).2) := by
  unfold putA at h ⊢
  cases e : fidx n l 0 with
  | some i =>
    rw [e] at h
    obtain ⟨r, rfl⟩ := h
    rw [fidx_app e]
  | none =>
    rw [e] at h
    obtain ⟨r, rfl⟩ := h
    rw [List.append_assoc, List.singleton_append, fidx_self e, Nat.zero_add]
theorem putA_at (l : List Nd) (n : Nd) : (putA l n).1[(putA l n).2.toNat]? = some n ∧ 0 ≤ (putA l n).2 ∧ (putA l n).2 < (putA l n).1.length := by
  unfold putA
  cases e : fidx n l 0 with
  | some i =>
    have := fidx_lt e
    refine ⟨fidx_at (i := 0) (by rw [e]; simp), by simp, by simp only; omega⟩
  | none => exact ⟨by simp, by simp, by simp only [List.length_append, List.length_cons, List.length_nil]; omega⟩
mutual
theorem instA_pre : ∀ (t : T) (vars imms : List Int) (l : List Nd), l <+: (instA t vars imms l).1
  | .mk v op im iv ks, vars, imms, l => by
    by_cases hv : 0 < v
    · rw [instA_var hv]
      exact List.prefix_refl _
    · rw [instA_node hv]
      exact (instAs_pre ks vars imms l).trans (putA_pre _ _)
theorem instAs_pre : ∀ (ks : List T) (vars imms : List Int) (l : List Nd), l <+: (instAs ks vars imms l).1
  | [], vars, imms, l => List.prefix_refl _
  | t :: r, vars, imms, l => (instA_pre t vars imms l).trans (instAs_pre r vars imms _)
end
mutual
theorem instA_again : ∀ (t : T) (vars imms : List Int) (l y : List Nd), (instA t vars imms l).1 <+: y → instA t vars imms y = (y, (instA t vars imms l).2)
  | .mk v op im iv ks, vars, imms, l, y, h => by
    by_cases hv : 0 < v
    · rw [instA_var hv, instA_var hv]
    · rw [instA_node hv] at h ⊢
      have h2 := instAs_again ks vars imms l y ((putA_pre _ _).trans h)
      rw [instA_node hv, h2]
      exact putA_again h
theorem instAs_again : ∀ (ks : List T) (vars imms : List Int) (l y : List Nd), (instAs ks vars imms l).1 <+: y → instAs ks vars imms y = (y, (instAs ks vars imms l).2)
  | [], vars, imms, l, y, h => rfl
  | t :: r, vars, imms, l, y, h => by
    rw [instAs] at h
    have h1 := instA_again t vars imms l y ((instAs_pre r vars imms _).trans h)
    have h2 := instAs_again r vars imms _ y h
    rw [instAs, instAs, h1, h2]
end
theorem instAs_kid : ∀ (ks : List T) (vars imms : List Int) (l y : List Nd), (instAs ks vars imms l).1 <+: y → ∀ (j : Nat) (t : T), ks[j]? = some t → ∃ k : Int, (instAs ks vars imms l).2[j]? = some k ∧ instA t vars imms y = (y, k)
  | [], vars, imms, l, y, h, j, t, e => by simp at e
  | t :: r, vars, imms, l, y, h, j, t2, e => by
    rw [instAs] at h ⊢
    cases j with
    | zero =>
      simp only [List.getElem?_cons_zero, Option.some.injEq] at e
      subst e
      exact ⟨_, rfl, instA_again t vars imms l y ((instAs_pre r vars imms _).trans h)⟩
    | succ j =>
      simp only [List.getElem?_cons_succ] at e
      exact instAs_kid r vars imms _ y h j t2 e
/-- fewer sorts known -/
def LeV (a b : List Int) : Prop := a.length = b.length ∧ ∀ i, a.getD i 0 = 0 ∨ a.getD i 0 = b.getD i 0
theorem getD_set {l : List Int} {i j : Nat} {x : Int} (h : i < l.length) : (l.set i x).getD j 0 = if i = j then x else l.getD j 0 := by
  simp only [List.getD_eq_getElem?_getD, List.getElem?_set]
  by_cases e : i = j
  · subst e; simp [h]
  · simp [e]
mutual
theorem valP_mono : ∀ (t : T) (s s2 imms : Int) (a b : List Int), LeV a b → (s2 = 0 ∨ s2 = s) → (valP t s imms b).1 = true → (valP t s2 imms a).1 = true ∧ LeV (valP t s2 imms a).2 (valP t s imms b).2
  | .mk v op im iv ks, s, s2, imms, a, b, hl, hs, h => by
    by_cases hv : v = 0
    · by_cases hn : nodeOk op im iv ks.length s imms
      · rw [valP_node hv hn] at h ⊢
        have hn2 : nodeOk op im iv ks.length s2 imms := ⟨hn.1, hn.2.1, by have := hn.2.2.1; omega, hn.2.2.2⟩
        rw [valP_node hv hn2]
        exact valPs_mono ks (opk op) imms a b hl h
      · rw [valP_no hv hn] at h
        cases h
    · by_cases hb : badVar v op im iv ks.length b.length
      · rw [valP_bad hv hb] at h
        cases h
      · have hb2 : ¬ badVar v op im iv ks.length a.length := by rw [hl.1]; exact hb
        have hlt : (v - 1).toNat < b.length := by unfold badVar at hb; omega
        have hlt2 : (v - 1).toNat < a.length := by rw [hl.1]; exact hlt
        have hk := hl.2 (v - 1).toNat
        by_cases h0 : b.getD (v - 1).toNat 0 = 0
        · have h1 : a.getD (v - 1).toNat 0 = 0 := by omega
          rw [valP_new hv hb h0, valP_new hv hb2 h1]
          refine ⟨rfl, by simp [hl.1], fun i => ?_⟩
          dsimp only
          rw [getD_set hlt, getD_set hlt2]
          split
          · exact hs
          · exact hl.2 i
        · rw [valP_old hv hb h0] at h ⊢
          simp only [decide_eq_true_eq] at h
          by_cases h1 : a.getD (v - 1).toNat 0 = 0
          · rw [valP_new hv hb2 h1]
            refine ⟨rfl, by simp [hl.1], fun i => ?_⟩
            dsimp only
            rw [getD_set hlt2]
            split
            · rename_i e
              subst e
              omega
            · exact hl.2 i
          · rw [valP_old hv hb2 h1]
            exact ⟨by simp only [decide_eq_true_eq]; omega, hl⟩
theorem valPs_mono : ∀ (ks : List T) (q : List Int) (imms : Int) (a b : List Int), LeV a b → (valPs ks q imms b).1 = true → (valPs ks q imms a).1 = true ∧ LeV (valPs ks q imms a).2 (valPs ks q imms b).2
  | [], q, imms, a, b, hl, h => by rw [valPs, valPs]; exact ⟨rfl, hl⟩
  | t :: r, q, imms, a, b, hl, h => by
    rw [valPs] at h
    rw [valPs, valPs]
    have ht := valP_mono t (q.headD 0) (q.headD 0) imms a b hl (.inr rfl)
    rcases e : valP t (q.headD 0) imms b with ⟨bb, b'⟩
    rw [e] at h ht
    cases bb
    · cases h
    · have ht := ht rfl
      rcases e2 : valP t (q.headD 0) imms a with ⟨ab, a'⟩
      rw [e2] at ht
      obtain ⟨h1, h2⟩ := ht
      dsimp only at h1 h2
      subst h1
      exact valPs_mono r q.tail imms a' b' h2 h
end
theorem valPs_kid : ∀ (ks : List T) (q : List Int) (imms : Int) (b : List Int), (valPs ks q imms b).1 = true → ∀ t ∈ ks, ∃ s b2, b2.length = b.length ∧ (valP t s imms b2).1 = true
  | [], _, _, _, _, t, ht => by cases ht
  | x :: r, q, imms, b, h, t, ht => by
    rw [valPs] at h
    have hlen := valP_len x (q.headD 0) imms b
    rcases e : valP x (q.headD 0) imms b with ⟨bb, b'⟩
    rw [e] at h hlen
    cases bb
    · cases h
    · rcases List.mem_cons.1 ht with rfl | ht
      · exact ⟨_, b, rfl, by rw [e]⟩
      · obtain ⟨s, b2, h1, h2⟩ := valPs_kid r q.tail imms b' h t ht
        exact ⟨s, b2, h1.trans hlen, h2⟩
theorem valB_kid {v op im iv nv ni : Int} {ks : List T} (h : valB (.mk v op im iv ks) nv ni = true) (hv : ¬ 0 < v) (hn : (T.mk v op im iv ks).num ≤ 1000) {t : T} (ht : t ∈ ks) : valB t nv ni = true := by
  have hw := (valB_wi h).1
  have hs1 := size_num (.mk v op im iv ks) (by omega)
  have hk := num_kid (t := .mk v op im iv ks) (k := t) ht
  have hs2 := size_num t (by omega)
  unfold valB at h ⊢
  simp only [Bool.and_eq_true, decide_eq_true_eq] at h ⊢
  refine ⟨h.1, by omega, ?_⟩
  have hv0 : v = 0 := by have := hw.1; omega
  have hp := h.2.2
  by_cases hno : nodeOk op im iv ks.length 0 ni
  · rw [valP_node hv0 hno] at hp
    obtain ⟨s, b2, h1, h2⟩ := valPs_kid _ _ _ _ hp t ht
    refine (valP_mono t s 0 ni (List.replicate nv.toNat 0) b2 ⟨by rw [h1], fun i => .inl ?_⟩ (.inl rfl) h2).1
    rw [List.getD_eq_getElem?_getD, List.getElem?_replicate]
    split <;> rfl
  · rw [valP_no hv0 hno] at hp
    cases hp
/-! Sorts -/
def nsort (op im : Int) (k : List Int) : Int :=
  if arOk op = false ∨ (k.length : Int) ≠ ar op ∨ vImm op im = false then 0
  else if op = 3 then (if im % 16 = 0 then 2 else 1)
  else if op = 26 then 2
  else if op = 22 then (if k.getD 0 0 ≠ 1 ∨ k.getD 1 0 ≠ k.getD 2 0 ∨ k.getD 1 0 = 3 then 0 else k.getD 1 0)
  else if op = 23 then (if k = [2, 1] then 1 else 0)
  else if op = 24 then (if k = [2] then 1 else 0)
  else if op = 27 ∨ op = 29 then (if k = [2, 1] then 2 else 0)
  else if op = 28 then (if k = [2, 1, 1] then 2 else 0)
  else if k.all (fun x => decide (x = 1)) = true then 1 else 0
def kidOk (out : List Int) (q : Int) : Bool := decide (0 ≤ q) && (decide (q < out.length) && decide (out.getD q.toNat 0 ≠ 0))
def sstep (out : List Int) (n : Nd) : Int := if n.ks.all (kidOk out) = true then nsort n.op n.im (n.ks.map fun q => out.getD q.toNat 0) else 0
def sortsF : List Int → List Nd → List Int
  | out, [] => out
  | out, n :: r => sortsF (out ++ [sstep out n]) r
def sortsA (l : List Nd) : List Int := sortsF [] l
theorem sortsF_snoc (n : Nd) : ∀ (l : List Nd) (out : List Int), sortsF out (l ++ [n]) = sortsF out l ++ [sstep (sortsF out l) n]
  | [], out => rfl
  | x :: l, out => by
    rw [List.cons_append, sortsF, sortsF, sortsF_snoc n l]
theorem sortsA_snoc (l : List Nd) (n : Nd) : sortsA (l ++ [n]) = sortsA l ++ [sstep (sortsA l) n] := sortsF_snoc n l []
theorem sortsF_len : ∀ (l : List Nd) (out : List Int), (sortsF out l).length = out.length + l.length
  | [], out => rfl
  | x :: l, out => by
    rw [sortsF, sortsF_len l]
    simp only [List.length_append, List.length_cons, List.length_nil]
    omega
theorem sortsA_len (l : List Nd) : (sortsA l).length = l.length := by unfold sortsA; rw [sortsF_len]; simp
theorem sortsF_pre : ∀ (l : List Nd) (out : List Int), out <+: sortsF out l
  | [], out => List.prefix_refl _
  | x :: l, out => (List.prefix_append _ _).trans (sortsF_pre l _)
theorem sortsF_app : ∀ (l r : List Nd) (out : List Int), sortsF out (l ++ r) = sortsF (sortsF out l) r
  | [], r, out => rfl
  | x :: l, r, out => by rw [List.cons_append, sortsF, sortsF, sortsF_app l r]
theorem sortsA_pre {l y : List Nd} (h : l <+: y) : sortsA l <+: sortsA y := by
  obtain ⟨r, rfl⟩ := h
  unfold sortsA
  rw [sortsF_app]
  exact sortsF_pre _ _
theorem pre_getD {a b : List Int} (h : a <+: b) {i : Nat} (hi : i < a.length) : b.getD i 0 = a.getD i 0 := by
  obtain ⟨r, rfl⟩ := h
  simp only [List.getD_eq_getElem?_getD, List.getElem?_append_left hi]
theorem sortsA_take {l : List Nd} {i : Nat} : sortsA (l.take i) = (sortsA l).take i := by
  have h := sortsA_pre (List.take_prefix i l)
  rw [List.prefix_iff_eq_take] at h
  rw [h, sortsA_len, List.length_take, List.take_eq_take_iff, sortsA_len]
  omega
theorem sortsA_step {l : List Nd} {i : Nat} (h : i < l.length) : sortsA (l.take (i + 1)) = sortsA (l.take i) ++ [sstep (sortsA (l.take i)) l[i]] := by
  rw [List.take_succ_eq_append_getElem h, sortsA_snoc]
theorem sstep_bad {out : List Int} {n : Nd} {q : Int} (hm : q ∈ n.ks) (h : kidOk out q = false) : sstep out n = 0 := by
  unfold sstep
  rw [if_neg]
  intro e
  rw [List.all_eq_true.1 e q hm] at h
  cases h
/-- the sorts so far, in the heap -/
def SO (l : List Nd) (i id : Nat) (h : Heap) : Prop := (0 < i ∧ i ≤ l.length) ∧ h.get id = .tip i ∧ id < h.next
/-- the sorts of a node's operands so far -/
def SI (l : List Nd) (i j : Nat) (k : List Int) : Prop := ∃ n, l[i]? = some n ∧ (j ≤ n.ks.length ∧ k.length = j) ∧ (n.ks.take j).all (kidOk (sortsA (l.take i))) = true ∧ k = (n.ks.take j).map fun q => (sortsA (l.take i)).getD q.toNat 0
def SK (k : List Int) (id idK : Nat) (h : Heap) : Prop := 0 < k.length ∧ h.get idK = .tip k.length ∧ idK < h.next ∧ idK ≠ id
def kRest (l : List Nd) (i j : Nat) : Nat := match l[i]? with
  | some n => n.ks.length - j
  | none => 0
theorem SI.zero {l : List Nd} {i : Nat} (h : i < l.length) : SI l i 0 [] := ⟨l[i], List.getElem?_eq_getElem h, ⟨Nat.zero_le _, rfl⟩, rfl, rfl⟩
theorem SI.step {l : List Nd} {i j : Nat} {k : List Int} (h : SI l i j k) (hi : i < l.length) (hj : j < l[i].ks.length) (hq : kidOk (sortsA (l.take i)) l[i].ks[j] = true) : SI l i (j + 1) (k ++ [(sortsA (l.take i)).getD (l[i].ks[j]).toNat 0]) := by
  obtain ⟨n, h1, h2, h3, h4⟩ := h
  obtain rfl : l[i] = n := by rw [List.getElem?_eq_getElem hi] at h1; exact Option.some.inj h1
  refine ⟨_, h1, ⟨hj, by simp [h2.2]⟩, ?_, ?_⟩
  · rw [List.take_succ_eq_append_getElem hj, List.all_append, h3]
    simp [hq]
  · rw [List.take_succ_eq_append_getElem hj, List.map_append, h4]
    rfl
theorem SI.last {l : List Nd} {i j : Nat} {k : List Int} (h : SI l i j k) (hi : i < l.length) (hj : l[i].ks.length ≤ j) : sstep (sortsA (l.take i)) l[i] = nsort l[i].op l[i].im k ∧ k.length = l[i].ks.length := by
  obtain ⟨n, h1, h2, h3, h4⟩ := h
  obtain rfl : l[i] = n := by rw [List.getElem?_eq_getElem hi] at h1; exact Option.some.inj h1
  rw [List.take_of_length_le hj] at h3 h4
  unfold sstep
  rw [if_pos h3, h4]
  exact ⟨rfl, by simp⟩
theorem kRest_at {l : List Nd} {i j : Nat} (h : i < l.length) : kRest l i j = l[i].ks.length - j := by
  unfold kRest
  rw [List.getElem?_eq_getElem h]
theorem kidOk_neg {out : List Int} {q : Int} (h : q < 0) : kidOk out q = false := by
  unfold kidOk
  rw [decide_eq_false (by omega), Bool.false_and]
theorem kidOk_big {out : List Int} {q : Int} (h : (out.length : Int) ≤ q) : kidOk out q = false := by
  unfold kidOk
  rw [decide_eq_false (p := q < _) (by omega), Bool.false_and, Bool.and_false]
theorem kidOk_zero {out : List Int} {q : Int} (h : q.toNat < out.length) (hz : out[q.toNat] = 0) : kidOk out q = false := by
  have e : out.getD q.toNat 0 = 0 := by rw [List.getD_eq_getElem?_getD, List.getElem?_eq_getElem h]; exact hz
  unfold kidOk
  rw [e]
  simp
theorem kidOk_intro {out : List Int} {q : Int} (h0 : 0 ≤ q) (h : q.toNat < out.length) (hz : out[q.toNat] ≠ 0) : kidOk out q = true ∧ out.getD q.toNat 0 = out[q.toNat] := by
  have e : out.getD q.toNat 0 = out[q.toNat] := by rw [List.getD_eq_getElem?_getD, List.getElem?_eq_getElem h]; rfl
  unfold kidOk
  rw [e]
  refine ⟨?_, rfl⟩
  simp only [Bool.and_eq_true, decide_eq_true_eq]
  exact ⟨h0, by omega, hz⟩
theorem nsort_ops {op im : Int} {k : List Int} (h : op ≠ 25 ∧ op ≠ 30 ∧ op ≠ 31) : arOk op = true → (k.length : Int) = ar op → vImm op im = true → nsort op im k = (if op = 3 then (if im % 16 = 0 then 2 else 1) else if op = 26 then 2 else if op = 22 then (if k.getD 0 0 ≠ 1 ∨ k.getD 1 0 ≠ k.getD 2 0 ∨ k.getD 1 0 = 3 then 0 else k.getD 1 0)
    else if op = 23 then (if k = [2, 1] then 1 else 0) else if op = 24 then (if k = [2] then 1 else 0) else if op = 27 ∨ op = 29 then (if k = [2, 1] then 2 else 0) else if op = 28 then (if k = [2, 1, 1] then 2 else 0) else if k.all (fun x => decide (x = 1)) = true then 1 else 0) := by
  intro h1 h2 h3
  unfold nsort
  rw [if_neg (by simp [h1, h2, h3])]
/-- an operation that makes a value of values -/
def valOp (op : Int) : Prop := op = 1 ∨ (4 ≤ op ∧ op ≤ 22)
mutual
/-- values only -/
def T.vo : T → Prop
  | .mk v op _ _ ks => 0 < v ∨ (valOp op ∧ vos ks)
def vos : List T → Prop
  | [] => True
  | t :: r => t.vo ∧ vos r
end
theorem vos_append : ∀ {a b : List T}, vos (a ++ b) ↔ vos a ∧ vos b
  | [], b => by simp [vos]
  | x :: a, b => by simp [vos, vos_append (a := a), and_assoc]
/-- all nodes are well-formed -/
def WFN (l : List Nd) : Prop := ∀ s ∈ sortsA l, s ≠ 0
theorem WFN.put {l : List Nd} {n : Nd} (h : WFN l) (hn : sstep (sortsA l) n ≠ 0) : WFN (putA l n).1 := by
  unfold putA
  split
  · exact h
  · intro s hs
    dsimp only at hs
    rw [sortsA_snoc] at hs
    rcases List.mem_append.1 hs with hs | hs
    · exact h s hs
    · rw [List.mem_singleton.1 hs]
      exact hn
/-- the sort that a node has is the sort of its place -/
theorem sortsA_at : ∀ {l : List Nd} {j : Nat} {n : Nd}, l[j]? = some n → (sortsA l).getD j 0 = sstep (sortsA (l.take j)) n := by
  intro l j n h
  obtain ⟨hlt, rfl⟩ := List.getElem?_eq_some_iff.1 h
  have e : l.take (j + 1) = l.take j ++ [l[j]] := List.take_succ_eq_append_getElem hlt
  have h1 := sortsA_snoc (l.take j) l[j]
  rw [← e] at h1
  have h2 := pre_getD (sortsA_pre (List.take_prefix (j + 1) l)) (i := j) (by rw [sortsA_len, List.length_take]; omega)
  rw [h2, h1, List.getD_eq_getElem?_getD, List.getElem?_append_right (by rw [sortsA_len, List.length_take]; omega), sortsA_len, List.length_take, show j - min j l.length = 0 by omega]
  rfl
theorem nsort_val {op im : Int} {k : List Int} (ho : valOp op) (hk : (k.length : Int) = ar op) (hi : vImm op im = true) (h1 : ∀ x ∈ k, x = 1) : nsort op im k = 1 := by
  unfold valOp at ho
  have ha : arOk op = true := by unfold arOk; rw [decide_eq_true_eq]; omega
  unfold nsort
  rw [if_neg (by simp [ha, hk, hi]), if_neg (by omega), if_neg (by omega)]
  by_cases h22 : op = 22
  · subst h22
    have h3 : k.length = 3 := by have : ar 22 = 3 := by decide
                                 omega
    match k, h3 with
    | [a, b, c], _ =>
      have ea := h1 a (by simp)
      have eb := h1 b (by simp)
      have ec := h1 c (by simp)
      subst ea eb ec
      rfl
  · rw [if_neg h22, if_neg (by omega), if_neg (by omega), if_neg (by omega), if_neg (by omega), if_pos]
    rw [List.all_eq_true]
    intro x hx
    simp [h1 x hx]
/-- the sort of a kept node does not change: kids lie before it -/
theorem sstep_one {out : List Int} {n : Nd} (ho : valOp n.op) (hk : (n.ks.length : Int) = ar n.op) (hi : vImm n.op n.im = true) (h1 : ∀ q ∈ n.ks, 0 ≤ q ∧ q < out.length ∧ out.getD q.toNat 0 = 1) : sstep out n = 1 := by
  unfold sstep
  rw [if_pos, nsort_val ho (by rw [List.length_map]; exact hk) hi]
  · intro x hx
    obtain ⟨q, hq, rfl⟩ := List.mem_map.1 hx
    exact (h1 q hq).2.2
  · rw [List.all_eq_true]
    intro q hq
    have := h1 q hq
    unfold kidOk
    simp only [Bool.and_eq_true, decide_eq_true_eq]
    omega
/-- what stands in the list before the place of a well-formed node suffices for its sort -/
theorem sstep_take {l : List Nd} {n : Nd} {j : Nat} (hw : WFN l) (h : l[j]? = some n) : sstep (sortsA l) n = (sortsA l).getD j 0 := by
  have h1 := sortsA_at h
  have hlt := (List.getElem?_eq_some_iff.1 h).1
  have h2 : (sortsA l).getD j 0 ≠ 0 := by
    refine hw _ ?_
    rw [List.getD_eq_getElem?_getD, List.getElem?_eq_getElem (by rw [sortsA_len]; exact hlt)]
    exact List.getElem_mem _
  rw [h1] at h2 ⊢
  have hp := sortsA_pre (List.take_prefix j l)
  have hl : (sortsA (l.take j)).length ≤ (sortsA l).length := by rw [sortsA_len, sortsA_len, List.length_take]; omega
  generalize sortsA (l.take j) = a at *
  generalize sortsA l = b at *
  unfold sstep at h2 ⊢
  by_cases hk : n.ks.all (kidOk a) = true
  · rw [if_pos hk]
    have hk2 := List.all_eq_true.1 hk
    have hg : ∀ q ∈ n.ks, b.getD q.toNat 0 = a.getD q.toNat 0 ∧ kidOk b q = true := fun q hq => by
      have h3 := hk2 q hq
      unfold kidOk at h3 ⊢
      simp only [Bool.and_eq_true, decide_eq_true_eq] at h3 ⊢
      have e := pre_getD hp (i := q.toNat) (by omega)
      rw [e]
      exact ⟨rfl, h3.1, by omega, h3.2.2⟩
    rw [if_pos (List.all_eq_true.2 fun q hq => (hg q hq).2)]
    congr 1
    exact List.map_congr_left fun q hq => (hg q hq).1
  · rw [if_neg hk] at h2
    exact absurd rfl h2
theorem putA_sort {l : List Nd} {n : Nd} (hw : WFN l) (hn : sstep (sortsA l) n = 1) : WFN (putA l n).1 ∧ (sortsA (putA l n).1).getD (putA l n).2.toNat 0 = 1 := by
  have h1 := hw.put (n := n) (by rw [hn]; decide)
  refine ⟨h1, ?_⟩
  have h2 := (putA_at l n).1
  rw [← sstep_take h1 h2]
  unfold putA at h1 ⊢
  cases e : fidx n l 0 with
  | some i => exact hn
  | none =>
    rw [e] at h1
    dsimp only at h1 ⊢
    have h3 : (l ++ [n])[l.length]? = some n := by simp
    rw [sstep_take h1 h3, sortsA_at h3, List.take_left, hn]
/-- an index of a value -/
def isV (l : List Nd) (q : Int) : Prop := 0 ≤ q ∧ q < l.length ∧ (sortsA l).getD q.toNat 0 = 1
theorem isV.mono {l y : List Nd} {q : Int} (h : isV l q) (hp : l <+: y) : isV y q := by
  refine ⟨h.1, by have := hp.length_le; have := h.2.1; omega, ?_⟩
  rw [pre_getD (sortsA_pre hp) (by rw [sortsA_len]; have := h.2.1; have := h.1; omega)]
  exact h.2.2
theorem valOp_imm {op im iv ni : Int} (ho : valOp op) (h : vIm op im iv ni = true) {imms : List Int} (hz : ∀ i : Nat, imms.getD i 0 = 0) : vImm op (immV iv im imms) = true := by
  unfold valOp at ho
  unfold vImm immV
  simp only [vIm, decide_eq_true_eq] at h ⊢
  have := hz (iv - 1).toNat
  have hm := mxI_cases (op := op) (by omega)
  split <;> omega
mutual
theorem instA_sort : ∀ (t : T) (vars imms : List Int) (l : List Nd) (s ni : Int) (vs : List Int), t.vo → (valP t s ni vs).1 = true → vs.length = vars.length → (∀ i : Nat, imms.getD i 0 = 0) → (∀ q ∈ vars, isV l q) → WFN l → WFN (instA t vars imms l).1 ∧ isV (instA t vars imms l).1 (instA t vars imms l).2
  | .mk v op im iv ks, vars, imms, l, s, ni, vs, hvo, hval, hlen, hz, hq, hw => by
    by_cases hv : v = 0
    · have hv1 : ¬ 0 < v := by omega
      rw [instA_node hv1]
      by_cases hn : nodeOk op im iv ks.length s ni
      · rw [valP_node hv hn] at hval
        have hvo2 : valOp op ∧ vos ks := by
          rw [T.vo] at hvo
          exact hvo.resolve_left hv1
        have h1 := instAs_sort ks vars imms l (opk op) ni vs hvo2.2 hval hlen hz hq hw
        have hl := (instAs_len ks vars imms l).2.2
        have hst : sstep (sortsA (instAs ks vars imms l).1) ⟨op, immV iv im imms, (instAs ks vars imms l).2⟩ = 1 := by
          refine sstep_one hvo2.1 ?_ (valOp_imm hvo2.1 hn.2.2.2 hz) fun q hq => ?_
          · show (((instAs ks vars imms l).2.length : Nat) : Int) = ar op
            rw [hl, hn.2.1]
            exact opk_ar hn.1
          · have := h1.2 q hq
            rw [sortsA_len]
            exact this
        have h2 := putA_sort h1.1 hst
        have h3 := putA_at (instAs ks vars imms l).1 ⟨op, immV iv im imms, (instAs ks vars imms l).2⟩
        exact ⟨h2.1, h3.2.1, h3.2.2, h2.2⟩
      · rw [valP_no hv hn] at hval
        cases hval
    · by_cases hb : badVar v op im iv ks.length vs.length
      · rw [valP_bad hv hb] at hval
        cases hval
      · unfold badVar at hb
        have hv1 : 0 < v := by omega
        rw [instA_var hv1]
        have hlt : (v - 1).toNat < vars.length := by omega
        refine ⟨hw, hq _ ?_⟩
        rw [List.getD_eq_getElem?_getD, List.getElem?_eq_getElem hlt]
        exact List.getElem_mem _
theorem instAs_sort : ∀ (ks : List T) (vars imms : List Int) (l : List Nd) (q : List Int) (ni : Int) (vs : List Int), vos ks → (valPs ks q ni vs).1 = true → vs.length = vars.length → (∀ i : Nat, imms.getD i 0 = 0) → (∀ q ∈ vars, isV l q) → WFN l → WFN (instAs ks vars imms l).1 ∧ ∀ k ∈ (instAs ks vars imms l).2, isV (instAs ks vars imms l).1 k
  | [], vars, imms, l, q, ni, vs, hvo, hval, hlen, hz, hq, hw => ⟨hw, fun k hk => by cases hk⟩
  | t :: r, vars, imms, l, q, ni, vs, hvo, hval, hlen, hz, hq, hw => by
    rw [valPs] at hval
    have hlv := valP_len t (q.headD 0) ni vs
    rcases e : valP t (q.headD 0) ni vs with ⟨b, vs2⟩
    rw [e] at hval hlv
    cases b
    · cases hval
    · have h1 := instA_sort t vars imms l (q.headD 0) ni vs hvo.1 (by rw [e]) hlen hz hq hw
      have hp := instA_pre t vars imms l
      have h2 := instAs_sort r vars imms (instA t vars imms l).1 q.tail ni vs2 hvo.2 hval (by rw [← hlen]; exact hlv) hz (fun x hx => (hq x hx).mono hp) h1.1
      rw [instAs]
      refine ⟨h2.1, fun k hk => ?_⟩
      rcases List.mem_cons.1 hk with rfl | hk
      · exact h1.2.mono (instAs_pre r vars imms _)
      · exact h2.2 k hk
end
end Go.M15

end
