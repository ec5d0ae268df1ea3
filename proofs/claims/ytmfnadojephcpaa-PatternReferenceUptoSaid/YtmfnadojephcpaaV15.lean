/-
  Patterns: the generated nodes, in plain Lean.
  Conditions: none.
-/
import Derived.Test.YtmfnadojephcpaaW15
set_option linter.unusedVariables false
namespace Go.M15
open Go.Pv
theorem nsort_opk {op im : Int} (ho : opOk op = true) (hi : vImm op im = true) : nsort op im (opk op) = sort op := by
  have hl := opk_ar ho
  unfold opOk at ho
  rw [decide_eq_true_eq] at ho
  have ha : arOk op = true := by unfold arOk; rw [decide_eq_true_eq]; omega
  unfold nsort
  rw [if_neg (by simp [ha, hl, hi]), if_neg (by omega), if_neg (by omega)]
  have : op = 1 ∨ op = 4 ∨ op = 5 ∨ op = 6 ∨ op = 7 ∨ op = 8 ∨ op = 9 ∨ op = 10 ∨ op = 11 ∨ op = 12 ∨ op = 13 ∨ op = 14 ∨ op = 15 ∨ op = 16 ∨ op = 17 ∨ op = 18 ∨ op = 19 ∨ op = 20 ∨ op = 21 ∨ op = 22 ∨ op = 23 ∨ op = 24 ∨ op = 27 ∨ op = 28 ∨ op = 29 := by omega
  clear hl ho ha hi
  rcases this with h | h | h | h | h | h | h | h | h | h | h | h | h | h | h | h | h | h | h | h | h | h | h | h | h <;> subst h <;> rfl
def init3 : List Nd := [⟨2, 0, []⟩, ⟨2, 1, []⟩, ⟨26, 0, []⟩]
/-- well-formed nodes, at most so many -/
def NW (i : Nat) (x : List Nd) : Prop := (3 ≤ x.length ∧ x.length ≤ 3 + i) ∧ (∀ n ∈ x, okN n ∧ n.ks.length ≤ 3 ∧ (n.op ≠ 25 ∧ n.op ≠ 30 ∧ n.op ≠ 31)) ∧ WFN x ∧ init3 <+: x
/-- an operation and its immediate operand, at first -/
def OI (op im : Int) : Prop := opOk op = true ∧ i64b im ∧ (op = 1 ∨ im = 0)
/-- the operands so far -/
def KS (x : List Nd) (op : Int) (ks : List Int) : Prop := (ks.length : Int) ≤ ar op ∧ ∀ (i : Nat) (k : Int), ks[i]? = some k → 0 ≤ k ∧ k < x.length ∧ (sortsA x).getD k.toNat 0 = osort op i
/-- a node that may be appended -/
def FN (x : List Nd) (op im : Int) (ks : List Int) : Prop := opOk op = true ∧ vImm op im = true ∧ i64b im ∧ KS x op ks ∧ (ks.length : Int) = ar op
theorem NW.init : NW 0 init3 := by
  refine ⟨by decide, ?_, ?_, List.prefix_refl _⟩
  · intro n hn
    simp only [init3, List.mem_cons, List.not_mem_nil, or_false] at hn
    rcases hn with rfl | rfl | rfl <;> refine ⟨⟨?_, ?_, ?_⟩, ?_, ?_⟩ <;> simp [i64b]
  · have : sortsA init3 = [1, 1, 2] := rfl
    intro s hs
    rw [this] at hs
    simp at hs
    omega
theorem NW.mono {i j : Nat} {x : List Nd} (h : NW i x) (hij : i ≤ j) : NW j x := ⟨⟨h.1.1, by have := h.1.2; omega⟩, h.2⟩
theorem ar_3 (op : Int) : -1 ≤ ar op ∧ ar op ≤ 3 := by unfold ar; repeat' split <;> omega
theorem opOk_b {op : Int} (h : opOk op = true) : 1 ≤ op ∧ op ≤ 29 ∧ op ≠ 25 ∧ 0 ≤ ar op := by
  have := opk_ar h
  unfold opOk at h
  rw [decide_eq_true_eq] at h
  omega
theorem NW.app {i : Nat} {x : List Nd} {op im : Int} {ks : List Int} (h : NW i x) (hx : x.length ≤ 1000000) (f : FN x op im ks) : NW (i + 1) (x ++ [⟨op, im, ks⟩]) := by
  obtain ⟨h1, h2, h3, h4⟩ := h
  obtain ⟨f1, f2, f3, ⟨_, f4⟩, f5⟩ := f
  have hb := opOk_b f1
  have h3a := ar_3 op
  have hlen := opk_ar f1
  refine ⟨by simp only [List.length_append, List.length_cons, List.length_nil]; omega, ?_, ?_, h4.trans (List.prefix_append _ _)⟩
  · intro n hn
    rcases List.mem_append.1 hn with hn | hn
    · exact h2 n hn
    · rw [List.mem_singleton.1 hn]
      refine ⟨⟨by show i64b op; unfold i64b; omega, f3, fun k hk => ?_⟩, by show ks.length ≤ 3; omega, by show op ≠ 25 ∧ op ≠ 30 ∧ op ≠ 31; omega⟩
      obtain ⟨j, hj, rfl⟩ := List.mem_iff_getElem.1 hk
      have := f4 j _ (List.getElem?_eq_getElem hj)
      unfold i64b
      omega
  · intro s hs
    rw [sortsA_snoc] at hs
    rcases List.mem_append.1 hs with hs | hs
    · exact h3 s hs
    · rw [List.mem_singleton.1 hs]
      unfold sstep
      rw [if_pos]
      · have e : (ks.map fun q => (sortsA x).getD q.toNat 0) = opk op := by
          refine List.ext_getElem? fun j => ?_
          rcases Nat.lt_or_ge j ks.length with q | q
          · have q2 : j < (opk op).length := by omega
            have := f4 j _ (List.getElem?_eq_getElem q)
            rw [List.getElem?_map, List.getElem?_eq_getElem q, List.getElem?_eq_getElem q2, ← opk_at f1 q2, ← this.2.2]
            rfl
          · rw [List.getElem?_eq_none (by simpa using q), List.getElem?_eq_none (by omega)]
        show nsort op im _ ≠ 0
        rw [e, nsort_opk f1 f2]
        unfold sort
        split <;> decide
      · rw [List.all_eq_true]
        intro q hq
        obtain ⟨j, hj, rfl⟩ := List.mem_iff_getElem.1 hq
        have := f4 j _ (List.getElem?_eq_getElem hj)
        have h12 : osort op j ≠ 0 := by unfold osort; split <;> decide
        unfold kidOk
        simp only [Bool.and_eq_true, decide_eq_true_eq]
        rw [sortsA_len]
        exact ⟨this.1, this.2.1, by rw [this.2.2]; exact h12⟩
theorem NW.has {i : Nat} {x : List Nd} (h : NW i x) (op k : Int) : osort op k ∈ sortsA x := by
  obtain ⟨r, hr⟩ := sortsA_pre h.2.2.2
  have : sortsA init3 = [1, 1, 2] := rfl
  rw [← hr, this]
  unfold osort
  split <;> simp
theorem NW.sorts {i : Nat} {x : List Nd} (h : NW i x) : ∀ n ∈ x, n.ks.length ≤ 1000000 ∧ n.op ≠ 25 ∧ n.op ≠ 30 ∧ n.op ≠ 31 := fun n hn => by
  have := h.2.1 n hn
  exact ⟨by omega, this.2.2⟩
theorem KS.nil {x : List Nd} {op : Int} (h : opOk op = true) : KS x op [] := ⟨(opOk_b h).2.2.2, fun i k h => by simp at h⟩
theorem KS.snoc {x : List Nd} {op : Int} {ks : List Int} {q : Int} (h : KS x op ks) (hl : (ks.length : Int) < ar op) (hq : 0 ≤ q ∧ q < x.length ∧ (sortsA x).getD q.toNat 0 = osort op ks.length) : KS x op (ks ++ [q]) := by
  refine ⟨by simp only [List.length_append, List.length_cons, List.length_nil]; omega, fun i k hi => ?_⟩
  rcases Nat.lt_or_ge i ks.length with p | p
  · rw [List.getElem?_append_left p] at hi
    exact h.2 i k hi
  · rw [List.getElem?_append_right p] at hi
    rcases Nat.lt_or_ge (i - ks.length) 1 with p2 | p2
    · obtain rfl : i = ks.length := by omega
      simp at hi
      subst hi
      exact hq
    · rw [List.getElem?_eq_none (by simpa using p2)] at hi
      cases hi
/-- the nodes in the heap -/
def OH (x : List Nd) (id : Nat) (g : Heap) : Prop := g.get id = .tip (x.length * 3) ∧ id < g.next
def KH (ks : List Int) (id : Nat) (g : Heap) : Prop := 0 < ks.length ∧ g.get id = .tip ks.length ∧ id < g.next
theorem OH.push {x : List Nd} {id : Nat} {g : Heap} {y : IObj} (h : OH x id g) : OH x id (g.push y) := ⟨by rw [get_push_lt h.2]; exact h.1, Nat.lt_succ_of_lt h.2⟩
theorem OH.hf {x : List Nd} {id rd : Nat} {g g2 : Heap} (h : OH x id g) (hf : HF rd g g2) (hn : id ≠ rd) : OH x id g2 := ⟨by rw [hf.2 id h.2 hn]; exact h.1, Nat.lt_of_lt_of_le h.2 hf.1⟩
theorem OH.set {x : List Nd} {id j : Nat} {g : Heap} {y : IObj} (h : OH x id g) (hn : id ≠ j) : OH x id (g.set j y) := ⟨by rw [get_set_ne hn]; exact h.1, h.2⟩
theorem KH.hf {x : List Int} {id rd : Nat} {g g2 : Heap} (h : KH x id g) (hf : HF rd g g2) (hn : id ≠ rd) : KH x id g2 := ⟨h.1, by rw [hf.2 id h.2.2 hn]; exact h.2.1, Nat.lt_of_lt_of_le h.2.2 hf.1⟩
theorem OI.fn {x : List Nd} {op im im2 : Int} {ks : List Int} (h : OI op im) (hk : KS x op ks) (hl : (ks.length : Int) = ar op) (hi : (op ≠ 23 ∧ op ≠ 27 ∧ op ≠ 28 ∧ im2 = im) ∨ ((op = 23 ∨ op = 28) ∧ 0 ≤ im2 ∧ im2 ≤ 1) ∨ (op = 27 ∧ 1 ≤ im2 ∧ im2 ≤ 2)) : FN x op im2 ks := by
  obtain ⟨h1, h2, h3⟩ := h
  have hb := opOk_b h1
  refine ⟨h1, ?_, ?_, hk, hl⟩
  · unfold opOk at h1
    rw [decide_eq_true_eq] at h1
    have hm := mxI_cases h1
    unfold vImm
    rw [decide_eq_true_eq]
    omega
  · unfold i64b at h2 ⊢
    omega
/-- the state: the place in the seeds, the nodes and where they lie, the node's operation, immediate operand, operands and the slice of them, the reader, the heap -/
structure ND where
  i : Nat
  x : List Nd
  io : Option Nat
  e : Nat
  op : Int
  im : Int
  ks : List Int
  kv : IV
  rd : Nat
  g : Heap
def OV (x : ND) : Prop := NW x.i x.x ∧ ((x.io = none ∧ x.e = 1) ∨ ∃ id, x.io = some id ∧ x.e = x.x.length * 3 ∧ OH x.x id x.g)
def OR (x : ND) : Prop := OV x ∧ RD x.g x.rd ∧ ∀ id, x.io = some id → id ≠ x.rd
def KV (x : ND) : Prop := KS x.x x.op x.ks ∧ ((x.kv = .nilslice ∧ x.ks = []) ∨ ∃ id, x.kv = .vslice (some id) x.ks.length x.ks.length 1 (x.ks.map (IV.int .i64)) ∧ KH x.ks id x.g ∧ id ≠ x.rd ∧ ∀ j, x.io = some j → j ≠ id)
theorem RD.hf {h h2 : Heap} {id j : Nat} (r : RD h id) (hf : HF j h h2) (hn : id ≠ j) : RD h2 id := by
  obtain ⟨h1, io, e, lp, l, h3, h4⟩ := r
  exact ⟨Nat.lt_of_lt_of_le h1 hf.1, io, e, lp, l, h3, by rw [hf.2 id h1 hn]; exact h4⟩
theorem app_kids {h : Heap} {s : IV} {ks : List Int} {q : Int} {K : Nat → Nat → Nat → List IV → Heap → Prop}
    (hs : (s = .nilslice ∧ ks = []) ∨ ∃ id, s = .vslice (some id) ks.length ks.length 1 (ks.map (IV.int .i64)) ∧ KH ks id h) (hl : ks.length ≤ 1000000)
    (hk : ∀ id h2, KH (ks ++ [q]) id h2 → HF id h h2 → (h.next ≤ id ∨ s = .vslice (some id) ks.length ks.length 1 (ks.map (IV.int .i64))) → K id (ks ++ [q]).length (ks ++ [q]).length ((ks ++ [q]).map (IV.int .i64)) h2) :
    appGS h 1 8 s 1 [.int .i64 q] K := by
  rcases hs with ⟨rfl, rfl⟩ | ⟨id, rfl, k1, k2, k3⟩
  · exact ⟨by decide, hk h.next (h.push (.tip 1)) ⟨Nat.one_pos, get_push_eq, Nat.lt_succ_self _⟩ HF.push (.inl (Nat.le_refl _))⟩
  · have := hk id (h.set id (.tip (ks.length + 1))) ⟨by simp, by rw [get_set_eq]; simp, k3⟩ HF.set (.inr rfl)
    refine ⟨⟨rfl, by omega, k2⟩, ?_⟩
    simpa using this
theorem app_out {g : Heap} {io : Option Nat} {e : Nat} {x : List Nd} {n : Nd} {K : Nat → Nat → Nat → List IV → Heap → Prop}
    (hs : (io = none ∧ e = 1) ∨ ∃ id, io = some id ∧ e = x.length * 3 ∧ OH x id g) (hl : x.length ≤ 1000000)
    (hk : ∀ id h2, OH (x ++ [n]) id h2 → K id ((x ++ [n]).length * 3) (x ++ [n]).length ((x ++ [n]).flatMap cN) h2) :
    appGS g 3 40 (.vslice io e x.length 3 (x.flatMap cN)) 1 (cN n) K := by
  rcases hs with ⟨rfl, rfl⟩ | ⟨id, rfl, rfl, k1, k2⟩
  · refine ⟨⟨rfl, by omega⟩, ?_⟩
    have := hk g.next (g.push (.tip ((x.length + 1) * 3))) ⟨by rw [get_push_eq]; simp, Nat.lt_succ_self _⟩
    simpa using this
  · refine ⟨⟨rfl, by omega, k1⟩, ?_⟩
    have := hk id (g.set id (.tip (x.length * 3 + 3))) ⟨by rw [get_set_eq]; simp [Nat.succ_mul], k2⟩
    simpa [Nat.succ_mul] using this
theorem OR.mk1 {x : ND} (h : OV x) (op im a b c : Int) : OR ⟨x.i, x.x, x.io, x.e, op, im, [], .nilslice, x.g.next, x.g.push (.cells [.vslice none 1 3 1 [.int .i64 (IntKind.i64.wrap a), .int .i64 (IntKind.i64.wrap b), .int .i64 (IntKind.i64.wrap c)], .int .i64 0])⟩ := by
  obtain ⟨h1, h2⟩ := h
  refine ⟨⟨h1, ?_⟩, ⟨Nat.lt_succ_self _, none, 1, 0, [IntKind.i64.wrap a, IntKind.i64.wrap b, IntKind.i64.wrap c], ?_, get_push_eq⟩, ?_⟩
  · rcases h2 with h2 | ⟨id, q1, q2, q3⟩
    · exact .inl h2
    · exact .inr ⟨id, q1, q2, q3.push⟩
  · intro y hy
    simp only [List.mem_cons, List.not_mem_nil, or_false] at hy
    rcases hy with rfl | rfl | rfl <;> exact wrap_b _
  · intro id hid
    rcases h2 with h2 | ⟨id2, q1, q2, q3⟩
    · rw [show x.io = none from h2.1] at hid
      cases hid
    · have hid : x.io = some id := hid
      rw [q1] at hid
      cases hid
      exact Nat.ne_of_lt q3.2
end Go.M15
namespace Go.M15
open Go.Pv
/-- the variables of an instance under construction: the nodes, the pattern, the variables so far, the slice of them, the heap -/
structure IN where
  x : List Nd
  v : Int
  op : Int
  im : Int
  iv : Int
  ks : List T
  vars : List Int
  io : Option Nat
  e : Nat
  sv : IV
  g : Heap
def IN.t (x : IN) : T := .mk x.v x.op x.im x.iv x.ks
def PB (t : T) : Prop := t.ok ∧ t.num ≤ 40 ∧ t.vo
def IB (x : IN) : Prop := NW 14 x.x ∧ PB x.t ∧ x.vars.length ≤ 6
def VH (vars : List Int) (io : Option Nat) (e : Nat) (g : Heap) : Prop := (io = none ∧ e = 1) ∨ ∃ id, io = some id ∧ e = vars.length ∧ g.get id = .tip vars.length ∧ id < g.next
def IX (x : List Nd) (vars : List Int) : Prop := ∀ q ∈ vars, 0 ≤ q ∧ q < x.length
def IV1 (x : List Nd) (vars : List Int) : Prop := ∀ q ∈ vars, isV x q
theorem app_vars {g : Heap} {io : Option Nat} {e : Nat} {vars : List Int} {q : Int} {K : Nat → Nat → Nat → List IV → Heap → Prop} (hs : VH vars io e g) (hl : vars.length ≤ 1000000)
    (hk : ∀ id h2, VH (vars ++ [q]) (some id) (vars ++ [q]).length h2 → K id (vars ++ [q]).length (vars ++ [q]).length ((vars ++ [q]).map (IV.int .i64)) h2) :
    appGS g 1 8 (.vslice io e vars.length 1 (vars.map (IV.int .i64))) 1 [.int .i64 q] K := by
  rcases hs with ⟨rfl, rfl⟩ | ⟨id, rfl, rfl, k1, k2⟩
  · refine ⟨⟨rfl, by omega⟩, ?_⟩
    have := hk g.next (g.push (.tip ((vars.length + 1) * 1))) (.inr ⟨_, rfl, rfl, by rw [get_push_eq]; simp, Nat.lt_succ_self _⟩)
    simpa using this
  · refine ⟨⟨rfl, by omega, k1⟩, ?_⟩
    have := hk id (g.set id (.tip (vars.length + 1))) (.inr ⟨_, rfl, rfl, by rw [get_set_eq]; simp, k2⟩)
    simpa using this
end Go.M15
namespace Go.M15
open Go.Pv
def IN.y (x : IN) : List Nd := (instB x.x x.t x.vars (List.replicate 6 0)).1
def IN.j (x : IN) : Int := (instB x.x x.t x.vars (List.replicate 6 0)).2
def IC (x : IN) : Prop := IB x ∧ IX x.x x.vars ∧ x.vars.length = 6
end Go.M15
