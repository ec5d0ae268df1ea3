import Derived.Test.YtlenjfbmpekabaaDoorU30
import Derived.Test.YtlenjfbmpekabaaDoorD30
set_option linter.unusedVariables false
namespace Go.M30
open Go.Pv Go.M29
def wlen (op : Int) : Nat := if fmI op = 6 then 3 else 1
theorem encW_wlen (x : In) : (encW x).length = wlen x.op := by
 unfold encW wlen
 split <;> rfl
theorem row_wd {op : Int} (h : 1 <= op /\ op <= 37) : (rowOf op).wd = (wlen op : Int) := by
 have h2 : op = 1 \/ op = 2 \/ op = 3 \/ op = 4 \/ op = 5 \/ op = 6 \/ op = 7 \/ op = 8 \/ op = 9 \/ op = 10 \/ op = 11 \/ op = 12 \/ op = 13 \/ op = 14 \/ op = 15 \/ op = 16 \/ op = 17 \/ op = 18 \/ op = 19 \/ op = 20 \/ op = 21 \/ op = 22 \/ op = 23 \/ op = 24 \/ op = 25 \/ op = 26 \/ op = 27 \/ op = 28 \/ op = 29 \/ op = 30 \/ op = 31 \/ op = 32 \/ op = 33 \/ op = 34 \/ op = 35 \/ op = 36 \/ op = 37 := by omega
 rcases h2 with rfl | rfl | rfl | rfl | rfl | rfl | rfl | rfl | rfl | rfl | rfl | rfl | rfl | rfl | rfl | rfl | rfl | rfl | rfl | rfl | rfl | rfl | rfl | rfl | rfl | rfl | rfl | rfl | rfl | rfl | rfl | rfl | rfl | rfl | rfl | rfl | rfl <;> decide
def rng (i : In) : Prop := (i.op = 6 -> 0 <= i.n /\ i.n <= 1) /\ ((i.op = 34 \/ i.op = 35) -> 0 <= i.n /\ i.n <= 1)
theorem kin_rng (n : Int) : rng (kin n) := by
 unfold rng kin
 repeat' split
 all_goals simp only
 all_goals omega
theorem places_at : ∀ {l : List In} {c : Int} {k : Nat} (h : k < (places c l).length), (places c l)[k] = c + ((encT l k).length : Int)
 | i :: r, c, 0, _ => by simp [places, encT]
 | i :: r, c, k + 1, h => by
   have := places_at (l := r) (c := c + (encW i).length) (k := k) (by simpa [places] using h)
   simp only [places, List.getElem_cons_succ]
   rw [this]
   simp [encT]
   omega
theorem places_ops : ∀ {l m : List In} {c : Int}, l.map In.op = m.map In.op -> places c l = places c m
 | [], [], _, _ => rfl
 | [], _ :: _, _, h => by simp at h
 | _ :: _, [], _, h => by simp at h
 | i :: r, j :: s, c, h => by
   simp only [List.map_cons, List.cons.injEq] at h
   simp only [places]
   rw [encW_wlen, encW_wlen, h.1, places_ops h.2]
theorem cells_set : ∀ {l : List In} {k j : Nat} {v : IV} {i' : In} (h : k < l.length), j < 5 -> cIns i' = (cIns l[k]).set j v -> (l.flatMap cIns).set (k * 5 + j) v = (l.set k i').flatMap cIns
 | x :: r, 0, j, v, i', _, hj, hc => by
   rw [List.flatMap_cons, List.set_cons_zero, List.flatMap_cons, hc, Nat.zero_mul, Nat.zero_add, List.set_append_left _ _ (by simpa [cIns] using hj)]
   rfl
 | x :: r, k + 1, j, v, i', h, hj, hc => by
   have ih := cells_set (l := r) (k := k) (j := j) (v := v) (i' := i') (by simpa using h) hj (by simpa using hc)
   have hl : (cIns x).length = 5 := rfl
   rw [List.flatMap_cons, List.set_cons_succ, List.flatMap_cons, List.set_append_right _ _ (by rw [hl, Nat.succ_mul]; omega), <- ih, hl]
   congr 2
   rw [Nat.succ_mul]; omega
theorem cells_store {l : List In} {k j : Nat} {v : IV} {i' : In} (h : k < l.length) (hj : j < 5) (hc : cIns i' = (cIns l[k]).set j v) : (l.flatMap cIns).take (k * 5 + j) ++ [v] ++ (l.flatMap cIns).drop (k * 5 + j + 1) = (l.set k i').flatMap cIns := by
 rw [<- cells_set h hj hc, List.set_eq_take_append_cons_drop, if_pos]
 ·simp
 ·have : ∀ m : List In, (m.flatMap cIns).length = m.length * 5 := fun m => by
   induction m with
   | nil => rfl
   | cons x r ih => rw [List.flatMap_cons, List.length_append, ih, List.length_cons, Nat.succ_mul]; simp [cIns]; omega
  rw [this]; omega
theorem valid_jump {op a b c n n' : Int} (h : validI op a b c n = true) (ho : op = 5 \/ op = 7 \/ op = 8) (hn : -4194304 <= n' /\ n' <= 4194303) : validI op a b c n' = true := by
 rcases ho with rfl | rfl | rfl <;> (simp [validI, fmI, loI, hiI, fA, fB, fC, fN, okI] at h ⊢; omega)
theorem valid_call {a b c n a' : Int} (h : validI 6 a b c n = true) (ha : 0 <= a' /\ a' <= 6) : validI 6 a' b c n = true := by
 simp [validI, fmI, loI, hiI, fA, fB, fC, fN, okI] at h ⊢; omega
def jok (P : List Int) (i : In) (pl : Int) : Prop := ((i.op = 5 \/ i.op = 7 \/ i.op = 8) -> IntKind.i64.wrap (pl + i.n) ∈ P) /\ (i.op = 6 -> i.n < 2 /\ ([2, 1] : List Int)[i.n.toNat]? = some i.a) /\ ((i.op = 34 \/ i.op = 35) -> i.n < 2)
theorem vb_of {l : List In} {m : Int} (hok : ∀ i ∈ l, okIn i = true) (hne : l ≠ []) (hl : l.length <= 1000) (hlast : ∀ i, l.getLast? = some i -> i.op = 2) (hm : m ∈ places 0 l)
  (hJ : ∀ (j : Nat) (h : j < l.length) (h' : j < (places 0 l).length), jok (places 0 l) l[j] (places 0 l)[j]) : VB ⟨l.flatMap encW, [0, m], [2, 1], [5, 2], [3, 2]⟩ := by
 have hd := decA_enc hok
 have h1 := flat_len l
 have h2 : (l.flatMap encW).length <= 3 * l.length := by
  have := encT_le l l.length
  unfold encT at this
  rwa [List.take_length] at this
 have hpos := List.length_pos_iff.2 hne
 have hp0 : (0 : Int) ∈ places 0 l := by
  cases l with
  | nil => exact absurd rfl hne
  | cons i r => simp [places]
 unfold VB
 simp only [hd]
 refine ⟨by omega, by simp, rfl, rfl, by simp, trivial, fun i hi => ?_, fun k hk => ?_, fun k hk => ?_, fun k hk => ?_⟩
 ·have h3 := hlast i hi
  have h4 : i ∈ l := List.mem_of_getLast? hi
  have h5 : validI i.op i.a i.b i.c i.n = true := hok i h4
  unfold cfl
  rw [if_pos h5]
  simp [h3]
 ·have hst : ∀ x, x ∈ places 0 l -> St (l.flatMap encW) x := fun x hx => by unfold St; rw [hd]; exact hx
  have hk' : k = 0 \/ k = 1 := by simp at hk; omega
  rcases hk' with rfl | rfl
  ·exact ⟨0, 2, 5, rfl, rfl, rfl, hst _ hp0, by omega, by omega⟩
  ·exact ⟨m, 1, 2, rfl, rfl, rfl, hst _ hm, by omega, by omega⟩
 ·have hk' : k = 0 \/ k = 1 := by simp at hk; omega
  rcases hk' with rfl | rfl
  ·exact ⟨3, rfl, by omega, by omega⟩
  ·exact ⟨2, rfl, by omega, by omega⟩
 ·have hlp : k < (places 0 l).length := by rw [places_len]; exact hk
  refine ⟨l[k], (places 0 l)[k], by simp only [hd]; exact List.getElem?_eq_getElem hk, by simp only [hd]; exact List.getElem?_eq_getElem hlp, ?_⟩
  obtain ⟨j1, j2, j3⟩ := hJ k hk hlp
  refine ⟨fun z => ?_, fun z => ?_, fun z => ?_⟩
  ·unfold St; rw [hd]; exact j1 z
  ·have := j2 z; exact ⟨by simpa using this.1, this.2⟩
  ·have := j3 z; simpa using this
end Go.M30
namespace Go.M30
open Go.Pv Go.M29
theorem ldF {l : List In} {i o j : Nat} {v : Int} {K : Int -> Prop} (h : i < l.length) (hj : j < 5) (hv : (cIns l[i])[j]? = some (.int .i64 v)) (ho : o = i * 5 + j) (hk : K v) : ldIS .i64 (l.flatMap cIns) o K := by
 subst ho
 have := flatMap_at (c := cIns) (w := 5) (fun _ => rfl) (l := l) (i := i) (j := j) h hj
 unfold ldIS
 rw [this, hv]
 exact hk
theorem flatMap_l5 : ∀ (l : List In), (l.flatMap cIns).length = l.length * 5
 | [] => rfl
 | x :: r => by rw [List.flatMap_cons, List.length_append, flatMap_l5 r, List.length_cons, Nat.succ_mul]; simp [cIns]; omega
theorem map_op_set {m : List In} {k : Nat} {i' : In} (hk : k < m.length) (h : i'.op = m[k].op) : (m.set k i').map In.op = m.map In.op := by
 rw [List.map_set, h]
 have : (m.map In.op)[k]'(by simpa using hk) = m[k].op := by simp
 rw [<- this, List.set_getElem_self]
def fixedL (L m : List In) (k : Nat) : Prop := m.map In.op = L.map In.op /\ (∀ i ∈ m, okIn i = true /\ rng i) /\ ∀ (j : Nat) (h : j < m.length) (h' : j < (places 0 L).length), j < k -> jok (places 0 L) m[j] (places 0 L)[j]
theorem fixed_step {L m : List In} {k : Nat} {i' : In} (hf : fixedL L m k) (hk : k < m.length) (hk' : k < (places 0 L).length) (ho : i'.op = m[k].op) (hok : okIn i' = true /\ rng i') (hj : jok (places 0 L) i' (places 0 L)[k]) : fixedL L (m.set k i') (k + 1) := by
 refine ⟨(map_op_set hk ho).trans hf.1, fun i hi => ?_, fun j h h' hjk => ?_⟩
 ·rcases List.mem_or_eq_of_mem_set hi with z | z
  ·exact hf.2.1 i z
  ·rw [z]; exact hok
 ·by_cases hjk' : j = k
  ·subst hjk'
   rw [List.getElem_set_self]
   exact hj
  ·rw [List.getElem_set_ne (by omega)]
   exact hf.2.2 j (by simpa using h) h' (by omega)
theorem fixed_same {L m : List In} {k : Nat} (hf : fixedL L m k) (hk : k < m.length) (hj : ∀ hk', jok (places 0 L) m[k] ((places 0 L)[k]'hk')) : fixedL L m (k + 1) := by
 refine ⟨hf.1, hf.2.1, fun j h h' hjk => ?_⟩
 by_cases hjk' : j = k
 ·subst hjk'; exact hj h'
 ·exact hf.2.2 j h h' (by omega)
theorem fixed_vb {L m : List In} {x : Int} (hf : fixedL L m L.length) (hL : L.length <= 1000) (hne : L ≠ []) (hlast : ∀ i, L.getLast? = some i -> i.op = 2) (hx : x ∈ places 0 L) : VB ⟨m.flatMap encW, [0, x], [2, 1], [5, 2], [3, 2]⟩ := by
 have hp := places_ops (c := 0) hf.1
 have hlen : m.length = L.length := by have := congrArg List.length hf.1; simpa using this
 refine vb_of (fun i hi => (hf.2.1 i hi).1) (fun z => ?_) (by omega) (fun i hi => ?_) (by rw [hp]; exact hx) (fun j h h' => ?_)
 ·subst z; exact hne (List.eq_nil_of_length_eq_zero (by simpa using hlen.symm))
 ·have h1 : (m.map In.op).getLast? = (L.map In.op).getLast? := by rw [hf.1]
  rw [List.getLast?_map, List.getLast?_map, hi] at h1
  cases hq : L.getLast? with
  | none => rw [hq] at h1; simp at h1
  | some y =>
    rw [hq] at h1
    have := hlast y hq
    simp at h1
    omega
 ·have := hf.2.2 j h (by rw [<- hp]; exact h') (by omega)
  simp only [hp]
  exact this
end Go.M30
