import Derived.Test.YtmfnadojephcpaaU15
set_option linter.unusedVariables false
namespace Go.M15
open Go.Pv
theorem fidx_app {n : Nd} {r : List Nd} : ∀ {l : List Nd} {i j : Nat}, fidx n l i = some j -> fidx n (l ++ r) i = some j
 | [], i, j, h => by cases h
 | x :: l, i, j, h => by
   rw [List.cons_append]
   unfold fidx at h ⊢
   split at h
   ·rw [if_pos (by assumption)]; exact h
   ·rw [if_neg (by assumption)]; exact fidx_app h
theorem fidx_self {n : Nd} {r : List Nd} : ∀ {l : List Nd} {i : Nat}, fidx n l i = none -> fidx n (l ++ n :: r) i = some (i + l.length)
 | [], i, h => by simp [fidx]
 | x :: l, i, h => by
   rw [List.cons_append]
   unfold fidx at h ⊢
   split at h
   ·cases h
   ·rw [if_neg (by assumption), fidx_self h]
    simp only [List.length_cons, Option.some.injEq]
    omega
theorem fidx_at {n : Nd} : ∀ {l : List Nd} {i j : Nat}, fidx n l i = some (i + j) -> l[j]? = some n
 | [], i, j, h => by cases h
 | x :: l, i, j, h => by
   unfold fidx at h
   split at h
   ·rename_i e
    simp only [Option.some.injEq] at h
    obtain rfl : j = 0 := by omega
    simp [e]
   ·have hl := fidx_lt h
    obtain ⟨k, rfl⟩ : ∃ k, j = k + 1 := ⟨j - 1, by omega⟩
    rw [show i + (k + 1) = i + 1 + k by omega] at h
    simpa using fidx_at h
theorem putA_pre (l : List Nd) (n : Nd) : l <+: (putA l n).1 := by
 unfold putA
 split
 ·exact List.prefix_refl _
 ·exact List.prefix_append _ _
theorem putA_again {l y : List Nd} {n : Nd} (h : (putA l n).1 <+: y) : putA y n = (y, (putA l n).2) := by
 unfold putA at h ⊢
 cases e : fidx n l 0 with
 | some i =>
   rw [e] at h
   obtain ⟨r, rfl⟩ := h
   rw [fidx_app e]
 | none =>
   rw [e] at h
   obtain ⟨r, rfl⟩ := h
   rw [List.append_assoc, List.singleton_append, fidx_self e, Nat.zero_add]
theorem putA_at (l : List Nd) (n : Nd) : (putA l n).1[(putA l n).2.toNat]? = some n /\ 0 <= (putA l n).2 /\ (putA l n).2 < (putA l n).1.length := by
 unfold putA
 cases e : fidx n l 0 with
 | some i =>
   have := fidx_lt e
   refine ⟨fidx_at (i := 0) (by rw [e]; simp), by simp, by simp only; omega⟩
 | none => exact ⟨by simp, by simp, by simp only [List.length_append, List.length_cons, List.length_nil]; omega⟩
mutual
theorem instA_pre : ∀ (t : T) (vars imms : List Int) (l : List Nd), l <+: (instA t vars imms l).1
 | .mk v op im iv ks, vars, imms, l => by
   by_cases hv : 0 < v
   ·rw [instA_var hv]
    exact List.prefix_refl _
   ·rw [instA_node hv]
    exact (instAs_pre ks vars imms l).trans (putA_pre _ _)
theorem instAs_pre : ∀ (ks : List T) (vars imms : List Int) (l : List Nd), l <+: (instAs ks vars imms l).1
 | [], vars, imms, l => List.prefix_refl _
 | t :: r, vars, imms, l => (instA_pre t vars imms l).trans (instAs_pre r vars imms _)
end
mutual
theorem instA_again : ∀ (t : T) (vars imms : List Int) (l y : List Nd), (instA t vars imms l).1 <+: y -> instA t vars imms y = (y, (instA t vars imms l).2)
 | .mk v op im iv ks, vars, imms, l, y, h => by
   by_cases hv : 0 < v
   ·rw [instA_var hv, instA_var hv]
   ·rw [instA_node hv] at h ⊢
    have h2 := instAs_again ks vars imms l y ((putA_pre _ _).trans h)
    rw [instA_node hv, h2]
    exact putA_again h
theorem instAs_again : ∀ (ks : List T) (vars imms : List Int) (l y : List Nd), (instAs ks vars imms l).1 <+: y -> instAs ks vars imms y = (y, (instAs ks vars imms l).2)
 | [], vars, imms, l, y, h => rfl
 | t :: r, vars, imms, l, y, h => by
   rw [instAs] at h
   have h1 := instA_again t vars imms l y ((instAs_pre r vars imms _).trans h)
   have h2 := instAs_again r vars imms _ y h
   rw [instAs, instAs, h1, h2]
end
theorem instAs_kid : ∀ (ks : List T) (vars imms : List Int) (l y : List Nd), (instAs ks vars imms l).1 <+: y -> ∀ (j : Nat) (t : T), ks[j]? = some t -> ∃ k : Int, (instAs ks vars imms l).2[j]? = some k /\ instA t vars imms y = (y, k)
 | [], vars, imms, l, y, h, j, t, e => by simp at e
 | t :: r, vars, imms, l, y, h, j, t2, e => by
   rw [instAs] at h ⊢
   cases j with
   | zero =>
     simp only [List.getElem?_cons_zero, Option.some.injEq] at e
     subst e
     exact ⟨_, rfl, instA_again t vars imms l y ((instAs_pre r vars imms _).trans h)⟩
   | succ j =>
     simp only [List.getElem?_cons_succ] at e
     exact instAs_kid r vars imms _ y h j t2 e
def LeV (a b : List Int) : Prop := a.length = b.length /\ ∀ i, a.getD i 0 = 0 \/ a.getD i 0 = b.getD i 0
theorem getD_set {l : List Int} {i j : Nat} {x : Int} (h : i < l.length) : (l.set i x).getD j 0 = if i = j then x else l.getD j 0 := by
 simp only [List.getD_eq_getElem?_getD, List.getElem?_set]
 by_cases e : i = j
 ·subst e; simp [h]
 ·simp [e]
mutual
theorem valP_mono : ∀ (t : T) (s s2 imms : Int) (a b : List Int), LeV a b -> (s2 = 0 \/ s2 = s) -> (valP t s imms b).1 = true -> (valP t s2 imms a).1 = true /\ LeV (valP t s2 imms a).2 (valP t s imms b).2
 | .mk v op im iv ks, s, s2, imms, a, b, hl, hs, h => by
   by_cases hv : v = 0
   ·by_cases hn : nodeOk op im iv ks.length s imms
    ·rw [valP_node hv hn] at h ⊢
     have hn2 : nodeOk op im iv ks.length s2 imms := ⟨hn.1, hn.2.1, by have := hn.2.2.1; omega, hn.2.2.2⟩
     rw [valP_node hv hn2]
     exact valPs_mono ks (opk op) imms a b hl h
    ·rw [valP_no hv hn] at h
     cases h
   ·by_cases hb : badVar v op im iv ks.length b.length
    ·rw [valP_bad hv hb] at h
     cases h
    ·have hb2 : ¬ badVar v op im iv ks.length a.length := by rw [hl.1]; exact hb
     have hlt : (v - 1).toNat < b.length := by unfold badVar at hb; omega
     have hlt2 : (v - 1).toNat < a.length := by rw [hl.1]; exact hlt
     have hk := hl.2 (v - 1).toNat
     by_cases h0 : b.getD (v - 1).toNat 0 = 0
     ·have h1 : a.getD (v - 1).toNat 0 = 0 := by omega
      rw [valP_new hv hb h0, valP_new hv hb2 h1]
      refine ⟨rfl, by simp [hl.1], fun i => ?_⟩
      dsimp only
      rw [getD_set hlt, getD_set hlt2]
      split
      ·exact hs
      ·exact hl.2 i
     ·rw [valP_old hv hb h0] at h ⊢
      simp only [decide_eq_true_eq] at h
      by_cases h1 : a.getD (v - 1).toNat 0 = 0
      ·rw [valP_new hv hb2 h1]
       refine ⟨rfl, by simp [hl.1], fun i => ?_⟩
       dsimp only
       rw [getD_set hlt2]
       split
       ·rename_i e
        subst e
        omega
       ·exact hl.2 i
      ·rw [valP_old hv hb2 h1]
       exact ⟨by simp only [decide_eq_true_eq]; omega, hl⟩
theorem valPs_mono : ∀ (ks : List T) (q : List Int) (imms : Int) (a b : List Int), LeV a b -> (valPs ks q imms b).1 = true -> (valPs ks q imms a).1 = true /\ LeV (valPs ks q imms a).2 (valPs ks q imms b).2
 | [], q, imms, a, b, hl, h => by rw [valPs, valPs]; exact ⟨rfl, hl⟩
 | t :: r, q, imms, a, b, hl, h => by
   rw [valPs] at h
   rw [valPs, valPs]
   have ht := valP_mono t (q.headD 0) (q.headD 0) imms a b hl (.inr rfl)
   rcases e : valP t (q.headD 0) imms b with ⟨bb, b'⟩
   rw [e] at h ht
   cases bb
   ·cases h
   ·have ht := ht rfl
    rcases e2 : valP t (q.headD 0) imms a with ⟨ab, a'⟩
    rw [e2] at ht
    obtain ⟨h1, h2⟩ := ht
    dsimp only at h1 h2
    subst h1
    exact valPs_mono r q.tail imms a' b' h2 h
end
theorem valPs_kid : ∀ (ks : List T) (q : List Int) (imms : Int) (b : List Int), (valPs ks q imms b).1 = true -> ∀ t ∈ ks, ∃ s b2, b2.length = b.length /\ (valP t s imms b2).1 = true
 | [], _, _, _, _, t, ht => by cases ht
 | x :: r, q, imms, b, h, t, ht => by
   rw [valPs] at h
   have hlen := valP_len x (q.headD 0) imms b
   rcases e : valP x (q.headD 0) imms b with ⟨bb, b'⟩
   rw [e] at h hlen
   cases bb
   ·cases h
   ·rcases List.mem_cons.1 ht with rfl | ht
    ·exact ⟨_, b, rfl, by rw [e]⟩
    ·obtain ⟨s, b2, h1, h2⟩ := valPs_kid r q.tail imms b' h t ht
     exact ⟨s, b2, h1.trans hlen, h2⟩
theorem valB_kid {v op im iv nv ni : Int} {ks : List T} (h : valB (.mk v op im iv ks) nv ni = true) (hv : ¬ 0 < v) (hn : (T.mk v op im iv ks).num <= 1000) {t : T} (ht : t ∈ ks) : valB t nv ni = true := by
 have hw := (valB_wi h).1
 have hs1 := size_num (.mk v op im iv ks) (by omega)
 have hk := num_kid (t := .mk v op im iv ks) (k := t) ht
 have hs2 := size_num t (by omega)
 unfold valB at h ⊢
 simp only [Bool.and_eq_true, decide_eq_true_eq] at h ⊢
 refine ⟨h.1, by omega, ?_⟩
 have hv0 : v = 0 := by have := hw.1; omega
 have hp := h.2.2
 by_cases hno : nodeOk op im iv ks.length 0 ni
 ·rw [valP_node hv0 hno] at hp
  obtain ⟨s, b2, h1, h2⟩ := valPs_kid _ _ _ _ hp t ht
  refine (valP_mono t s 0 ni (List.replicate nv.toNat 0) b2 ⟨by rw [h1], fun i => .inl ?_⟩ (.inl rfl) h2).1
  rw [List.getD_eq_getElem?_getD, List.getElem?_replicate]
  split <;> rfl
 ·rw [valP_no hv0 hno] at hp
  cases hp
def nsort (op im : Int) (k : List Int) : Int :=
 if arOk op = false \/ (k.length : Int) ≠ ar op \/ vImm op im = false then 0
 else if op = 3 then (if im % 16 = 0 then 2 else 1)
 else if op = 26 then 2
 else if op = 22 then (if k.getD 0 0 ≠ 1 \/ k.getD 1 0 ≠ k.getD 2 0 \/ k.getD 1 0 = 3 then 0 else k.getD 1 0)
 else if op = 23 then (if k = [2, 1] then 1 else 0)
 else if op = 24 then (if k = [2] then 1 else 0)
 else if op = 27 \/ op = 29 then (if k = [2, 1] then 2 else 0)
 else if op = 28 then (if k = [2, 1, 1] then 2 else 0)
 else if k.all (fun x => decide (x = 1)) = true then 1 else 0
def kidOk (out : List Int) (q : Int) : Bool := decide (0 <= q) && (decide (q < out.length) && decide (out.getD q.toNat 0 ≠ 0))
def sstep (out : List Int) (n : Nd) : Int := if n.ks.all (kidOk out) = true then nsort n.op n.im (n.ks.map fun q => out.getD q.toNat 0) else 0
def sortsF : List Int -> List Nd -> List Int
 | out, [] => out
 | out, n :: r => sortsF (out ++ [sstep out n]) r
def sortsA (l : List Nd) : List Int := sortsF [] l
theorem sortsF_snoc (n : Nd) : ∀ (l : List Nd) (out : List Int), sortsF out (l ++ [n]) = sortsF out l ++ [sstep (sortsF out l) n]
 | [], out => rfl
 | x :: l, out => by
   rw [List.cons_append, sortsF, sortsF, sortsF_snoc n l]
theorem sortsA_snoc (l : List Nd) (n : Nd) : sortsA (l ++ [n]) = sortsA l ++ [sstep (sortsA l) n] := sortsF_snoc n l []
theorem sortsF_len : ∀ (l : List Nd) (out : List Int), (sortsF out l).length = out.length + l.length
 | [], out => rfl
 | x :: l, out => by
   rw [sortsF, sortsF_len l]
   simp only [List.length_append, List.length_cons, List.length_nil]
   omega
theorem sortsA_len (l : List Nd) : (sortsA l).length = l.length := by unfold sortsA; rw [sortsF_len]; simp
theorem sortsF_pre : ∀ (l : List Nd) (out : List Int), out <+: sortsF out l
 | [], out => List.prefix_refl _
 | x :: l, out => (List.prefix_append _ _).trans (sortsF_pre l _)
theorem sortsF_app : ∀ (l r : List Nd) (out : List Int), sortsF out (l ++ r) = sortsF (sortsF out l) r
 | [], r, out => rfl
 | x :: l, r, out => by rw [List.cons_append, sortsF, sortsF, sortsF_app l r]
theorem sortsA_pre {l y : List Nd} (h : l <+: y) : sortsA l <+: sortsA y := by
 obtain ⟨r, rfl⟩ := h
 unfold sortsA
 rw [sortsF_app]
 exact sortsF_pre _ _
theorem pre_getD {a b : List Int} (h : a <+: b) {i : Nat} (hi : i < a.length) : b.getD i 0 = a.getD i 0 := by
 obtain ⟨r, rfl⟩ := h
 simp only [List.getD_eq_getElem?_getD, List.getElem?_append_left hi]
theorem sortsA_take {l : List Nd} {i : Nat} : sortsA (l.take i) = (sortsA l).take i := by
 have h := sortsA_pre (List.take_prefix i l)
 rw [List.prefix_iff_eq_take] at h
 rw [h, sortsA_len, List.length_take, List.take_eq_take_iff, sortsA_len]
 omega
theorem sortsA_step {l : List Nd} {i : Nat} (h : i < l.length) : sortsA (l.take (i + 1)) = sortsA (l.take i) ++ [sstep (sortsA (l.take i)) l[i]] := by
 rw [List.take_succ_eq_append_getElem h, sortsA_snoc]
theorem sstep_bad {out : List Int} {n : Nd} {q : Int} (hm : q ∈ n.ks) (h : kidOk out q = false) : sstep out n = 0 := by
 unfold sstep
 rw [if_neg]
 intro e
 rw [List.all_eq_true.1 e q hm] at h
 cases h
def SO (l : List Nd) (i id : Nat) (h : Heap) : Prop := (0 < i /\ i <= l.length) /\ h.get id = .tip i /\ id < h.next
def SI (l : List Nd) (i j : Nat) (k : List Int) : Prop := ∃ n, l[i]? = some n /\ (j <= n.ks.length /\ k.length = j) /\ (n.ks.take j).all (kidOk (sortsA (l.take i))) = true /\ k = (n.ks.take j).map fun q => (sortsA (l.take i)).getD q.toNat 0
def SK (k : List Int) (id idK : Nat) (h : Heap) : Prop := 0 < k.length /\ h.get idK = .tip k.length /\ idK < h.next /\ idK ≠ id
def kRest (l : List Nd) (i j : Nat) : Nat := match l[i]? with
 | some n => n.ks.length - j
 | none => 0
theorem SI.zero {l : List Nd} {i : Nat} (h : i < l.length) : SI l i 0 [] := ⟨l[i], List.getElem?_eq_getElem h, ⟨Nat.zero_le _, rfl⟩, rfl, rfl⟩
theorem SI.step {l : List Nd} {i j : Nat} {k : List Int} (h : SI l i j k) (hi : i < l.length) (hj : j < l[i].ks.length) (hq : kidOk (sortsA (l.take i)) l[i].ks[j] = true) : SI l i (j + 1) (k ++ [(sortsA (l.take i)).getD (l[i].ks[j]).toNat 0]) := by
 obtain ⟨n, h1, h2, h3, h4⟩ := h
 obtain rfl : l[i] = n := by rw [List.getElem?_eq_getElem hi] at h1; exact Option.some.inj h1
 refine ⟨_, h1, ⟨hj, by simp [h2.2]⟩, ?_, ?_⟩
 ·rw [List.take_succ_eq_append_getElem hj, List.all_append, h3]
  simp [hq]
 ·rw [List.take_succ_eq_append_getElem hj, List.map_append, h4]
  rfl
theorem SI.last {l : List Nd} {i j : Nat} {k : List Int} (h : SI l i j k) (hi : i < l.length) (hj : l[i].ks.length <= j) : sstep (sortsA (l.take i)) l[i] = nsort l[i].op l[i].im k /\ k.length = l[i].ks.length := by
 obtain ⟨n, h1, h2, h3, h4⟩ := h
 obtain rfl : l[i] = n := by rw [List.getElem?_eq_getElem hi] at h1; exact Option.some.inj h1
 rw [List.take_of_length_le hj] at h3 h4
 unfold sstep
 rw [if_pos h3, h4]
 exact ⟨rfl, by simp⟩
theorem kRest_at {l : List Nd} {i j : Nat} (h : i < l.length) : kRest l i j = l[i].ks.length - j := by
 unfold kRest
 rw [List.getElem?_eq_getElem h]
theorem kidOk_neg {out : List Int} {q : Int} (h : q < 0) : kidOk out q = false := by
 unfold kidOk
 rw [decide_eq_false (by omega), Bool.false_and]
theorem kidOk_big {out : List Int} {q : Int} (h : (out.length : Int) <= q) : kidOk out q = false := by
 unfold kidOk
 rw [decide_eq_false (p := q < _) (by omega), Bool.false_and, Bool.and_false]
theorem kidOk_zero {out : List Int} {q : Int} (h : q.toNat < out.length) (hz : out[q.toNat] = 0) : kidOk out q = false := by
 have e : out.getD q.toNat 0 = 0 := by rw [List.getD_eq_getElem?_getD, List.getElem?_eq_getElem h]; exact hz
 unfold kidOk
 rw [e]
 simp
theorem kidOk_intro {out : List Int} {q : Int} (h0 : 0 <= q) (h : q.toNat < out.length) (hz : out[q.toNat] ≠ 0) : kidOk out q = true /\ out.getD q.toNat 0 = out[q.toNat] := by
 have e : out.getD q.toNat 0 = out[q.toNat] := by rw [List.getD_eq_getElem?_getD, List.getElem?_eq_getElem h]; rfl
 unfold kidOk
 rw [e]
 refine ⟨?_, rfl⟩
 simp only [Bool.and_eq_true, decide_eq_true_eq]
 exact ⟨h0, by omega, hz⟩
theorem nsort_ops {op im : Int} {k : List Int} (h : op ≠ 25 /\ op ≠ 30 /\ op ≠ 31) : arOk op = true -> (k.length : Int) = ar op -> vImm op im = true -> nsort op im k = (if op = 3 then (if im % 16 = 0 then 2 else 1) else if op = 26 then 2 else if op = 22 then (if k.getD 0 0 ≠ 1 \/ k.getD 1 0 ≠ k.getD 2 0 \/ k.getD 1 0 = 3 then 0 else k.getD 1 0)
 else if op = 23 then (if k = [2, 1] then 1 else 0) else if op = 24 then (if k = [2] then 1 else 0) else if op = 27 \/ op = 29 then (if k = [2, 1] then 2 else 0) else if op = 28 then (if k = [2, 1, 1] then 2 else 0) else if k.all (fun x => decide (x = 1)) = true then 1 else 0) := by
 intro h1 h2 h3
 unfold nsort
 rw [if_neg (by simp [h1, h2, h3])]
def valOp (op : Int) : Prop := op = 1 \/ (4 <= op /\ op <= 22)
mutual
def T.vo : T -> Prop
 | .mk v op _ _ ks => 0 < v \/ (valOp op /\ vos ks)
def vos : List T -> Prop
 | [] => True
 | t :: r => t.vo /\ vos r
end
theorem vos_append : ∀ {a b : List T}, vos (a ++ b) ↔ vos a /\ vos b
 | [], b => by simp [vos]
 | x :: a, b => by simp [vos, vos_append (a := a), and_assoc]
def WFN (l : List Nd) : Prop := ∀ s ∈ sortsA l, s ≠ 0
theorem WFN.put {l : List Nd} {n : Nd} (h : WFN l) (hn : sstep (sortsA l) n ≠ 0) : WFN (putA l n).1 := by
 unfold putA
 split
 ·exact h
 ·intro s hs
  dsimp only at hs
  rw [sortsA_snoc] at hs
  rcases List.mem_append.1 hs with hs | hs
  ·exact h s hs
  ·rw [List.mem_singleton.1 hs]
   exact hn
theorem sortsA_at : ∀ {l : List Nd} {j : Nat} {n : Nd}, l[j]? = some n -> (sortsA l).getD j 0 = sstep (sortsA (l.take j)) n := by
 intro l j n h
 obtain ⟨hlt, rfl⟩ := List.getElem?_eq_some_iff.1 h
 have e : l.take (j + 1) = l.take j ++ [l[j]] := List.take_succ_eq_append_getElem hlt
 have h1 := sortsA_snoc (l.take j) l[j]
 rw [<- e] at h1
 have h2 := pre_getD (sortsA_pre (List.take_prefix (j + 1) l)) (i := j) (by rw [sortsA_len, List.length_take]; omega)
 rw [h2, h1, List.getD_eq_getElem?_getD, List.getElem?_append_right (by rw [sortsA_len, List.length_take]; omega), sortsA_len, List.length_take, show j - min j l.length = 0 by omega]
 rfl
theorem nsort_val {op im : Int} {k : List Int} (ho : valOp op) (hk : (k.length : Int) = ar op) (hi : vImm op im = true) (h1 : ∀ x ∈ k, x = 1) : nsort op im k = 1 := by
 unfold valOp at ho
 have ha : arOk op = true := by unfold arOk; rw [decide_eq_true_eq]; omega
 unfold nsort
 rw [if_neg (by simp [ha, hk, hi]), if_neg (by omega), if_neg (by omega)]
 by_cases h22 : op = 22
 ·subst h22
  have h3 : k.length = 3 := by have : ar 22 = 3 := by decide
                               omega
  match k, h3 with
  | [a, b, c], _ =>
    have ea := h1 a (by simp)
    have eb := h1 b (by simp)
    have ec := h1 c (by simp)
    subst ea eb ec
    rfl
 ·rw [if_neg h22, if_neg (by omega), if_neg (by omega), if_neg (by omega), if_neg (by omega), if_pos]
  rw [List.all_eq_true]
  intro x hx
  simp [h1 x hx]
theorem sstep_one {out : List Int} {n : Nd} (ho : valOp n.op) (hk : (n.ks.length : Int) = ar n.op) (hi : vImm n.op n.im = true) (h1 : ∀ q ∈ n.ks, 0 <= q /\ q < out.length /\ out.getD q.toNat 0 = 1) : sstep out n = 1 := by
 unfold sstep
 rw [if_pos, nsort_val ho (by rw [List.length_map]; exact hk) hi]
 ·intro x hx
  obtain ⟨q, hq, rfl⟩ := List.mem_map.1 hx
  exact (h1 q hq).2.2
 ·rw [List.all_eq_true]
  intro q hq
  have := h1 q hq
  unfold kidOk
  simp only [Bool.and_eq_true, decide_eq_true_eq]
  omega
theorem sstep_take {l : List Nd} {n : Nd} {j : Nat} (hw : WFN l) (h : l[j]? = some n) : sstep (sortsA l) n = (sortsA l).getD j 0 := by
 have h1 := sortsA_at h
 have hlt := (List.getElem?_eq_some_iff.1 h).1
 have h2 : (sortsA l).getD j 0 ≠ 0 := by
  refine hw _ ?_
  rw [List.getD_eq_getElem?_getD, List.getElem?_eq_getElem (by rw [sortsA_len]; exact hlt)]
  exact List.getElem_mem _
 rw [h1] at h2 ⊢
 have hp := sortsA_pre (List.take_prefix j l)
 have hl : (sortsA (l.take j)).length <= (sortsA l).length := by rw [sortsA_len, sortsA_len, List.length_take]; omega
 generalize sortsA (l.take j) = a at *
 generalize sortsA l = b at *
 unfold sstep at h2 ⊢
 by_cases hk : n.ks.all (kidOk a) = true
 ·rw [if_pos hk]
  have hk2 := List.all_eq_true.1 hk
  have hg : ∀ q ∈ n.ks, b.getD q.toNat 0 = a.getD q.toNat 0 /\ kidOk b q = true := fun q hq => by
   have h3 := hk2 q hq
   unfold kidOk at h3 ⊢
   simp only [Bool.and_eq_true, decide_eq_true_eq] at h3 ⊢
   have e := pre_getD hp (i := q.toNat) (by omega)
   rw [e]
   exact ⟨rfl, h3.1, by omega, h3.2.2⟩
  rw [if_pos (List.all_eq_true.2 fun q hq => (hg q hq).2)]
  congr 1
  exact List.map_congr_left fun q hq => (hg q hq).1
 ·rw [if_neg hk] at h2
  exact absurd rfl h2
theorem putA_sort {l : List Nd} {n : Nd} (hw : WFN l) (hn : sstep (sortsA l) n = 1) : WFN (putA l n).1 /\ (sortsA (putA l n).1).getD (putA l n).2.toNat 0 = 1 := by
 have h1 := hw.put (n := n) (by rw [hn]; decide)
 refine ⟨h1, ?_⟩
 have h2 := (putA_at l n).1
 rw [<- sstep_take h1 h2]
 unfold putA at h1 ⊢
 cases e : fidx n l 0 with
 | some i => exact hn
 | none =>
   rw [e] at h1
   dsimp only at h1 ⊢
   have h3 : (l ++ [n])[l.length]? = some n := by simp
   rw [sstep_take h1 h3, sortsA_at h3, List.take_left, hn]
def isV (l : List Nd) (q : Int) : Prop := 0 <= q /\ q < l.length /\ (sortsA l).getD q.toNat 0 = 1
theorem isV.mono {l y : List Nd} {q : Int} (h : isV l q) (hp : l <+: y) : isV y q := by
 refine ⟨h.1, by have := hp.length_le; have := h.2.1; omega, ?_⟩
 rw [pre_getD (sortsA_pre hp) (by rw [sortsA_len]; have := h.2.1; have := h.1; omega)]
 exact h.2.2
theorem valOp_imm {op im iv ni : Int} (ho : valOp op) (h : vIm op im iv ni = true) {imms : List Int} (hz : ∀ i : Nat, imms.getD i 0 = 0) : vImm op (immV iv im imms) = true := by
 unfold valOp at ho
 unfold vImm immV
 simp only [vIm, decide_eq_true_eq] at h ⊢
 have := hz (iv - 1).toNat
 have hm := mxI_cases (op := op) (by omega)
 split <;> omega
mutual
theorem instA_sort : ∀ (t : T) (vars imms : List Int) (l : List Nd) (s ni : Int) (vs : List Int), t.vo -> (valP t s ni vs).1 = true -> vs.length = vars.length -> (∀ i : Nat, imms.getD i 0 = 0) -> (∀ q ∈ vars, isV l q) -> WFN l -> WFN (instA t vars imms l).1 /\ isV (instA t vars imms l).1 (instA t vars imms l).2
 | .mk v op im iv ks, vars, imms, l, s, ni, vs, hvo, hval, hlen, hz, hq, hw => by
   by_cases hv : v = 0
   ·have hv1 : ¬ 0 < v := by omega
    rw [instA_node hv1]
    by_cases hn : nodeOk op im iv ks.length s ni
    ·rw [valP_node hv hn] at hval
     have hvo2 : valOp op /\ vos ks := by
      rw [T.vo] at hvo
      exact hvo.resolve_left hv1
     have h1 := instAs_sort ks vars imms l (opk op) ni vs hvo2.2 hval hlen hz hq hw
     have hl := (instAs_len ks vars imms l).2.2
     have hst : sstep (sortsA (instAs ks vars imms l).1) ⟨op, immV iv im imms, (instAs ks vars imms l).2⟩ = 1 := by
      refine sstep_one hvo2.1 ?_ (valOp_imm hvo2.1 hn.2.2.2 hz) fun q hq => ?_
      ·show (((instAs ks vars imms l).2.length : Nat) : Int) = ar op
       rw [hl, hn.2.1]
       exact opk_ar hn.1
      ·have := h1.2 q hq
       rw [sortsA_len]
       exact this
     have h2 := putA_sort h1.1 hst
     have h3 := putA_at (instAs ks vars imms l).1 ⟨op, immV iv im imms, (instAs ks vars imms l).2⟩
     exact ⟨h2.1, h3.2.1, h3.2.2, h2.2⟩
    ·rw [valP_no hv hn] at hval
     cases hval
   ·by_cases hb : badVar v op im iv ks.length vs.length
    ·rw [valP_bad hv hb] at hval
     cases hval
    ·unfold badVar at hb
     have hv1 : 0 < v := by omega
     rw [instA_var hv1]
     have hlt : (v - 1).toNat < vars.length := by omega
     refine ⟨hw, hq _ ?_⟩
     rw [List.getD_eq_getElem?_getD, List.getElem?_eq_getElem hlt]
     exact List.getElem_mem _
theorem instAs_sort : ∀ (ks : List T) (vars imms : List Int) (l : List Nd) (q : List Int) (ni : Int) (vs : List Int), vos ks -> (valPs ks q ni vs).1 = true -> vs.length = vars.length -> (∀ i : Nat, imms.getD i 0 = 0) -> (∀ q ∈ vars, isV l q) -> WFN l -> WFN (instAs ks vars imms l).1 /\ ∀ k ∈ (instAs ks vars imms l).2, isV (instAs ks vars imms l).1 k
 | [], vars, imms, l, q, ni, vs, hvo, hval, hlen, hz, hq, hw => ⟨hw, fun k hk => by cases hk⟩
 | t :: r, vars, imms, l, q, ni, vs, hvo, hval, hlen, hz, hq, hw => by
   rw [valPs] at hval
   have hlv := valP_len t (q.headD 0) ni vs
   rcases e : valP t (q.headD 0) ni vs with ⟨b, vs2⟩
   rw [e] at hval hlv
   cases b
   ·cases hval
   ·have h1 := instA_sort t vars imms l (q.headD 0) ni vs hvo.1 (by rw [e]) hlen hz hq hw
    have hp := instA_pre t vars imms l
    have h2 := instAs_sort r vars imms (instA t vars imms l).1 q.tail ni vs2 hvo.2 hval (by rw [<- hlen]; exact hlv) hz (fun x hx => (hq x hx).mono hp) h1.1
    rw [instAs]
    refine ⟨h2.1, fun k hk => ?_⟩
    rcases List.mem_cons.1 hk with rfl | hk
    ·exact h1.2.mono (instAs_pre r vars imms _)
    ·exact h2.2 k hk
end
end Go.M15
