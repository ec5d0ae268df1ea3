import Derived.Test.YtmfnadojephcpaaPvVS
import Derived.IntWalk
set_option linter.unusedVariables false
namespace Go.M15
inductive T where
 | mk (v op im iv : Int) (ks : List T)
 deriving Inhabited
def T.v : T -> Int | .mk v _ _ _ _ => v
def T.op : T -> Int | .mk _ op _ _ _ => op
def T.im : T -> Int | .mk _ _ im _ _ => im
def T.iv : T -> Int | .mk _ _ _ iv _ => iv
def T.ks : T -> List T | .mk _ _ _ _ ks => ks
mutual
def T.size : T -> Int
 | .mk _ _ _ _ ks => sizes 1 ks
def sizes (n : Int) : List T -> Int
 | [] => n
 | t :: r => sizes (IntKind.i64.wrap (n + t.size)) r
end
mutual
def T.num : T -> Nat
 | .mk _ _ _ _ ks => nums ks + 1
def nums : List T -> Nat
 | [] => 0
 | t :: r => t.num + nums r
end
theorem num_lt : ∀ {ks : List T} {t : T}, t ∈ ks -> t.num <= nums ks
 | x :: r, t, h => by
   rcases List.mem_cons.1 h with rfl | h
   ·simp only [nums]; omega
   ·have := num_lt h
    simp only [nums]; omega
theorem num_kid {t k : T} (h : k ∈ t.ks) : k.num < t.num := by
 cases t with
 | mk v op im iv ks =>
   have := num_lt (ks := ks) h
   simp only [T.num]
   omega
theorem sizes_take {ks : List T} {n : Int} : ∀ {i : Nat}, i < ks.length -> sizes n (ks.take (i + 1)) = IntKind.i64.wrap (sizes n (ks.take i) + (ks[i]?.getD default).size) := by
 intro i h
 induction ks generalizing n i with
 | nil => simp at h
 | cons x r ih =>
   cases i with
   | zero => simp [sizes]
   | succ i =>
     simp only [List.take_succ_cons, sizes]
     rw [ih (by simpa using h)]
     simp
def bnd : Nat -> Nat
 | 0 => 1
 | n + 1 => 3 * bnd n + 1
def i64b (n : Int) : Prop := -9223372036854775808 <= n /\ n <= 9223372036854775807
instance (n : Int) : Decidable (i64b n) := inferInstanceAs (Decidable (_ /\ _))
mutual
def T.ok : T -> Prop
 | .mk v op im iv ks => (i64b v /\ i64b op /\ i64b im /\ i64b iv) /\ oks ks
def oks : List T -> Prop
 | [] => True
 | t :: r => t.ok /\ oks r
end
theorem oks_append : ∀ {a b : List T}, oks (a ++ b) ↔ oks a /\ oks b
 | [], b => by simp [oks]
 | x :: a, b => by simp [oks, oks_append (a := a), and_assoc]
theorem nums_append : ∀ {a b : List T}, nums (a ++ b) = nums a + nums b
 | [], b => by simp [nums]
 | x :: a, b => by simp [nums, nums_append (a := a)]; omega
theorem ok_kid : ∀ {ks : List T} {t : T}, oks ks -> t ∈ ks -> t.ok
 | x :: r, t, h, hm => by
   rcases List.mem_cons.1 hm with rfl | hm
   ·exact h.1
   ·exact ok_kid h.2 hm
mutual
def T.thin : T -> Prop
 | .mk _ _ _ _ ks => ks.length <= 1000000000000000 /\ thins ks
def thins : List T -> Prop
 | [] => True
 | t :: r => t.thin /\ thins r
end
theorem num_pos (t : T) : 1 <= t.num := by cases t; simp only [T.num]; omega
theorem len_nums : ∀ ks : List T, ks.length <= nums ks
 | [] => Nat.le_refl _
 | t :: r => by have := len_nums r; have := num_pos t; simp only [nums, List.length_cons]; omega
mutual
theorem thin_num : ∀ t : T, t.num <= 1000000000000000 -> t.thin
 | .mk _ _ _ _ ks, h => by
   simp only [T.num] at h
   have := len_nums ks
   exact ⟨by omega, thins_nums ks (by omega)⟩
theorem thins_nums : ∀ ks : List T, nums ks <= 1000000000000000 -> thins ks
 | [], _ => trivial
 | t :: r, h => by
   simp only [nums] at h
   exact ⟨thin_num t (by omega), thins_nums r (by omega)⟩
end
theorem thin_kid : ∀ {ks : List T} {t : T}, thins ks -> t ∈ ks -> t.thin
 | x :: r, t, h, hm => by
   rcases List.mem_cons.1 hm with rfl | hm
   ·exact h.1
   ·exact thin_kid h.2 hm
theorem thin_ks {t : T} (h : t.thin) : t.ks.length <= 1000000000000000 /\ thins t.ks := by cases t; exact h
theorem size_ks (t : T) : t.size = sizes 1 t.ks := by cases t; rfl
theorem sizes_next {ks : List T} {n : Int} {i : Nat} (h : i < ks.length) : sizes n (ks.take (i + 1)) = IntKind.i64.wrap (sizes n (ks.take i) + sizes 1 ks[i].ks) := by
 rw [sizes_take h, List.getElem?_eq_getElem h, <- size_ks]
 rfl
def ar (op : Int) : Int :=
 if op = 1 \/ op = 2 \/ op = 3 \/ op = 26 then 0
 else if op = 20 \/ op = 21 \/ op = 24 \/ op = 25 then 1
 else if (4 <= op /\ op <= 19) \/ op = 23 \/ op = 27 \/ op = 29 then 2
 else if op = 22 \/ op = 28 then 3
 else if op = 30 \/ op = 31 then -1 else 0
def arOk (op : Int) : Bool := decide (1 <= op /\ op <= 31)
def sort (op : Int) : Int := if op = 27 \/ op = 28 \/ op = 29 then 2 else 1
def osort (op k : Int) : Int := if k = 0 /\ (sort op = 2 \/ op = 23 \/ op = 24) then 2 else 1
def hasImm (op : Int) : Bool := decide (op = 1 \/ op = 23 \/ op = 27 \/ op = 28)
end Go.M15
namespace Go.Pv
theorem hget_intro {h : Heap} {id : Nat} {cs : List IV} {K : List IV -> Prop} (e : h.get id = .cells cs) (hk : K cs) : hgetS h id K := by
 unfold hgetS; rw [e]; exact hk
theorem tip_intro {h : Heap} {id m : Nat} {K : Nat -> Prop} (e : h.get id = .tip m) (hk : K m) : tipS h id K := by
 unfold tipS; rw [e]; exact hk
theorem ldV0 {sz : Nat} {io : Option Nat} {e n : Nat} {cs r : List IV} {K : Option Nat -> Nat -> Nat -> List IV -> Prop} (hk : K io e n cs) : ldVS sz (.vslice io e n sz cs :: r) 0 K := by
 unfold ldVS
 simpa using hk
theorem get_set_eq {h : Heap} {id : Nat} {x : IObj} : (h.set id x).get id = x := by rw [Heap.get_set, if_pos rfl]
theorem get_set_ne {h : Heap} {id j : Nat} {x : IObj} (hn : j ≠ id) : (h.set id x).get j = h.get j := by rw [Heap.get_set, if_neg hn]
theorem get_push_eq {h : Heap} {x : IObj} : (h.push x).get h.next = x := by rw [Heap.get_push, if_pos rfl]
theorem get_push_lt {h : Heap} {j : Nat} {x : IObj} (hn : j < h.next) : (h.push x).get j = h.get j := by rw [Heap.get_push, if_neg (by omega)]
theorem next_set {h : Heap} {id : Nat} {x : IObj} : (h.set id x).next = h.next := rfl
theorem next_push {h : Heap} {x : IObj} : (h.push x).next = h.next + 1 := rfl
def HF (id : Nat) (h h' : Heap) : Prop := h.next <= h'.next /\ ∀ j, j < h.next -> j ≠ id -> h'.get j = h.get j
theorem HF.refl {id : Nat} {h : Heap} : HF id h h := ⟨Nat.le_refl _, fun _ _ _ => rfl⟩
theorem HF.trans {id : Nat} {a b c : Heap} (x : HF id a b) (y : HF id b c) : HF id a c :=
 ⟨Nat.le_trans x.1 y.1, fun j hj hn => by rw [y.2 j (Nat.lt_of_lt_of_le hj x.1) hn, x.2 j hj hn]⟩
theorem HF.set {id : Nat} {h : Heap} {x : IObj} : HF id h (h.set id x) := ⟨Nat.le_refl _, fun j _ hn => get_set_ne hn⟩
theorem HF.push {id : Nat} {h : Heap} {x : IObj} : HF id h (h.push x) := ⟨Nat.le_succ _, fun j hj _ => get_push_lt hj⟩
end Go.Pv
namespace Go.M15
open Go.Pv
theorem wrap_b (n : Int) : i64b (IntKind.i64.wrap n) := by
 unfold i64b
 rw [IntKind.wrap_i64]
 omega
theorem bnd_pos : ∀ n, 1 <= bnd n
 | 0 => Nat.le_refl _
 | n + 1 => by have := bnd_pos n; simp only [bnd]; omega
def RD (h : Heap) (id : Nat) : Prop := id < h.next /\ ∃ io e lp, ∃ l : List Int, (∀ x ∈ l, i64b x) /\ h.get id = .cells [.vslice io e l.length 1 (l.map (IV.int .i64)), .int .i64 lp]
theorem RD.push {h : Heap} {id : Nat} {x : IObj} (r : RD h id) : RD (h.push x) id := by
 obtain ⟨h1, io, e, lp, l, h2, h3⟩ := r
 exact ⟨Nat.lt_succ_of_lt h1, io, e, lp, l, h2, by rw [get_push_lt h1]; exact h3⟩
theorem RD.set {h : Heap} {id i : Nat} {x : IObj} (r : RD h id) (hn : i ≠ id) : RD (h.set i x) id := by
 obtain ⟨h1, io, e, lp, l, h2, h3⟩ := r
 exact ⟨h1, io, e, lp, l, h2, by rw [get_set_ne (fun e => hn e.symm)]; exact h3⟩
def GH (h : Heap) (id : Nat) (h2 : Heap) : Prop := RD h2 id /\ HF id h h2
theorem GH.push {h h2 : Heap} {id : Nat} {x : IObj} (g : GH h id h2) : GH h id (h2.push x) := ⟨g.1.push, g.2.trans HF.push⟩
theorem GH.set {h h2 : Heap} {id i : Nat} {x : IObj} (g : GH h id h2) (hi : h.next <= i) (hn : i ≠ id) : GH h id (h2.set i x) :=
 ⟨g.1.set hn, g.2.1, fun j hj hne => by rw [get_set_ne (by omega)]; exact g.2.2 j hj hne⟩
theorem GH.trans {h h1 h2 : Heap} {id : Nat} (g : GH h id h1) (k : GH h1 id h2) : GH h id h2 := ⟨k.1, g.2.trans k.2⟩
end Go.M15
namespace Go.Pv
open Go.M15
mutual
def cT : T -> List IV
 | .mk v op im iv ks => [.int .i64 v, .int .i64 op, .int .i64 im, .int .i64 iv, .vslice none 0 ks.length 5 (cTs ks)]
def cTs : List T -> List IV
 | [] => []
 | t :: r => cT t ++ cTs r
end
def rT (ks : List T) : IV := .vslice none 0 ks.length 5 (cTs ks)
theorem cT_len (t : T) : (cT t).length = 5 := by cases t; rfl
theorem cTs_len : ∀ ks : List T, (cTs ks).length = ks.length * 5
 | [] => rfl
 | t :: r => by simp only [cTs, List.length_append, cT_len, cTs_len r, List.length_cons]; omega
theorem cTs_append : ∀ (a b : List T), cTs (a ++ b) = cTs a ++ cTs b
 | [], b => rfl
 | x :: a, b => by simp only [List.cons_append, cTs, cTs_append a b, List.append_assoc]
theorem cTs_at : ∀ {ks : List T} {i j : Nat} (h : i < ks.length), j < 5 -> (cTs ks)[i * 5 + j]? = (cT ks[i])[j]?
 | x :: r, 0, j, _, hj => by
   rw [cTs, Nat.zero_mul, Nat.zero_add, List.getElem?_append_left (by rw [cT_len]; exact hj)]
   rfl
 | x :: r, i + 1, j, h, hj => by
   rw [cTs, List.getElem?_append_right (by rw [cT_len]; omega), cT_len, show (i + 1) * 5 + j - 5 = i * 5 + j by omega]
   exact cTs_at (ks := r) (by simpa using h) hj
theorem ldT {ks : List T} {i o : Nat} {K : Int -> Int -> Int -> Int -> Option Nat -> Nat -> Nat -> List IV -> Prop} (h : i < ks.length) (ho : o = i * 5)
 (hk : K ks[i].v ks[i].op ks[i].im ks[i].iv none 0 ks[i].ks.length (cTs ks[i].ks)) :
 ldIS .i64 (cTs ks) o fun a => ldIS .i64 (cTs ks) (o + 1) fun b => ldIS .i64 (cTs ks) (o + 1 + 1) fun c => ldIS .i64 (cTs ks) (o + 1 + 1 + 1) fun d => ldVS 5 (cTs ks) (o + 1 + 1 + 1 + 1) fun p q r s => K a b c d p q r s := by
 subst ho
 have e0 := cTs_at (j := 0) h (by omega)
 have e1 := cTs_at (j := 1) h (by omega)
 have e2 := cTs_at (j := 2) h (by omega)
 have e3 := cTs_at (j := 3) h (by omega)
 have e4 := cTs_at (j := 4) h (by omega)
 generalize ks[i] = t at *
 cases t
 unfold ldIS ldVS
 simp only [Nat.add_zero] at e0
 simp only [Nat.add_assoc, Nat.reduceAdd, e0, e1, e2, e3, e4]
 exact hk
theorem pureL_app : ∀ {l m : List IV}, pureL (l ++ m) = (pureL l && pureL m) := pureL_append
mutual
theorem pureL_cT : ∀ t : T, pureL (cT t) = true
 | .mk v op im iv ks => by simp only [cT, pureL, pureB, pureL_cTs ks, Bool.and_true]
theorem pureL_cTs : ∀ ks : List T, pureL (cTs ks) = true
 | [] => rfl
 | t :: r => by simp only [cTs, pureL_append, pureL_cT t, pureL_cTs r, Bool.and_true]
end
end Go.Pv
