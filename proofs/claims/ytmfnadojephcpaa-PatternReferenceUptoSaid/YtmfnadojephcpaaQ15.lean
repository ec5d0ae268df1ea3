import Derived.Test.YtmfnadojephcpaaN15
set_option linter.unusedVariables false
namespace Go.M15
open Go.Pv
structure Ins where
 k : Int
 a : Int
 b : Int
 op : Int
 im : Int
 iv : Int
 deriving DecidableEq
structure St where
 l : List Ins
 next : Int
 vars : List Int
def pad (vs : List Int) (v : Int) : List Int := vs ++ List.replicate (v.toNat - vs.length) (-1)
mutual
def comp : T -> Int -> St -> St
 | .mk v op im iv ks, at_, st =>
   if 0 < v then
    if 0 <= (pad st.vars v).getD (v - 1).toNat 0 then { st with l := st.l ++ [⟨2, at_, (pad st.vars v).getD (v - 1).toNat 0, 0, 0, 0⟩], vars := pad st.vars v }
    else { st with vars := (pad st.vars v).set (v - 1).toNat at_ }
   else comps ks st.next 0 { l := st.l ++ [⟨1, at_, st.next, op, im, iv⟩], next := st.next + ks.length, vars := st.vars }
def comps : List T -> Int -> Nat -> St -> St
 | [], _, _, st => st
 | t :: r, b, i, st => comps r b (i + 1) (comp t (b + i) st)
end
mutual
def T.wf : T -> Prop
 | .mk v op _ _ ks => (v = 0 /\ (ks.length : Int) = ar op /\ wfs ks) \/ (1 <= v /\ v <= 6 /\ ks = [])
def wfs : List T -> Prop
 | [] => True
 | t :: r => t.wf /\ wfs r
end
theorem wf_kid : ∀ {ks : List T} {t : T}, wfs ks -> t ∈ ks -> t.wf
 | x :: r, t, h, hm => by
   rcases List.mem_cons.1 hm with rfl | hm
   ·exact h.1
   ·exact wf_kid h.2 hm
theorem wfs_drop : ∀ {ks : List T} {i : Nat}, wfs ks -> wfs (ks.drop i)
 | [], i, h => by simp [wfs]
 | x :: r, 0, h => h
 | x :: r, i + 1, h => wfs_drop (ks := r) (i := i) h.2
mutual
theorem valP_wf : ∀ (t : T) (s imms : Int) (vs : List Int), vs.length <= 6 -> (valP t s imms vs).1 = true -> t.wf
 | .mk v op im iv ks, s, imms, vs, hl, h => by
   by_cases hv : v = 0
   ·by_cases hn : nodeOk op im iv ks.length s imms
    ·rw [valP_node hv hn] at h
     exact .inl ⟨hv, by rw [hn.2.1]; exact opk_ar hn.1, valPs_wf ks (opk op) imms vs hl h⟩
    ·rw [valP_no hv hn] at h
     cases h
   ·by_cases hb : badVar v op im iv ks.length vs.length
    ·rw [valP_bad hv hb] at h
     cases h
    ·unfold badVar at hb
     refine .inr ⟨by omega, by omega, List.eq_nil_of_length_eq_zero (by omega)⟩
theorem valPs_wf : ∀ (ks : List T) (q : List Int) (imms : Int) (vs : List Int), vs.length <= 6 -> (valPs ks q imms vs).1 = true -> wfs ks
 | [], _, _, _, _, _ => trivial
 | t :: r, q, imms, vs, hl, h => by
   rw [valPs] at h
   have hlen := valP_len t (q.headD 0) imms vs
   have ht := valP_wf t (q.headD 0) imms vs hl
   split at h
   ·rename_i vs' e
    rw [e] at ht hlen
    have hlen : vs'.length = vs.length := hlen
    exact ⟨ht rfl, valPs_wf r q.tail imms vs' (by omega) h⟩
   ·cases h
end
theorem valB_wf {t : T} (h : valB t 6 6 = true) : t.wf /\ t.size <= 24 := by
 unfold valB at h
 simp only [Bool.and_eq_true, decide_eq_true_eq] at h
 exact ⟨valP_wf t 0 6 _ (by simp) h.2.2, h.2.1⟩
mutual
theorem size_num : ∀ t : T, t.num <= 1000000000000000 -> t.size = t.num
 | .mk _ _ _ _ ks, h => by
   simp only [T.num] at h ⊢
   show sizes 1 ks = _
   rw [sizes_nums ks 1 (by omega) (by omega)]
   omega
theorem sizes_nums : ∀ (ks : List T) (n : Int), 0 <= n -> n + nums ks <= 1000000000000000 -> sizes n ks = n + nums ks
 | [], n, _, _ => by simp [sizes, nums]
 | t :: r, n, h0, h => by
   simp only [nums] at h ⊢
   have hp := num_pos t
   rw [sizes, size_num t (by omega), IntWalk.i64_in _ (by omega), sizes_nums r _ (by omega) (by omega)]
   omega
end
theorem pad_len {vs : List Int} {v : Int} : (pad vs v).length = max vs.length v.toNat := by
 unfold pad
 simp only [List.length_append, List.length_replicate]
 omega
mutual
theorem comp_bd : ∀ (t : T) (a : Int) (st : St), t.wf -> st.vars.length <= 6 -> st.next <= (comp t a st).next /\ (comp t a st).next + 1 <= st.next + t.num /\ (comp t a st).l.length <= st.l.length + t.num /\ (comp t a st).vars.length <= 6
 | .mk v op im iv ks, a, st, hw, hl => by
   rw [comp]
   rcases hw with ⟨rfl, h1, h2⟩ | ⟨h1, h2, rfl⟩
   ·rw [if_neg (by omega)]
    have := comps_bd ks st.next 0 { l := st.l ++ [⟨1, a, st.next, op, im, iv⟩], next := st.next + ks.length, vars := st.vars } h2 hl
    simp only [T.num, List.length_append, List.length_cons, List.length_nil] at this ⊢
    omega
   ·rw [if_pos (by omega)]
    have hp := pad_len (vs := st.vars) (v := v)
    split
    ·simp only [T.num, nums, List.length_append, List.length_cons, List.length_nil, hp]
     omega
    ·simp only [T.num, nums, List.length_set, hp]
     omega
theorem comps_bd : ∀ (ks : List T) (b : Int) (i : Nat) (st : St), wfs ks -> st.vars.length <= 6 -> st.next <= (comps ks b i st).next /\ (comps ks b i st).next + ks.length <= st.next + nums ks /\ (comps ks b i st).l.length <= st.l.length + nums ks /\ (comps ks b i st).vars.length <= 6
 | [], b, i, st, _, hl => by simp only [comps, nums, List.length_nil]; omega
 | t :: r, b, i, st, hw, hl => by
   have h1 := comp_bd t (b + i) st hw.1 hl
   have h2 := comps_bd r b (i + 1) (comp t (b + i) st) hw.2 h1.2.2.2
   rw [comps]
   simp only [nums, List.length_cons]
   omega
end
theorem nums_drop {ks : List T} {i : Nat} (h : i < ks.length) : nums (ks.drop i) = ks[i].num + nums (ks.drop (i + 1)) := by
 rw [List.drop_eq_getElem_cons h, nums]
theorem comps_step {ks : List T} {b : Int} {i : Nat} {st : St} (h : i < ks.length) : comps (ks.drop i) b i st = comps (ks.drop (i + 1)) b (i + 1) (comp ks[i] (b + i) st) := by
 rw [List.drop_eq_getElem_cons h, comps]
theorem comps_end {ks : List T} {b : Int} {i j : Nat} {st : St} (h : ks.length <= i) : comps (ks.drop i) b j st = st := by
 rw [List.drop_eq_nil_of_le h, comps]
def compB (t : T) : List Ins × List Int := if valB t 6 6 = true then ((comp t 0 ⟨[], 1, []⟩).l, (comp t 0 ⟨[], 1, []⟩).vars) else ([], [])
end Go.M15
namespace Go.Pv
open Go.M15
theorem ldNV_nil {sz : Nat} {cs : List IV} {off : Nat} {A : Prop} {K : Nat -> Nat -> Nat -> List IV -> Prop} (e : cs[off]? = some .nilslice) (ha : A) : ldNVS sz cs off A K := by
 unfold ldNVS; rw [e]; exact ha
theorem ldNV_v {sz : Nat} {cs : List IV} {off : Nat} {A : Prop} {K : Nat -> Nat -> Nat -> List IV -> Prop} {i : Nat} {a n : Nat} {c : List IV} (e : cs[off]? = some (.vslice (some i) a n sz c)) (hk : K i a n c) : ldNVS sz cs off A K := by
 unfold ldNVS; rw [e]; simpa using hk
theorem ldNH_nil {sz : Nat} {cs : List IV} {off : Nat} {A : Prop} {K : Nat -> Nat -> Nat -> Prop} (e : cs[off]? = some .nilslice) (ha : A) : ldNHS sz cs off A K := by
 unfold ldNHS; rw [e]; exact ha
theorem ldNH_h {sz : Nat} {cs : List IV} {off : Nat} {A : Prop} {K : Nat -> Nat -> Nat -> Prop} {i a n : Nat} (e : cs[off]? = some (.hslice i a n sz)) (hk : K i a n) : ldNHS sz cs off A K := by
 unfold ldNHS; rw [e]; simpa using hk
theorem ldI_at {k : IntKind} {cs : List IV} {off : Nat} {K : Int -> Prop} {n : Int} (e : cs[off]? = some (.int k n)) (hk : K n) : ldIS k cs off K := by
 unfold ldIS; rw [e]; simpa using hk
def cI (x : Ins) : List IV := [.int .i64 x.k, .int .i64 x.a, .int .i64 x.b, .int .i64 x.op, .int .i64 x.im, .int .i64 x.iv]
end Go.Pv
namespace Go.M15
open Go.Pv
def RL (h : Heap) (L : IV) (l : List Ins) : Prop := (L = .nilslice /\ l = []) \/ ∃ i, L = .vslice (some i) (l.length * 6) l.length 6 (l.flatMap cI) /\ h.get i = .tip (l.length * 6) /\ i < h.next
def RV (h : Heap) (id : Nat) (V : IV) (v : List Int) : Prop := (V = .nilslice /\ v = []) \/ ∃ j, V = .hslice j 0 v.length 1 /\ h.get j = .cells (v.map (IV.int .i64)) /\ j < h.next /\ j ≠ id
def lay (o : Bool) (L : IV) (n : Int) (V : IV) : List IV := match o with
 | true => [L, .int .i64 n, V]
 | false => [L, V, .int .i64 n]
def posV : Bool -> Nat
 | true => 2
 | false => 1
def posN : Bool -> Nat
 | true => 1
 | false => 2
def CS (o : Bool) (h : Heap) (id : Nat) (st : St) : Prop := id < h.next /\ ∃ L V, h.get id = .cells (lay o L st.next V) /\ RL h L st.l /\ RV h id V st.vars
theorem RL.fr {h h' : Heap} {L : IV} {l : List Ins} (r : RL h L l) (hn : h.next <= h'.next) (hf : ∀ i m, h.get i = .tip m -> i < h.next -> h'.get i = .tip m) : RL h' L l := by
 rcases r with r | ⟨i, h1, h2, h3⟩
 ·exact .inl r
 ·exact .inr ⟨i, h1, hf i _ h2 h3, Nat.lt_of_lt_of_le h3 hn⟩
theorem RV.fr {h h' : Heap} {id : Nat} {V : IV} {v : List Int} (r : RV h id V v) (hn : h.next <= h'.next) (hf : ∀ j cs, h.get j = .cells cs -> j < h.next -> j ≠ id -> h'.get j = .cells cs) : RV h' id V v := by
 rcases r with r | ⟨j, h1, h2, h3, h4⟩
 ·exact .inl r
 ·exact .inr ⟨j, h1, hf j _ h2 h3 h4, Nat.lt_of_lt_of_le h3 hn, h4⟩
section
variable {o : Bool} {g : Heap} {id : Nat} {st : St}
theorem CS.getV (c : CS o g id st) : (st.vars = [] /\ ∃ r, g.get id = .cells r /\ r[posV o]? = some .nilslice) \/
 ∃ r j, g.get id = .cells r /\ r[posV o]? = some (.hslice j 0 st.vars.length 1) /\ g.get j = .cells (st.vars.map (IV.int .i64)) /\ j < g.next /\ j ≠ id := by
 obtain ⟨h0, L, V, h1, h2, h3⟩ := c
 rcases h3 with ⟨rfl, h3⟩ | ⟨j, rfl, h3, h4, h5⟩
 ·exact .inl ⟨h3, _, h1, by cases o <;> rfl⟩
 ·exact .inr ⟨_, j, h1, by cases o <;> rfl, h3, h4, h5⟩
theorem CS.getL (c : CS o g id st) : (st.l = [] /\ ∃ r, g.get id = .cells r /\ r[0]? = some .nilslice) \/
 ∃ r i, g.get id = .cells r /\ r[0]? = some (.vslice (some i) (st.l.length * 6) st.l.length 6 (st.l.flatMap cI)) /\ g.get i = .tip (st.l.length * 6) /\ i < g.next := by
 obtain ⟨h0, L, V, h1, h2, h3⟩ := c
 rcases h2 with ⟨rfl, h2⟩ | ⟨j, rfl, h2, h4⟩
 ·exact .inl ⟨h2, _, h1, by cases o <;> rfl⟩
 ·exact .inr ⟨_, j, h1, by cases o <;> rfl, h2, h4⟩
theorem CS.getN (c : CS o g id st) : ∃ r, g.get id = .cells r /\ r[posN o]? = some (.int .i64 st.next) /\ r.length = 3 := by
 obtain ⟨h0, L, V, h1, h2, h3⟩ := c
 exact ⟨_, h1, by cases o <;> rfl, by cases o <;> rfl⟩
theorem CS.addV_nil (c : CS o g id st) (hv : st.vars = []) (x : Int) : ∃ r, (g.push (.cells [.int .i64 x])).get id = .cells r /\ r.length = 3 /\
 CS o ((g.push (.cells [.int .i64 x])).set id (.cells (r.take (posV o) ++ [.hslice g.next 0 1 1] ++ r.drop (posV o + 1)))) id ⟨st.l, st.next, [x]⟩ := by
 obtain ⟨h0, L, V, h1, h2, h3⟩ := c
 refine ⟨lay o L st.next V, by rw [get_push_lt h0, h1], by cases o <;> rfl, Nat.lt_succ_of_lt h0, L, .hslice g.next 0 1 1, ?_, ?_, .inr ⟨g.next, rfl, ?_, Nat.lt_succ_self _, Nat.ne_of_gt h0⟩⟩
 ·rw [get_set_eq]; cases o <;> rfl
 ·refine h2.fr (Nat.le_succ _) (fun i m h hl => ?_)
  rw [get_set_ne (fun e => by subst e; rw [h1] at h; cases h), get_push_lt hl, h]
 ·rw [get_set_ne (Nat.ne_of_gt h0), get_push_eq]; rfl
theorem CS.addV (c : CS o g id st) {r0 : List IV} {j : Nat} (e1 : g.get id = .cells r0) (e2 : r0[posV o]? = some (.hslice j 0 st.vars.length 1)) (e3 : g.get j = .cells (st.vars.map (IV.int .i64))) (e4 : j < g.next) (e5 : j ≠ id) (x : Int) :
 ∃ r, ((g.set j .dead).push (.cells (st.vars.map (IV.int .i64) ++ [.int .i64 x]))).get id = .cells r /\ r.length = 3 /\
 CS o (((g.set j .dead).push (.cells (st.vars.map (IV.int .i64) ++ [.int .i64 x]))).set id (.cells (r.take (posV o) ++ [.hslice g.next 0 (st.vars.length + 1) 1] ++ r.drop (posV o + 1)))) id ⟨st.l, st.next, st.vars ++ [x]⟩ := by
 obtain ⟨h0, L, V, h1, h2, h3⟩ := c
 have q : (g.set j .dead).next = g.next := rfl
 refine ⟨lay o L st.next V, by rw [get_push_lt (h := g.set j .dead) h0, get_set_ne e5.symm, h1], by cases o <;> rfl, Nat.lt_succ_of_lt h0, L, .hslice g.next 0 (st.vars.length + 1) 1, ?_, ?_, .inr ⟨g.next, by simp, ?_, Nat.lt_succ_self _, Nat.ne_of_gt h0⟩⟩
 ·rw [get_set_eq]; cases o <;> rfl
 ·refine h2.fr (Nat.le_succ _) (fun i m h hl => ?_)
  rw [get_set_ne (fun e => by subst e; rw [h1] at h; cases h), get_push_lt (h := g.set j .dead) hl, get_set_ne (fun e => by subst e; rw [e3] at h; cases h), h]
 ·rw [get_set_ne (Nat.ne_of_gt h0), <- q, get_push_eq]; simp
theorem CS.addL_nil (c : CS o g id st) (hl : st.l = []) (x : Ins) : ∃ r, (g.push (.tip 6)).get id = .cells r /\ r.length = 3 /\
 CS o ((g.push (.tip 6)).set id (.cells (.vslice (some g.next) 6 1 6 (cI x) :: r.drop 1))) id ⟨[x], st.next, st.vars⟩ := by
 obtain ⟨h0, L, V, h1, h2, h3⟩ := c
 refine ⟨lay o L st.next V, by rw [get_push_lt h0, h1], by cases o <;> rfl, Nat.lt_succ_of_lt h0, .vslice (some g.next) 6 1 6 (cI x), V, ?_, .inr ⟨g.next, by simp, ?_, Nat.lt_succ_self _⟩, ?_⟩
 ·rw [get_set_eq]; cases o <;> rfl
 ·rw [get_set_ne (Nat.ne_of_gt h0), get_push_eq]; rfl
 ·refine h3.fr (Nat.le_succ _) (fun j cs h hj hn => ?_)
  rw [get_set_ne hn, get_push_lt hj, h]
theorem CS.addL (c : CS o g id st) {i : Nat} (e3 : g.get i = .tip (st.l.length * 6)) (e4 : i < g.next) (x : Ins) :
 ∃ r, (g.set i (.tip (st.l.length * 6 + 6))).get id = .cells r /\ r.length = 3 /\
 CS o ((g.set i (.tip (st.l.length * 6 + 6))).set id (.cells (.vslice (some i) (st.l.length * 6 + 6) (st.l.length + 1) 6 (st.l.flatMap cI ++ cI x) :: r.drop 1))) id ⟨st.l ++ [x], st.next, st.vars⟩ := by
 obtain ⟨h0, L, V, h1, h2, h3⟩ := c
 have hne : id ≠ i := fun e => by subst e; rw [h1] at e3; cases e3
 refine ⟨lay o L st.next V, by rw [get_set_ne hne, h1], by cases o <;> rfl, h0, .vslice (some i) (st.l.length * 6 + 6) (st.l.length + 1) 6 (st.l.flatMap cI ++ cI x), V, ?_, .inr ⟨i, ?_, ?_, e4⟩, ?_⟩
 ·rw [get_set_eq]; cases o <;> rfl
 ·simp [Nat.succ_mul]
 ·rw [get_set_ne hne.symm, get_set_eq]; simp [Nat.succ_mul]
 ·refine h3.fr (Nat.le_refl _) (fun j cs h hj hn => ?_)
  rw [get_set_ne hn, get_set_ne (fun e => by subst e; rw [e3] at h; cases h), h]
theorem CS.setV (c : CS o g id st) {r0 : List IV} {j : Nat} (e1 : g.get id = .cells r0) (e2 : r0[posV o]? = some (.hslice j 0 st.vars.length 1)) (e4 : j < g.next) (e5 : j ≠ id) (vs : List Int) (hl : vs.length = st.vars.length) :
 CS o (g.set j (.cells (vs.map (IV.int .i64)))) id ⟨st.l, st.next, vs⟩ := by
 obtain ⟨h0, L, V, h1, h2, h3⟩ := c
 have hV : V = .hslice j 0 st.vars.length 1 := by
  rw [h1] at e1
  cases e1
  cases o <;> simpa [lay, posV] using e2
 subst hV
 refine ⟨h0, L, _, by rw [get_set_ne e5.symm, h1], ?_, .inr ⟨j, by rw [hl], get_set_eq, e4, e5⟩⟩
 refine h2.fr (Nat.le_refl _) (fun i m h hi => ?_)
 rw [get_set_ne (fun e => ?_), h]
 subst e
 rcases h3 with ⟨h3, _⟩ | ⟨j', h3, h4, _⟩
 ·cases h3
 ·cases h3
  rw [h4] at h
  cases h
theorem CS.setN (c : CS o g id st) (n : Int) {r : List IV} (e1 : g.get id = .cells r) : CS o (g.set id (.cells (r.take (posN o) ++ [.int .i64 n] ++ r.drop (posN o + 1)))) id ⟨st.l, n, st.vars⟩ := by
 obtain ⟨h0, L, V, h1, h2, h3⟩ := c
 rw [h1] at e1
 cases e1
 refine ⟨h0, L, V, by rw [get_set_eq]; cases o <;> rfl, ?_, ?_⟩
 ·refine h2.fr (Nat.le_refl _) (fun i m h hi => ?_)
  rw [get_set_ne (fun e => by subst e; rw [h1] at h; cases h), h]
 ·refine h3.fr (Nat.le_refl _) (fun j cs h hj hn => ?_)
  rw [get_set_ne hn, h]
end
theorem pad_succ {vs : List Int} {k : Nat} : vs ++ List.replicate k (-1 : Int) ++ [-1] = vs ++ List.replicate (k + 1) (-1) := by
 rw [List.append_assoc, List.replicate_succ']
end Go.M15
