/-
  Terms with loops: what reading a node's text gives, in plain Lean.
  Conditions: none.
-/
import Derived.Test.YthoehkkoaegeoaaZ10
import Derived.Test.YthoehkkoaegeoaaG10
import Derived.KernelRfl
set_option linter.unusedVariables false
namespace Go.M10
open Go.M15 Go.Pv Go.M29
/-- nodes that can be printed -/
def PGL (l : List Nd) : Prop := Back l ∧ (∀ n ∈ l, (1 ≤ n.op ∧ n.op ≤ 31) ∧ (n.op ≠ 3 ∧ n.op ≠ 30) ∧ i64b n.im ∧ n.ks.length ≤ 1000000 ∧ (lf n.op = true → n.ks = [])) ∧ l.length ≤ 1000000
def WFG (l : List Nd) : Prop := ∀ s ∈ sortsG l, s ≠ 0
/-- what is read so far -/
structure RG5 (l y : List Nd) : Prop where
  ok : ∀ n ∈ y, okY n ∧ n.ks.length ≤ 40 ∧ (n.op ≠ 3 ∧ n.op ≠ 30) ∧ vImm n.op n.im = true ∧ Tl n
  nd : y.Nodup
  bk : Back y
  src : ∀ q, q < y.length → ∃ i, i < l.length ∧ T10 y q = T10 l i
  sl : l.length ≤ 1000000
theorem RG5.tl {l y : List Nd} (g : RG5 l y) : ∀ n ∈ y, Tl n := fun n hn => (g.ok n hn).2.2.2.2
theorem RG5.len {l y : List Nd} (g : RG5 l y) : y.length ≤ l.length := by
  have h1 : ((List.range y.length).map (T10 y)).length = y.length := by simp
  have h2 : ((List.range l.length).map (T10 l)).length = l.length := by simp
  rw [← h1, ← h2]
  refine len_le_of_nodup _ _ ?_ fun x hx => ?_
  · rw [List.Nodup, List.pairwise_map]
    refine List.Pairwise.imp_of_mem (R := fun a b => a ≠ b) (fun ha hb hne e => ?_) List.nodup_range
    rw [List.mem_range] at ha hb
    exact hne (T10_ne g.bk g.tl g.nd ha hb e)
  · obtain ⟨q, hq, rfl⟩ := List.mem_map.1 hx
    obtain ⟨i, hi, e⟩ := g.src q (List.mem_range.1 hq)
    exact List.mem_map.2 ⟨i, List.mem_range.2 hi, e.symm⟩
theorem RG5.lb {l y : List Nd} (g : RG5 l y) : y.length ≤ 1000000 := Nat.le_trans g.len g.sl
theorem RG5.nil {l : List Nd} (h : l.length ≤ 1000000) : RG5 l [] := ⟨fun n h => (List.not_mem_nil h).elim, List.nodup_nil, fun i n h => by simp at h, fun q h => (Nat.not_lt_zero _ h).elim, h⟩
theorem RG5.pgl {l y : List Nd} (g : RG5 l y) : PGL y := by
  refine ⟨g.bk, fun n hn => ?_, g.lb⟩
  have h := g.ok n hn
  exact ⟨h.1.1, h.2.2.1, h.1.2.2.1, by omega, h.2.2.2.2.2.2.2.2⟩
/-- what reading the operands gives -/
structure RK5 (l y : List Nd) (ks : List Int) (p : List Nd × List Int) : Prop where
  g : RG5 l p.1
  pre : y <+: p.1
  b : ∀ q ∈ p.2, 0 ≤ q ∧ q < p.1.length
  t : p.2.map (fun q => T10 p.1 q.toNat) = ks.map fun k => T10 l k.toNat
structure RR5 (l y : List Nd) (i : Int) (p : List Nd × Int) : Prop where
  g : RG5 l p.1
  pre : y <+: p.1
  b : 0 ≤ p.2 ∧ p.2 < p.1.length
  t : T10 p.1 p.2.toNat = T10 l i.toNat
theorem RK5.nil {l y : List Nd} (g : RG5 l y) : RK5 l y [] (y, []) := ⟨g, List.prefix_refl _, fun q h => (List.not_mem_nil h).elim, rfl⟩
theorem RK5.snoc {l y : List Nd} {ks : List Int} {k : Int} {p : List Nd × List Int} {r : List Nd × Int} (a : RK5 l y ks p) (c : RR5 l p.1 k r) : RK5 l y (ks ++ [k]) (r.1, p.2 ++ [r.2]) := by
  have hl := c.pre.length_le
  refine ⟨c.g, a.pre.trans c.pre, ?_, ?_⟩
  · intro q hq
    rcases List.mem_append.1 hq with hq | hq
    · have := a.b q hq
      exact ⟨this.1, by show q < (r.1.length : Int); omega⟩
    · rw [List.mem_singleton.1 hq]
      exact c.b
  · show (p.2 ++ [r.2]).map (fun q => T10 r.1 q.toNat) = _
    rw [List.map_append, List.map_append, ← a.t]
    congr 1
    · refine List.map_congr_left fun q hq => T10_pre c.pre (by have := a.b q hq; omega)
    · simp only [List.map_cons, List.map_nil]
      rw [c.t]
theorem back_snoc {y : List Nd} {n : Nd} (h : Back y) (hn : ∀ k ∈ n.ks, 0 ≤ k ∧ k < y.length) : Back (y ++ [n]) := by
  intro i m hi k hk
  rcases Nat.lt_or_ge i y.length with c | c
  · rw [List.getElem?_append_left c] at hi
    exact h i m hi k hk
  · rw [List.getElem?_append_right c] at hi
    rcases Nat.lt_or_ge (i - y.length) 1 with d | d
    · have : i - y.length = 0 := by omega
      rw [this] at hi
      simp at hi
      subst hi
      have := hn k hk
      omega
    · rw [List.getElem?_eq_none (by simpa using d)] at hi
      cases hi
/-- a node is put behind its operands -/
theorem RR5.put {l y : List Nd} (gl : RG5 l l) {i : Nat} (hi : i < l.length) {p : List Nd × List Int} (a : RK5 l y l[i].ks p) : RR5 l y i (putA p.1 ⟨l[i].op, l[i].im, p.2⟩) := by
  have hn := gl.ok _ (List.getElem_mem hi)
  have hle : p.2.length = l[i].ks.length := by
    have := congrArg List.length a.t
    simpa using this
  have hli := List.getElem?_eq_getElem hi
  have eT : ndT (tsA p.1) ⟨l[i].op, l[i].im, p.2⟩ = T10 l i := by
    rw [T10_at gl.bk hli]
    exact ndT_map a.t
  have tn : (i : Int).toNat = i := Int.toNat_natCast i
  cases e : fidx ⟨l[i].op, l[i].im, p.2⟩ p.1 0 with
  | some j =>
    have hp : putA p.1 ⟨l[i].op, l[i].im, p.2⟩ = (p.1, (j : Int)) := by unfold putA; rw [e]
    have hj := fidx_lt e
    have hg := fidx_get e
    rw [Nat.sub_zero] at hg
    rw [hp]
    refine ⟨a.g, a.pre, ⟨by simp, by show (j : Int) < (p.1.length : Int); omega⟩, ?_⟩
    show T10 p.1 (j : Int).toNat = _
    rw [Int.toNat_natCast, tn, T10_at a.g.bk hg, eT]
  | none =>
    have hp : putA p.1 ⟨l[i].op, l[i].im, p.2⟩ = (p.1 ++ [⟨l[i].op, l[i].im, p.2⟩], (p.1.length : Int)) := by unfold putA; rw [e]
    have hno := fidx_no e
    have hlb := a.g.lb
    have hpre : p.1 <+: p.1 ++ [(⟨l[i].op, l[i].im, p.2⟩ : Nd)] := List.prefix_append _ _
    have hT : T10 (p.1 ++ [(⟨l[i].op, l[i].im, p.2⟩ : Nd)]) p.1.length = T10 l i := by
      unfold T10 at eT ⊢
      rw [tsA_snoc, List.getD_eq_getElem?_getD, List.getElem?_append_right (by rw [tsA_len]; exact Nat.le_refl _), tsA_len, Nat.sub_self]
      exact eT
    rw [hp]
    refine ⟨⟨?_, ?_, back_snoc a.g.bk a.b, ?_, a.g.sl⟩, a.pre.trans hpre, ⟨by show (0 : Int) ≤ (p.1.length : Int); omega, by show (p.1.length : Int) < ((p.1 ++ [_]).length : Int); simp; omega⟩, ?_⟩
    · intro n h
      rcases List.mem_append.1 h with h | h
      · exact a.g.ok n h
      · rw [List.mem_singleton.1 h]
        refine ⟨⟨hn.1.1, hn.1.2.1, hn.1.2.2.1, fun q hq => ?_⟩, by show p.2.length ≤ 40; rw [hle]; exact hn.2.1, hn.2.2.1, hn.2.2.2.1, ?_⟩
        · have := a.b q hq
          unfold i64b
          omega
        · obtain ⟨t1, t2, t3, t4, t5⟩ := hn.2.2.2.2
          exact ⟨t1, t2, t3, t4, fun q => List.eq_nil_of_length_eq_zero (by show p.2.length = 0; rw [hle, t5 q]; rfl)⟩
    · exact List.nodup_append.2 ⟨a.g.nd, by simp, fun x hx z hz h => hno (by rw [List.mem_singleton] at hz; rw [← hz, ← h]; exact hx)⟩
    · intro q hq
      rcases Nat.lt_or_ge q p.1.length with h | h
      · obtain ⟨k, h1, h2⟩ := a.g.src q h
        exact ⟨k, h1, by rw [T10_pre hpre h, h2]⟩
      · have : q = p.1.length := by
          have h2 : q < (p.1 ++ [(⟨l[i].op, l[i].im, p.2⟩ : Nd)]).length := hq
          simp at h2
          omega
        subst this
        exact ⟨i, hi, hT⟩
    · show T10 _ (p.1.length : Int).toNat = _
      rw [Int.toNat_natCast, tn, hT]
theorem rkA_ok5 {l : List Nd} {d : Nat} (ih : ∀ (y : List Nd) (i : Nat), i < d → i < l.length → RG5 l y → RR5 l y i (rdA l d y i)) {y : List Nd} (g : RG5 l y) : ∀ (j : Nat) (ks : List Int), (∀ k ∈ ks, 0 ≤ k ∧ k < d ∧ k < l.length) → j ≤ ks.length → RK5 l y (ks.take j) (rkA (rdA l d) y (ks.take j))
  | 0, ks, _, _ => RK5.nil g
  | j + 1, ks, hk, hj => by
    have h1 := rkA_ok5 ih g j ks hk (by omega)
    have hlt : j < ks.length := hj
    rw [rkA_take hlt, List.take_succ_eq_append_getElem hlt]
    refine RK5.snoc h1 ?_
    obtain ⟨k0, k1, k2⟩ := hk _ (List.getElem_mem hlt)
    have := ih (rkA (rdA l d) y (ks.take j)).1 ks[j].toNat (by omega) (by omega) h1.g
    rw [Int.toNat_of_nonneg k0] at this
    exact this
theorem rdA_ok5 {l : List Nd} (gl : RG5 l l) : ∀ (d : Nat) (y : List Nd) (i : Nat), i < d → i < l.length → RG5 l y → RR5 l y i (rdA l d y i)
  | 0, y, i, h, _, _ => by omega
  | d + 1, y, i, h, hi, g => by
    have hk : ∀ k ∈ l[i].ks, 0 ≤ k ∧ k < d ∧ k < l.length := fun k hk => by
      have := gl.bk i _ (List.getElem?_eq_getElem hi) k hk
      omega
    have := rkA_ok5 (rdA_ok5 gl d) g l[i].ks.length l[i].ks hk (Nat.le_refl _)
    rw [List.take_length] at this
    have h2 := RR5.put gl hi this
    rw [rdA]
    simp only [Int.toNat_natCast, getD_at hi]
    exact h2
/-! The graph of the statement: a loop of so many variables. -/
def kA : Nat → Nat → List Int
  | _, 0 => []
  | i, n + 1 => (1 + ((i % 2 : Nat) : Int)) :: kA (i + 1) n
def kB : Nat → Nat → List Int
  | _, 0 => []
  | i, n + 1 => (2 - ((i % 2 : Nat) : Int)) :: kB (i + 1) n
/-- the loop's operands -/
def lk (n : Nat) : List Int := 0 :: (kA 1 (n - 1) ++ (2 :: 0 :: kB 1 (n - 1)))
def lst (n : Nat) (m w : Int) : List Nd := [⟨26, 0, []⟩, ⟨1, 7, []⟩, ⟨2, 1, []⟩, ⟨31, m, lk n⟩, ⟨25, w, [3]⟩]
/-- what is read from its text -/
def yk (n : Nat) : List Int := (lk n).map fun k => if k = 1 then 2 else if k = 2 then 1 else k
def ylst (n : Nat) (m w : Int) : List Nd := if n = 1 then [⟨26, 0, []⟩, ⟨2, 1, []⟩, ⟨31, m, [0, 1, 0]⟩, ⟨25, w, [2]⟩] else [⟨26, 0, []⟩, ⟨2, 1, []⟩, ⟨1, 7, []⟩, ⟨31, m, yk n⟩, ⟨25, w, [3]⟩]
theorem rd_lst1 (m w : Int) : rdA (lst 1 m w) 5 [] 4 = (ylst 1 m w, 3) := by kernel_rfl
theorem rd_lst2 (m w : Int) : rdA (lst 2 m w) 5 [] 4 = (ylst 2 m w, 4) := by kernel_rfl
theorem rd_lst3 (m w : Int) : rdA (lst 3 m w) 5 [] 4 = (ylst 3 m w, 4) := by kernel_rfl
theorem rd_lst4 (m w : Int) : rdA (lst 4 m w) 5 [] 4 = (ylst 4 m w, 4) := by kernel_rfl
theorem rd_lst5 (m w : Int) : rdA (lst 5 m w) 5 [] 4 = (ylst 5 m w, 4) := by kernel_rfl
theorem rd_lst6 (m w : Int) : rdA (lst 6 m w) 5 [] 4 = (ylst 6 m w, 4) := by kernel_rfl
theorem rd_lst7 (m w : Int) : rdA (lst 7 m w) 5 [] 4 = (ylst 7 m w, 4) := by kernel_rfl
theorem rd_lst8 (m w : Int) : rdA (lst 8 m w) 5 [] 4 = (ylst 8 m w, 4) := by kernel_rfl
theorem rd_lst9 (m w : Int) : rdA (lst 9 m w) 5 [] 4 = (ylst 9 m w, 4) := by kernel_rfl
theorem rd_lst10 (m w : Int) : rdA (lst 10 m w) 5 [] 4 = (ylst 10 m w, 4) := by kernel_rfl
theorem rd_lst11 (m w : Int) : rdA (lst 11 m w) 5 [] 4 = (ylst 11 m w, 4) := by kernel_rfl
theorem rd_lst12 (m w : Int) : rdA (lst 12 m w) 5 [] 4 = (ylst 12 m w, 4) := by kernel_rfl
theorem rd_lst13 (m w : Int) : rdA (lst 13 m w) 5 [] 4 = (ylst 13 m w, 4) := by kernel_rfl
theorem rd_lst14 (m w : Int) : rdA (lst 14 m w) 5 [] 4 = (ylst 14 m w, 4) := by kernel_rfl
theorem rd_lst15 (m w : Int) : rdA (lst 15 m w) 5 [] 4 = (ylst 15 m w, 4) := by kernel_rfl
theorem rd_lst16 (m w : Int) : rdA (lst 16 m w) 5 [] 4 = (ylst 16 m w, 4) := by kernel_rfl
theorem rd_lst (n : Nat) (h1 : 1 ≤ n) (h2 : n ≤ 16) (m w : Int) : rdA (lst n m w) 5 [] 4 = (ylst n m w, if n = 1 then 3 else 4) := by
  have h : n = 1 ∨ n = 2 ∨ n = 3 ∨ n = 4 ∨ n = 5 ∨ n = 6 ∨ n = 7 ∨ n = 8 ∨ n = 9 ∨ n = 10 ∨ n = 11 ∨ n = 12 ∨ n = 13 ∨ n = 14 ∨ n = 15 ∨ n = 16 := by omega
  rcases h with rfl | rfl | rfl | rfl | rfl | rfl | rfl | rfl | rfl | rfl | rfl | rfl | rfl | rfl | rfl | rfl
  · exact rd_lst1 m w
  · exact rd_lst2 m w
  · exact rd_lst3 m w
  · exact rd_lst4 m w
  · exact rd_lst5 m w
  · exact rd_lst6 m w
  · exact rd_lst7 m w
  · exact rd_lst8 m w
  · exact rd_lst9 m w
  · exact rd_lst10 m w
  · exact rd_lst11 m w
  · exact rd_lst12 m w
  · exact rd_lst13 m w
  · exact rd_lst14 m w
  · exact rd_lst15 m w
  · exact rd_lst16 m w
end Go.M10
