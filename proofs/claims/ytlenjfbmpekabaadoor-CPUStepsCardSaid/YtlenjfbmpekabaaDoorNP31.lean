import Derived.Test.YtlenjfbmpekabaaDoorU30
import Derived.Test.YtlenjfbmpekabaaDoorW31
import Derived.Test.YtlenjfbmpekabaaDoorM13
import Derived.Test.YtlenjfbmpekabaaDoorPvVS
section
set_option linter.unusedVariables false
namespace Go.M31
open Go.Pv Go.M29 Go.M30 Go.M13
structure Fm where
 sl : List Int
 back : Int
structure CS where
 regs : List Int
 cells : List (List Int)
 frames : List Fm
 pc : Int
 fuel : Int
 over : Bool
 kind : Int
 code : Int
 val : Int
 out : List Int
def rg (s : CS) (a : Int) : Int := s.regs.getD a.toNat 0
def setR (s : CS) (a v : Int) : CS := { s with regs := s.regs.set a.toNat v }
def stopS (s : CS) (k c v : Int) : CS := { s with over := true, kind := k, code := c, val := v }
def topF (s : CS) : Fm := s.frames.getLastD ⟨[], 0⟩
def getF (f : Fm) (n : Int) : Int := f.sl.getD n.toNat 0
def setF (f : Fm) (n v : Int) : Fm := { f with sl := f.sl.set n.toNat v }
def setTop (s : CS) (f : Fm) : CS := { s with frames := s.frames.dropLast ++ [f] }
def compS (s : CS) (i : In) : CS :=
 if i.op = 1 then s
 else if i.op = 9 then { s with out := s.out ++ [rg s i.a] }
 else if i.op = 10 then setR s i.a (rg s i.b)
 else if i.op = 11 then (if rg s i.c = 0 then setR s i.a (rg s i.b) else s)
 else if i.op = 12 then (if rg s i.c = 0 then s else setR s i.a (rg s i.b))
 else if i.op = 13 \/ i.op = 14 then setR s i.a i.n
 else if i.op = 15 then setR s i.a (wun 20 (rg s i.a))
 else if i.op = 16 then setR s i.a (wun 21 (rg s i.a))
 else if i.op = 33 then setR s i.a (IntKind.i64.wrap (rg s i.a + i.n))
 else if i.op = 36 then setR s i.a (getF (topF s) i.n)
 else if i.op = 37 then setTop s (setF (topF s) i.n (rg s i.a))
 else if (i.op = 20 \/ i.op = 21) /\ rg s i.b = 0 then stopS s 2 1 0
 else setR s i.a (wbin (IntKind.i64.wrap (IntKind.i64.wrap (i.op - 17) + 4)) (rg s i.a) (rg s i.b))
def accS (s : CS) (i : In) : CS :=
 if 0 <= rg s i.b /\ rg s i.b < ((s.cells.getD i.n.toNat []).length : Int) then
  (if i.op = 34 then setR s i.a ((s.cells.getD i.n.toNat []).getD (rg s i.b).toNat 0)
   else { s with cells := s.cells.set i.n.toNat ((s.cells.getD i.n.toNat []).set (rg s i.b).toNat (rg s i.a)) })
 else stopS s 2 2 0
def clearR (regs : List Int) (a : Int) : List Int := regs.take a.toNat ++ List.replicate (regs.length - a.toNat) 0
def jumpS (B : Bi) (s : CS) (i : In) (nx : Int) : CS × Int :=
 if i.op = 2 then (if s.frames.length = 1 then (stopS s 1 0 (rg s 0), nx) else ({ s with frames := s.frames.dropLast, regs := [rg s 0, 0, 0, 0, 0, 0, 0, 0] }, (topF s).back))
 else if i.op = 6 then ({ s with frames := s.frames ++ [⟨List.replicate (B.s.getD i.n.toNat 0).toNat 0, nx⟩], regs := clearR s.regs i.a }, B.e.getD i.n.toNat 0)
 else if i.op = 5 then (s, IntKind.i64.wrap (s.pc + i.n))
 else if i.op = 7 then (if rg s i.a = 0 then (s, IntKind.i64.wrap (s.pc + i.n)) else (s, nx))
 else if i.op = 8 then (if rg s i.a = 0 then (s, nx) else (s, IntKind.i64.wrap (s.pc + i.n)))
 else (s, nx)
def insS (B : Bi) (s : CS) : In := (decR B.w s.pc).1
def nxS (B : Bi) (s : CS) : Int := IntKind.i64.wrap (s.pc + (rowOf (insS B s).op).wd)
def effS (B : Bi) (s : CS) : CS × Int :=
 let i := insS B s
 if i.op = 2 \/ i.op = 6 \/ i.op = 5 \/ i.op = 7 \/ i.op = 8 then jumpS B s i (nxS B s)
 else if i.op = 3 then (if s.fuel = 0 then (stopS s 3 0 0, nxS B s) else ({ s with fuel := IntKind.i64.wrap (s.fuel - 1) }, nxS B s))
 else if i.op = 4 then (stopS s 2 i.n 0, nxS B s)
 else if i.op = 34 \/ i.op = 35 then (accS s i, nxS B s)
 else (compS s i, nxS B s)
def finS (p : CS × Int) : CS := if p.1.over then p.1 else { p.1 with pc := p.2 }
def stepS (B : Bi) (s : CS) : CS := if s.over then s else finS (effS B s)
def initS (B : Bi) (f : Int) (args : List Int) (fuel : Int) : CS :=
 ⟨args ++ List.replicate (8 - args.length) 0, B.a.map fun n => List.replicate n.toNat 0, [⟨List.replicate (B.s.getD f.toNat 0).toNat 0, 0⟩], B.e.getD f.toNat 0, fuel, false, 0, 0, 0, []⟩
structure WF (B : Bi) (s : CS) : Prop where
 regs : s.regs.length = 8
 cells : s.cells.map List.length = B.a.map Int.toNat
 fr : s.frames ≠ []
 pc : St B.w s.pc
 back : ∀ j (h : j < s.frames.length), 0 < j -> St B.w s.frames[j].back
 size : ∀ f ∈ s.frames, f.sl.length <= 3000
theorem okin_np {op a b c n : Int} (hv : validI op a b c n = true) : (op = 6 -> 0 <= n /\ n <= 7) /\ ((op = 34 \/ op = 35) -> 0 <= n /\ n <= 3) /\ ((op = 36 \/ op = 37) -> 0 <= n /\ n <= 2999) := by
 unfold validI at hv
 simp only [Bool.and_eq_true, Bool.or_eq_true, decide_eq_true_eq, Bool.not_eq_true'] at hv
 obtain ⟨_, hn⟩ := hv
 refine ⟨fun e => ?_, fun e => ?_, fun e => ?_⟩
 ·subst e
  rcases hn with hn | hn
  ·simp [fmI, fN] at hn
  ·simpa [loI, hiI] using hn
 ·rcases e with e | e <;> subst e <;> rcases hn with hn | hn
  ·simp [fmI, fN] at hn
  ·simpa [loI, hiI] using hn
  ·simp [fmI, fN] at hn
  ·simpa [loI, hiI] using hn
 ·rcases e with e | e <;> subst e <;> rcases hn with hn | hn
  ·simp [fmI, fN] at hn
  ·simpa [loI, hiI] using hn
  ·simp [fmI, fN] at hn
  ·simpa [loI, hiI] using hn
theorem st_ins {B : Bi} (hv : VB B) (hw : ∀ x ∈ B.w, u32b x) {n : Int} (h : St B.w n) : ∃ k, ∃ h1 : k < (decA B.w).1.length, ∃ h2 : k < (decA B.w).2.1.length, (decA B.w).2.1[k] = n := by
 obtain ⟨k, h2, e⟩ := List.getElem_of_mem h
 have := (decA_ok hw hv.2.2.2.2.2.1).2.2.1
 exact ⟨k, by omega, h2, e⟩
theorem decAcc_at {w : List Int} : ∀ (n : Nat) (k : Int) (acc : List In) (pl : List Int), (decAcc w n k acc pl).2.2 = 0 -> acc.length = pl.length ->
  (∀ j (h : j < acc.length) (h' : j < pl.length), (decR w pl[j]).2.2 = 0 /\ (decR w pl[j]).1 = acc[j] /\ (if h2 : j + 1 < pl.length then pl[j + 1] else k) = pl[j] + (decR w pl[j]).2.1) ->
  ∀ j (h : j < (decAcc w n k acc pl).1.length) (h' : j < (decAcc w n k acc pl).2.1.length), (decR w (decAcc w n k acc pl).2.1[j]).2.2 = 0 /\ (decR w (decAcc w n k acc pl).2.1[j]).1 = (decAcc w n k acc pl).1[j] /\
   ∀ h2 : j + 1 < (decAcc w n k acc pl).2.1.length, (decAcc w n k acc pl).2.1[j + 1] = (decAcc w n k acc pl).2.1[j] + (decR w (decAcc w n k acc pl).2.1[j]).2.1
 | 0, k, acc, pl, h0, _, _ => by simp [decAcc] at h0
 | n + 1, k, acc, pl, h0, hl, hi => by
   rw [decAcc_succ] at h0 ⊢
   by_cases c1 : k < w.length
   ·simp only [if_pos c1] at h0 ⊢
    by_cases c2 : (decR w k).2.2 = 0
    ·simp only [if_pos c2] at h0 ⊢
     refine decAcc_at n _ _ _ h0 (by simp [hl]) fun j h h' => ?_
     by_cases hj : j < acc.length
     ·have hj' : j < pl.length := by omega
      obtain ⟨a1, a2, a3⟩ := hi j hj hj'
      rw [List.getElem_append_left hj', List.getElem_append_left hj]
      refine ⟨a1, a2, ?_⟩
      rw [dif_pos (by simp; omega)]
      by_cases hj2 : j + 1 < pl.length
      ·rw [dif_pos hj2] at a3
       rw [List.getElem_append_left hj2]
       exact a3
      ·rw [dif_neg hj2] at a3
       rw [List.getElem_append_right (by omega)]
       simpa using a3
     ·have e : j = acc.length := by simp at h; omega
      subst e
      have e2 : (pl ++ [k])[acc.length]'h' = k := by
       rw [List.getElem_append_right (by omega)]
       simp
      rw [e2]
      refine ⟨c2, ?_, ?_⟩
      ·rw [List.getElem_append_right (by omega)]
       simp
      ·rw [dif_neg (by simp; omega)]
    ·rw [if_neg c2] at h0
     exact absurd h0 c2
   ·simp only [if_neg c1] at h0 ⊢
    intro j h h'
    obtain ⟨a1, a2, a3⟩ := hi j h h'
    refine ⟨a1, a2, fun h2 => ?_⟩
    rw [dif_pos h2] at a3
    exact a3
theorem decA_at {w : List Int} (h0 : (decA w).2.2 = 0) (j : Nat) (h : j < (decA w).1.length) (h' : j < (decA w).2.1.length) :
  (decR w (decA w).2.1[j]).2.2 = 0 /\ (decR w (decA w).2.1[j]).1 = (decA w).1[j] /\ ∀ h2 : j + 1 < (decA w).2.1.length, (decA w).2.1[j + 1] = (decA w).2.1[j] + (decR w (decA w).2.1[j]).2.1 :=
 decAcc_at (w.length + 1) 0 [] [] h0 rfl (fun j h => absurd h (by simp)) j h h'
end Go.M31
namespace Go.M31
open Go.Pv Go.M29 Go.M30 Go.M13
open Classical in
noncomputable def newErr (B : Bi) (f : Int) (args : List Int) (fuel : Int) : Int :=
 if ¬ VB B then 204 else if f < 0 \/ (B.e.length : Int) <= f then 3 else if (args.length : Int) ≠ B.p.getD f.toNat 0 then 5 else if fuel < 0 \/ 1000 < fuel then 6 else 0
end Go.M31
end
section
set_option linter.unusedVariables false
namespace Go.M31
open Go.Pv Go.M29 Go.M30 Go.M13
theorem ins_ok {B : Bi} (hv : VB B) (hw : ∀ x ∈ B.w, u32b x) {n : Int} (h : St B.w n) : okIn (decR B.w n).1 = true /\ okJ B (decR B.w n).1 n /\ (0 <= n /\ n < B.w.length) /\
  ((decR B.w n).1.op ≠ 2 -> (decR B.w n).1.op ≠ 4 -> (decR B.w n).1.op ≠ 5 -> St B.w (IntKind.i64.wrap (n + (rowOf (decR B.w n).1.op).wd))) := by
 obtain ⟨k, h1, h2, e⟩ := st_ins hv hw h
 obtain ⟨v1, v2, v3, v4, v5, v6, v7, v8, v9, v10⟩ := hv
 obtain ⟨a1, a2, a3⟩ := decA_at v6 k h1 h2
 rw [e] at a1 a2 a3
 have hok := decA_ok hw v6
 obtain ⟨d1, d2, d3, d4, _⟩ := dec_words hw a1
 refine ⟨d2, ?_, d1, fun n2 n4 n5 => ?_⟩
 ·obtain ⟨i, q, e1, e2, e3⟩ := v10 k h1
  rw [List.getElem?_eq_getElem h1] at e1
  rw [List.getElem?_eq_getElem h2, e] at e2
  cases e1
  cases e2
  rw [a2]
  exact e3
 ·have hlast : k + 1 < (decA B.w).2.1.length := by
   rcases Nat.lt_or_ge (k + 1) (decA B.w).2.1.length with z | z
   ·exact z
   ·exfalso
    have hl : (decA B.w).1.getLast? = some (decA B.w).1[k] := by
     rw [List.getLast?_eq_getElem?, show (decA B.w).1.length - 1 = k by omega, List.getElem?_eq_getElem h1]
    have := v7 _ hl
    rw [<- a2] at this
    have hv' : validI (decR B.w n).1.op (decR B.w n).1.a (decR B.w n).1.b (decR B.w n).1.c (decR B.w n).1.n = true := d2
    unfold cfl at this
    rw [if_pos hv'] at this
    simp only [decide_eq_false_iff_not] at this
    exact this ⟨n2, n4, n5⟩
  have a4 := a3 hlast
  have hv' : validI (decR B.w n).1.op (decR B.w n).1.a (decR B.w n).1.b (decR B.w n).1.c (decR B.w n).1.n = true := d2
  have hwd := row_wd (ok_fields hv').1
  rw [encW_wlen] at d3
  have hm : (decA B.w).2.1[k + 1] ∈ (decA B.w).2.1 := List.getElem_mem hlast
  have hr := hok.2.1 _ hm
  rw [IntWalk.i64_in _ (by rw [hwd, <- d3, <- a4]; have : B.w.length <= 60000 := v1.2; omega), hwd, <- d3, <- a4]
  exact hm
theorem clearR_len (l : List Int) (a : Int) (h : a.toNat <= l.length) : (clearR l a).length = l.length := by
 unfold clearR
 simp
 omega
theorem dropLast_mem {α : Type} {l : List α} {x : α} (h : x ∈ l.dropLast) : x ∈ l := (List.dropLast_sublist l).subset h
theorem topF_mem {s : CS} (h : s.frames ≠ []) : topF s ∈ s.frames := by
 unfold topF
 rw [List.getLastD_eq_getLast?, List.getLast?_eq_some_getLast h]
 exact List.getLast_mem h
theorem topF_at {s : CS} (h : s.frames ≠ []) : s.frames[s.frames.length - 1]? = some (topF s) := by
 unfold topF
 rw [List.getLastD_eq_getLast?, <- List.getLast?_eq_getElem?, List.getLast?_eq_some_getLast h]
 rfl
theorem wf_setR {B : Bi} {s : CS} (h : WF B s) (a v : Int) : WF B (setR s a v) := ⟨by simp [setR, h.regs], h.cells, h.fr, h.pc, h.back, h.size⟩
theorem wf_stop {B : Bi} {s : CS} (h : WF B s) (a c v : Int) : WF B (stopS s a c v) := ⟨h.regs, h.cells, h.fr, h.pc, h.back, h.size⟩
theorem wf_setTop {B : Bi} {s : CS} (h : WF B s) {f : Fm} (hl : f.sl.length <= 3000) (hb : f.back = (topF s).back) : WF B (setTop s f) := by
 have hp := List.length_pos_iff.2 h.fr
 refine ⟨h.regs, h.cells, by simp [setTop], h.pc, fun j hj h0 => ?_, fun g hg => ?_⟩
 ·unfold setTop at hj ⊢
  simp only [List.length_append, List.length_dropLast, List.length_cons, List.length_nil] at hj
  simp only
  by_cases hj' : j < s.frames.dropLast.length
  ·rw [List.getElem_append_left hj', List.getElem_dropLast]
   exact h.back j (by simp at hj'; omega) h0
  ·have e : j = s.frames.length - 1 := by simp at hj'; omega
   subst e
   rw [List.getElem_append_right (by simp)]
   simp only [List.length_dropLast, Nat.sub_self, List.getElem_cons_zero]
   rw [hb]
   have := h.back (s.frames.length - 1) (by omega) h0
   have h2 := topF_at h.fr
   rw [List.getElem?_eq_getElem (by omega)] at h2
   rw [<- Option.some.inj h2]
   exact this
 ·unfold setTop at hg
  rcases List.mem_append.1 hg with z | z
  ·exact h.size g (dropLast_mem z)
  ·rw [List.mem_singleton] at z
   rw [z]; exact hl
theorem wf_ite {B : Bi} {p : Prop} [Decidable p] {a b : CS} (ha : WF B a) (hb : WF B b) : WF B (if p then a else b) := by
 by_cases h : p
 ·rw [if_pos h]; exact ha
 ·rw [if_neg h]; exact hb
theorem wf_comp {B : Bi} {s : CS} (h : WF B s) (i : In) : WF B (compS s i) := by
 have h37 : WF B (setTop s (setF (topF s) i.n (rg s i.a))) := by
  refine wf_setTop h ?_ rfl
  unfold setF
  simp only [List.length_set]
  exact h.size _ (topF_mem h.fr)
 unfold compS
 repeat' (refine wf_ite ?_ ?_)
 all_goals first
  | exact h37
  | exact h
  | exact wf_setR h _ _
  | exact wf_stop h _ _ _
  | exact ⟨h.regs, h.cells, h.fr, h.pc, h.back, h.size⟩
theorem wf_acc {B : Bi} {s : CS} (h : WF B s) (i : In) : WF B (accS s i) := by
 unfold accS
 repeat' split
 ·exact wf_setR h _ _
 ·refine ⟨h.regs, ?_, h.fr, h.pc, h.back, h.size⟩
  simp only
  rw [<- h.cells]
  apply List.ext_getElem?
  intro j
  simp only [List.getElem?_map, List.getElem?_set]
  by_cases hj : i.n.toNat = j
  ·subst hj
   rw [if_pos rfl]
   split
   ·rename_i hl
    rw [List.getElem?_eq_getElem hl]
    simp only [Option.map_some, List.length_set, List.getD_eq_getElem?_getD, List.getElem?_eq_getElem hl, Option.getD_some]
   ·rename_i hl
    rw [List.getElem?_eq_none (by omega)]
  ·rw [if_neg hj]
 ·exact wf_stop h _ _ _
theorem getD_at {l : List Int} {j : Nat} {x : Int} (h : l[j]? = some x) : l.getD j 0 = x := by
 rw [List.getD_eq_getElem?_getD, h]; rfl
theorem wf_step {B : Bi} (hv : VB B) (hw : ∀ x ∈ B.w, u32b x) {s : CS} (h : WF B s) : WF B (stepS B s) := by
 unfold stepS
 split
 ·exact h
 obtain ⟨i1, i2, i3, i4⟩ := ins_ok hv hw h.pc
 have hv' : validI (insS B s).op (insS B s).a (insS B s).b (insS B s).c (insS B s).n = true := i1
 have hof := ok_fields hv'
 have hrn := okin_np hv'
 have key : WF B (effS B s).1 /\ ((effS B s).1.over = false -> St B.w (effS B s).2) := by
  unfold effS
  simp only
  split
  ·rename_i hj
   unfold jumpS
   split
   ·rename_i h2
    split
    ·exact ⟨wf_stop h _ _ _, fun z => by simp [stopS] at z⟩
    ·rename_i hl
     have hp := List.length_pos_iff.2 h.fr
     refine ⟨⟨rfl, h.cells, ?_, h.pc, fun j hj h0 => ?_, fun g hg => h.size g (dropLast_mem hg)⟩, fun _ => ?_⟩
     ·intro z
      have := congrArg List.length z
      simp at this
      omega
     ·simp only [List.length_dropLast] at hj
      simp only [List.getElem_dropLast]
      exact h.back j (by omega) h0
     ·have := h.back (s.frames.length - 1) (by omega) (by omega)
      have h2 := topF_at h.fr
      rw [List.getElem?_eq_getElem (by omega)] at h2
      rw [<- Option.some.inj h2]
      exact this
   ·rename_i h2
    split
    ·rename_i h6
     obtain ⟨_, j2, _⟩ := i2
     obtain ⟨b1, b2⟩ := j2 h6
     have hn := (hrn.1 h6).1
     have hne : (insS B s).n.toNat < B.e.length := by
      have : (insS B s).n < B.e.length := b1
      omega
     obtain ⟨x, y, z, e1, e2, e3, e4, e5, e6⟩ := hv.2.2.2.2.2.2.2.1 _ hne
     rw [getD_at e3, getD_at e1]
     refine ⟨⟨?_, h.cells, by simp, h.pc, fun j hj h0 => ?_, fun g hg => ?_⟩, fun _ => e4⟩
     ·simp only
      rw [clearR_len _ _ (by rw [h.regs]; omega)]
      exact h.regs
     ·simp only at hj ⊢
      by_cases hj' : j < s.frames.length
      ·rw [List.getElem_append_left hj']
       exact h.back j hj' h0
      ·rw [List.getElem_append_right (by omega)]
       simp only [List.length_append, List.length_cons, List.length_nil] at hj
       simp only [show j - s.frames.length = 0 by omega, List.getElem_cons_zero]
       exact i4 (by have : (insS B s).op = 6 := h6; unfold insS at this; omega) (by have : (insS B s).op = 6 := h6; unfold insS at this; omega) (by have : (insS B s).op = 6 := h6; unfold insS at this; omega)
     ·rcases List.mem_append.1 hg with q | q
      ·exact h.size g q
      ·rw [List.mem_singleton] at q
       rw [q]
       simp only [List.length_replicate]
       omega
    ·rename_i h6
     have hjmp : (insS B s).op = 5 \/ (insS B s).op = 7 \/ (insS B s).op = 8 := by omega
     have hst : St B.w (IntKind.i64.wrap (s.pc + (insS B s).n)) := i2.1 hjmp
     have hnx : (insS B s).op ≠ 5 -> St B.w (nxS B s) := fun h5 => i4 h2 (by unfold insS at hjmp; omega) h5
     repeat' split
     ·exact ⟨h, fun _ => hst⟩
     ·exact ⟨h, fun _ => hst⟩
     ·exact ⟨h, fun _ => hnx (by assumption)⟩
     ·exact ⟨h, fun _ => hnx (by assumption)⟩
     ·exact ⟨h, fun _ => hst⟩
     ·exact ⟨h, fun _ => hnx (by assumption)⟩
  ·rename_i hj
   have hnx : (insS B s).op ≠ 4 -> St B.w (nxS B s) := fun h4 => i4 (by unfold insS at hj; omega) h4 (by unfold insS at hj; omega)
   split
   ·rename_i h3
    split
    ·exact ⟨wf_stop h _ _ _, fun z => by simp [stopS] at z⟩
    ·exact ⟨⟨h.regs, h.cells, h.fr, h.pc, h.back, h.size⟩, fun _ => hnx (by omega)⟩
   ·split
    ·exact ⟨wf_stop h _ _ _, fun z => by simp [stopS] at z⟩
    ·rename_i h4
     split
     ·exact ⟨wf_acc h _, fun _ => hnx h4⟩
     ·exact ⟨wf_comp h _, fun _ => hnx h4⟩
 unfold finS
 split
 ·exact key.1
 ·rename_i ho
  exact ⟨key.1.regs, key.1.cells, key.1.fr, key.2 (by simpa using ho), key.1.back, key.1.size⟩
end Go.M31
end
section
set_option linter.unusedVariables false
namespace Go.Pv
theorem PT.set_set {α : Type} (t : PT α) (k : Nat) (x y : Option α) : (t.set k x).set k y = t.set k y := by
 suffices H : ∀ n k, k < n -> ∀ t : PT α, PT.setF n (PT.setF n t k x) k y = PT.setF n t k y from H _ _ (Nat.lt_succ_self k) t
 intro n
 induction n with
 | zero => intro k hk; omega
 | succ n ih =>
   intro k hk t
   have e : ∀ (t : PT α) (x : Option α), PT.setF (n + 1) t k x = if k = 0 then .node t.left x t.right else if k % 2 = 1 then .node (PT.setF n t.left ((k - 1) / 2) x) t.val t.right else .node t.left t.val (PT.setF n t.right ((k - 2) / 2) x) := fun _ _ => rfl
   by_cases h0 : k = 0
   ·simp only [e, if_pos h0, PT.left, PT.right]
   ·by_cases h1 : k % 2 = 1
    ·simp only [e, if_neg h0, if_pos h1, PT.left, PT.right, PT.val]
     rw [ih ((k - 1) / 2) (by omega)]
    ·simp only [e, if_neg h0, if_neg h1, PT.left, PT.right, PT.val]
     rw [ih ((k - 2) / 2) (by omega)]
theorem Heap.set_set (h : Heap) (i : Nat) (x y : IObj) : (h.set i x).set i y = h.set i y := by
 unfold Heap.set
 simp only [PT.set_set]
end Go.Pv
namespace Go.M31
open Go.Pv Go.M29 Go.M30 Go.M13
inductive Role where
 | cpu | which | frames | out | other
 | arr (j : Nat)
 | fr (j : Nat)
 | sl (j : Nat)
 deriving DecidableEq
structure FL where
 id : Nat
 sid : Nat
 sl : List Int
structure Ly where
 r : Nat -> Role
 wi : Nat
 fi : Nat
 oi : Nat
 ei : Nat
 si : Nat
 ai : Nat
 arr : List Nat
 fl : List FL
def ints (l : List Int) : List IV := l.map (IV.int .i64)
def codeC (B : Bi) : IV := .vslice none 0 (decA B.w).1.length 5 ((decA B.w).1.flatMap cIns)
def entC (B : Bi) (L : Ly) : IV := .vslice (some L.ei) B.e.length B.e.length 1 (ints B.e)
def sltC (B : Bi) (L : Ly) : IV := .vslice (some L.si) B.s.length B.s.length 1 (ints B.s)
def arrRows (B : Bi) (L : Ly) : List IV := List.zipWith (fun id n => IV.hslice id 0 (Int.toNat n) 1) L.arr B.a
def arrC (B : Bi) (L : Ly) : IV := if B.a = [] then .nilslice else .vslice (some L.ai) B.a.length B.a.length 1 (arrRows B L)
def outC (o : List Int) (L : Ly) : IV := if o = [] then .nilslice else .vslice (some L.oi) o.length o.length 1 (ints o)
def cpuA (B : Bi) (L : Ly) : List IV := [codeC B, .hslice L.wi 0 B.w.length 1, entC B L, sltC B L, arrC B L]
def cpuZ (s : CS) (L : Ly) : List IV := [.hslice L.fi 0 s.frames.length 1, .int .i64 s.pc, .int .i64 s.fuel, .bool s.over, .int .i64 s.kind, .int .i64 s.code, outC s.out L, .int .i64 s.val]
def cpuC (B : Bi) (s : CS) (L : Ly) : List IV := cpuA B L ++ (ints s.regs ++ cpuZ s L)
def slotC (f : FL) : IV := if f.sl = [] then .nilslice else .hslice f.sid 0 f.sl.length 1
def frC (f : FL) (F : Fm) : List IV := [slotC f, .int .i64 F.sl.length, .int .i64 F.back]
def ptrs (l : List FL) : List IV := l.map fun f => IV.ptr f.id 0
structure Rep (B : Bi) (s : CS) (L : Ly) (c : Nat) (h : Heap) : Prop where
 cpu : h.get c = .cells (cpuC B s L)
 cpur : L.r c = .cpu /\ c < h.next
 wh : ∃ wl : List Int, h.get L.wi = .cells (ints wl) /\ wl.length = B.w.length /\ ∀ k (h2 : k < (decA B.w).2.1.length), wl[(decA B.w).2.1[k].toNat]? = some (k : Int)
 whr : L.r L.wi = .which /\ L.wi < h.next
 fr : ∃ st, h.get L.fi = .cells (ptrs L.fl ++ st)
 frr : L.r L.fi = .frames /\ L.fi < h.next
 out : s.out ≠ [] -> h.get L.oi = .tip s.out.length /\ L.r L.oi = .out /\ L.oi < h.next
 al : L.arr.length = B.a.length
 cl : s.cells.map List.length = B.a.map Int.toNat
 rl : s.regs.length = 8
 ar : ∀ j (h1 : j < L.arr.length) (h2 : j < s.cells.length), h.get L.arr[j] = .cells (ints s.cells[j]) /\ L.r L.arr[j] = .arr j /\ L.arr[j] < h.next
 fl : L.fl.length = s.frames.length
 fo : ∀ j (h1 : j < L.fl.length) (h2 : j < s.frames.length), h.get L.fl[j].id = .cells (frC L.fl[j] s.frames[j]) /\ L.r L.fl[j].id = .fr j /\ L.fl[j].id < h.next
 fs : ∀ j (h1 : j < L.fl.length), L.fl[j].sl ≠ [] -> h.get L.fl[j].sid = .cells (ints L.fl[j].sl) /\ L.r L.fl[j].sid = .sl j /\ L.fl[j].sid < h.next
 fq : ∀ j (h1 : j < L.fl.length) (h2 : j < s.frames.length), L.fl[j].sl.length <= s.frames[j].sl.length /\ s.frames[j].sl = L.fl[j].sl ++ List.replicate (s.frames[j].sl.length - L.fl[j].sl.length) 0
structure Frm (L L' : Ly) (h h' : Heap) : Prop where
 nx : h.next <= h'.next
 ot : ∀ id, id < h.next -> L.r id = .other -> h'.get id = h.get id /\ L'.r id = .other
theorem Frm.refl (L : Ly) (h : Heap) : Frm L L h h := ⟨Nat.le_refl _, fun _ _ e => ⟨rfl, e⟩⟩
theorem Frm.trans {L L' L'' : Ly} {h h' h'' : Heap} (a : Frm L L' h h') (b : Frm L' L'' h' h'') : Frm L L'' h h'' :=
 ⟨Nat.le_trans a.nx b.nx, fun id hi e => by
  obtain ⟨a1, a2⟩ := a.ot id hi e
  obtain ⟨b1, b2⟩ := b.ot id (Nat.lt_of_lt_of_le hi a.nx) a2
  exact ⟨b1.trans a1, b2⟩⟩
theorem ints_len (l : List Int) : (ints l).length = l.length := by simp [ints]
theorem frm_set {L : Ly} {h : Heap} {i : Nat} {x : IObj} (hi : L.r i ≠ .other) : Frm L L h (h.set i x) :=
 ⟨Nat.le_refl _, fun id _ e => ⟨by rw [get_set, if_neg (fun z => hi (by rw [<- z]; exact e))], e⟩⟩
theorem Rep.setc {B : Bi} {s s' : CS} {L : Ly} {c : Nat} {h : Heap} (a : Rep B s L c h) (hc : s'.cells = s.cells) (hf : s'.frames = s.frames) (ho : s'.out = s.out) (hr : s'.regs.length = 8) : Rep B s' L c (h.set c (.cells (cpuC B s' L))) := by
 have ne : ∀ id, L.r id ≠ .cpu -> ((h.set c (.cells (cpuC B s' L))).get id = h.get id) := fun id hi => by
  rw [get_set, if_neg (fun z => hi (by rw [z]; exact a.cpur.1))]
 exact {
  cpu := by rw [get_set, if_pos rfl]
  cpur := a.cpur
  wh := by
   obtain ⟨wl, h1, h2⟩ := a.wh
   exact ⟨wl, by rw [ne _ (by rw [a.whr.1]; simp)]; exact h1, h2⟩
  whr := a.whr
  fr := by
   obtain ⟨st, h1⟩ := a.fr
   exact ⟨st, by rw [ne _ (by rw [a.frr.1]; simp)]; exact h1⟩
  frr := a.frr
  out := fun hn => by
   rw [ho] at hn
   obtain ⟨h1, h2, h3⟩ := a.out hn
   exact ⟨by rw [ne _ (by rw [h2]; simp), ho]; exact h1, h2, h3⟩
  al := a.al
  cl := by rw [hc]; exact a.cl
  rl := hr
  ar := fun j h1 h2 => by
   simp only [hc] at h2 ⊢
   obtain ⟨q1, q2, q3⟩ := a.ar j h1 h2
   exact ⟨by rw [ne _ (by rw [q2]; simp)]; exact q1, q2, q3⟩
  fl := by rw [hf]; exact a.fl
  fo := fun j h1 h2 => by
   simp only [hf] at h2 ⊢
   obtain ⟨q1, q2, q3⟩ := a.fo j h1 h2
   exact ⟨by rw [ne _ (by rw [q2]; simp)]; exact q1, q2, q3⟩
  fs := fun j h1 hn => by
   obtain ⟨q1, q2, q3⟩ := a.fs j h1 hn
   exact ⟨by rw [ne _ (by rw [q2]; simp)]; exact q1, q2, q3⟩
  fq := fun j h1 h2 => by
   simp only [hf] at h2 ⊢
   exact a.fq j h1 h2 }
section
variable {B : Bi} {s : CS} {L : Ly}
theorem cpu_len (h : s.regs.length = 8) : (cpuC B s L).length = 21 := by
 simp [cpuC, cpuA, cpuZ, ints, h]
theorem cpu_len2 : (cpuC B s L).length = s.regs.length + 13 := by
 simp [cpuC, cpuA, cpuZ, ints]
theorem cpu_reg (h : s.regs.length = 8) {a : Int} (ha : 0 <= a /\ a <= 7) : (cpuC B s L)[5 + a.toNat]? = some (.int .i64 (rg s a)) := by
 unfold cpuC
 rw [List.getElem?_append_right (by simp [cpuA])]
 rw [List.getElem?_append_left (by simp [cpuA, ints]; omega)]
 have hl : a.toNat < s.regs.length := by omega
 simp only [cpuA, List.length_cons, List.length_nil, ints, List.getElem?_map]
 rw [show 5 + a.toNat - (0 + 1 + 1 + 1 + 1 + 1) = a.toNat by omega, List.getElem?_eq_getElem hl]
 simp [rg, List.getD_eq_getElem?_getD, List.getElem?_eq_getElem hl]
theorem cpu_z (h : s.regs.length = 8) (j : Nat) : (cpuC B s L)[13 + j]? = (cpuZ s L)[j]? := by
 unfold cpuC
 rw [List.getElem?_append_right (by simp [cpuA]; omega), List.getElem?_append_right (by simp [cpuA, ints, h]; omega)]
 congr 1
 simp [cpuA, ints, h]
 omega
theorem cpu_a (j : Nat) (hj : j < 5) : (cpuC B s L)[j]? = (cpuA B L)[j]? := by
 unfold cpuC
 rw [List.getElem?_append_left (by simpa [cpuA] using hj)]
theorem store_set {cs : List IV} {o : Nat} {v : IV} (h : o < cs.length) : cs.take o ++ [v] ++ cs.drop (o + 1) = cs.set o v := by
 rw [List.set_eq_take_append_cons_drop, if_pos h]
 simp
theorem cpu_setreg (h : s.regs.length = 8) {a : Int} (ha : 0 <= a /\ a <= 7) (v : Int) : (cpuC B s L).set (5 + a.toNat) (.int .i64 v) = cpuC B (setR s a v) L := by
 unfold cpuC
 rw [List.set_append_right _ _ (by simp [cpuA]), List.set_append_left _ _ (by simp [cpuA, ints]; omega)]
 have e : 5 + a.toNat - (cpuA B L).length = a.toNat := by simp [cpuA]
 rw [e]
 have e2 : (ints s.regs).set a.toNat (.int .i64 v) = ints (setR s a v).regs := by
  simp [ints, setR, List.map_set]
 rw [e2]
 rfl
theorem cpu_setz (h : s.regs.length = 8) (j : Nat) (v : IV) (s' : CS) (L' : Ly) (hA : cpuA B L' = cpuA B L) (hr : s'.regs = s.regs) (hz : (cpuZ s L).set j v = cpuZ s' L') : (cpuC B s L).set (13 + j) v = cpuC B s' L' := by
 unfold cpuC
 rw [List.set_append_right _ _ (by simp [cpuA]; omega), List.set_append_right _ _ (by simp [cpuA, ints, h]; omega)]
 have e : 13 + j - (cpuA B L).length - (ints s.regs).length = j := by simp [cpuA, ints, h]; omega
 rw [e, hz, hA, hr]
end
structure FsOk (f : FL) (G : Fm) (id : Nat) (h hp : Heap) (f1 : FL) : Prop where
 at_ : hp.get id = .cells (frC f1 G)
 sid : f1.sl ≠ [] -> hp.get f1.sid = .cells (ints f1.sl) /\ f1.sid < hp.next /\ f1.sid ≠ id /\ (h.next <= f1.sid \/ f.sl ≠ [] /\ f1.sid = f.sid)
 qq : f1.sl.length <= G.sl.length /\ G.sl = f1.sl ++ List.replicate (G.sl.length - f1.sl.length) 0
 ot : ∀ k, k < h.next -> k ≠ id -> (f.sl ≠ [] -> k ≠ f.sid) -> hp.get k = h.get k
 nx : h.next <= hp.next
 idd : f1.id = id
 idl : id < h.next
theorem arr_at {B : Bi} {s : CS} {L : Ly} {c : Nat} {h : Heap} (a : Rep B s L c h) {j : Nat} (hj : j < B.a.length) : ∃ i row, L.arr[j]? = some i /\ s.cells[j]? = some row /\ (arrRows B L)[j]? = some (.hslice i 0 row.length 1) /\ h.get i = .cells (ints row) /\ L.r i = .arr j /\ i < h.next := by
 have h1 : j < L.arr.length := by rw [a.al]; exact hj
 have hcl : s.cells.length = B.a.length := by have := congrArg List.length a.cl; simpa using this
 have h2 : j < s.cells.length := by omega
 obtain ⟨q1, q2, q3⟩ := a.ar j h1 h2
 refine ⟨L.arr[j], s.cells[j], List.getElem?_eq_getElem h1, List.getElem?_eq_getElem h2, ?_, q1, q2, q3⟩
 have hl : s.cells[j].length = Int.toNat B.a[j] := by
  have := congrArg (fun l => l[j]?) a.cl
  simp only [List.getElem?_map, List.getElem?_eq_getElem h2, List.getElem?_eq_getElem hj, Option.map_some, Option.some.injEq] at this
  exact this
 unfold arrRows
 rw [List.getElem?_zipWith, List.getElem?_eq_getElem h1, List.getElem?_eq_getElem hj]
 simp only [hl]
theorem cpu_arr {B : Bi} {s : CS} {L : Ly} (hne : B.a ≠ []) : (cpuC B s L)[4]? = some (.vslice (some L.ai) B.a.length B.a.length 1 (arrRows B L)) := by
 rw [cpu_a 4 (by omega)]
 simp [cpuA, arrC, hne]
theorem getF_ge {f : FL} {G : Fm} {n : Int} (hq : f.sl.length <= G.sl.length /\ G.sl = f.sl ++ List.replicate (G.sl.length - f.sl.length) 0) (hn : f.sl.length <= n.toNat) : getF G n = 0 := by
 unfold getF
 rw [List.getD_eq_getElem?_getD, hq.2, List.getElem?_append_right hn, List.getElem?_replicate]
 split <;> rfl
theorem getF_lt {f : FL} {G : Fm} {n : Int} (hq : f.sl.length <= G.sl.length /\ G.sl = f.sl ++ List.replicate (G.sl.length - f.sl.length) 0) (hn : n.toNat < f.sl.length) : (ints f.sl)[n.toNat]? = some (.int .i64 (getF G n)) := by
 unfold getF
 rw [List.getD_eq_getElem?_getD, hq.2, List.getElem?_append_left hn, List.getElem?_eq_getElem hn]
 simp [ints, List.getElem?_eq_getElem hn]
theorem grow_q {f : FL} {G : Fm} (hq : f.sl.length <= G.sl.length /\ G.sl = f.sl ++ List.replicate (G.sl.length - f.sl.length) 0) (hl : f.sl.length < G.sl.length) : f.sl.length + 1 <= G.sl.length /\ G.sl = (f.sl ++ [0]) ++ List.replicate (G.sl.length - (f.sl.length + 1)) 0 := by
 refine ⟨hl, ?_⟩
 rw [List.append_assoc]
 conv => lhs; rw [hq.2]
 congr 1
 rw [show G.sl.length - f.sl.length = (G.sl.length - (f.sl.length + 1)) + 1 by omega, List.replicate_succ]
 rfl
theorem set_q {f : FL} {G : Fm} {n : Int} {x : Int} (hq : f.sl.length <= G.sl.length /\ G.sl = f.sl ++ List.replicate (G.sl.length - f.sl.length) 0) (hl : n.toNat < f.sl.length) : (setF G n x).sl.length = G.sl.length /\ (setF G n x).sl = f.sl.set n.toNat x ++ List.replicate (G.sl.length - f.sl.length) 0 := by
 refine ⟨by simp [setF], ?_⟩
 unfold setF
 simp only
 conv => lhs; rw [hq.2]
 rw [List.set_append_left _ _ hl]
def updR (r : Nat -> Role) (k : Nat) (v : Role) : Nat -> Role := fun j => if j = k then v else r j
theorem updR_ne {r : Nat -> Role} {k j : Nat} {v : Role} (h : j ≠ k) : updR r k v j = r j := if_neg h
theorem updR_eq {r : Nat -> Role} {k : Nat} {v : Role} : updR r k v k = v := if_pos rfl
theorem Rep.upd {B : Bi} {s s' : CS} {L L' : Ly} {c : Nat} {h h' : Heap} (a : Rep B s L c h) (hcpu : h'.get c = .cells (cpuC B s' L')) (hnx : h.next <= h'.next) (hr : ∀ id, id < h.next -> L'.r id = L.r id)
  (hsame : ∀ id, id < h.next -> L.r id ≠ .cpu -> L.r id ≠ .out -> L.r id ≠ .other -> h'.get id = h.get id) (hc : s'.cells = s.cells) (hf : s'.frames = s.frames) (hrl : s'.regs.length = 8)
  (hw : L'.wi = L.wi) (hfi : L'.fi = L.fi) (har : L'.arr = L.arr) (hfl : L'.fl = L.fl) (hout : s'.out ≠ [] -> h'.get L'.oi = .tip s'.out.length /\ L'.r L'.oi = .out /\ L'.oi < h'.next) : Rep B s' L' c h' := by
 obtain ⟨r', wi', fi', oi', ei', si', ai', arr', fl'⟩ := L'
 simp only at hw hfi har hfl hr hout
 subst hw hfi har hfl
 exact {
  cpu := hcpu
  cpur := ⟨by simp only; rw [hr _ a.cpur.2]; exact a.cpur.1, Nat.lt_of_lt_of_le a.cpur.2 hnx⟩
  wh := by
   obtain ⟨wl, h1, h2⟩ := a.wh
   exact ⟨wl, by simp only; rw [hsame _ a.whr.2 (by rw [a.whr.1]; simp) (by rw [a.whr.1]; simp) (by rw [a.whr.1]; simp)]; exact h1, h2⟩
  whr := ⟨by simp only; rw [hr _ a.whr.2]; exact a.whr.1, Nat.lt_of_lt_of_le a.whr.2 hnx⟩
  fr := by
   obtain ⟨st, h1⟩ := a.fr
   exact ⟨st, by simp only; rw [hsame _ a.frr.2 (by rw [a.frr.1]; simp) (by rw [a.frr.1]; simp) (by rw [a.frr.1]; simp)]; exact h1⟩
  frr := ⟨by simp only; rw [hr _ a.frr.2]; exact a.frr.1, Nat.lt_of_lt_of_le a.frr.2 hnx⟩
  out := hout
  al := a.al
  cl := by rw [hc]; exact a.cl
  rl := hrl
  ar := fun j h1 h2 => by
   simp only [hc] at h1 h2 ⊢
   obtain ⟨q1, q2, q3⟩ := a.ar j h1 h2
   exact ⟨by rw [hsame _ q3 (by rw [q2]; simp) (by rw [q2]; simp) (by rw [q2]; simp)]; exact q1, by rw [hr _ q3]; exact q2, Nat.lt_of_lt_of_le q3 hnx⟩
  fl := by rw [hf]; exact a.fl
  fo := fun j h1 h2 => by
   simp only [hf] at h1 h2 ⊢
   obtain ⟨q1, q2, q3⟩ := a.fo j h1 h2
   exact ⟨by rw [hsame _ q3 (by rw [q2]; simp) (by rw [q2]; simp) (by rw [q2]; simp)]; exact q1, by rw [hr _ q3]; exact q2, Nat.lt_of_lt_of_le q3 hnx⟩
  fs := fun j h1 hn => by
   obtain ⟨q1, q2, q3⟩ := a.fs j h1 hn
   exact ⟨by simp only; rw [hsame _ q3 (by rw [q2]; simp) (by rw [q2]; simp) (by rw [q2]; simp)]; exact q1, by simp only; rw [hr _ q3]; exact q2, Nat.lt_of_lt_of_le q3 hnx⟩
  fq := fun j h1 h2 => by
   simp only [hf] at h1 h2 ⊢
   exact a.fq j h1 h2 }
theorem frm_nx {L : Ly} {h h' : Heap} {r' : Nat -> Role} {L' : Ly} (hL : L'.r = r') (hnx : h.next <= h'.next) (hr : ∀ id, id < h.next -> r' id = L.r id) (hs : ∀ id, id < h.next -> L.r id = .other -> h'.get id = h.get id) : Frm L L' h h' :=
 ⟨hnx, fun id hi e => ⟨hs id hi e, by rw [hL, hr id hi]; exact e⟩⟩
theorem Rep.out0 {B : Bi} {s : CS} {L : Ly} {c : Nat} {h : Heap} (a : Rep B s L c h) (ho : s.out = []) (v : Int) : ∃ L', cpuC B { s with out := s.out ++ [v] } L' = (cpuC B s L).set 19 (.vslice (some h.next) 1 1 1 [.int .i64 v]) /\
  Rep B { s with out := s.out ++ [v] } L' c ((h.push (.tip 1)).set c (.cells (cpuC B { s with out := s.out ++ [v] } L'))) /\ Frm L L' h ((h.push (.tip 1)).set c (.cells (cpuC B { s with out := s.out ++ [v] } L'))) := by
 have hcn := a.cpur.2
 refine ⟨{ L with oi := h.next, r := updR L.r h.next .out }, ?_, ?_, ?_⟩
 ·refine (cpu_setz (s := s) (L := L) a.rl 6 (.vslice (some h.next) 1 1 1 [.int .i64 v]) { s with out := s.out ++ [v] } { L with oi := h.next, r := updR L.r h.next .out } rfl rfl ?_).symm
  simp [cpuZ, outC, ho, ints]
 ·refine a.upd (by rw [get_set, if_pos rfl]) (by simp only [next_set, next_push]; omega) (fun id hi => updR_ne (by omega)) (fun id hi h1 h2 h3 => ?_) rfl rfl a.rl rfl rfl rfl rfl (fun _ => ⟨?_, updR_eq, by simp only [next_set, next_push]; omega⟩)
  ·rw [get_set, if_neg (fun z => h1 (by rw [z]; exact a.cpur.1)), get_push, if_neg (by omega)]
  ·simp only
   rw [get_set, if_neg (by omega), get_push, if_pos rfl, ho]
   rfl
 ·refine frm_nx rfl (by simp only [next_set, next_push]; omega) (fun id hi => updR_ne (by omega)) (fun id hi e => ?_)
  rw [get_set, if_neg (fun z => by rw [z, a.cpur.1] at e; cases e), get_push, if_neg (by omega)]
theorem Rep.out1 {B : Bi} {s : CS} {L : Ly} {c : Nat} {h : Heap} (a : Rep B s L c h) (ho : s.out ≠ []) (v : Int) : cpuC B { s with out := s.out ++ [v] } L = (cpuC B s L).set 19 (.vslice (some L.oi) (s.out.length + 1) (s.out.length + 1) 1 (ints s.out ++ [.int .i64 v])) /\
  Rep B { s with out := s.out ++ [v] } L c ((h.set L.oi (.tip (s.out.length + 1))).set c (.cells (cpuC B { s with out := s.out ++ [v] } L))) /\ Frm L L h ((h.set L.oi (.tip (s.out.length + 1))).set c (.cells (cpuC B { s with out := s.out ++ [v] } L))) := by
 obtain ⟨o1, o2, o3⟩ := a.out ho
 have hoc : ¬ L.oi = c := fun z => by rw [z, a.cpur.1] at o2; cases o2
 refine ⟨?_, ?_, ?_⟩
 ·refine (cpu_setz (s := s) (L := L) a.rl 6 (.vslice (some L.oi) (s.out.length + 1) (s.out.length + 1) 1 (ints s.out ++ [.int .i64 v])) { s with out := s.out ++ [v] } L rfl rfl ?_).symm
  simp [cpuZ, outC, ints]
 ·refine a.upd (by rw [get_set, if_pos rfl]) (by simp only [next_set]; omega) (fun _ _ => rfl) (fun id hi h1 h2 h3 => ?_) rfl rfl a.rl rfl rfl rfl rfl (fun _ => ⟨?_, o2, o3⟩)
  ·rw [get_set, if_neg (fun z => h1 (by rw [z]; exact a.cpur.1)), get_set, if_neg (fun z => h2 (by rw [z]; exact o2))]
  ·rw [get_set, if_neg hoc, get_set, if_pos rfl]
   simp
 ·refine frm_nx rfl (by simp only [next_set]; omega) (fun _ _ => rfl) (fun id hi e => ?_)
  rw [get_set, if_neg (fun z => by rw [z, a.cpur.1] at e; cases e), get_set, if_neg (fun z => by rw [z, o2] at e; cases e)]
theorem Rep.seta {B : Bi} {s : CS} {L : Ly} {c : Nat} {h : Heap} (a : Rep B s L c h) {k j : Nat} {row row' : List Int} (hj : L.arr[k]? = some j) (hrow : s.cells[k]? = some row) (hl : row'.length = row.length) :
  Rep B { s with cells := s.cells.set k row' } L c (h.set j (.cells (ints row'))) := by
 obtain ⟨hk1, rfl⟩ := List.getElem?_eq_some_iff.1 hj
 obtain ⟨hk2, rfl⟩ := List.getElem?_eq_some_iff.1 hrow
 obtain ⟨p1, p2, p3⟩ := a.ar k hk1 hk2
 have ne : ∀ id, L.r id ≠ .arr k -> ((h.set L.arr[k] (.cells (ints row'))).get id = h.get id) := fun id hi => by
  rw [get_set, if_neg (fun z => hi (by rw [z]; exact p2))]
 exact {
  cpu := by rw [ne _ (by rw [a.cpur.1]; simp)]; exact a.cpu
  cpur := a.cpur
  wh := by
   obtain ⟨wl, h1, h2⟩ := a.wh
   exact ⟨wl, by rw [ne _ (by rw [a.whr.1]; simp)]; exact h1, h2⟩
  whr := a.whr
  fr := by
   obtain ⟨st, h1⟩ := a.fr
   exact ⟨st, by rw [ne _ (by rw [a.frr.1]; simp)]; exact h1⟩
  frr := a.frr
  out := fun hn => by
   obtain ⟨h1, h2, h3⟩ := a.out hn
   exact ⟨by rw [ne _ (by rw [h2]; simp)]; exact h1, h2, h3⟩
  al := a.al
  cl := by
   rw [<- a.cl]
   apply List.ext_getElem?
   intro i
   simp only [List.getElem?_map, List.getElem?_set]
   by_cases hi : k = i
   ·subst hi
    rw [if_pos rfl, if_pos hk2, List.getElem?_eq_getElem hk2]
    simp [hl]
   ·rw [if_neg hi]
  rl := a.rl
  ar := fun i h1 h2 => by
   simp only [List.length_set] at h2
   simp only
   obtain ⟨q1, q2, q3⟩ := a.ar i h1 h2
   by_cases hi : k = i
   ·subst hi
    refine ⟨?_, q2, q3⟩
    rw [get_set, if_pos rfl, List.getElem_set_self]
   ·refine ⟨?_, q2, q3⟩
    rw [ne _ (by rw [q2]; simp; omega), List.getElem_set_ne hi]
    exact q1
  fl := a.fl
  fo := fun j h1 h2 => by
   obtain ⟨q1, q2, q3⟩ := a.fo j h1 h2
   exact ⟨by rw [ne _ (by rw [q2]; simp)]; exact q1, q2, q3⟩
  fs := fun j h1 hn => by
   obtain ⟨q1, q2, q3⟩ := a.fs j h1 hn
   exact ⟨by rw [ne _ (by rw [q2]; simp)]; exact q1, q2, q3⟩
  fq := a.fq }
theorem top_at {B : Bi} {s : CS} {L : Ly} {c : Nat} {h : Heap} (a : Rep B s L c h) (hne : s.frames ≠ []) : ∃ f, L.fl[s.frames.length - 1]? = some f /\ h.get f.id = .cells (frC f (topF s)) /\ L.r f.id = .fr (s.frames.length - 1) /\ f.id < h.next /\
  (f.sl ≠ [] -> h.get f.sid = .cells (ints f.sl) /\ L.r f.sid = .sl (s.frames.length - 1) /\ f.sid < h.next) /\ (f.sl.length <= (topF s).sl.length /\ (topF s).sl = f.sl ++ List.replicate ((topF s).sl.length - f.sl.length) 0) /\ ∃ st, h.get L.fi = .cells (ptrs L.fl ++ st) /\ (ptrs L.fl ++ st)[s.frames.length - 1]? = some (.ptr f.id 0) := by
 have hp := List.length_pos_iff.2 hne
 have h1 : s.frames.length - 1 < L.fl.length := by rw [a.fl]; omega
 have h2 : s.frames.length - 1 < s.frames.length := by omega
 have ht := topF_at hne
 rw [List.getElem?_eq_getElem h2] at ht
 have ht := Option.some.inj ht
 obtain ⟨q1, q2, q3⟩ := a.fo _ h1 h2
 have q4 := a.fq _ h1 h2
 rw [ht] at q1 q4
 obtain ⟨st, hst⟩ := a.fr
 refine ⟨L.fl[s.frames.length - 1], List.getElem?_eq_getElem h1, q1, q2, q3, fun hn => a.fs _ h1 hn, q4, st, hst, ?_⟩
 rw [List.getElem?_append_left (by simpa [ptrs] using h1)]
 simp [ptrs, List.getElem?_eq_getElem h1]
theorem Rep.setf {B : Bi} {s : CS} {L : Ly} {c : Nat} {h h' : Heap} (a : Rep B s L c h) (hne : s.frames ≠ []) {f f' : FL} {n x : Int} (hf : L.fl[s.frames.length - 1]? = some f) (e1 : f'.id = f.id) (e2 : h'.get f.id = .cells (frC f' (setF (topF s) n x)))
  (e3 : f'.sl ≠ [] -> h'.get f'.sid = .cells (ints f'.sl) /\ f'.sid < h'.next /\ (h.next <= f'.sid \/ f.sl ≠ [] /\ f'.sid = f.sid)) (e4 : f'.sl.length <= (setF (topF s) n x).sl.length /\ (setF (topF s) n x).sl = f'.sl ++ List.replicate ((setF (topF s) n x).sl.length - f'.sl.length) 0)
  (e5 : ∀ k, k < h.next -> k ≠ f.id -> (f.sl ≠ [] -> k ≠ f.sid) -> h'.get k = h.get k) (e6 : h.next <= h'.next) : ∃ L', Rep B (setTop s (setF (topF s) n x)) L' c h' /\ Frm L L' h h' := by
 have hp := List.length_pos_iff.2 hne
 obtain ⟨h1, hfe⟩ := List.getElem?_eq_some_iff.1 hf
 have h2 : s.frames.length - 1 < s.frames.length := by omega
 obtain ⟨q1, q2, q3⟩ := a.fo _ h1 h2
 have q5 := a.fs _ h1
 rw [hfe] at q1 q2 q3 q5
 have hfl := a.fl
 generalize hN : s.frames.length - 1 = N at *
 have hr' : ∀ id, id < h.next -> (f'.sl ≠ [] -> id = f'.sid -> L.r id = .sl N) := fun id hi hn hz => by
  rcases (e3 hn).2.2 with z | ⟨z1, z2⟩
  ·omega
  ·rw [hz, z2]; exact (q5 z1).2.1
 have hkeep : ∀ id, id < h.next -> L.r id ≠ .fr N -> L.r id ≠ .sl N -> h'.get id = h.get id := fun id hi n1 n2 => e5 id hi (fun z => n1 (by rw [z]; exact q2)) (fun hn z => n2 (by rw [z]; exact (q5 hn).2.1))
 have hr : ∀ id, id < h.next -> (if f'.sl = [] then L.r else updR L.r f'.sid (.sl N)) id = L.r id := fun id hi => by
  by_cases hz : f'.sl = []
  ·rw [if_pos hz]
  ·rw [if_neg hz]
   by_cases hz2 : id = f'.sid
   ·rw [hz2, updR_eq, <- hz2, hr' id hi hz hz2]
   ·rw [updR_ne hz2]
 refine ⟨{ L with fl := L.fl.set N f', r := if f'.sl = [] then L.r else updR L.r f'.sid (.sl N) }, ?_, frm_nx rfl e6 hr (fun id hi e => hkeep id hi (by rw [e]; simp) (by rw [e]; simp))⟩
 have hsl : (setTop s (setF (topF s) n x)).frames.length = s.frames.length := by simp [setTop]; omega
 have hatq : ∀ j, j < s.frames.length -> (setTop s (setF (topF s) n x)).frames[j]? = if j = N then some (setF (topF s) n x) else s.frames[j]? := fun j hj => by
  show (s.frames.dropLast ++ [setF (topF s) n x])[j]? = _
  by_cases hjN : j = N
  ·rw [if_pos hjN, List.getElem?_append_right (by simp; omega)]
   simp [show j - (s.frames.length - 1) = 0 by omega]
  ·rw [if_neg hjN, List.getElem?_append_left (by simp; omega), List.getElem?_dropLast, if_pos (by omega)]
 have hat : ∀ j (h2 : j < (setTop s (setF (topF s) n x)).frames.length) (h3 : j < s.frames.length), (j ≠ N -> (setTop s (setF (topF s) n x)).frames[j] = s.frames[j]) /\ (j = N -> (setTop s (setF (topF s) n x)).frames[j] = setF (topF s) n x) := fun j h2 h3 => by
  have e := hatq j h3
  rw [List.getElem?_eq_getElem h2] at e
  constructor
  ·intro hj
   rw [if_neg hj, List.getElem?_eq_getElem h3] at e
   exact Option.some.inj e
  ·intro hj
   rw [if_pos hj] at e
   exact Option.some.inj e
 exact {
  cpu := by
   rw [hkeep _ a.cpur.2 (by rw [a.cpur.1]; simp) (by rw [a.cpur.1]; simp), a.cpu]
   congr 1
   unfold cpuC cpuZ
   rw [hsl]
   rfl
  cpur := ⟨by simp only; rw [hr _ a.cpur.2]; exact a.cpur.1, Nat.lt_of_lt_of_le a.cpur.2 e6⟩
  wh := by
   obtain ⟨wl, g1, g2⟩ := a.wh
   exact ⟨wl, by simp only; rw [hkeep _ a.whr.2 (by rw [a.whr.1]; simp) (by rw [a.whr.1]; simp)]; exact g1, g2⟩
  whr := ⟨by simp only; rw [hr _ a.whr.2]; exact a.whr.1, Nat.lt_of_lt_of_le a.whr.2 e6⟩
  fr := by
   obtain ⟨st, g1⟩ := a.fr
   refine ⟨st, ?_⟩
   simp only
   rw [hkeep _ a.frr.2 (by rw [a.frr.1]; simp) (by rw [a.frr.1]; simp), g1]
   congr 2
   unfold ptrs
   rw [List.map_set, e1]
   have : (L.fl.map fun f => IV.ptr f.id 0)[N]'(by simpa using h1) = .ptr f.id 0 := by simp [hfe]
   rw [<- this, List.set_getElem_self]
  frr := ⟨by simp only; rw [hr _ a.frr.2]; exact a.frr.1, Nat.lt_of_lt_of_le a.frr.2 e6⟩
  out := fun hn => by
   obtain ⟨g1, g2, g3⟩ := a.out hn
   exact ⟨by simp only; rw [hkeep _ g3 (by rw [g2]; simp) (by rw [g2]; simp)]; exact g1, by simp only; rw [hr _ g3]; exact g2, Nat.lt_of_lt_of_le g3 e6⟩
  al := a.al
  cl := a.cl
  rl := a.rl
  ar := fun j g1 g2 => by
   obtain ⟨p1, p2, p3⟩ := a.ar j g1 g2
   exact ⟨by simp only; rw [hkeep _ p3 (by rw [p2]; simp) (by rw [p2]; simp)]; exact p1, by simp only; rw [hr _ p3]; exact p2, Nat.lt_of_lt_of_le p3 e6⟩
  fl := by simp only [List.length_set]; rw [hsl]; exact hfl
  fo := fun j g1 g2 => by
   simp only [List.length_set] at g1
   have g3 : j < s.frames.length := by omega
   obtain ⟨t1, t2⟩ := hat j g2 g3
   by_cases hj : j = N
   ·subst hj
    rw [t2 rfl]
    simp only [List.getElem_set_self]
    rw [e1]
    exact ⟨e2, by rw [hr _ q3]; exact q2, Nat.lt_of_lt_of_le q3 e6⟩
   ·rw [t1 hj]
    simp only [List.getElem_set_ne (show N ≠ j from fun z => hj z.symm)]
    obtain ⟨p1, p2, p3⟩ := a.fo j g1 g3
    exact ⟨by rw [hkeep _ p3 (by rw [p2]; simp; omega) (by rw [p2]; simp)]; exact p1, by rw [hr _ p3]; exact p2, Nat.lt_of_lt_of_le p3 e6⟩
  fs := fun j g1 hn => by
   simp only [List.length_set] at g1
   by_cases hj : j = N
   ·subst hj
    simp only [List.getElem_set_self] at hn ⊢
    obtain ⟨p1, p2, p3⟩ := e3 hn
    exact ⟨p1, by rw [if_neg hn, updR_eq], p2⟩
   ·simp only [List.getElem_set_ne (show N ≠ j from fun z => hj z.symm)] at hn ⊢
    obtain ⟨p1, p2, p3⟩ := a.fs j g1 hn
    exact ⟨by rw [hkeep _ p3 (by rw [p2]; simp) (by rw [p2]; simp; omega)]; exact p1, by rw [hr _ p3]; exact p2, Nat.lt_of_lt_of_le p3 e6⟩
  fq := fun j g1 g2 => by
   simp only [List.length_set] at g1
   have g3 : j < s.frames.length := by omega
   obtain ⟨t1, t2⟩ := hat j g2 g3
   by_cases hj : j = N
   ·subst hj
    rw [t2 rfl]
    simp only [List.getElem_set_self]
    exact e4
   ·rw [t1 hj]
    simp only [List.getElem_set_ne (show N ≠ j from fun z => hj z.symm)]
    exact a.fq j g1 g3 }
theorem cpu_out0 {B : Bi} {s : CS} {L : Ly} (h : s.regs.length = 8) (ho : s.out = []) : (cpuC B s L)[19]? = some .nilslice := by
 refine (cpu_z h 6).trans ?_
 simp [cpuZ, outC, ho]
theorem cpu_out1 {B : Bi} {s : CS} {L : Ly} (h : s.regs.length = 8) (ho : s.out ≠ []) : (cpuC B s L)[19]? = some (.vslice (some L.oi) s.out.length s.out.length 1 (ints s.out)) := by
 refine (cpu_z h 6).trans ?_
 simp [cpuZ, outC, ho]
end Go.M31
namespace Go.M31
open Go.Pv Go.M29 Go.M30 Go.M13
def clr (l : List Int) (a k : Nat) : List Int := l.take a ++ List.replicate (k - a) 0 ++ l.drop k
structure CallOk (B : Bi) (s : CS) (L : Ly) (id : Nat) (a n nx : Int) (h : Heap) (k : Nat) (hp : Heap) : Prop where
 kr : a.toNat <= k /\ k <= 8
 rep : ∃ L1, Rep B { s with frames := s.frames ++ [⟨List.replicate (B.s.getD n.toNat 0).toNat 0, nx⟩], regs := clr s.regs a.toNat k } L1 id hp /\ Frm L L1 h hp
end Go.M31
namespace Go.M31
open Go.Pv Go.M29 Go.M30 Go.M13
theorem cpu_regs8 {B : Bi} {s : CS} {L : Ly} (h : s.regs.length = 8) (l : List Int) : (cpuC B s L).take 5 ++ ints l ++ (cpuC B s L).drop 13 = cpuC B { s with regs := l } L := by
 unfold cpuC
 rw [List.take_append_of_le_length (by simp [cpuA]), List.take_of_length_le (by simp [cpuA]), List.drop_append, List.drop_of_length_le (by simp [cpuA]), List.nil_append, List.drop_append, List.drop_of_length_le (by simp [cpuA, ints, h])]
 have e : 13 - (cpuA B L).length - (ints s.regs).length = 0 := by simp [cpuA, ints, h]
 rw [e, List.drop_zero, List.nil_append, List.append_assoc]
 rfl
theorem clr_len {l : List Int} {a k : Nat} (h : l.length = 8) (ha : a <= k /\ k <= 8) : (clr l a k).length = 8 := by
 unfold clr
 simp [h]
 omega
theorem clr_init {l : List Int} {a : Nat} (ha : a <= l.length) : clr l a a = l := by
 unfold clr
 simp
theorem clr_step {l : List Int} {a k : Nat} (h : l.length = 8) (ha : a <= k /\ k < 8) : (clr l a k).set k 0 = clr l a (k + 1) := by
 unfold clr
 rw [List.set_append_right _ _ (by simp; omega)]
 have e : k - (l.take a ++ List.replicate (k - a) 0).length = 0 := by simp; omega
 rw [e, List.drop_eq_getElem_cons (by omega), List.set_cons_zero]
 rw [show k + 1 - a = (k - a) + 1 by omega, List.replicate_succ', <- List.append_assoc]
 simp
theorem clr_end {l : List Int} {a : Int} (h : l.length = 8) : clr l a.toNat 8 = clearR l a := by
 unfold clr clearR
 rw [List.drop_of_length_le (by omega), List.append_nil, h]
theorem Rep.pop {B : Bi} {s : CS} {L : Ly} {c : Nat} {h : Heap} (a : Rep B s L c h) (hne : s.frames ≠ []) (R : List Int) (hR : R.length = 8) : cpuC B { s with frames := s.frames.dropLast } { L with fl := L.fl.dropLast } = (cpuC B s L).set 13 (.hslice L.fi 0 (s.frames.length - 1) 1) /\
  Rep B { s with frames := s.frames.dropLast, regs := R } { L with fl := L.fl.dropLast } c (h.set c (.cells (cpuC B { s with frames := s.frames.dropLast, regs := R } { L with fl := L.fl.dropLast }))) /\
  Frm L { L with fl := L.fl.dropLast } h (h.set c (.cells (cpuC B { s with frames := s.frames.dropLast, regs := R } { L with fl := L.fl.dropLast }))) := by
 have hp := List.length_pos_iff.2 hne
 have hfl := a.fl
 refine ⟨?_, ?_, frm_nx (L' := { L with fl := L.fl.dropLast }) (r' := L.r) rfl (Nat.le_refl _) (fun _ _ => rfl) (fun id hi e => by rw [get_set, if_neg (fun z => by rw [z, a.cpur.1] at e; cases e)])⟩
 ·refine (cpu_setz (s := s) (L := L) a.rl 0 (.hslice L.fi 0 (s.frames.length - 1) 1) { s with frames := s.frames.dropLast } { L with fl := L.fl.dropLast } rfl rfl ?_).symm
  simp [cpuZ, outC]
 ·have ne : ∀ (x : IObj) id, L.r id ≠ .cpu -> ((h.set c x).get id = h.get id) := fun x id hi => by
   rw [get_set, if_neg (fun z => hi (by rw [z]; exact a.cpur.1))]
  exact {
   cpu := by rw [get_set, if_pos rfl]
   cpur := a.cpur
   wh := by
    obtain ⟨wl, h1, h2⟩ := a.wh
    exact ⟨wl, by simp only; rw [ne _ _ (by rw [a.whr.1]; simp)]; exact h1, h2⟩
   whr := a.whr
   fr := by
    obtain ⟨st, h1⟩ := a.fr
    refine ⟨ptrs [L.fl.getLast (fun z => by rw [z] at hfl; simp at hfl; omega)] ++ st, ?_⟩
    simp only
    rw [ne _ _ (by rw [a.frr.1]; simp), h1, <- List.append_assoc]
    congr 2
    unfold ptrs
    rw [<- List.map_append, List.dropLast_concat_getLast]
   frr := a.frr
   out := fun hn => by
    obtain ⟨h1, h2, h3⟩ := a.out hn
    exact ⟨by simp only; rw [ne _ _ (by rw [h2]; simp)]; exact h1, h2, h3⟩
   al := a.al
   cl := a.cl
   rl := hR
   ar := fun j h1 h2 => by
    obtain ⟨q1, q2, q3⟩ := a.ar j h1 h2
    exact ⟨by simp only; rw [ne _ _ (by rw [q2]; simp)]; exact q1, q2, q3⟩
   fl := by simp [hfl]
   fo := fun j h1 h2 => by
    simp only [List.length_dropLast] at h1 h2
    simp only [List.getElem_dropLast]
    obtain ⟨q1, q2, q3⟩ := a.fo j (by omega) (by omega)
    exact ⟨by rw [ne _ _ (by rw [q2]; simp)]; exact q1, q2, q3⟩
   fs := fun j h1 hn => by
    simp only [List.length_dropLast] at h1
    simp only [List.getElem_dropLast] at hn ⊢
    obtain ⟨q1, q2, q3⟩ := a.fs j (by omega) hn
    exact ⟨by rw [ne _ _ (by rw [q2]; simp)]; exact q1, q2, q3⟩
   fq := fun j h1 h2 => by
    simp only [List.length_dropLast] at h1 h2
    simp only [List.getElem_dropLast]
    exact a.fq j (by omega) (by omega) }
theorem Rep.push {B : Bi} {s : CS} {L : Ly} {c : Nat} {h : Heap} (a : Rep B s L c h) {sz nx : Int} (hsz : 0 <= sz) {cs : List IV} (hcs : h.get L.fi = .cells cs) : ∃ L1, cpuC B { s with frames := s.frames ++ [⟨List.replicate sz.toNat 0, nx⟩] } L1 = (cpuC B s L).set 13 (.hslice (h.next + 1) 0 (s.frames.length + 1) 1) /\
  Rep B { s with frames := s.frames ++ [⟨List.replicate sz.toNat 0, nx⟩] } L1 c (((((h.push (.cells [.nilslice, .int .i64 sz, .int .i64 nx])).set L.fi .dead).push (.cells (cs.take s.frames.length ++ [.ptr h.next 0]))).set c (.cells (cpuC B { s with frames := s.frames ++ [⟨List.replicate sz.toNat 0, nx⟩] } L1)))) /\
  Frm L L1 h ((((h.push (.cells [.nilslice, .int .i64 sz, .int .i64 nx])).set L.fi .dead).push (.cells (cs.take s.frames.length ++ [.ptr h.next 0]))).set c (.cells (cpuC B { s with frames := s.frames ++ [⟨List.replicate sz.toNat 0, nx⟩] } L1))) := by
 have hcn := a.cpur.2
 have hfn := a.frr.2
 have hfl := a.fl
 obtain ⟨st, hst⟩ := a.fr
 rw [hst] at hcs
 cases hcs
 have htk : (ptrs L.fl ++ st).take s.frames.length = ptrs L.fl := by
  rw [List.take_append_of_le_length (by simp [ptrs, hfl]), List.take_of_length_le (by simp [ptrs, hfl])]
 have hfc : ¬ L.fi = c := fun z => by have := a.frr.1; rw [z, a.cpur.1] at this; cases this
 have hr : ∀ id, id < h.next -> updR (updR L.r h.next (.fr s.frames.length)) (h.next + 1) .frames id = L.r id := fun id hi => by rw [updR_ne (by omega), updR_ne (by omega)]
 have hg : ∀ (x y z : IObj) id, id < h.next -> L.r id ≠ .cpu -> L.r id ≠ .frames -> ((((h.push x).set L.fi .dead).push y).set c z).get id = h.get id := fun x y z id hi n1 n2 => by
  rw [get_set, if_neg (fun q => n1 (by rw [q]; exact a.cpur.1)), get_push, if_neg (by simp only [next_set, next_push]; omega), get_set, if_neg (fun q => n2 (by rw [q]; exact a.frr.1)), get_push, if_neg (by omega)]
 refine ⟨{ L with fi := h.next + 1, fl := L.fl ++ [⟨h.next, 0, []⟩], r := updR (updR L.r h.next (.fr s.frames.length)) (h.next + 1) .frames }, ?_, ?_, ?_⟩
 ·refine (cpu_setz (s := s) (L := L) a.rl 0 (.hslice (h.next + 1) 0 (s.frames.length + 1) 1) { s with frames := s.frames ++ [⟨List.replicate sz.toNat 0, nx⟩] } { L with fi := h.next + 1, fl := L.fl ++ [⟨h.next, 0, []⟩], r := updR (updR L.r h.next (.fr s.frames.length)) (h.next + 1) .frames } rfl rfl ?_).symm
  simp [cpuZ, outC]
 ·exact {
   cpu := by rw [get_set, if_pos rfl]
   cpur := ⟨by simp only; rw [hr _ hcn]; exact a.cpur.1, by simp only [next_set, next_push]; omega⟩
   wh := by
    obtain ⟨wl, h1, h2⟩ := a.wh
    exact ⟨wl, by simp only; rw [hg _ _ _ _ a.whr.2 (by rw [a.whr.1]; simp) (by rw [a.whr.1]; simp)]; exact h1, h2⟩
   whr := ⟨by simp only; rw [hr _ a.whr.2]; exact a.whr.1, by have := a.whr.2; simp only [next_set, next_push]; omega⟩
   fr := by
    refine ⟨[], ?_⟩
    simp only
    rw [get_set, if_neg (by omega), get_push, if_pos (by simp only [next_set, next_push]), htk]
    simp [ptrs]
   frr := ⟨updR_eq, by simp only [next_set, next_push]; omega⟩
   out := fun hn => by
    obtain ⟨h1, h2, h3⟩ := a.out hn
    exact ⟨by simp only; rw [hg _ _ _ _ h3 (by rw [h2]; simp) (by rw [h2]; simp)]; exact h1, by simp only; rw [hr _ h3]; exact h2, by simp only [next_set, next_push]; omega⟩
   al := a.al
   cl := a.cl
   rl := a.rl
   ar := fun j h1 h2 => by
    obtain ⟨q1, q2, q3⟩ := a.ar j h1 h2
    exact ⟨by simp only; rw [hg _ _ _ _ q3 (by rw [q2]; simp) (by rw [q2]; simp)]; exact q1, by simp only; rw [hr _ q3]; exact q2, by simp only [next_set, next_push]; omega⟩
   fl := by simp [hfl]
   fo := fun j h1 h2 => by
    simp only [List.length_append, List.length_cons, List.length_nil] at h1 h2
    by_cases hj : j < s.frames.length
    ·have hj2 : j < L.fl.length := by omega
     simp only [List.getElem_append_left hj, List.getElem_append_left hj2]
     obtain ⟨q1, q2, q3⟩ := a.fo j hj2 hj
     exact ⟨by rw [hg _ _ _ _ q3 (by rw [q2]; simp) (by rw [q2]; simp)]; exact q1, by rw [hr _ q3]; exact q2, by simp only [next_set, next_push]; omega⟩
    ·have e1 : j - s.frames.length = 0 := by omega
     have e2 : j - L.fl.length = 0 := by omega
     simp only [List.getElem_append_right (show s.frames.length <= j by omega), List.getElem_append_right (show L.fl.length <= j by omega), e1, e2, List.getElem_cons_zero]
     refine ⟨?_, ?_, by simp only [next_set, next_push]; omega⟩
     ·rw [get_set, if_neg (by omega), get_push, if_neg (by simp only [next_set, next_push]; omega), get_set, if_neg (by omega), get_push, if_pos rfl]
      simp [frC, slotC]
      omega
     ·rw [updR_ne (by omega), updR_eq, show j = s.frames.length by omega]
   fs := fun j h1 hn => by
    simp only [List.length_append, List.length_cons, List.length_nil] at h1
    by_cases hj2 : j < L.fl.length
    ·simp only [List.getElem_append_left hj2] at hn ⊢
     obtain ⟨q1, q2, q3⟩ := a.fs j hj2 hn
     exact ⟨by rw [hg _ _ _ _ q3 (by rw [q2]; simp) (by rw [q2]; simp)]; exact q1, by rw [hr _ q3]; exact q2, by simp only [next_set, next_push]; omega⟩
    ·have e2 : j - L.fl.length = 0 := by omega
     simp only [List.getElem_append_right (show L.fl.length <= j by omega), e2, List.getElem_cons_zero] at hn
     exact absurd rfl hn
   fq := fun j h1 h2 => by
    simp only [List.length_append, List.length_cons, List.length_nil] at h1 h2
    by_cases hj : j < s.frames.length
    ·have hj2 : j < L.fl.length := by omega
     simp only [List.getElem_append_left hj, List.getElem_append_left hj2]
     exact a.fq j hj2 hj
    ·have e1 : j - s.frames.length = 0 := by omega
     have e2 : j - L.fl.length = 0 := by omega
     simp only [List.getElem_append_right (show s.frames.length <= j by omega), List.getElem_append_right (show L.fl.length <= j by omega), e1, e2, List.getElem_cons_zero]
     simp }
 ·refine frm_nx rfl (by simp only [next_set, next_push]; omega) hr (fun id hi e => hg _ _ _ _ hi (by rw [e]; simp) (by rw [e]; simp))
end Go.M31
namespace Go.M31
open Go.Pv Go.M29 Go.M30 Go.M13
def aid (n j : Nat) : Nat := if j = 0 then n + 4 else n + 5 + j
def nrow (n k : Nat) (a : List Int) : List IV := (List.range k).map fun j => IV.hslice (aid n j) 0 (Int.toNat (a.getD j 0)) 1
def narr (n k : Nat) (a : List Int) : IV := if k = 0 then .nilslice else .vslice (some (n + 5)) k k 1 (nrow n k a)
def newC (n wl : Nat) (code ent slt arr : IV) (pc fuel : Int) : List IV :=
 [code, .hslice n 0 wl 1, ent, slt, arr, .int .i64 0, .int .i64 0, .int .i64 0, .int .i64 0, .int .i64 0, .int .i64 0, .int .i64 0, .int .i64 0, .nilslice, .int .i64 pc, .int .i64 fuel, .bool false, .int .i64 0, .int .i64 0, .nilslice, .int .i64 0]
structure New1 (B : Bi) (h : Heap) (f fuel : Int) (k : Nat) (hp : Heap) : Prop where
 kl : k <= (decA B.w).2.1.length
 cpu : hp.get (h.next + 1) = .cells (newC h.next B.w.length (codeC B) .nilslice .nilslice .nilslice (B.e.getD f.toNat 0) fuel)
 wh : ∃ wl : List Int, hp.get h.next = .cells (ints wl) /\ wl.length = B.w.length /\ ∀ j (h2 : j < (decA B.w).2.1.length), j < k -> wl[(decA B.w).2.1[j].toNat]? = some (j : Int)
 ot : ∀ i, i < h.next -> hp.get i = h.get i
 nx : hp.next = h.next + 2
structure New2 (B : Bi) (h : Heap) (f fuel : Int) (k : Nat) (hp : Heap) : Prop where
 kl : k <= B.a.length
 cpu : hp.get (h.next + 1) = .cells (newC h.next B.w.length (codeC B) (.vslice (some (h.next + 2)) B.e.length B.e.length 1 (ints B.e)) (.vslice (some (h.next + 3)) B.s.length B.s.length 1 (ints B.s)) (narr h.next k B.a) (B.e.getD f.toNat 0) fuel)
 wh : ∃ wl : List Int, hp.get h.next = .cells (ints wl) /\ wl.length = B.w.length /\ ∀ j (h2 : j < (decA B.w).2.1.length), wl[(decA B.w).2.1[j].toNat]? = some (j : Int)
 ar : ∀ j, j < k -> hp.get (aid h.next j) = .cells (ints (List.replicate (Int.toNat (B.a.getD j 0)) 0))
 ai : 0 < k -> hp.get (h.next + 5) = .tip k
 ot : ∀ i, i < h.next -> hp.get i = h.get i
 nx : hp.next = if k = 0 then h.next + 4 else h.next + 5 + k
end Go.M31
end
section
set_option linter.unusedVariables false
namespace Go.M31
open Go.Pv Go.M29 Go.M30 Go.M13
theorem dp_lt {B : Bi} (hv : VB B) (hw : ∀ x ∈ B.w, u32b x) : ∀ {j k : Nat} (hk : k < (decA B.w).2.1.length) (hjk : j < k), (decA B.w).2.1[j] < (decA B.w).2.1[k] := by
 have hok := decA_ok hw hv.2.2.2.2.2.1
 intro j k hk hjk
 induction k with
 | zero => omega
 | succ k ih =>
   obtain ⟨a1, a2, a3⟩ := decA_at hv.2.2.2.2.2.1 k (by omega) (by omega)
   have hp := (dec_pos hw a1).1
   have h3 := a3 hk
   rcases Nat.lt_or_ge j k with z | z
   ·have := ih (by omega) z
    omega
   ·have e : j = k := by omega
    subst e
    omega
theorem New1.step {B : Bi} {h hp : Heap} {f fuel : Int} {k : Nat} (hv : VB B) (hw : ∀ x ∈ B.w, u32b x) (n : New1 B h f fuel k hp) (hk : k < (decA B.w).2.1.length) {wl : List Int} (w1 : hp.get h.next = .cells (ints wl)) (w2 : wl.length = B.w.length)
  (w3 : ∀ j (h2 : j < (decA B.w).2.1.length), j < k -> wl[(decA B.w).2.1[j].toNat]? = some (j : Int)) : New1 B h f fuel (k + 1) (hp.set h.next (.cells (ints (wl.set (decA B.w).2.1[k].toNat (k : Int))))) := by
 have hok := decA_ok hw hv.2.2.2.2.2.1
 have hr := hok.2.1 _ (List.getElem_mem hk)
 exact {
  kl := hk
  cpu := by rw [get_set, if_neg (by omega)]; exact n.cpu
  wh := by
   refine ⟨_, by rw [get_set, if_pos rfl], by simpa using w2, fun j h2 hj => ?_⟩
   rw [List.getElem?_set]
   by_cases hjk : j = k
   ·subst hjk
    rw [if_pos rfl, if_pos (by omega)]
   ·have hlt := dp_lt hv hw hk (show j < k by omega)
    have hr2 := hok.2.1 _ (List.getElem_mem h2)
    rw [if_neg (by omega)]
    exact w3 j h2 (by omega)
  ot := fun i hi => by rw [get_set, if_neg (by omega)]; exact n.ot i hi
  nx := n.nx }
theorem narr_pos {n k : Nat} {a : List Int} (hk : 0 < k) : narr n k a = .vslice (some (n + 5)) k k 1 (nrow n k a) := by
 unfold narr
 rw [if_neg (by omega)]
theorem nrow_succ (n k : Nat) (a : List Int) : nrow n (k + 1) a = nrow n k a ++ [.hslice (aid n k) 0 (Int.toNat (a.getD k 0)) 1] := by
 unfold nrow
 rw [List.range_succ, List.map_append]
 rfl
theorem repl_ints (n : Nat) : repl n [IV.int .i64 0] = ints (List.replicate n 0) := by
 induction n with
 | zero => rfl
 | succ n ih =>
   rw [List.replicate_succ]
   simp only [repl, ih]
   rfl
def newR (n F k : Nat) : Nat -> Role := fun id =>
 if id = n then .which else if id = n + 1 then .cpu else if id = F then .fr 0 else if id = F + 1 then .frames else if id = n + 4 then .arr 0 else if n + 5 < id /\ id <= n + 5 + k then .arr (id - n - 5) else .other
theorem newR_wi (n F k : Nat) : newR n F k n = .which := by unfold newR; rw [if_pos rfl]
theorem newR_c (n F k : Nat) : newR n F k (n + 1) = .cpu := by unfold newR; rw [if_neg (by omega), if_pos rfl]
theorem newR_f {n F k : Nat} (h : n + 2 <= F) : newR n F k F = .fr 0 := by unfold newR; rw [if_neg (by omega), if_neg (by omega), if_pos rfl]
theorem newR_fi {n F k : Nat} (h : n + 2 <= F) : newR n F k (F + 1) = .frames := by unfold newR; rw [if_neg (by omega), if_neg (by omega), if_neg (by omega), if_pos rfl]
theorem newR_old {n F k i : Nat} (h : n + 2 <= F) (hi : i < n) : newR n F k i = .other := by unfold newR; rw [if_neg (by omega), if_neg (by omega), if_neg (by omega), if_neg (by omega), if_neg (by omega), if_neg (by omega)]
def newL (B : Bi) (n F : Nat) : Ly := { r := newR n F B.a.length, wi := n, fi := F + 1, oi := 0, ei := n + 2, si := n + 3, ai := n + 5, arr := (List.range B.a.length).map (aid n), fl := [⟨F, 0, []⟩] }
theorem nrow_rows (B : Bi) (n F : Nat) : arrRows B (newL B n F) = nrow n B.a.length B.a := by
 unfold arrRows nrow newL
 apply List.ext_getElem?
 intro j
 simp only [List.getElem?_zipWith, List.getElem?_map]
 by_cases hj : j < B.a.length
 ·rw [List.getElem?_eq_getElem hj, List.getElem?_range hj]
  simp [List.getD_eq_getElem?_getD, List.getElem?_eq_getElem hj]
 ·rw [List.getElem?_eq_none (by simpa using hj), List.getElem?_eq_none (by simpa using hj)]
  simp
theorem new_cells (B : Bi) (n F : Nat) (f fuel : Int) (args : List Int) (ha : args.length <= 8) :
  (spl (newC n B.w.length (codeC B) (.vslice (some (n + 2)) B.e.length B.e.length 1 (ints B.e)) (.vslice (some (n + 3)) B.s.length B.s.length 1 (ints B.s)) (narr n B.a.length B.a) (B.e.getD f.toNat 0) fuel) 5 (ints args)).set 13 (.hslice (F + 1) 0 1 1) = cpuC B (initS B f args fuel) (newL B n F) := by
 have e1 : newC n B.w.length (codeC B) (.vslice (some (n + 2)) B.e.length B.e.length 1 (ints B.e)) (.vslice (some (n + 3)) B.s.length B.s.length 1 (ints B.s)) (narr n B.a.length B.a) (B.e.getD f.toNat 0) fuel =
   [codeC B, .hslice n 0 B.w.length 1, .vslice (some (n + 2)) B.e.length B.e.length 1 (ints B.e), .vslice (some (n + 3)) B.s.length B.s.length 1 (ints B.s), narr n B.a.length B.a] ++ (ints (List.replicate 8 0) ++ [.nilslice, .int .i64 (B.e.getD f.toNat 0), .int .i64 fuel, .bool false, .int .i64 0, .int .i64 0, .nilslice, .int .i64 0]) := rfl
 have eA : cpuA B (newL B n F) = [codeC B, .hslice n 0 B.w.length 1, .vslice (some (n + 2)) B.e.length B.e.length 1 (ints B.e), .vslice (some (n + 3)) B.s.length B.s.length 1 (ints B.s), narr n B.a.length B.a] := by
  unfold cpuA
  have : arrC B (newL B n F) = narr n B.a.length B.a := by
   unfold arrC narr
   by_cases h0 : B.a = []
   ·simp [h0]
   ·have h1 : ¬ B.a.length = 0 := fun z => h0 (List.eq_nil_of_length_eq_zero z)
    rw [if_neg h0, if_neg h1, nrow_rows]
    rfl
  rw [this]
  rfl
 rw [e1]
 unfold spl
 rw [List.take_append_of_le_length (by simp), List.take_of_length_le (by simp), ints_len, List.drop_append, List.drop_of_length_le (by simp), List.nil_append]
 have e2 : 5 + args.length - [codeC B, IV.hslice n 0 B.w.length 1, .vslice (some (n + 2)) B.e.length B.e.length 1 (ints B.e), .vslice (some (n + 3)) B.s.length B.s.length 1 (ints B.s), narr n B.a.length B.a].length = args.length := by simp
 rw [e2, List.drop_append_of_le_length (by rw [ints_len]; simpa using ha)]
 have e3 : (ints (List.replicate 8 0)).drop args.length = ints (List.replicate (8 - args.length) 0) := by
  unfold ints
  rw [<- List.map_drop, List.drop_replicate]
 rw [e3]
 unfold cpuC
 rw [eA, List.append_assoc, List.set_append_right _ _ (by simp), <- List.append_assoc, List.set_append_right _ _ (by simp [ints]; omega)]
 have e4 : 13 - [codeC B, IV.hslice n 0 B.w.length 1, .vslice (some (n + 2)) B.e.length B.e.length 1 (ints B.e), .vslice (some (n + 3)) B.s.length B.s.length 1 (ints B.s), narr n B.a.length B.a].length - (ints args ++ ints (List.replicate (8 - args.length) 0)).length = 0 := by
  simp [ints]; omega
 rw [e4]
 congr 2
 unfold ints initS
 simp
theorem new_rep {B : Bi} {h x : Heap} {f fuel : Int} {args : List Int} (hv : VB B) (hf : 0 <= f /\ f < B.e.length) (ha : args.length <= 8) (n2 : New2 B h f fuel B.a.length x) (C5 : List IV) :
  Rep B (initS B f args fuel) (newL B h.next x.next) (h.next + 1) ((((x.set (h.next + 1) (.cells C5)).push (.cells [.nilslice, .int .i64 (B.s.getD f.toNat 0), .int .i64 0])).push (.cells [.ptr x.next 0])).set (h.next + 1) (.cells (cpuC B (initS B f args fuel) (newL B h.next x.next)))) := by
 have hnx := n2.nx
 have hx4 : h.next + 4 <= x.next := by rw [hnx]; split <;> omega
 have hg : ∀ id, id < x.next -> id ≠ h.next + 1 -> ((((x.set (h.next + 1) (.cells C5)).push (.cells [.nilslice, .int .i64 (B.s.getD f.toNat 0), .int .i64 0])).push (.cells [.ptr x.next 0])).set (h.next + 1) (.cells (cpuC B (initS B f args fuel) (newL B h.next x.next)))).get id = x.get id := fun id h1 h2 => by
  rw [get_set, if_neg h2, get_push, if_neg (by simp only [next_push, next_set]; omega), get_push, if_neg (by simp only [next_set]; omega), get_set, if_neg h2]
 have hN : ((((x.set (h.next + 1) (.cells C5)).push (.cells [.nilslice, .int .i64 (B.s.getD f.toNat 0), .int .i64 0])).push (.cells [.ptr x.next 0])).set (h.next + 1) (.cells (cpuC B (initS B f args fuel) (newL B h.next x.next)))).next = x.next + 2 := rfl
 obtain ⟨v1, v2, v3, v4, v5, v6, v7, v8, v9, v10⟩ := hv
 have hfl : f.toNat < B.e.length := by omega
 obtain ⟨q1, q2, q3, e1, e2, e3, e4, e5, e6⟩ := v8 _ hfl
 have hsz : B.s.getD f.toNat 0 = q3 := getD_at e3
 have hr0 : newR h.next x.next B.a.length x.next = .fr 0 := newR_f (by omega)
 exact {
  cpu := by rw [get_set, if_pos rfl]
  cpur := ⟨newR_c _ _ _, by rw [hN]; omega⟩
  wh := by
   obtain ⟨wl, g1, g2⟩ := n2.wh
   exact ⟨wl, by show Heap.get _ h.next = _; rw [hg _ (by omega) (by omega)]; exact g1, g2⟩
  whr := ⟨newR_wi _ _ _, by show h.next < _; rw [hN]; omega⟩
  fr := by
   refine ⟨[], ?_⟩
   show Heap.get _ (x.next + 1) = _
   rw [get_set, if_neg (by omega), get_push, if_pos (by simp only [next_push, next_set])]
   rfl
  frr := ⟨newR_fi (by omega), by show x.next + 1 < _; rw [hN]; omega⟩
  out := fun hn => absurd rfl hn
  al := by simp [newL]
  cl := by simp [initS, List.map_map, Function.comp_def]
  rl := by simp [initS]; omega
  ar := fun j h1 h2 => by
   have hj : j < B.a.length := by simpa [newL] using h1
   have e : (newL B h.next x.next).arr[j] = aid h.next j := by simp [newL]
   have e2 : (initS B f args fuel).cells[j] = List.replicate (Int.toNat (B.a.getD j 0)) 0 := by
    simp [initS, List.getD_eq_getElem?_getD, List.getElem?_eq_getElem hj]
   have hid : aid h.next j < x.next /\ h.next + 4 <= aid h.next j := by
    rw [hnx, if_neg (by omega)]
    unfold aid
    split <;> omega
   rw [e, e2]
   refine ⟨by rw [hg _ hid.1 (by omega)]; exact n2.ar j hj, ?_, by rw [hN]; omega⟩
   show newR _ _ _ _ = _
   unfold newR
   rw [if_neg (by omega), if_neg (by omega), if_neg (by omega), if_neg (by omega)]
   unfold aid
   by_cases h0 : j = 0
   ·rw [if_pos h0, if_pos rfl, h0]
   ·rw [if_neg h0, if_neg (by omega), if_pos (by omega)]
    congr 1
    omega
  fl := rfl
  fo := fun j h1 h2 => by
   have hj : j = 0 := by simp [newL] at h1; omega
   subst hj
   refine ⟨?_, hr0, by show x.next < _; rw [hN]; omega⟩
   show Heap.get _ x.next = _
   rw [get_set, if_neg (by omega), get_push, if_neg (by simp only [next_push, next_set]; omega), get_push, if_pos (by simp only [next_set])]
   simp only [newL, initS, frC, slotC, List.getElem_cons_zero, List.length_replicate, if_true]
   rw [hsz, Int.toNat_of_nonneg e6.1]
  fs := fun j h1 hn => by
   have hj : j = 0 := by simp [newL] at h1; omega
   subst hj
   exact absurd rfl hn
  fq := fun j h1 h2 => by
   have hj : j = 0 := by simp [newL] at h1; omega
   subst hj
   simp [newL, initS] }
end Go.M31
end
section
set_option linter.unusedVariables false
namespace Go.M31
open Go.Pv Go.M29 Go.M30 Go.M13
def rnN (B : Bi) : Nat -> CS -> CS
 | 0, s => s
 | n + 1, s => rnN B n (stepS B s)
theorem step_over {B : Bi} {s : CS} (h : s.over = true) : stepS B s = s := by unfold stepS; rw [if_pos h]
theorem rnN_over {B : Bi} {s : CS} (h : s.over = true) : ∀ n, rnN B n s = s
 | 0 => rfl
 | n + 1 => by unfold rnN; rw [step_over h]; exact rnN_over h n
theorem rnN_succ {B : Bi} : ∀ (n : Nat) (s : CS), rnN B (n + 1) s = stepS B (rnN B n s)
 | 0, s => rfl
 | n + 1, s => by
   show rnN B (n + 1) (stepS B s) = _
   rw [rnN_succ n (stepS B s)]
   rfl
theorem rnN_add {B : Bi} (n m : Nat) (s : CS) : rnN B (n + m) s = rnN B m (rnN B n s) := by
 induction m with
 | zero => rfl
 | succ m ih => rw [<- Nat.add_assoc, rnN_succ, rnN_succ, ih]
theorem wf_run {B : Bi} (hv : VB B) (hw : ∀ x ∈ B.w, u32b x) {s : CS} (h : WF B s) : ∀ n, WF B (rnN B n s)
 | 0 => h
 | n + 1 => by rw [rnN_succ]; exact wf_step hv hw (wf_run hv hw h n)
theorem lens_ite {p : Prop} [Decidable p] {a b s : CS} (ha : a.frames.length <= s.frames.length + 1 /\ a.out.length <= s.out.length + 1) (hb : b.frames.length <= s.frames.length + 1 /\ b.out.length <= s.out.length + 1) :
  (if p then a else b).frames.length <= s.frames.length + 1 /\ (if p then a else b).out.length <= s.out.length + 1 := by
 by_cases h : p
 ·rw [if_pos h]; exact ha
 ·rw [if_neg h]; exact hb
theorem lens_comp (s : CS) (i : In) : (compS s i).frames.length <= s.frames.length + 1 /\ (compS s i).out.length <= s.out.length + 1 := by
 unfold compS
 repeat' (refine lens_ite ?_ ?_)
 all_goals first
  | exact ⟨Nat.le_succ _, Nat.le_succ _⟩
  | (refine ⟨Nat.le_succ _, ?_⟩; show (s.out ++ _).length <= _; rw [List.length_append]; exact Nat.le_refl _)
  | (refine ⟨?_, Nat.le_succ _⟩; unfold setTop; simp; done)
  | (refine ⟨?_, Nat.le_succ _⟩; unfold setTop; simp; omega)
theorem lens_acc (s : CS) (i : In) : (accS s i).frames.length <= s.frames.length + 1 /\ (accS s i).out.length <= s.out.length + 1 := by
 unfold accS
 repeat' (refine lens_ite ?_ ?_)
 all_goals exact ⟨Nat.le_succ _, Nat.le_succ _⟩
theorem lens_step (B : Bi) (s : CS) : (stepS B s).frames.length <= s.frames.length + 1 /\ (stepS B s).out.length <= s.out.length + 1 := by
 unfold stepS
 refine lens_ite ⟨Nat.le_succ _, Nat.le_succ _⟩ ?_
 have key : (effS B s).1.frames.length <= s.frames.length + 1 /\ (effS B s).1.out.length <= s.out.length + 1 := by
  unfold effS
  simp only
  split
  ·unfold jumpS
   repeat' split
   all_goals first
    | exact ⟨Nat.le_succ _, Nat.le_succ _⟩
    | (simp; done)
    | (simp; omega)
  ·split
   ·split
    ·exact ⟨Nat.le_succ _, Nat.le_succ _⟩
    ·exact ⟨Nat.le_succ _, Nat.le_succ _⟩
   ·split
    ·exact ⟨Nat.le_succ _, Nat.le_succ _⟩
    ·split
     ·exact lens_acc s _
     ·exact lens_comp s _
 unfold finS
 exact lens_ite key key
theorem lens_run (B : Bi) (s : CS) : ∀ n, (rnN B n s).frames.length <= s.frames.length + n /\ (rnN B n s).out.length <= s.out.length + n
 | 0 => ⟨Nat.le_refl _, Nat.le_refl _⟩
 | n + 1 => by
   have h1 := lens_run B s n
   have h2 := lens_step B (rnN B n s)
   rw [rnN_succ]
   omega
theorem wf_init {B : Bi} (hv : VB B) {f : Int} (hf : 0 <= f /\ f < B.e.length) {args : List Int} (ha : args.length <= 8) (fuel : Int) : WF B (initS B f args fuel) := by
 have hfl : f.toNat < B.e.length := by omega
 obtain ⟨q1, q2, q3, e1, e2, e3, e4, e5, e6⟩ := hv.2.2.2.2.2.2.2.1 _ hfl
 refine ⟨by simp [initS]; omega, by simp [initS, List.map_map, Function.comp_def], by simp [initS], ?_, fun j hj h0 => ?_, fun g hg => ?_⟩
 ·show St B.w (B.e.getD f.toNat 0)
  rw [getD_at e1]; exact e4
 ·simp [initS] at hj; omega
 ·simp only [initS, List.mem_singleton] at hg
  rw [hg]
  simp only [List.length_replicate]
  rw [getD_at e3]
  omega
theorem err_ok {B : Bi} {f fuel : Int} {args : List Int} (he : newErr B f args fuel = 0) : VB B /\ (0 <= f /\ f < B.e.length) /\ (args.length : Int) = B.p.getD f.toNat 0 /\ (0 <= fuel /\ fuel <= 1000) /\ args.length <= 8 := by
 unfold newErr at he
 by_cases hv : VB B
 ·rw [if_neg (fun z => z hv)] at he
  by_cases hf : f < 0 \/ (B.e.length : Int) <= f
  ·rw [if_pos hf] at he; omega
  ·rw [if_neg hf] at he
   by_cases ha : (args.length : Int) ≠ B.p.getD f.toNat 0
   ·rw [if_pos ha] at he; omega
   ·rw [if_neg ha] at he
    by_cases hu : fuel < 0 \/ 1000 < fuel
    ·rw [if_pos hu] at he; omega
    ·have hfl : f.toNat < B.e.length := by omega
     obtain ⟨q1, q2, q3, e1, e2, e3, e4, e5, e6⟩ := hv.2.2.2.2.2.2.2.1 _ hfl
     have := getD_at e2
     refine ⟨hv, by omega, by simpa using ha, by omega, ?_⟩
     have ha' : (args.length : Int) = B.p.getD f.toNat 0 := by simpa using ha
     omega
 ·rw [if_pos hv] at he; omega
theorem err_0 {B : Bi} {f fuel : Int} {args : List Int} (hv : VB B) (hf : 0 <= f /\ f < B.e.length) (ha : (args.length : Int) = B.p.getD f.toNat 0) (hu : 0 <= fuel /\ fuel <= 1000) : newErr B f args fuel = 0 := by
 unfold newErr
 rw [if_neg (fun z => z hv), if_neg (by omega), if_neg (fun z => z ha), if_neg (by omega)]
def outC5 (s : CS) : Int × Int × List Int × Int × Bool := if s.over then (s.kind, s.code, s.out, s.val, true) else (0, 0, [], 0, false)
noncomputable def runR (B : Bi) (f : Int) (args : List Int) (fuel most : Int) : Int × Int × List Int × Int × Bool :=
 if newErr B f args fuel = 0 then outC5 (rnN B most.toNat (initS B f args fuel)) else (0, 0, [], 0, false)
def sameO (k c : Int) (o : List Int) (v k' c' : Int) (o' : List Int) (v' : Int) : Bool := decide (k = k' /\ c = c' /\ v = v' /\ o = o')
end Go.M31
end
section
set_option linter.unusedVariables false
namespace Go.M31
open Go.Pv Go.M29 Go.M30 Go.M13
theorem Rep.same {B : Bi} {s : CS} {L : Ly} {c : Nat} {h h' : Heap} (a : Rep B s L c h) (e : ∀ k, k < h.next -> h'.get k = h.get k) (n : h.next <= h'.next) : Rep B s L c h' := by
 exact {
  cpu := by rw [e _ a.cpur.2]; exact a.cpu
  cpur := ⟨a.cpur.1, Nat.lt_of_lt_of_le a.cpur.2 n⟩
  wh := by
   obtain ⟨wl, h1, h2⟩ := a.wh
   exact ⟨wl, by rw [e _ a.whr.2]; exact h1, h2⟩
  whr := ⟨a.whr.1, Nat.lt_of_lt_of_le a.whr.2 n⟩
  fr := by
   obtain ⟨st, h1⟩ := a.fr
   exact ⟨st, by rw [e _ a.frr.2]; exact h1⟩
  frr := ⟨a.frr.1, Nat.lt_of_lt_of_le a.frr.2 n⟩
  out := fun hn => by
   obtain ⟨h1, h2, h3⟩ := a.out hn
   exact ⟨by rw [e _ h3]; exact h1, h2, Nat.lt_of_lt_of_le h3 n⟩
  al := a.al
  cl := a.cl
  rl := a.rl
  ar := fun j h1 h2 => by
   obtain ⟨q1, q2, q3⟩ := a.ar j h1 h2
   exact ⟨by rw [e _ q3]; exact q1, q2, Nat.lt_of_lt_of_le q3 n⟩
  fl := a.fl
  fo := fun j h1 h2 => by
   obtain ⟨q1, q2, q3⟩ := a.fo j h1 h2
   exact ⟨by rw [e _ q3]; exact q1, q2, Nat.lt_of_lt_of_le q3 n⟩
  fs := fun j h1 h2 => by
   obtain ⟨q1, q2, q3⟩ := a.fs j h1 h2
   exact ⟨by rw [e _ q3]; exact q1, q2, Nat.lt_of_lt_of_le q3 n⟩
  fq := a.fq }
def aL (f x y : Int) : List Int := if f = 0 then [x, y] else [x]
theorem arg2 {f x y : Int} {K : Int -> Prop} (hf : f = 0 \/ f = 1) (hk : ∀ n0 : Int, n0.toNat - 0 = (aL f x y).length -> List.take ((n0.toNat - 0) * 1) [IV.int .i64 x, IV.int .i64 y] = (aL f x y).map (IV.int .i64) -> K n0) :
  needS (decide (0 <= f) && decide (f < 2)) (ldIS .i64 [IV.int .i64 2, IV.int .i64 1] (f.toNat * 1) fun n0 => needS (true && (decide (0 <= n0) && decide (n0 <= 2))) (K n0)) := by
 rcases hf with rfl | rfl
 ·refine needS_intro rfl ?_
  unfold ldIS
  exact needS_intro rfl (hk 2 rfl rfl)
 ·refine needS_intro rfl ?_
  unfold ldIS
  exact needS_intro rfl (hk 1 rfl rfl)
theorem f01 (f : Int) : f % 2 = 0 \/ f % 2 = 1 := by omega
theorem err2 {w : List Int} {m f x y fuel : Int} (hv : VB ⟨w, [0, m], [2, 1], [5, 2], [3, 2]⟩) (hf : f = 0 \/ f = 1) (hu : 0 <= fuel /\ fuel <= 1000) : newErr ⟨w, [0, m], [2, 1], [5, 2], [3, 2]⟩ f (aL f x y) fuel = 0 := by
 refine err_0 hv ?_ ?_ hu
 ·simp only [List.length_cons, List.length_nil]; omega
 ·rcases hf with rfl | rfl <;> rfl
theorem aL_len (f x y : Int) : (aL f x y).length <= 8 := by unfold aL; split <;> simp
theorem sameO_refl (k c v : Int) (o : List Int) : sameO k c o v k c o v = true := decide_eq_true ⟨rfl, rfl, rfl, rfl⟩
theorem outC5_len (s : CS) : (outC5 s).2.2.1.length <= s.out.length := by unfold outC5; split <;> simp
theorem runR_len {B : Bi} {f fuel most : Int} {args : List Int} (hm : most <= 1000) : (runR B f args fuel most).2.2.1.length <= 1000 := by
 unfold runR
 by_cases h : newErr B f args fuel = 0
 ·rw [if_pos h]
  have h1 := outC5_len (rnN B most.toNat (initS B f args fuel))
  have h2 := (lens_run B (initS B f args fuel) most.toNat).2
  have h3 : (initS B f args fuel).out.length = 0 := rfl
  omega
 ·rw [if_neg h]; exact Nat.zero_le _
def wf_ (s : CS) (x : Int) : CS := { s with fuel := x }
theorem fuel_ite {p : Prop} [Decidable p] {a b a' b' : CS} {x : Int} (ha : a' = wf_ a x) (hb : b' = wf_ b x) : (if p then a' else b') = wf_ (if p then a else b) x := by
 by_cases h : p
 ·rw [if_pos h, if_pos h]; exact ha
 ·rw [if_neg h, if_neg h]; exact hb
theorem fuel_iteP {p : Prop} [Decidable p] {a b a' b' : CS × Int} {x : Int} (ha : a' = (wf_ a.1 x, a.2)) (hb : b' = (wf_ b.1 x, b.2)) : (if p then a' else b') = (wf_ (if p then a else b).1 x, (if p then a else b).2) := by
 by_cases h : p
 ·rw [if_pos h, if_pos h]; exact ha
 ·rw [if_neg h, if_neg h]; exact hb
theorem fuel_comp (s : CS) (i : In) (x : Int) : compS (wf_ s x) i = wf_ (compS s i) x := by
 unfold compS
 repeat' (refine fuel_ite ?_ ?_)
 all_goals rfl
theorem fuel_acc (s : CS) (i : In) (x : Int) : accS (wf_ s x) i = wf_ (accS s i) x := by
 unfold accS
 repeat' (refine fuel_ite ?_ ?_)
 all_goals rfl
theorem fuel_jump (B : Bi) (s : CS) (i : In) (nx x : Int) : jumpS B (wf_ s x) i nx = (wf_ (jumpS B s i nx).1 x, (jumpS B s i nx).2) := by
 unfold jumpS
 repeat' (refine fuel_iteP ?_ ?_)
 all_goals rfl
theorem fuel_step (B : Bi) (s : CS) (x d : Int) (hs : 0 <= s.fuel) (hx : x = s.fuel + d) (hd : 0 <= d) (hm : x <= 1000000) :
  (∃ x', stepS B (wf_ s x) = wf_ (stepS B s) x' /\ x' = (stepS B s).fuel + d /\ 0 <= (stepS B s).fuel /\ (stepS B s).fuel <= s.fuel) \/ ((stepS B s).over = true /\ (stepS B s).kind = 3 /\ (stepS B s).out = s.out) := by
 by_cases ho : s.over = true
 ·left
  refine ⟨x, ?_, ?_⟩
  ·rw [step_over ho, step_over (s := wf_ s x) ho]
  ·rw [step_over ho]; exact ⟨hx, hs, Int.le_refl _⟩
 ·have e1 : stepS B s = finS (effS B s) := if_neg ho
  have e2 : stepS B (wf_ s x) = finS (effS B (wf_ s x)) := if_neg ho
  have fin : ∀ (p : CS × Int) (y : Int), finS (wf_ p.1 y, p.2) = wf_ (finS p) y := fun p y => by
   unfold finS
   exact fuel_ite rfl rfl
  have ffu : ∀ p : CS × Int, (finS p).fuel = p.1.fuel := fun p => by unfold finS; split <;> rfl
  rw [e1, e2]
  have go : ∀ p : CS × Int, effS B s = p -> effS B (wf_ s x) = (wf_ p.1 x, p.2) -> p.1.fuel = s.fuel -> (∃ x', finS (effS B (wf_ s x)) = wf_ (finS (effS B s)) x' /\ x' = (finS (effS B s)).fuel + d /\ 0 <= (finS (effS B s)).fuel /\ (finS (effS B s)).fuel <= s.fuel) := fun p h1 h2 h3 => by
   rw [h1, h2]
   refine ⟨x, fin p x, ?_⟩
   rw [ffu, h3]
   exact ⟨hx, hs, Int.le_refl _⟩
  have ii : insS B (wf_ s x) = insS B s := rfl
  have nn : nxS B (wf_ s x) = nxS B s := rfl
  have fc : ∀ (a : CS) (i : In), (compS a i).fuel = a.fuel := fun a i => by
   have := fuel_comp a i a.fuel
   have h2 : wf_ a a.fuel = a := rfl
   rw [h2] at this
   rw [this]; rfl
  have fa : ∀ (a : CS) (i : In), (accS a i).fuel = a.fuel := fun a i => by
   have := fuel_acc a i a.fuel
   have h2 : wf_ a a.fuel = a := rfl
   rw [h2] at this
   rw [this]; rfl
  have fj : ∀ (a : CS) (i : In) (n : Int), (jumpS B a i n).1.fuel = a.fuel := fun a i n => by
   have := fuel_jump B a i n a.fuel
   have h2 : wf_ a a.fuel = a := rfl
   rw [h2] at this
   rw [this]; rfl
  have d1 : ∀ t : CS, effS B t = if (insS B t).op = 2 \/ (insS B t).op = 6 \/ (insS B t).op = 5 \/ (insS B t).op = 7 \/ (insS B t).op = 8 then jumpS B t (insS B t) (nxS B t)
   else if (insS B t).op = 3 then (if t.fuel = 0 then (stopS t 3 0 0, nxS B t) else ({ t with fuel := IntKind.i64.wrap (t.fuel - 1) }, nxS B t))
   else if (insS B t).op = 4 then (stopS t 2 (insS B t).n 0, nxS B t)
   else if (insS B t).op = 34 \/ (insS B t).op = 35 then (accS t (insS B t), nxS B t) else (compS t (insS B t), nxS B t) := fun _ => rfl
  have a1 := d1 s
  have a2 := d1 (wf_ s x)
  rw [ii, nn] at a2
  by_cases c1 : (insS B s).op = 2 \/ (insS B s).op = 6 \/ (insS B s).op = 5 \/ (insS B s).op = 7 \/ (insS B s).op = 8
  ·rw [if_pos c1] at a1 a2
   exact .inl (go _ a1 (by rw [a2, fuel_jump]) (fj _ _ _))
  ·rw [if_neg c1] at a1 a2
   by_cases c2 : (insS B s).op = 3
   ·rw [if_pos c2] at a1 a2
    by_cases c3 : s.fuel = 0
    ·rw [if_pos c3] at a1
     right
     rw [a1]
     unfold finS
     exact ⟨rfl, rfl, rfl⟩
    ·rw [if_neg c3] at a1
     have c4 : ¬ (wf_ s x).fuel = 0 := by show ¬ x = 0; omega
     rw [if_neg c4] at a2
     left
     have q : (wf_ s x).fuel = x := rfl
     rw [a1, a2, q]
     refine ⟨IntKind.i64.wrap (x - 1), fin ({ s with fuel := IntKind.i64.wrap (s.fuel - 1) }, nxS B s) _, ?_⟩
     rw [ffu]
     simp only
     rw [IntWalk.i64_in _ (by omega), IntWalk.i64_in _ (by omega)]
     omega
   ·rw [if_neg c2] at a1 a2
    by_cases c3 : (insS B s).op = 4
    ·rw [if_pos c3] at a1 a2
     exact .inl (go _ a1 a2 rfl)
    ·rw [if_neg c3] at a1 a2
     by_cases c4 : (insS B s).op = 34 \/ (insS B s).op = 35
     ·rw [if_pos c4] at a1 a2
      exact .inl (go _ a1 (by rw [a2, fuel_acc]) (fa _ _))
     ·rw [if_neg c4] at a1 a2
      exact .inl (go _ a1 (by rw [a2, fuel_comp]) (fc _ _))
theorem pre_ite {p : Prop} [Decidable p] {a b : CS} {o : List Int} (ha : o <+: a.out) (hb : o <+: b.out) : o <+: (if p then a else b).out := by
 by_cases h : p
 ·rw [if_pos h]; exact ha
 ·rw [if_neg h]; exact hb
theorem pre_iteP {p : Prop} [Decidable p] {a b : CS × Int} {o : List Int} (ha : o <+: a.1.out) (hb : o <+: b.1.out) : o <+: (if p then a else b).1.out := by
 by_cases h : p
 ·rw [if_pos h]; exact ha
 ·rw [if_neg h]; exact hb
theorem pre_step (B : Bi) (s : CS) : s.out <+: (stepS B s).out := by
 unfold stepS
 refine pre_ite (List.prefix_refl _) ?_
 have key : s.out <+: (effS B s).1.out := by
  unfold effS
  simp only
  refine pre_iteP ?_ (pre_iteP (pre_iteP (List.prefix_refl _) (List.prefix_refl _)) (pre_iteP (List.prefix_refl _) (pre_iteP ?_ ?_)))
  ·unfold jumpS
   repeat' (refine pre_iteP ?_ ?_)
   all_goals exact List.prefix_refl _
  ·unfold accS
   repeat' (refine pre_ite ?_ ?_)
   all_goals exact List.prefix_refl _
  ·unfold compS
   repeat' (refine pre_ite ?_ ?_)
   all_goals first
    | exact List.prefix_refl _
    | exact List.prefix_append _ _
 unfold finS
 exact pre_ite key key
theorem fuel_run (B : Bi) (s : CS) (d : Int) (hd : 0 <= d) (hs : 0 <= s.fuel) (hm : s.fuel + d <= 1000000) : ∀ n,
  (∃ x, rnN B n (wf_ s (s.fuel + d)) = wf_ (rnN B n s) x /\ x = (rnN B n s).fuel + d /\ 0 <= (rnN B n s).fuel /\ (rnN B n s).fuel <= s.fuel) \/ ((rnN B n s).over = true /\ (rnN B n s).kind = 3 /\ (rnN B n s).out <+: (rnN B n (wf_ s (s.fuel + d))).out)
 | 0 => .inl ⟨s.fuel + d, rfl, rfl, hs, Int.le_refl _⟩
 | n + 1 => by
   rw [rnN_succ, rnN_succ]
   rcases fuel_run B s d hd hs hm n with ⟨x, h1, h2, h3, h4⟩ | ⟨h1, h2, h3⟩
   ·rw [h1]
    rcases fuel_step B (rnN B n s) x d h3 h2 hd (by omega) with ⟨x', g1, g2, g3, g4⟩ | ⟨g1, g2, g3⟩
    ·exact .inl ⟨x', g1, g2, g3, by omega⟩
    ·refine .inr ⟨g1, g2, ?_⟩
     rw [g3]
     exact pre_step B (wf_ (rnN B n s) x)
   ·right
    rw [step_over h1]
    exact ⟨h1, h2, List.IsPrefix.trans h3 (pre_step B _)⟩
theorem more_fuel {B : Bi} {f n d most : Int} {args : List Int} (h1 : newErr B f args n = 0) (h2 : newErr B f args (n + d) = 0) (hd : 0 <= d) (hn : 0 <= n) (hm : n + d <= 1000000)
  (o1 : (runR B f args n most).2.2.2.2 = true) (o2 : (runR B f args (n + d) most).2.2.2.2 = true) :
  (runR B f args n most = runR B f args (n + d) most) \/ ((runR B f args n most).1 = 3 /\ (runR B f args n most).2.2.1 <+: (runR B f args (n + d) most).2.2.1) := by
 unfold runR at *
 rw [if_pos h1] at *
 rw [if_pos h2] at *
 have e : initS B f args (n + d) = wf_ (initS B f args n) ((initS B f args n).fuel + d) := rfl
 rw [e] at o2 ⊢
 have ov : ∀ s : CS, (outC5 s).2.2.2.2 = true -> s.over = true := fun s hs => by
  unfold outC5 at hs
  split at hs
  ·assumption
  ·exact absurd hs (by simp)
 have p1 := ov _ o1
 have p2 := ov _ o2
 rcases fuel_run B (initS B f args n) d hd hn hm most.toNat with ⟨x, g1, _, _, _⟩ | ⟨g1, g2, g3⟩
 ·left
  rw [g1]
  rfl
 ·right
  unfold outC5
  rw [if_pos p1, if_pos p2]
  exact ⟨g2, g3⟩
theorem init_reg {B : Bi} {f fuel : Int} {args : List Int} (k : Nat) (hk : k < 8) (ha : args.length <= 8) : rg (initS B f args fuel) k = if h : k < args.length then args[k] else 0 := by
 show (args ++ List.replicate (8 - args.length) 0).getD (k : Int).toNat 0 = _
 rw [Int.toNat_natCast, List.getD_eq_getElem?_getD]
 split
 ·rename_i h
  rw [List.getElem?_append_left h, List.getElem?_eq_getElem h]; rfl
 ·rename_i h
  rw [List.getElem?_append_right (by omega), List.getElem?_replicate]
  rw [if_pos (by omega)]; rfl
end Go.M31
end
section
set_option linter.unusedVariables false
namespace Go.M31
open Go.Pv Go.M29 Go.M30 Go.M13
structure RL where
 r : Nat -> Role
 fi : Option Nat
 fe : Nat
 oi : Nat
 oe : Nat
 xi : Nat
 xe : Nat
 ai : Nat
 arr : List Nat
 sl : List Nat
def rbin (B : Bi) : List IV := [.vslice none 0 B.w.length 1 (B.w.map (IV.int .u32)), .vslice none 0 B.e.length 1 (ints B.e), .vslice none 0 B.p.length 1 (ints B.p), .vslice none 0 B.s.length 1 (ints B.s), .vslice none 0 B.a.length 1 (ints B.a)]
def rout (o : List Int) (i e : Nat) : IV := if o = [] then .nilslice else .vslice (some i) e o.length 1 (ints o)
def rfr1 (i : Nat) (F : Fm) : List IV := [.hslice i 0 F.sl.length 1, .int .i64 F.back]
def rfrs : List Nat -> List Fm -> List IV
 | i :: l, F :: fs => rfr1 i F ++ rfrs l fs
 | _, _ => []
def rrows (arr : List Nat) (a : List Int) : List IV := List.zipWith (fun id n => IV.hslice id 0 (Int.toNat n) 1) arr a
def rarr (B : Bi) (R : RL) : IV := if B.a = [] then .nilslice else .vslice (some R.ai) B.a.length B.a.length 1 (rrows R.arr B.a)
def rZ (B : Bi) (s : CS) (R : RL) : List IV := [rarr B R, .vslice R.fi R.fe s.frames.length 2 (rfrs R.sl s.frames), .int .i64 s.pc, .int .i64 s.fuel, rout s.out R.oi R.oe, .bool s.over, .int .i64 s.kind, .int .i64 s.code, if s.over = true then rout s.out R.xi R.xe else .nilslice, .int .i64 s.val]
def rcpuC (B : Bi) (s : CS) (R : RL) : List IV := rbin B ++ (ints s.regs ++ rZ B s R)
theorem rfrs_len : ∀ {l : List Nat} {fs : List Fm}, l.length = fs.length -> (rfrs l fs).length = fs.length * 2
 | [], [], _ => rfl
 | i :: l, F :: fs, h => by
   simp only [List.length_cons, Nat.add_right_cancel_iff] at h
   unfold rfrs
   rw [List.length_append, rfrs_len h]
   simp [rfr1]
   omega
 | [], _ :: _, h => by simp at h
 | _ :: _, [], h => by simp at h
theorem rfrs_at : ∀ {l : List Nat} {fs : List Fm} {j : Nat} (h1 : j < l.length) (h2 : j < fs.length), (rfrs l fs)[j * 2]? = some (.hslice l[j] 0 fs[j].sl.length 1) /\ (rfrs l fs)[j * 2 + 1]? = some (.int .i64 fs[j].back)
 | [], _, _, h, _ => by simp at h
 | _ :: _, [], _, _, h => by simp at h
 | i :: l, F :: fs, 0, _, _ => ⟨rfl, rfl⟩
 | i :: l, F :: fs, j + 1, h1, h2 => by
   simp only [List.length_cons, Nat.add_lt_add_iff_right] at h1 h2
   obtain ⟨q1, q2⟩ := rfrs_at h1 h2
   have e : ∀ k, (rfrs (i :: l) (F :: fs))[k + 2]? = (rfrs l fs)[k]? := fun k => by
    show (rfr1 i F ++ rfrs l fs)[k + 2]? = _
    rw [List.getElem?_append_right (by simp [rfr1])]
    simp [rfr1]
   rw [show (j + 1) * 2 = j * 2 + 2 by omega, show j * 2 + 2 + 1 = (j * 2 + 1) + 2 by omega, e, e]
   exact ⟨q1, q2⟩
theorem rfrs_app : ∀ {l : List Nat} {fs : List Fm} (i : Nat) (F : Fm), l.length = fs.length -> rfrs (l ++ [i]) (fs ++ [F]) = rfrs l fs ++ rfr1 i F
 | [], [], i, F, _ => by simp [rfrs]
 | a :: l, G :: fs, i, F, h => by
   simp only [List.length_cons, Nat.add_right_cancel_iff] at h
   show rfr1 a G ++ rfrs (l ++ [i]) (fs ++ [F]) = rfr1 a G ++ rfrs l fs ++ rfr1 i F
   rw [rfrs_app i F h, List.append_assoc]
 | [], _ :: _, _, _, h => by simp at h
 | _ :: _, [], _, _, h => by simp at h
theorem rfrs_drop {l : List Nat} {fs : List Fm} (h : l.length = fs.length) (hne : fs ≠ []) : (rfrs l fs).take ((fs.length - 1) * 2) = rfrs l.dropLast fs.dropLast := by
 have hp := List.length_pos_iff.2 hne
 have hl : l ≠ [] := fun e => by rw [e] at h; simp at h; omega
 have e1 := List.dropLast_concat_getLast hl
 have e2 := List.dropLast_concat_getLast hne
 have hd : l.dropLast.length = fs.dropLast.length := by simp [h]
 conv => lhs; rw [<- e1, <- e2]
 rw [rfrs_app _ _ hd, List.take_append_of_le_length (by rw [rfrs_len hd]; simp), List.take_of_length_le (by rw [rfrs_len hd]; simp)]
theorem rfrs_same : ∀ {l : List Nat} {fs fs' : List Fm}, fs.map (fun F => (F.sl.length, F.back)) = fs'.map (fun F => (F.sl.length, F.back)) -> rfrs l fs = rfrs l fs'
 | [], _, _, _ => by simp [rfrs]
 | _ :: _, [], [], _ => rfl
 | _ :: _, [], _ :: _, h => by simp at h
 | _ :: _, _ :: _, [], h => by simp at h
 | i :: l, F :: fs, G :: gs, h => by
   simp only [List.map_cons, List.cons.injEq, Prod.mk.injEq] at h
   show rfr1 i F ++ rfrs l fs = rfr1 i G ++ rfrs l gs
   rw [rfrs_same h.2]
   unfold rfr1
   rw [h.1.1, h.1.2]
structure RRep (B : Bi) (s : CS) (R : RL) (c : Nat) (h : Heap) : Prop where
 cpu : h.get c = .cells (rcpuC B s R)
 cpur : R.r c = .cpu /\ c < h.next
 al : R.arr.length = B.a.length
 cl : s.cells.map List.length = B.a.map Int.toNat
 rl : s.regs.length = 8
 ar : ∀ j (h1 : j < R.arr.length) (h2 : j < s.cells.length), h.get R.arr[j] = .cells (ints s.cells[j]) /\ R.r R.arr[j] = .arr j /\ R.arr[j] < h.next
 fl : R.sl.length = s.frames.length
 fs : ∀ j (h1 : j < R.sl.length) (h2 : j < s.frames.length), h.get R.sl[j] = .cells (ints s.frames[j].sl) /\ R.r R.sl[j] = .sl j /\ R.sl[j] < h.next
structure FrmR (r r' : Nat -> Role) (h h' : Heap) : Prop where
 nx : h.next <= h'.next
 ot : ∀ id, id < h.next -> r id = .other -> h'.get id = h.get id /\ r' id = .other
theorem FrmR.refl (r : Nat -> Role) (h : Heap) : FrmR r r h h := ⟨Nat.le_refl _, fun _ _ e => ⟨rfl, e⟩⟩
theorem FrmR.trans {r r' r'' : Nat -> Role} {h h' h'' : Heap} (a : FrmR r r' h h') (b : FrmR r' r'' h' h'') : FrmR r r'' h h'' :=
 ⟨Nat.le_trans a.nx b.nx, fun id hi e => by
  obtain ⟨a1, a2⟩ := a.ot id hi e
  obtain ⟨b1, b2⟩ := b.ot id (Nat.lt_of_lt_of_le hi a.nx) a2
  exact ⟨b1.trans a1, b2⟩⟩
theorem frmR_set {r : Nat -> Role} {h : Heap} {i : Nat} {x : IObj} (hi : r i ≠ .other) : FrmR r r h (h.set i x) :=
 ⟨Nat.le_refl _, fun id _ e => ⟨by rw [get_set, if_neg (fun z => hi (by rw [<- z]; exact e))], e⟩⟩
theorem frmR_of {r : Nat -> Role} {h h' : Heap} {c : Nat} (hc : r c ≠ .other) (hn : h.next <= h'.next) (hs : ∀ id, id < h.next -> id ≠ c -> h'.get id = h.get id) : FrmR r r h h' :=
 ⟨hn, fun id hi e => ⟨hs id hi (fun z => hc (by rw [<- z]; exact e)), e⟩⟩
section
variable {B : Bi} {s : CS} {R : RL}
theorem rc_len2 : (rcpuC B s R).length = s.regs.length + 15 := by simp [rcpuC, rbin, rZ, ints]
theorem rc_reg (h : s.regs.length = 8) {a : Int} (ha : 0 <= a /\ a <= 7) : (rcpuC B s R)[5 + a.toNat]? = some (.int .i64 (rg s a)) := by
 unfold rcpuC
 rw [List.getElem?_append_right (by simp [rbin]), List.getElem?_append_left (by simp [rbin, ints]; omega)]
 have hl : a.toNat < s.regs.length := by omega
 simp only [rbin, List.length_cons, List.length_nil, ints, List.getElem?_map]
 rw [show 5 + a.toNat - (0 + 1 + 1 + 1 + 1 + 1) = a.toNat by omega, List.getElem?_eq_getElem hl]
 simp [rg, List.getD_eq_getElem?_getD, List.getElem?_eq_getElem hl]
theorem rc_z (h : s.regs.length = 8) (j : Nat) : (rcpuC B s R)[13 + j]? = (rZ B s R)[j]? := by
 unfold rcpuC
 rw [List.getElem?_append_right (by simp [rbin]; omega), List.getElem?_append_right (by simp [rbin, ints, h]; omega)]
 congr 1
 simp [rbin, ints, h]
 omega
theorem rc_a (j : Nat) (hj : j < 5) : (rcpuC B s R)[j]? = (rbin B)[j]? := by
 unfold rcpuC
 rw [List.getElem?_append_left (by simpa [rbin] using hj)]
theorem rc_setreg (h : s.regs.length = 8) {a : Int} (ha : 0 <= a /\ a <= 7) (v : Int) : (rcpuC B s R).set (5 + a.toNat) (.int .i64 v) = rcpuC B (setR s a v) R := by
 unfold rcpuC
 rw [List.set_append_right _ _ (by simp [rbin]), List.set_append_left _ _ (by simp [rbin, ints]; omega)]
 have e : 5 + a.toNat - (rbin B).length = a.toNat := by simp [rbin]
 rw [e]
 have e2 : (ints s.regs).set a.toNat (.int .i64 v) = ints (setR s a v).regs := by
  simp [ints, setR, List.map_set]
 rw [e2]
 rfl
theorem rc_setz (h : s.regs.length = 8) (j : Nat) (v : IV) (s' : CS) (R' : RL) (hr : s'.regs = s.regs) (hz : (rZ B s R).set j v = rZ B s' R') : (rcpuC B s R).set (13 + j) v = rcpuC B s' R' := by
 unfold rcpuC
 rw [List.set_append_right _ _ (by simp [rbin]; omega), List.set_append_right _ _ (by simp [rbin, ints, h]; omega)]
 have e : 13 + j - (rbin B).length - (ints s.regs).length = j := by simp [rbin, ints, h]; omega
 rw [e, hz, hr]
theorem rc_regs8 (h : s.regs.length = 8) (l : List Int) : (rcpuC B s R).take 5 ++ ints l ++ (rcpuC B s R).drop 13 = rcpuC B { s with regs := l } R := by
 unfold rcpuC
 rw [List.take_append_of_le_length (by simp [rbin]), List.take_of_length_le (by simp [rbin]), List.drop_append, List.drop_of_length_le (by simp [rbin]), List.nil_append, List.drop_append, List.drop_of_length_le (by simp [rbin, ints, h])]
 have e : 13 - (rbin B).length - (ints s.regs).length = 0 := by simp [rbin, ints, h]
 rw [e, List.drop_zero, List.nil_append, List.append_assoc]
 rfl
theorem rc_stop (h : s.regs.length = 8) (k cd v : Int) (xi xe : Nat) : ((rcpuC B s R).set 18 (.bool true)).take 19 ++ [.int .i64 k, .int .i64 cd, rout s.out xi xe, .int .i64 v] ++ ((rcpuC B s R).set 18 (.bool true)).drop 23 = rcpuC B (stopS s k cd v) { R with xi := xi, xe := xe } := by
 obtain ⟨regs, cells, frames, pc, fuel, over, kind, code, val, out⟩ := s
 simp only at h
 match regs, h with
 | [a, b, c, d, e, f, g, i], _ => rfl
end
theorem RRep.upd {B : Bi} {s s' : CS} {R R' : RL} {c : Nat} {h h' : Heap} (a : RRep B s R c h) (hcpu : h'.get c = .cells (rcpuC B s' R')) (hnx : h.next <= h'.next) (hr : ∀ id, id < h.next -> R'.r id = R.r id)
  (hsame : ∀ id, id < h.next -> id ≠ c -> h'.get id = h.get id) (hc : s'.cells = s.cells) (hf : s'.frames = s.frames) (hrl : s'.regs.length = 8) (har : R'.arr = R.arr) (hsl : R'.sl = R.sl) : RRep B s' R' c h' := by
 obtain ⟨r', fi', fe', oi', oe', xi', xe', ai', arr', sl'⟩ := R'
 simp only at har hsl hr
 subst har hsl
 have ne : ∀ id, R.r id ≠ .cpu -> id ≠ c := fun id hi z => hi (by rw [z]; exact a.cpur.1)
 exact {
  cpu := hcpu
  cpur := ⟨by simp only; rw [hr _ a.cpur.2]; exact a.cpur.1, Nat.lt_of_lt_of_le a.cpur.2 hnx⟩
  al := a.al
  cl := by rw [hc]; exact a.cl
  rl := hrl
  ar := fun j h1 h2 => by
   simp only [hc] at h2 ⊢
   obtain ⟨q1, q2, q3⟩ := a.ar j h1 h2
   exact ⟨by rw [hsame _ q3 (ne _ (by rw [q2]; simp))]; exact q1, by rw [hr _ q3]; exact q2, Nat.lt_of_lt_of_le q3 hnx⟩
  fl := by rw [hf]; exact a.fl
  fs := fun j h1 h2 => by
   simp only [hf] at h2 ⊢
   obtain ⟨q1, q2, q3⟩ := a.fs j h1 h2
   exact ⟨by rw [hsame _ q3 (ne _ (by rw [q2]; simp))]; exact q1, by rw [hr _ q3]; exact q2, Nat.lt_of_lt_of_le q3 hnx⟩ }
theorem RRep.setc {B : Bi} {s s' : CS} {R : RL} {c : Nat} {h : Heap} (a : RRep B s R c h) (hc : s'.cells = s.cells) (hf : s'.frames = s.frames) (hr : s'.regs.length = 8) : RRep B s' R c (h.set c (.cells (rcpuC B s' R))) :=
 a.upd (by rw [get_set, if_pos rfl]) (Nat.le_refl _) (fun _ _ => rfl) (fun id _ hn => by rw [get_set, if_neg hn]) hc hf hr rfl rfl
def clipR (R : RL) (n : Nat) : RL := { R with r := fun id => if id < n then R.r id else .other }
theorem RRep.frame {B : Bi} {s : CS} {R : RL} {c : Nat} {h h' : Heap} (a : RRep B s R c h) (hs : ∀ id, id < h.next -> R.r id ≠ .other -> h'.get id = h.get id) (hn : h.next <= h'.next) : RRep B s (clipR R h.next) c h' := by
 have hc : ∀ id, id < h.next -> (clipR R h.next).r id = R.r id := fun id hi => if_pos hi
 exact {
  cpu := by rw [hs _ a.cpur.2 (by rw [a.cpur.1]; simp)]; exact a.cpu
  cpur := ⟨by rw [hc _ a.cpur.2]; exact a.cpur.1, Nat.lt_of_lt_of_le a.cpur.2 hn⟩
  al := a.al
  cl := a.cl
  rl := a.rl
  ar := fun j h1 h2 => by
   obtain ⟨q1, q2, q3⟩ := a.ar j h1 h2
   exact ⟨by show h'.get R.arr[j] = _; rw [hs _ q3 (by rw [q2]; simp)]; exact q1, by rw [show (clipR R h.next).arr[j] = R.arr[j] from rfl, hc _ q3]; exact q2, Nat.lt_of_lt_of_le q3 hn⟩
  fl := a.fl
  fs := fun j h1 h2 => by
   obtain ⟨q1, q2, q3⟩ := a.fs j h1 h2
   exact ⟨by show h'.get R.sl[j] = _; rw [hs _ q3 (by rw [q2]; simp)]; exact q1, by rw [show (clipR R h.next).sl[j] = R.sl[j] from rfl, hc _ q3]; exact q2, Nat.lt_of_lt_of_le q3 hn⟩ }
def clipL (L : Ly) (n : Nat) : Ly := { L with r := fun id => if id < n then L.r id else .other }
theorem Rep.frame {B : Bi} {s : CS} {L : Ly} {c : Nat} {h h' : Heap} (a : Rep B s L c h) (e : ∀ id, id < h.next -> L.r id ≠ .other -> h'.get id = h.get id) (n : h.next <= h'.next) : Rep B s (clipL L h.next) c h' := by
 have hc : ∀ id, id < h.next -> (clipL L h.next).r id = L.r id := fun id hi => if_pos hi
 exact {
  cpu := by rw [e _ a.cpur.2 (by rw [a.cpur.1]; simp)]; exact a.cpu
  cpur := ⟨by rw [hc _ a.cpur.2]; exact a.cpur.1, Nat.lt_of_lt_of_le a.cpur.2 n⟩
  wh := by
   obtain ⟨wl, h1, h2⟩ := a.wh
   exact ⟨wl, by show h'.get L.wi = _; rw [e _ a.whr.2 (by rw [a.whr.1]; simp)]; exact h1, h2⟩
  whr := ⟨by rw [show (clipL L h.next).wi = L.wi from rfl, hc _ a.whr.2]; exact a.whr.1, Nat.lt_of_lt_of_le a.whr.2 n⟩
  fr := by
   obtain ⟨st, h1⟩ := a.fr
   exact ⟨st, by show h'.get L.fi = _; rw [e _ a.frr.2 (by rw [a.frr.1]; simp)]; exact h1⟩
  frr := ⟨by rw [show (clipL L h.next).fi = L.fi from rfl, hc _ a.frr.2]; exact a.frr.1, Nat.lt_of_lt_of_le a.frr.2 n⟩
  out := fun hn => by
   obtain ⟨h1, h2, h3⟩ := a.out hn
   exact ⟨by show h'.get L.oi = _; rw [e _ h3 (by rw [h2]; simp)]; exact h1, by rw [show (clipL L h.next).oi = L.oi from rfl, hc _ h3]; exact h2, Nat.lt_of_lt_of_le h3 n⟩
  al := a.al
  cl := a.cl
  rl := a.rl
  ar := fun j h1 h2 => by
   obtain ⟨q1, q2, q3⟩ := a.ar j h1 h2
   exact ⟨by show h'.get L.arr[j] = _; rw [e _ q3 (by rw [q2]; simp)]; exact q1, by rw [show (clipL L h.next).arr[j] = L.arr[j] from rfl, hc _ q3]; exact q2, Nat.lt_of_lt_of_le q3 n⟩
  fl := a.fl
  fo := fun j h1 h2 => by
   obtain ⟨q1, q2, q3⟩ := a.fo j h1 h2
   exact ⟨by show h'.get L.fl[j].id = _; rw [e _ q3 (by rw [q2]; simp)]; exact q1, by rw [show (clipL L h.next).fl[j] = L.fl[j] from rfl, hc _ q3]; exact q2, Nat.lt_of_lt_of_le q3 n⟩
  fs := fun j h1 h2 => by
   obtain ⟨q1, q2, q3⟩ := a.fs j h1 h2
   exact ⟨by show h'.get L.fl[j].sid = _; rw [e _ q3 (by rw [q2]; simp)]; exact q1, by rw [show (clipL L h.next).fl[j] = L.fl[j] from rfl, hc _ q3]; exact q2, Nat.lt_of_lt_of_le q3 n⟩
  fq := a.fq }
theorem rarr_at {B : Bi} {s : CS} {R : RL} {c : Nat} {h : Heap} (a : RRep B s R c h) {j : Nat} (hj : j < B.a.length) : ∃ i row, R.arr[j]? = some i /\ s.cells[j]? = some row /\ (rrows R.arr B.a)[j]? = some (.hslice i 0 row.length 1) /\ h.get i = .cells (ints row) /\ R.r i = .arr j /\ i < h.next := by
 have h1 : j < R.arr.length := by rw [a.al]; exact hj
 have hcl : s.cells.length = B.a.length := by have := congrArg List.length a.cl; simpa using this
 have h2 : j < s.cells.length := by omega
 obtain ⟨q1, q2, q3⟩ := a.ar j h1 h2
 refine ⟨R.arr[j], s.cells[j], List.getElem?_eq_getElem h1, List.getElem?_eq_getElem h2, ?_, q1, q2, q3⟩
 have hl : s.cells[j].length = Int.toNat B.a[j] := by
  have := congrArg (fun l => l[j]?) a.cl
  simp only [List.getElem?_map, List.getElem?_eq_getElem h2, List.getElem?_eq_getElem hj, Option.map_some, Option.some.injEq] at this
  exact this
 unfold rrows
 rw [List.getElem?_zipWith, List.getElem?_eq_getElem h1, List.getElem?_eq_getElem hj]
 simp only [hl]
theorem rc_arr {B : Bi} {s : CS} {R : RL} (h : s.regs.length = 8) (hne : B.a ≠ []) : (rcpuC B s R)[13]? = some (.vslice (some R.ai) B.a.length B.a.length 1 (rrows R.arr B.a)) := by
 refine (rc_z h 0).trans ?_
 simp [rZ, rarr, hne]
theorem RRep.seta {B : Bi} {s : CS} {R : RL} {c : Nat} {h : Heap} (a : RRep B s R c h) {k i : Nat} {row row' : List Int} (hi : R.arr[k]? = some i) (hrow : s.cells[k]? = some row) (hl : row'.length = row.length) : RRep B { s with cells := s.cells.set k row' } R c (h.set i (.cells (ints row'))) /\ FrmR R.r R.r h (h.set i (.cells (ints row'))) := by
 obtain ⟨hk1, e1⟩ := List.getElem?_eq_some_iff.1 hi
 obtain ⟨hk2, e2⟩ := List.getElem?_eq_some_iff.1 hrow
 obtain ⟨p1, p2, p3⟩ := a.ar k hk1 hk2
 rw [e1] at p1 p2 p3
 have ne : ∀ id, R.r id ≠ .arr k -> ((h.set i (.cells (ints row'))).get id = h.get id) := fun id hi => by
  rw [get_set, if_neg (fun z => hi (by rw [z]; exact p2))]
 refine ⟨{
  cpu := by rw [ne _ (by rw [a.cpur.1]; simp), a.cpu]; rfl
  cpur := a.cpur
  al := a.al
  cl := by
   rw [<- a.cl]
   apply List.ext_getElem?
   intro i
   simp only [List.getElem?_map, List.getElem?_set]
   by_cases hi : k = i
   ·subst hi
    rw [if_pos rfl, if_pos hk2, List.getElem?_eq_getElem hk2]
    simp [hl, e2]
   ·rw [if_neg hi]
  rl := a.rl
  ar := fun j h1 h2 => by
   simp only [List.length_set] at h2
   simp only
   obtain ⟨q1, q2, q3⟩ := a.ar j h1 h2
   by_cases hj : k = j
   ·subst hj
    refine ⟨?_, q2, q3⟩
    rw [e1, get_set, if_pos rfl, List.getElem_set_self]
   ·refine ⟨?_, q2, q3⟩
    rw [ne _ (by rw [q2]; simp; omega), List.getElem_set_ne hj]
    exact q1
  fl := a.fl
  fs := fun j h1 h2 => by
   obtain ⟨q1, q2, q3⟩ := a.fs j h1 h2
   exact ⟨by rw [ne _ (by rw [q2]; simp)]; exact q1, q2, q3⟩ }, frmR_set (by rw [p2]; simp)⟩
theorem rtop_at {B : Bi} {s : CS} {R : RL} {c : Nat} {h : Heap} (a : RRep B s R c h) (hne : s.frames ≠ []) : ∃ i, R.sl[s.frames.length - 1]? = some i /\ h.get i = .cells (ints (topF s).sl) /\ R.r i = .sl (s.frames.length - 1) /\ i < h.next /\
  (rfrs R.sl s.frames)[(s.frames.length - 1) * 2]? = some (.hslice i 0 (topF s).sl.length 1) /\ (rfrs R.sl s.frames)[(s.frames.length - 1) * 2 + 1]? = some (.int .i64 (topF s).back) := by
 have hp := List.length_pos_iff.2 hne
 have h1 : s.frames.length - 1 < R.sl.length := by rw [a.fl]; omega
 have h2 : s.frames.length - 1 < s.frames.length := by omega
 have ht := topF_at hne
 rw [List.getElem?_eq_getElem h2] at ht
 have ht := Option.some.inj ht
 obtain ⟨q1, q2, q3⟩ := a.fs _ h1 h2
 obtain ⟨g1, g2⟩ := rfrs_at h1 h2
 rw [ht] at q1 g1 g2
 exact ⟨R.sl[s.frames.length - 1], List.getElem?_eq_getElem h1, q1, q2, q3, g1, g2⟩
theorem setTop_at {s : CS} (hne : s.frames ≠ []) (f : Fm) (j : Nat) (hj : j < s.frames.length) : (setTop s f).frames[j]? = if j = s.frames.length - 1 then some f else s.frames[j]? := by
 have hp := List.length_pos_iff.2 hne
 show (s.frames.dropLast ++ [f])[j]? = _
 by_cases hjN : j = s.frames.length - 1
 ·rw [if_pos hjN, List.getElem?_append_right (by simp; omega)]
  simp [show j - (s.frames.length - 1) = 0 by omega]
 ·rw [if_neg hjN, List.getElem?_append_left (by simp; omega), List.getElem?_dropLast, if_pos (by omega)]
theorem RRep.sets {B : Bi} {s : CS} {R : RL} {c : Nat} {h : Heap} (a : RRep B s R c h) (hne : s.frames ≠ []) {i : Nat} {n x : Int} (hi : R.sl[s.frames.length - 1]? = some i) : RRep B (setTop s (setF (topF s) n x)) R c (h.set i (.cells (ints (setF (topF s) n x).sl))) /\ FrmR R.r R.r h (h.set i (.cells (ints (setF (topF s) n x).sl))) := by
 have hp := List.length_pos_iff.2 hne
 obtain ⟨hk1, e1⟩ := List.getElem?_eq_some_iff.1 hi
 have hk2 : s.frames.length - 1 < s.frames.length := by omega
 obtain ⟨p1, p2, p3⟩ := a.fs _ hk1 hk2
 rw [e1] at p1 p2 p3
 have ne : ∀ id, R.r id ≠ .sl (s.frames.length - 1) -> ((h.set i (.cells (ints (setF (topF s) n x).sl))).get id = h.get id) := fun id hi => by
  rw [get_set, if_neg (fun z => hi (by rw [z]; exact p2))]
 have hfl := a.fl
 have hln : (setTop s (setF (topF s) n x)).frames.length = s.frames.length := by simp [setTop]; omega
 have htop : s.frames[s.frames.length - 1]? = some (topF s) := topF_at hne
 have hmap : (setTop s (setF (topF s) n x)).frames.map (fun F => (F.sl.length, F.back)) = s.frames.map (fun F => (F.sl.length, F.back)) := by
  apply List.ext_getElem?
  intro j
  simp only [List.getElem?_map]
  by_cases hj : j < s.frames.length
  ·rw [setTop_at hne _ j hj]
   by_cases hjN : j = s.frames.length - 1
   ·rw [if_pos hjN, hjN, htop]
    simp [setF]
   ·rw [if_neg hjN]
  ·rw [List.getElem?_eq_none (by omega), List.getElem?_eq_none (by omega)]
 refine ⟨{
  cpu := by
   rw [ne _ (by rw [a.cpur.1]; simp), a.cpu]
   congr 1
   unfold rcpuC rZ
   rw [hln, rfrs_same hmap]
   rfl
  cpur := a.cpur
  al := a.al
  cl := a.cl
  rl := a.rl
  ar := fun j h1 h2 => by
   obtain ⟨q1, q2, q3⟩ := a.ar j h1 h2
   exact ⟨by rw [ne _ (by rw [q2]; simp)]; exact q1, q2, q3⟩
  fl := by rw [hln]; exact hfl
  fs := fun j h1 h2 => by
   have h3 : j < s.frames.length := by omega
   obtain ⟨q1, q2, q3⟩ := a.fs j h1 h3
   have e := setTop_at hne (setF (topF s) n x) j h3
   rw [List.getElem?_eq_getElem h2] at e
   by_cases hj : j = s.frames.length - 1
   ·rw [if_pos hj] at e
    have e := Option.some.inj e
    subst hj
    refine ⟨?_, q2, q3⟩
    rw [e, e1, get_set, if_pos rfl]
   ·rw [if_neg hj, List.getElem?_eq_getElem h3] at e
    have e := Option.some.inj e
    refine ⟨?_, q2, q3⟩
    rw [e, ne _ (by rw [q2]; simp; omega)]
    exact q1 }, frmR_set (by rw [p2]; simp)⟩
theorem RRep.pop {B : Bi} {s : CS} {R : RL} {c : Nat} {h : Heap} (a : RRep B s R c h) (hne : s.frames ≠ []) (l : List Int) (hl : l.length = 8) (fe : Nat) :
  RRep B { s with frames := s.frames.dropLast, regs := l } { R with sl := R.sl.dropLast, fe := fe } c (h.set c (.cells (rcpuC B { s with frames := s.frames.dropLast, regs := l } { R with sl := R.sl.dropLast, fe := fe }))) := by
 have hp := List.length_pos_iff.2 hne
 have hfl := a.fl
 have ne : ∀ (x : IObj) id, R.r id ≠ .cpu -> ((h.set c x).get id = h.get id) := fun x id hi => by
  rw [get_set, if_neg (fun z => hi (by rw [z]; exact a.cpur.1))]
 exact {
  cpu := by rw [get_set, if_pos rfl]
  cpur := a.cpur
  al := a.al
  cl := a.cl
  rl := hl
  ar := fun j h1 h2 => by
   obtain ⟨q1, q2, q3⟩ := a.ar j h1 h2
   exact ⟨by rw [ne _ _ (by rw [q2]; simp)]; exact q1, q2, q3⟩
  fl := by simp [hfl]
  fs := fun j h1 h2 => by
   simp only [List.length_dropLast] at h1 h2
   simp only [List.getElem_dropLast]
   obtain ⟨q1, q2, q3⟩ := a.fs j (by omega) (by omega)
   exact ⟨by rw [ne _ _ (by rw [q2]; simp)]; exact q1, q2, q3⟩ }
theorem RRep.push {B : Bi} {s : CS} {R : RL} {c : Nat} {h h' : Heap} (a : RRep B s R c h) {sid fe : Nat} {fi : Option Nat} {sl : List Int} {nx : Int} (hcpu : h'.get c = .cells (rcpuC B { s with frames := s.frames ++ [⟨sl, nx⟩] } { R with sl := R.sl ++ [sid], fi := fi, fe := fe, r := updR R.r sid (.sl s.frames.length) }))
  (hsid : h'.get sid = .cells (ints sl) /\ h.next <= sid /\ sid < h'.next) (hs : ∀ id, id < h.next -> id ≠ c -> h'.get id = h.get id) :
  RRep B { s with frames := s.frames ++ [⟨sl, nx⟩] } { R with sl := R.sl ++ [sid], fi := fi, fe := fe, r := updR R.r sid (.sl s.frames.length) } c h' /\ FrmR R.r (updR R.r sid (.sl s.frames.length)) h h' := by
 have hcn := a.cpur.2
 have hfl := a.fl
 have hr : ∀ id, id < h.next -> updR R.r sid (.sl s.frames.length) id = R.r id := fun id hi => updR_ne (by omega)
 have ne : ∀ id, R.r id ≠ .cpu -> id ≠ c := fun id hi z => hi (by rw [z]; exact a.cpur.1)
 refine ⟨{
  cpu := hcpu
  cpur := ⟨by simp only; rw [hr _ hcn]; exact a.cpur.1, by omega⟩
  al := a.al
  cl := a.cl
  rl := a.rl
  ar := fun j h1 h2 => by
   obtain ⟨q1, q2, q3⟩ := a.ar j h1 h2
   exact ⟨by rw [hs _ q3 (ne _ (by rw [q2]; simp))]; exact q1, by simp only; rw [hr _ q3]; exact q2, Nat.lt_of_lt_of_le q3 (Nat.le_of_lt (Nat.lt_of_le_of_lt hsid.2.1 hsid.2.2))⟩
  fl := by simp [hfl]
  fs := fun j h1 h2 => by
   simp only [List.length_append, List.length_cons, List.length_nil] at h1 h2
   by_cases hj : j < s.frames.length
   ·have hj2 : j < R.sl.length := by omega
    simp only [List.getElem_append_left hj, List.getElem_append_left hj2]
    obtain ⟨q1, q2, q3⟩ := a.fs j hj2 hj
    exact ⟨by rw [hs _ q3 (ne _ (by rw [q2]; simp))]; exact q1, by rw [hr _ q3]; exact q2, Nat.lt_of_lt_of_le q3 (Nat.le_of_lt (Nat.lt_of_le_of_lt hsid.2.1 hsid.2.2))⟩
   ·have e1 : j - s.frames.length = 0 := by omega
    have e2 : j - R.sl.length = 0 := by omega
    simp only [List.getElem_append_right (show s.frames.length <= j by omega), List.getElem_append_right (show R.sl.length <= j by omega), e1, e2, List.getElem_cons_zero]
    exact ⟨hsid.1, by rw [updR_eq, show j = s.frames.length by omega], hsid.2.2⟩ }, ⟨by omega, fun id hi e => ⟨hs id hi (fun z => by rw [z, a.cpur.1] at e; cases e), by rw [hr _ hi]; exact e⟩⟩⟩
end Go.M31
end
section
set_option linter.unusedVariables false
namespace Go.M31
open Go.Pv Go.M29 Go.M30 Go.M13
theorem w64 (n : Int) : IntKind.i64.wrap n = (n + 9223372036854775808) % 18446744073709551616 - 9223372036854775808 := IntKind.wrap_i64 n
theorem u64w (n : Int) : IntKind.u64.wrap n = n % 18446744073709551616 := by
 unfold IntKind.wrap
 simp [IntKind.bits, IntKind.signed]
theorem wrap_inR (n : Int) : inR (IntKind.i64.wrap n) := by
 unfold inR
 rw [w64]
 omega
theorem wrap_in {n : Int} (h : inR n) : IntKind.i64.wrap n = n := by
 unfold inR at h
 rw [w64]; omega
theorem wrap_ex (q : Int) : ∃ t : Int, IntKind.i64.wrap q = q + t * 18446744073709551616 := ⟨-((q + 9223372036854775808) / 18446744073709551616), by rw [w64]; omega⟩
theorem uwrap_ex (q : Int) : ∃ t : Int, IntKind.u64.wrap q = q + t * 18446744073709551616 := ⟨-(q / 18446744073709551616), by rw [u64w]; omega⟩
theorem mul_ex (q t b : Int) : (q + t * 18446744073709551616) * b = q * b + (t * b) * 18446744073709551616 := by
 rw [Int.add_mul, Int.mul_right_comm]
theorem wrap_mul1 (q b : Int) : IntKind.i64.wrap (IntKind.i64.wrap q * b) = IntKind.i64.wrap (q * b) := by
 obtain ⟨t, e⟩ := wrap_ex q
 rw [e, mul_ex]
 generalize t * b = u
 generalize q * b = v
 rw [w64, w64]
 omega
theorem shl_eq (a p : Int) : IntKind.i64.wrap (IntKind.u64.wrap (IntKind.u64.wrap a * p)) = IntKind.i64.wrap (a * p) := by
 obtain ⟨t, e⟩ := uwrap_ex a
 rw [e, mul_ex]
 generalize t * p = u
 generalize a * p = v
 rw [w64, u64w, w64]
 omega
theorem rem_eq {a b : Int} (hb : inR b) (h0 : b ≠ 0) (h1 : b ≠ -1) : IntKind.i64.wrap (a - IntKind.i64.wrap (quot a b * b)) = a.tmod b := by
 unfold quot
 rw [if_neg h0, if_neg h1, wrap_mul1]
 have e := Int.mul_tdiv_add_tmod a b
 have h2 : a.tmod b < b.natAbs /\ -(b.natAbs : Int) < a.tmod b := by
  constructor
  ·have := Int.tmod_lt_of_pos a (show (0:Int) < b.natAbs by omega)
   rcases Int.natAbs_eq b with e | e
   ·rw [<- e] at this; rw [<- e]; exact this
   ·have e2 : (b.natAbs : Int) = -b := by omega
    rw [e2, Int.tmod_neg] at this
    omega
  ·have := Int.lt_tmod_of_pos a (show (0:Int) < b.natAbs by omega)
   rcases Int.natAbs_eq b with e | e
   ·rw [<- e] at this; rw [<- e]; exact this
   ·have e2 : (b.natAbs : Int) = -b := by omega
    rw [e2, Int.tmod_neg] at this
    omega
 unfold inR at hb
 rw [Int.mul_comm b] at e
 generalize a.tdiv b * b = p at e
 generalize a.tmod b = m at *
 rw [w64, w64]
 omega
theorem rem_neg {a : Int} (ha : inR a) : IntKind.i64.wrap (a - IntKind.i64.wrap (quot a (-1) * (-1))) = 0 := by
 unfold quot
 rw [if_neg (by omega), if_pos rfl, wrap_mul1, w64, w64]
 unfold inR at ha
 omega
theorem inot_eq (a : Int) : inot a = IntKind.i64.wrap (-1 - a) := by
 have e : (BitVec.ofInt 64 (-1 : Int) ^^^ BitVec.ofInt 64 a).toNat = 18446744073709551615 - (a % 18446744073709551616).toNat := by
  have h1 : BitVec.ofInt 64 (-1 : Int) = BitVec.allOnes 64 := by decide
  rw [h1, BitVec.allOnes_xor, BitVec.toNat_not, BitVec.toNat_ofInt]
  rfl
 have e2 : inot a = IntKind.i64.wrap ((BitVec.ofInt 64 (-1 : Int) ^^^ BitVec.ofInt 64 a).toNat : Int) := rfl
 rw [e2, e, w64, w64]
 omega
theorem in0 : inR 0 := ⟨by omega, by omega⟩
theorem truth_in (b : Bool) : inR (truth b) := by
 cases b <;> exact ⟨by decide, by decide⟩
theorem fdiv_in {a : Int} (ha : inR a) (k : Nat) : inR (a.fdiv (2 ^ k)) := by
 have hp : (0 : Int) < 2 ^ k := Int.pow_pos (by omega)
 rw [Int.fdiv_eq_ediv_of_nonneg _ (by omega)]
 generalize (2 : Int) ^ k = p at *
 unfold inR at *
 rcases Int.lt_or_le a 0 with h | h
 ·have h1 : a / p < 0 := Int.ediv_neg_of_neg_of_pos h hp
  have h2 : a <= a / p := by
   refine Int.le_ediv_of_mul_le hp ?_
   have := Int.mul_le_mul_of_nonpos_left (a := a) (show a <= 0 by omega) (show (1 : Int) <= p by omega)
   omega
  omega
 ·have h1 := Int.ediv_le_self p h
  have h2 := Int.ediv_nonneg h (show 0 <= p by omega)
  omega
theorem wbin_in (o : Int) {a b : Int} (ha : inR a) : inR (wbin o a b) := by
 have z : inR 0 := in0
 unfold wbin
 repeat' split
 all_goals first
  | exact wrap_inR _
  | exact z
  | (unfold quot; repeat' split
     all_goals first | exact z | exact wrap_inR _)
  | (unfold shcmp; repeat' split
     all_goals first | exact z | exact wrap_inR _ | exact truth_in _ | exact fdiv_in ha _)
theorem wun_in (o a : Int) : inR (wun o a) := by
 unfold wun
 repeat' split
 all_goals first
  | exact wrap_inR _
  | exact in0
structure RG (s : CS) : Prop where
 r : ∀ x ∈ s.regs, inR x
 c : ∀ l ∈ s.cells, ∀ x ∈ l, inR x
 f : ∀ f ∈ s.frames, ∀ x ∈ f.sl, inR x
theorem getD_in {l : List Int} (h : ∀ x ∈ l, inR x) (n : Nat) : inR (l.getD n 0) := by
 rw [List.getD_eq_getElem?_getD]
 cases e : l[n]? with
 | none => exact in0
 | some x => exact h x (List.mem_of_getElem? e)
theorem RG.rg {s : CS} (h : RG s) (a : Int) : inR (rg s a) := getD_in h.r _
theorem RG.setR {s : CS} (h : RG s) (a : Int) {v : Int} (hv : inR v) : RG (setR s a v) :=
 ⟨fun x hx => by
  rcases List.mem_or_eq_of_mem_set hx with q | q
  ·exact h.r x q
  ·rw [q]; exact hv, h.c, h.f⟩
theorem rg_ite {p : Prop} [Decidable p] {a b : CS} (ha : p -> RG a) (hb : ¬ p -> RG b) : RG (if p then a else b) := by
 by_cases h : p
 ·rw [if_pos h]; exact ha h
 ·rw [if_neg h]; exact hb h
theorem rg_comp {s : CS} (h : RG s) (i : In) (hn : inR i.n) : RG (compS s i) := by
 have ht : ∀ x ∈ (topF s).sl, inR x := by
  unfold topF
  cases hf : s.frames.getLast? with
  | none => rw [List.getLastD_eq_getLast?, hf]; intro x hx; simp at hx
  | some F => rw [List.getLastD_eq_getLast?, hf]; exact h.f F (List.mem_of_getLast? hf)
 unfold compS
 refine rg_ite (fun _ => h) fun _ => rg_ite (fun _ => ⟨h.r, h.c, h.f⟩) fun _ => rg_ite (fun _ => h.setR _ (h.rg _)) fun _ => rg_ite (fun _ => rg_ite (fun _ => h.setR _ (h.rg _)) fun _ => h) fun _ => rg_ite (fun _ => rg_ite (fun _ => h) fun _ => h.setR _ (h.rg _)) fun _ => rg_ite (fun _ => h.setR _ hn) fun _ => rg_ite (fun _ => h.setR _ (wun_in _ _)) fun _ => rg_ite (fun _ => h.setR _ (wun_in _ _)) fun _ => rg_ite (fun _ => h.setR _ (wrap_inR _)) fun _ => rg_ite (fun _ => h.setR _ (getD_in ht _)) fun _ => rg_ite (fun _ => ⟨h.r, h.c, fun f hf => ?_⟩) fun _ => rg_ite (fun _ => ⟨h.r, h.c, h.f⟩) fun _ => h.setR _ (wbin_in _ (h.rg _))
 have hf : f ∈ s.frames.dropLast ++ [setF (topF s) i.n (rg s i.a)] := hf
 rcases List.mem_append.1 hf with q | q
 ·exact h.f f (List.dropLast_subset _ q)
 ·simp only [List.mem_singleton] at q
  subst q
  intro x hx
  rcases List.mem_or_eq_of_mem_set hx with q | q
  ·exact ht x q
  ·rw [q]; exact h.rg _
theorem rg_acc {s : CS} (h : RG s) (i : In) : RG (accS s i) := by
 have hrow : ∀ x ∈ s.cells.getD i.n.toNat [], inR x := by
  rw [List.getD_eq_getElem?_getD]
  cases e : s.cells[i.n.toNat]? with
  | none => intro x hx; simp at hx
  | some l => exact h.c l (List.mem_of_getElem? e)
 unfold accS
 refine rg_ite (fun _ => rg_ite (fun _ => h.setR _ (getD_in hrow _)) fun _ => ⟨h.r, fun l hl => ?_, h.f⟩) fun _ => ⟨h.r, h.c, h.f⟩
 rcases List.mem_or_eq_of_mem_set hl with q | q
 ·exact h.c l q
 ·subst q
  intro x hx
  rcases List.mem_or_eq_of_mem_set hx with q | q
  ·exact hrow x q
  ·rw [q]; exact h.rg _
theorem rg_jump {B : Bi} {s : CS} (h : RG s) (i : In) (nx : Int) : RG (jumpS B s i nx).1 := by
 have z : inR 0 := in0
 unfold jumpS
 repeat' split
 all_goals first
  | exact h
  | exact ⟨h.r, h.c, h.f⟩
  | (refine ⟨fun x hx => ?_, h.c, fun f hf => h.f f (List.dropLast_subset _ hf)⟩
     simp only [List.mem_cons, List.not_mem_nil, or_false] at hx
     rcases hx with q | q | q | q | q | q | q | q <;> rw [q] <;> first | exact z | exact h.rg _)
  | (refine ⟨fun x hx => ?_, h.c, fun f hf => ?_⟩
     ·have hx : x ∈ s.regs.take i.a.toNat ++ List.replicate (s.regs.length - i.a.toNat) 0 := hx
      rcases List.mem_append.1 hx with q | q
      ·exact h.r x (List.mem_of_mem_take q)
      ·rw [(List.mem_replicate.1 q).2]; exact z
     ·rcases List.mem_append.1 hf with q | q
      ·exact h.f f q
      ·simp only [List.mem_singleton] at q
       subst q
       intro x hx
       rw [(List.mem_replicate.1 hx).2]; exact z)
theorem ins_in {i : In} (hv : okIn i = true) : inR i.n := by
 have h := hv
 unfold okIn validI at h
 simp only [Bool.and_eq_true, Bool.or_eq_true, decide_eq_true_eq, Bool.not_eq_true', beq_iff_eq] at h
 obtain ⟨⟨⟨⟨⟨_, h1⟩, _⟩, _⟩, _⟩, h2⟩ := h
 unfold inR
 rcases h1 with q | q
 ·rcases h2 with q2 | q2
  ·rw [q] at q2; cases q2
  ·have e1 : -9223372036854775808 <= loI i.op := by unfold loI; repeat' split
                                                    all_goals omega
   have e2 : hiI i.op <= 9223372036854775807 := by unfold hiI; repeat' split
                                                   all_goals omega
   omega
 ·omega
theorem rg_step {B : Bi} {s : CS} (h : RG s) (hn : inR (insS B s).n) : RG (stepS B s) := by
 have key : RG (effS B s).1 := by
  unfold effS
  simp only
  split
  ·exact rg_jump h _ _
  ·split
   ·split
    ·exact ⟨h.r, h.c, h.f⟩
    ·exact ⟨h.r, h.c, h.f⟩
   ·split
    ·exact ⟨h.r, h.c, h.f⟩
    ·split
     ·exact rg_acc h _
     ·exact rg_comp h _ hn
 unfold stepS
 refine rg_ite (fun _ => h) fun _ => ?_
 unfold finS
 exact rg_ite (fun _ => key) fun _ => ⟨key.r, key.c, key.f⟩
theorem rg_init {B : Bi} {f fuel : Int} {args : List Int} (ha : ∀ x ∈ args, inR x) : RG (initS B f args fuel) := by
 have z : inR 0 := in0
 refine ⟨fun x hx => ?_, fun l hl x hx => ?_, fun F hF x hx => ?_⟩
 ·have hx : x ∈ args ++ List.replicate (8 - args.length) 0 := hx
  rcases List.mem_append.1 hx with q | q
  ·exact ha x q
  ·rw [(List.mem_replicate.1 q).2]; exact z
 ·obtain ⟨n, _, e⟩ := List.mem_map.1 hl
  subst e
  rw [(List.mem_replicate.1 hx).2]; exact z
 ·have hF : F ∈ [(⟨List.replicate (B.s.getD f.toNat 0).toNat 0, 0⟩ : Fm)] := hF
  simp only [List.mem_singleton] at hF
  subst hF
  rw [(List.mem_replicate.1 hx).2]; exact z
end Go.M31
namespace Go.M31
open Go.Pv Go.M29 Go.M30 Go.M13
def rinsC (B : Bi) (s : CS) : List IV := [.int .i64 (insS B s).op, .int .i64 (insS B s).a, .int .i64 (insS B s).b, .int .i64 (insS B s).c, .int .i64 (insS B s).n]
structure RCall (B : Bi) (s : CS) (R : RL) (id : Nat) (h : Heap) (k : Nat) (hp : Heap) : Prop where
 kr : (insS B s).a.toNat <= k /\ k <= 8
 rep : ∃ R1 : RL, RRep B { s with frames := s.frames ++ [⟨List.replicate (B.s.getD (insS B s).n.toNat 0).toNat 0, nxS B s⟩], regs := clr s.regs (insS B s).a.toNat k } R1 id hp /\ FrmR R.r R1.r h hp
theorem setTop_top {s : CS} (hne : s.frames ≠ []) : setTop s (topF s) = s := by
 unfold setTop
 have : s.frames.dropLast ++ [topF s] = s.frames := by
  unfold topF
  rw [List.getLastD_eq_getLast?, List.getLast?_eq_some_getLast hne]
  exact List.dropLast_concat_getLast hne
 rw [this]
end Go.M31
end
section
set_option linter.unusedVariables false
namespace Go.M31
open Go.Pv Go.M29 Go.M30 Go.M13
def raid (n j : Nat) : Nat := if j = 0 then n + 2 else n + 3 + j
def rnrow (n k : Nat) (a : List Int) : List IV := (List.range k).map fun j => IV.hslice (raid n j) 0 (Int.toNat (a.getD j 0)) 1
def rnarr (n k : Nat) (a : List Int) : IV := if k = 0 then .nilslice else .vslice (some (n + 3)) k k 1 (rnrow n k a)
def rcG (B : Bi) (regs : List Int) (A F : IV) (pc fuel : Int) : List IV := rbin B ++ (ints regs ++ [A, F, .int .i64 pc, .int .i64 fuel, .nilslice, .bool false, .int .i64 0, .int .i64 0, .nilslice, .int .i64 0])
def rargs (args : List Int) (k : Nat) : List Int := args.take k ++ List.replicate (8 - k) 0
def rF0 (B : Bi) (f : Int) (n : Nat) : IV := .vslice none 1 1 2 [.hslice n 0 (B.s.getD f.toNat 0).toNat 1, .int .i64 0]
theorem rnarr_pos {n k : Nat} {a : List Int} (hk : 0 < k) : rnarr n k a = .vslice (some (n + 3)) k k 1 (rnrow n k a) := by
 unfold rnarr
 rw [if_neg (by omega)]
theorem rnrow_succ (n k : Nat) (a : List Int) : rnrow n (k + 1) a = rnrow n k a ++ [.hslice (raid n k) 0 (Int.toNat (a.getD k 0)) 1] := by
 unfold rnrow
 rw [List.range_succ, List.map_append]
 rfl
theorem rargs_len {args : List Int} {k : Nat} (h : k <= args.length) (h8 : k <= 8) : (rargs args k).length = 8 := by
 simp [rargs]
 omega
theorem rargs_set {args : List Int} {k : Nat} (h : k < args.length) (h8 : args.length <= 8) : (rargs args k).set k args[k] = rargs args (k + 1) := by
 unfold rargs
 rw [List.set_append_right _ _ (by simp; omega)]
 have e : k - (args.take k).length = 0 := by simp; omega
 rw [e, show 8 - k = (8 - (k + 1)) + 1 by omega, List.replicate_succ, List.set_cons_zero, List.take_succ_eq_append_getElem h, List.append_assoc]
 rfl
theorem rcG_len {B : Bi} {regs : List Int} {A F : IV} {pc fuel : Int} : (rcG B regs A F pc fuel).length = regs.length + 15 := by simp [rcG, rbin, ints]
theorem rcG_setreg {B : Bi} {regs : List Int} {A F : IV} {pc fuel v : Int} {k : Nat} (h : k < regs.length) : (rcG B regs A F pc fuel).set (5 + k) (.int .i64 v) = rcG B (regs.set k v) A F pc fuel := by
 unfold rcG
 rw [List.set_append_right _ _ (by simp [rbin]), List.set_append_left _ _ (by simp [rbin, ints]; omega)]
 have e : 5 + k - (rbin B).length = k := by simp [rbin]
 rw [e]
 simp [ints, List.map_set]
theorem rcG_13 {B : Bi} {regs : List Int} {A F : IV} {pc fuel : Int} (h : regs.length = 8) : (rcG B regs A F pc fuel)[13]? = some A := by
 unfold rcG
 rw [List.getElem?_append_right (by simp [rbin]), List.getElem?_append_right (by simp [rbin, ints, h])]
 simp [rbin, ints, h]
theorem rcG_set13 {B : Bi} {regs : List Int} {A F : IV} {pc fuel : Int} (h : regs.length = 8) (v : IV) : (rcG B regs A F pc fuel).set 13 v = rcG B regs v F pc fuel := by
 unfold rcG
 rw [List.set_append_right _ _ (by simp [rbin]), List.set_append_right _ _ (by simp [rbin, ints, h])]
 simp [rbin, ints, h]
structure RN1 (B : Bi) (f fuel : Int) (args : List Int) (h : Heap) (k : Nat) (hp : Heap) : Prop where
 kl : k <= args.length
 cpu : hp.get (h.next + 1) = .cells (rcG B (rargs args k) .nilslice (rF0 B f h.next) (B.e.getD f.toNat 0) fuel)
 sl : hp.get h.next = .cells (ints (List.replicate (B.s.getD f.toNat 0).toNat 0))
 ot : ∀ i, i < h.next -> hp.get i = h.get i
 nx : hp.next = h.next + 2
structure RN2 (B : Bi) (f fuel : Int) (args : List Int) (h : Heap) (k : Nat) (hp : Heap) : Prop where
 kl : k <= B.a.length
 cpu : hp.get (h.next + 1) = .cells (rcG B (rargs args args.length) (rnarr h.next k B.a) (rF0 B f h.next) (B.e.getD f.toNat 0) fuel)
 sl : hp.get h.next = .cells (ints (List.replicate (B.s.getD f.toNat 0).toNat 0))
 ar : ∀ j, j < k -> hp.get (raid h.next j) = .cells (ints (List.replicate (Int.toNat (B.a.getD j 0)) 0))
 ai : 0 < k -> hp.get (h.next + 3) = .tip k
 ot : ∀ i, i < h.next -> hp.get i = h.get i
 nx : hp.next = if k = 0 then h.next + 2 else h.next + 3 + k
def newRR (n : Nat) : Nat -> Role := fun id => if id = n + 1 then .cpu else if id = n then .sl 0 else if id = n + 2 then .arr 0 else if n + 3 < id then .arr (id - n - 3) else .other
def newRL (B : Bi) (n : Nat) : RL := { r := newRR n, fi := none, fe := 1, oi := 0, oe := 0, xi := 0, xe := 0, ai := n + 3, arr := (List.range B.a.length).map (raid n), sl := [n] }
theorem newRR_old {n i : Nat} (h : i < n) : newRR n i = .other := by
 unfold newRR
 rw [if_neg (by omega), if_neg (by omega), if_neg (by omega), if_neg (by omega)]
theorem rnrow_rows (B : Bi) (n : Nat) : rrows (newRL B n).arr B.a = rnrow n B.a.length B.a := by
 unfold rrows rnrow newRL
 apply List.ext_getElem?
 intro j
 simp only [List.getElem?_zipWith, List.getElem?_map]
 by_cases hj : j < B.a.length
 ·rw [List.getElem?_eq_getElem hj, List.getElem?_range hj]
  simp [List.getD_eq_getElem?_getD, List.getElem?_eq_getElem hj]
 ·rw [List.getElem?_eq_none (by simpa using hj), List.getElem?_eq_none (by simpa using hj)]
  simp
theorem newR_cells (B : Bi) (n : Nat) (f fuel : Int) (args : List Int) : rcG B (rargs args args.length) (rnarr n B.a.length B.a) (rF0 B f n) (B.e.getD f.toNat 0) fuel = rcpuC B (initS B f args fuel) (newRL B n) := by
 have eA : rarr B (newRL B n) = rnarr n B.a.length B.a := by
  unfold rarr rnarr
  by_cases h0 : B.a = []
  ·simp [h0]
  ·have h1 : ¬ B.a.length = 0 := fun z => h0 (List.eq_nil_of_length_eq_zero z)
   rw [if_neg h0, if_neg h1, rnrow_rows]
   rfl
 unfold rcG rcpuC rZ
 rw [eA]
 have e2 : rargs args args.length = (initS B f args fuel).regs := by
  unfold rargs initS
  rw [List.take_length]
 rw [e2]
 congr 2
 simp [initS, rF0, rfrs, rfr1, rout, newRL]
theorem newR_rep {B : Bi} {h x : Heap} {f fuel : Int} {args : List Int} (ha : args.length <= 8) (n2 : RN2 B f fuel args h B.a.length x) : RRep B (initS B f args fuel) (newRL B h.next) (h.next + 1) x := by
 have hnx := n2.nx
 have hx : h.next + 2 <= x.next := by rw [hnx]; split <;> omega
 exact {
  cpu := by rw [n2.cpu, newR_cells]
  cpur := ⟨by show newRR _ _ = _; unfold newRR; rw [if_pos rfl], by omega⟩
  al := by simp [newRL]
  cl := by simp [initS, List.map_map, Function.comp_def]
  rl := by simp [initS]; omega
  ar := fun j h1 h2 => by
   have hj : j < B.a.length := by simpa [newRL] using h1
   have e : (newRL B h.next).arr[j] = raid h.next j := by simp [newRL]
   have e2 : (initS B f args fuel).cells[j] = List.replicate (Int.toNat (B.a.getD j 0)) 0 := by
    simp [initS, List.getD_eq_getElem?_getD, List.getElem?_eq_getElem hj]
   have hid : raid h.next j < x.next /\ h.next + 2 <= raid h.next j := by
    rw [hnx, if_neg (by omega)]
    unfold raid
    split <;> omega
   rw [e, e2]
   refine ⟨n2.ar j hj, ?_, hid.1⟩
   show newRR _ _ = _
   unfold newRR
   rw [if_neg (by omega), if_neg (by omega)]
   unfold raid
   by_cases h0 : j = 0
   ·rw [if_pos h0, if_pos rfl, h0]
   ·rw [if_neg h0, if_neg (by omega), if_pos (by omega)]
    congr 1
    omega
  fl := rfl
  fs := fun j h1 h2 => by
   have hj : j = 0 := by simp [newRL] at h1; omega
   subst hj
   refine ⟨?_, by show newRR h.next h.next = _; unfold newRR; rw [if_neg (by omega), if_pos rfl], by show h.next < _; omega⟩
   show x.get h.next = _
   rw [n2.sl]
   rfl }
end Go.M31
namespace Go.M31
open Go.Pv Go.M29 Go.M30 Go.M13
theorem rg_run {B : Bi} (hv : VB B) (hw : ∀ x ∈ B.w, u32b x) {s : CS} (wf : WF B s) (h : RG s) : ∀ n, RG (rnN B n s)
 | 0 => h
 | n + 1 => by
   rw [rnN_succ]
   exact rg_step (rg_run hv hw wf h n) (ins_in (ins_ok hv hw (wf_run hv hw wf n).pc).1)
def ZS (s : CS) : Prop := s.over = false -> s.kind = 0 /\ s.code = 0 /\ s.val = 0
theorem z_ite {p : Prop} [Decidable p] {a b : CS} (ha : ZS a) (hb : ZS b) : ZS (if p then a else b) := by
 by_cases h : p
 ·rw [if_pos h]; exact ha
 ·rw [if_neg h]; exact hb
theorem z_iteP {p : Prop} [Decidable p] {a b : CS × Int} (ha : ZS a.1) (hb : ZS b.1) : ZS (if p then a else b).1 := by
 by_cases h : p
 ·rw [if_pos h]; exact ha
 ·rw [if_neg h]; exact hb
theorem z_stop (s : CS) (k c v : Int) : ZS (stopS s k c v) := fun z => by cases z
theorem z_step (B : Bi) {s : CS} (h : ZS s) : ZS (stepS B s) := by
 unfold stepS
 refine z_ite h ?_
 have key : ZS (effS B s).1 := by
  unfold effS
  simp only
  refine z_iteP ?_ (z_iteP (z_iteP (z_stop _ _ _ _) h) (z_iteP (z_stop _ _ _ _) (z_iteP ?_ ?_)))
  ·unfold jumpS
   repeat' (refine z_iteP ?_ ?_)
   all_goals first
    | exact h
    | exact z_stop _ _ _ _
  ·unfold accS
   repeat' (refine z_ite ?_ ?_)
   all_goals first
    | exact h
    | exact z_stop _ _ _ _
  ·unfold compS
   repeat' (refine z_ite ?_ ?_)
   all_goals first
    | exact h
    | exact z_stop _ _ _ _
 unfold finS
 exact z_ite key key
theorem z_run (B : Bi) {s : CS} (h : ZS s) : ∀ n, ZS (rnN B n s)
 | 0 => h
 | n + 1 => by rw [rnN_succ]; exact z_step B (z_run B h n)
end Go.M31
end
section
set_option linter.unusedVariables false
namespace Go.M31
open Go.Pv Go.M29 Go.M30 Go.M13
theorem wa_nat : ∀ n : Nat, n < 38 -> 10 <= n -> n ≠ 35 -> n ≠ 37 -> (rowOf (n : Int)).wa = true := by decide +kernel
theorem wa_ok {op : Int} (h : 1 <= op /\ op <= 37) (h1 : 10 <= op) (h2 : op ≠ 35) (h3 : op ≠ 37) : (rowOf op).wa = true := by
 obtain ⟨n, rfl⟩ := Int.eq_ofNat_of_zero_le (show 0 <= op by omega)
 exact wa_nat n (by omega) (by omega) (by omega) (by omega)
def RegOk (s s' : CS) (i : In) : Prop := s'.regs = s.regs \/ ((∃ v, s'.regs = s.regs.set i.a.toNat v) /\ 10 <= i.op /\ i.op ≠ 35 /\ i.op ≠ 37)
def CellOk (s s' : CS) (i : In) : Prop := s'.cells = s.cells \/ (i.op = 35 /\ ∃ n j v, s'.cells = s.cells.set n ((s.cells.getD n []).set j v))
theorem reg_ite {p : Prop} [Decidable p] {s a b : CS} {i : In} (ha : p -> RegOk s a i) (hb : ¬ p -> RegOk s b i) : RegOk s (if p then a else b) i := by
 by_cases h : p
 ·rw [if_pos h]; exact ha h
 ·rw [if_neg h]; exact hb h
theorem reg_comp (s : CS) (i : In) (h : 1 <= i.op /\ i.op <= 37) (hx : ¬ (i.op = 2 \/ i.op = 6 \/ i.op = 5 \/ i.op = 7 \/ i.op = 8) /\ i.op ≠ 3 /\ i.op ≠ 4 /\ ¬ (i.op = 34 \/ i.op = 35)) : RegOk s (compS s i) i := by
 unfold compS
 repeat' (refine reg_ite (fun _ => ?_) (fun _ => ?_))
 all_goals first
  | exact .inl rfl
  | exact .inr ⟨⟨_, rfl⟩, by omega, by omega, by omega⟩
theorem cells_ite {p : Prop} [Decidable p] {a b : CS} {c : List (List Int)} (ha : a.cells = c) (hb : b.cells = c) : (if p then a else b).cells = c := by
 by_cases h : p
 ·rw [if_pos h]; exact ha
 ·rw [if_neg h]; exact hb
theorem cells_comp (s : CS) (i : In) : (compS s i).cells = s.cells := by
 unfold compS
 repeat' (refine cells_ite ?_ ?_)
 all_goals rfl
theorem eff_all (B : Bi) (s : CS) (h : 1 <= (insS B s).op /\ (insS B s).op <= 37) : ((insS B s).op ≠ 2 -> (insS B s).op ≠ 6 -> RegOk s (effS B s).1 (insS B s)) /\ CellOk s (effS B s).1 (insS B s) := by
 have d1 : effS B s = if (insS B s).op = 2 \/ (insS B s).op = 6 \/ (insS B s).op = 5 \/ (insS B s).op = 7 \/ (insS B s).op = 8 then jumpS B s (insS B s) (nxS B s)
   else if (insS B s).op = 3 then (if s.fuel = 0 then (stopS s 3 0 0, nxS B s) else ({ s with fuel := IntKind.i64.wrap (s.fuel - 1) }, nxS B s))
   else if (insS B s).op = 4 then (stopS s 2 (insS B s).n 0, nxS B s)
   else if (insS B s).op = 34 \/ (insS B s).op = 35 then (accS s (insS B s), nxS B s) else (compS s (insS B s), nxS B s) := rfl
 by_cases c1 : (insS B s).op = 2 \/ (insS B s).op = 6 \/ (insS B s).op = 5 \/ (insS B s).op = 7 \/ (insS B s).op = 8
 ·rw [if_pos c1] at d1
  rw [d1]
  unfold jumpS
  refine ⟨fun n2 n6 => ?_, ?_⟩
  ·rw [if_neg n2, if_neg n6]
   left
   split
   ·rfl
   ·split
    ·split <;> rfl
    ·split
     ·split <;> rfl
     ·rfl
  ·left
   repeat' split
   all_goals rfl
 ·rw [if_neg c1] at d1
  by_cases c2 : (insS B s).op = 3
  ·rw [if_pos c2] at d1
   rw [d1]
   refine ⟨fun _ _ => .inl ?_, .inl ?_⟩
   ·split <;> rfl
   ·split <;> rfl
  ·rw [if_neg c2] at d1
   by_cases c3 : (insS B s).op = 4
   ·rw [if_pos c3] at d1
    rw [d1]
    exact ⟨fun _ _ => .inl rfl, .inl rfl⟩
   ·rw [if_neg c3] at d1
    by_cases c4 : (insS B s).op = 34 \/ (insS B s).op = 35
    ·rw [if_pos c4] at d1
     rw [d1]
     unfold accS
     simp only
     split
     ·split
      ·exact ⟨fun _ _ => .inr ⟨⟨_, rfl⟩, by omega, by omega, by omega⟩, .inl rfl⟩
      ·exact ⟨fun _ _ => .inl rfl, .inr ⟨by omega, _, _, _, rfl⟩⟩
     ·exact ⟨fun _ _ => .inl rfl, .inl rfl⟩
    ·rw [if_neg c4] at d1
     rw [d1]
     exact ⟨fun _ _ => reg_comp s _ h ⟨c1, c2, c3, c4⟩, .inl (cells_comp s _)⟩
theorem step_all (B : Bi) (s : CS) (h : 1 <= (insS B s).op /\ (insS B s).op <= 37) : ((insS B s).op ≠ 2 -> (insS B s).op ≠ 6 -> RegOk s (stepS B s) (insS B s)) /\ CellOk s (stepS B s) (insS B s) := by
 unfold stepS
 by_cases ho : s.over = true
 ·rw [if_pos ho]
  exact ⟨fun _ _ => .inl rfl, .inl rfl⟩
 ·rw [if_neg ho]
  have := eff_all B s h
  unfold finS
  split
  ·exact this
  ·exact this
theorem step_writes {B : Bi} {s : CS} (hv : okIn (insS B s) = true) (n2 : (insS B s).op ≠ 2) (n6 : (insS B s).op ≠ 6) {k : Nat} (hk : k < 8) (hd : rg (stepS B s) k ≠ rg s k) : (wrI (insS B s).op (insS B s).a (insS B s).b (insS B s).c (insS B s).n).contains (k : Int) = true := by
 have hv' : validI (insS B s).op (insS B s).a (insS B s).b (insS B s).c (insS B s).n = true := hv
 obtain ⟨ho, ha, _⟩ := ok_fields hv'
 rcases (step_all B s ho).1 n2 n6 with e | ⟨⟨v, e⟩, h10, h35, h37⟩
 ·exact absurd (by unfold rg; rw [e]) hd
 ·have hka : (insS B s).a = (k : Int) := by
   rcases Nat.lt_trichotomy (insS B s).a.toNat k with z | z | z
   ·refine absurd ?_ hd
    unfold rg
    rw [e, List.getD_eq_getElem?_getD, List.getD_eq_getElem?_getD, Int.toNat_natCast, List.getElem?_set_ne (by omega)]
   ·omega
   ·refine absurd ?_ hd
    unfold rg
    rw [e, List.getD_eq_getElem?_getD, List.getD_eq_getElem?_getD, Int.toNat_natCast, List.getElem?_set_ne (by omega)]
  unfold wrI
  rw [if_pos hv', if_neg n6, if_pos (wa_ok ho h10 h35 h37), hka]
  simp
def cellV (s : CS) (a i : Int) : Int := if 0 <= a /\ a < (s.cells.length : Int) /\ 0 <= i /\ i < ((s.cells.getD a.toNat []).length : Int) then (s.cells.getD a.toNat []).getD i.toNat 0 else 0
def memL (s : CS) : List Int := [cellV s 0 0, cellV s 0 1, cellV s 0 2, cellV s 1 0, cellV s 1 1]
def rgL (s : CS) : List Int := [rg s 0, rg s 1, rg s 2, rg s 3, rg s 4, rg s 5, rg s 6, rg s 7]
def cntD (l l' : List Int) : Nat -> Nat
 | 0 => 0
 | k + 1 => cntD l l' k + if l'.getD k 0 = l.getD k 0 then 0 else 1
theorem cntD_le (l l' : List Int) : ∀ k, cntD l l' k <= k
 | 0 => Nat.le_refl _
 | k + 1 => by
   have := cntD_le l l' k
   unfold cntD
   split <;> omega
theorem cells2 {c : List (List Int)} (h : c.map List.length = [3, 2]) : ∃ x y z u v, c = [[x, y, z], [u, v]] := by
 match c, h with
 | [[x, y, z], [u, v]], _ => exact ⟨x, y, z, u, v, rfl⟩
theorem step_mem {B : Bi} {s : CS} (ha : B.a = [3, 2]) (wf : WF B s) (h : 1 <= (insS B s).op /\ (insS B s).op <= 37) : cntD (memL s) (memL (stepS B s)) 5 <= 1 /\ (cntD (memL s) (memL (stepS B s)) 5 = 1 -> (insS B s).op = 35) := by
 have hc := wf.cells
 rw [ha] at hc
 obtain ⟨x, y, z, u, v, e⟩ := cells2 (c := s.cells) hc
 have same : (stepS B s).cells = s.cells -> cntD (memL s) (memL (stepS B s)) 5 = 0 := fun q => by
  unfold memL cellV
  rw [q]
  simp [cntD]
 rcases (step_all B s h).2 with q | ⟨h35, n, j, w, q⟩
 ·rw [same q]
  exact ⟨by omega, fun z => absurd z (by omega)⟩
 ·refine ⟨?_, fun _ => h35⟩
  rw [e] at q
  unfold memL cellV
  rw [q, e]
  rcases n with _ | _ | n
  ·rcases j with _ | _ | _ | j
   all_goals simp [cntD]
   all_goals (repeat' split) <;> omega
  ·rcases j with _ | _ | j
   all_goals simp [cntD]
   all_goals (repeat' split) <;> omega
  ·simp [cntD]
theorem rgL_at (s : CS) {k : Nat} (h : k < 8) : (ints (rgL s))[0 + (k : Int).toNat * 1]? = some (.int .i64 (rg s k)) := by
 rw [Int.toNat_natCast, Nat.mul_one, Nat.zero_add]
 match k, h with
 | 0, _ => rfl
 | 1, _ => rfl
 | 2, _ => rfl
 | 3, _ => rfl
 | 4, _ => rfl
 | 5, _ => rfl
 | 6, _ => rfl
 | 7, _ => rfl
theorem memL_at (s : CS) {k : Nat} (h : k < 5) : (ints (memL s))[(k : Int).toNat * 1]? = some (.int .i64 ((memL s).getD k 0)) := by
 rw [Int.toNat_natCast, Nat.mul_one]
 match k, h with
 | 0, _ => rfl
 | 1, _ => rfl
 | 2, _ => rfl
 | 3, _ => rfl
 | 4, _ => rfl
theorem wrI_len (op a b c n : Int) : (wrI op a b c n).length <= 1 := by
 unfold wrI
 repeat' split
 all_goals simp
def insC (B : Bi) (s : CS) : List IV := [.int .i64 (insS B s).op, .int .i64 (insS B s).a, .int .i64 (insS B s).b, .int .i64 (insS B s).c, .int .i64 (insS B s).n]
def wrL (B : Bi) (s : CS) : List Int := wrI (insS B s).op (insS B s).a (insS B s).b (insS B s).c (insS B s).n
def wrV (B : Bi) (s : CS) : IV := .vslice none 0 (wrL B s).length 1 ((wrL B s).map (IV.int .i64))
end Go.M31
end
section
set_option linter.unusedVariables false
namespace Go.M31
open Go.Pv Go.M29 Go.M30 Go.M13
def DJ (L : Ly) (R : RL) (h : Heap) : Prop := ∀ id, id < h.next -> L.r id = .other \/ R.r id = .other
theorem clipL_lt {L : Ly} {n id : Nat} (h : id < n) : (clipL L n).r id = L.r id := if_pos h
theorem clipL_ge {L : Ly} {n id : Nat} (h : ¬ id < n) : (clipL L n).r id = .other := if_neg h
theorem clipR_lt {R : RL} {n id : Nat} (h : id < n) : (clipR R n).r id = R.r id := if_pos h
theorem clipR_ge {R : RL} {n id : Nat} (h : ¬ id < n) : (clipR R n).r id = .other := if_neg h
variable {B : Bi} {s s' : CS} {L L' : Ly} {R R' : RL} {c d : Nat} {h h' : Heap}
theorem dj_stepL (hR : RRep B s R d h) (dj : DJ L R h) (f : Frm L L' h h') : RRep B s (clipR R h.next) d h' /\ DJ L' (clipR R h.next) h' := by
 refine ⟨hR.frame (fun id hi hn => (f.ot id hi ((dj id hi).resolve_right hn)).1) f.nx, fun id hi => ?_⟩
 by_cases hl : id < h.next
 ·rw [clipR_lt hl]
  rcases dj id hl with z | z
  ·exact .inl (f.ot id hl z).2
  ·exact .inr z
 ·exact .inr (clipR_ge hl)
theorem dj_stepR (hL : Rep B s L c h) (dj : DJ L R h) (f : FrmR R.r R'.r h h') : Rep B s (clipL L h.next) c h' /\ DJ (clipL L h.next) R' h' := by
 refine ⟨hL.frame (fun id hi hn => (f.ot id hi ((dj id hi).resolve_left hn)).1) f.nx, fun id hi => ?_⟩
 by_cases hl : id < h.next
 ·rw [clipL_lt hl]
  rcases dj id hl with z | z
  ·exact .inl z
  ·exact .inr (f.ot id hl z).2
 ·exact .inl (clipL_ge hl)
theorem dj_same (hL : Rep B s L c h) (hR : RRep B s' R d h) (dj : DJ L R h) (e : ∀ k, k < h.next -> h'.get k = h.get k) (n : h.next <= h'.next) : Rep B s (clipL L h.next) c h' /\ RRep B s' (clipR R h.next) d h' /\ DJ (clipL L h.next) (clipR R h.next) h' := by
 refine ⟨hL.frame (fun id hi _ => e id hi) n, hR.frame (fun id hi _ => e id hi) n, fun id hi => ?_⟩
 by_cases hl : id < h.next
 ·rw [clipL_lt hl, clipR_lt hl]
  exact dj id hl
 ·exact .inl (clipL_ge hl)
theorem dj_new (hL : Rep B s L c h) (e : ∀ k, k < h.next -> h'.get k = h.get k) (n : h.next <= h'.next) : Rep B s (clipL L h.next) c h' /\ DJ (clipL L h.next) (newRL B h.next) h' := by
 refine ⟨hL.frame (fun id hi _ => e id hi) n, fun id hi => ?_⟩
 by_cases hl : id < h.next
 ·exact .inr (newRR_old hl)
 ·exact .inl (clipL_ge hl)
end Go.M31
end
