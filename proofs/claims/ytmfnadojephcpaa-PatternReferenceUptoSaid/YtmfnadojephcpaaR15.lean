import Derived.Test.YtmfnadojephcpaaQ15
set_option linter.unusedVariables false
namespace Go.M15
def opn (o : List Bool) (r : Int) : Bool := o.getD r.toNat true
def run : Int -> List Bool -> List Ins -> Option Int
 | g, _, [] => some g
 | g, o, x :: r =>
   if 0 <= x.a /\ x.a < g /\ x.a < 64 /\ opn o x.a = false then
    if x.k = 2 then
     if 0 <= x.b /\ x.b < g /\ opn o x.b = false then run g o r else none
    else if x.k = 1 /\ x.b = g then run (g + ar x.op) (o.set x.a.toNat true) r else none
   else none
theorem opn_set {o : List Bool} {i j : Int} (hi : 0 <= i) (hj : 0 <= j) : opn (o.set i.toNat true) j = if j = i then true else opn o j := by
 unfold opn
 rw [List.getD_eq_getElem?_getD, List.getD_eq_getElem?_getD, List.getElem?_set]
 by_cases e : j = i
 ·subst e
  rw [if_pos rfl, if_pos rfl]
  split <;> simp
 ·rw [if_neg (by omega), if_neg e]
structure Good (a : Int) (st : St) (o : List Bool) (n : Nat) : Prop where
 len : o.length = 64
 pos : 1 <= st.next
 a0 : 0 <= a
 a1 : a < st.next
 big : st.next + n <= 65
 cl : opn o a = false
 vars : ∀ x ∈ st.vars, x = -1 \/ (0 <= x /\ x < st.next /\ x ≠ a /\ opn o x = false)
 fr : ∀ r, st.next <= r -> r < 64 -> opn o r = false
structure Done (a : Int) (st st' : St) (o o' : List Bool) (ins : List Ins) : Prop where
 l : st'.l = st.l ++ ins
 run : ∀ rest, run st.next o (ins ++ rest) = run st'.next o' rest
 len : o'.length = 64
 keep : ∀ r, 0 <= r -> r < st.next -> r ≠ a -> opn o' r = opn o r
 fr : ∀ r, st'.next <= r -> r < 64 -> opn o' r = false
 mono : st.next <= st'.next
 vars : ∀ x ∈ st'.vars, x = -1 \/ (0 <= x /\ x < st'.next /\ opn o' x = false /\ (x ∈ st.vars \/ x = a \/ st.next <= x))
structure DoneK (lo hi : Int) (st st' : St) (o o' : List Bool) (ins : List Ins) : Prop where
 l : st'.l = st.l ++ ins
 run : ∀ rest, run st.next o (ins ++ rest) = run st'.next o' rest
 len : o'.length = 64
 keep : ∀ r, 0 <= r -> r < st.next -> (r < lo \/ hi <= r) -> opn o' r = opn o r
 fr : ∀ r, st'.next <= r -> r < 64 -> opn o' r = false
 mono : st.next <= st'.next
 vars : ∀ x ∈ st'.vars, x = -1 \/ (0 <= x /\ x < st'.next /\ opn o' x = false /\ (x ∈ st.vars \/ (lo <= x /\ x < hi) \/ st.next <= x))
theorem pad_mem {vs : List Int} {v x : Int} (h : x ∈ pad vs v) : x ∈ vs \/ x = -1 := by
 unfold pad at h
 rcases List.mem_append.1 h with h | h
 ·exact .inl h
 ·exact .inr (List.eq_of_mem_replicate h)
mutual
theorem comp_done : ∀ (t : T) (a : Int) (st : St) (o : List Bool), t.wf -> Good a st o t.num -> ∃ o' ins, Done a st (comp t a st) o o' ins /\ (comp t a st).next + 1 = st.next + t.num
 | .mk v op im iv ks, a, st, o, hw, g => by
   rw [comp]
   rcases hw with ⟨rfl, h1, h2⟩ | ⟨h1, h2, rfl⟩
   ·rw [if_neg (by omega)]
    have hb := g.big
    simp only [T.num] at hb
    have hal : a < 64 := by have := g.a1; omega
    have hos : ∀ r, 0 <= r -> opn (o.set a.toNat true) r = if r = a then true else opn o r := fun r hr => opn_set g.a0 hr
    have hln := len_nums ks
    have g2 : ∀ x ∈ st.vars, x = -1 \/ (0 <= x /\ x < st.next + ks.length /\ (x < st.next + ((0 : Nat) : Int) \/ st.next + ((0 : Nat) : Int) + ks.length <= x) /\ opn (o.set a.toNat true) x = false) := fun x hx => by
     rcases g.vars x hx with e | ⟨e1, e2, e3, e4⟩
     ·exact .inl e
     ·refine .inr ⟨e1, by omega, .inl (by omega), ?_⟩
      rw [hos x e1, if_neg e3, e4]
    obtain ⟨o', ins, d, hn⟩ := comps_done ks st.next 0 { l := st.l ++ [⟨1, a, st.next, op, im, iv⟩], next := st.next + ks.length, vars := st.vars } (o.set a.toNat true) h2 (by simp [g.len]) (by have := g.pos; omega)
     (by show st.next + ((0 : Nat) : Int) + ks.length <= st.next + ks.length; omega) (by show st.next + (ks.length : Int) + nums ks <= 64 + ks.length; omega)
     (fun r hr1 hr2 => by rw [hos r (by have := g.pos; omega), if_neg (by have := g.a1; omega)]; exact g.fr r (by omega) (by omega))
     (fun r hr1 hr2 => by simp only at hr1; rw [hos r (by have := g.pos; omega), if_neg (by have := g.a1; omega)]; exact g.fr r (by omega) hr2) g2
    refine ⟨o', ⟨1, a, st.next, op, im, iv⟩ :: ins, ⟨?_, ?_, d.len, ?_, d.fr, ?_, ?_⟩, ?_⟩
    ·rw [d.l]; simp
    ·intro rest
     rw [List.cons_append, Go.M15.run]
     rw [if_pos ⟨g.a0, g.a1, hal, g.cl⟩, if_neg (show ¬ ((1 : Int) = 2) by decide), if_pos ⟨rfl, rfl⟩]
     have := d.run rest
     simp only at this ⊢
     rw [<- this, h1]
    ·intro r hr1 hr2 hr3
     rw [d.keep r hr1 (by simp only; omega) (by omega), hos r hr1, if_neg hr3]
    ·have := d.mono
     simp only at this
     omega
    ·intro x hx
     rcases d.vars x hx with e | ⟨e1, e2, e3, e4⟩
     ·exact .inl e
     ·refine .inr ⟨e1, e2, e3, ?_⟩
      rcases e4 with e4 | e4
      ·exact .inl e4
      ·right; right
       have e5 : st.next + ((0 : Nat) : Int) <= x /\ x < st.next + ((0 : Nat) : Int) + ks.length \/ st.next + (ks.length : Int) <= x := e4
       omega
    ·simp only [T.num] at hn ⊢
     omega
   ·rw [if_pos (by omega)]
    have hb := g.big
    simp only [T.num, nums] at hb
    have hgm : 0 <= (pad st.vars v).getD (v - 1).toNat 0 -> (pad st.vars v).getD (v - 1).toNat 0 ∈ st.vars := fun hp => by
     have hlt : (v - 1).toNat < (pad st.vars v).length := by rw [pad_len]; omega
     rw [List.getD_eq_getElem?_getD, List.getElem?_eq_getElem hlt] at hp ⊢
     rcases pad_mem (List.getElem_mem hlt) with h | h
     ·exact h
     ·have hp : 0 <= (pad st.vars v)[(v - 1).toNat] := hp
      omega
    split
    ·rename_i hp
     have hm := hgm hp
     rcases g.vars _ hm with e | ⟨e1, e2, e3, e4⟩
     ·omega
     refine ⟨o, [⟨2, a, (pad st.vars v).getD (v - 1).toNat 0, 0, 0, 0⟩], ⟨rfl, ?_, g.len, fun _ _ _ _ => rfl, g.fr, Int.le_refl _, ?_⟩, by simp only [T.num, nums]; omega⟩
     ·intro rest
      rw [List.cons_append, Go.M15.run, if_pos ⟨g.a0, g.a1, by have := g.a1; simp only; omega, g.cl⟩, if_pos rfl, if_pos ⟨e1, e2, e4⟩]
      rfl
     ·intro x hx
      rcases pad_mem hx with h | h
      ·rcases g.vars x h with e | ⟨f1, f2, f3, f4⟩
       ·exact .inl e
       ·exact .inr ⟨f1, f2, f4, .inl h⟩
      ·exact .inl h
    ·refine ⟨o, [], ⟨by simp, fun rest => rfl, g.len, fun _ _ _ _ => rfl, g.fr, Int.le_refl _, ?_⟩, by simp only [T.num, nums]; omega⟩
     intro x hx
     rcases List.mem_or_eq_of_mem_set hx with hx | rfl
     ·rcases pad_mem hx with h | h
      ·rcases g.vars x h with e | ⟨f1, f2, f3, f4⟩
       ·exact .inl e
       ·exact .inr ⟨f1, f2, f4, .inl h⟩
      ·exact .inl h
     ·exact .inr ⟨g.a0, g.a1, g.cl, .inr (.inl rfl)⟩
theorem comps_done : ∀ (ks : List T) (b : Int) (i : Nat) (st : St) (o : List Bool), wfs ks -> o.length = 64 -> 1 <= b -> b + i + ks.length <= st.next -> st.next + nums ks <= 64 + ks.length ->
 (∀ r, b + i <= r -> r < b + i + ks.length -> opn o r = false) -> (∀ r, st.next <= r -> r < 64 -> opn o r = false) ->
 (∀ x ∈ st.vars, x = -1 \/ (0 <= x /\ x < st.next /\ (x < b + i \/ b + i + ks.length <= x) /\ opn o x = false)) ->
 ∃ o' ins, DoneK (b + i) (b + i + ks.length) st (comps ks b i st) o o' ins /\ (comps ks b i st).next + ks.length = st.next + nums ks
 | [], b, i, st, o, _, hlen, _, _, _, _, hfr, hv => by
   refine ⟨o, [], ⟨by simp [comps], fun _ => rfl, hlen, fun _ _ _ _ => rfl, hfr, Int.le_refl _, fun x hx => ?_⟩, by simp [comps, nums]⟩
   rw [comps] at hx ⊢
   rcases hv x hx with e | ⟨e1, e2, e3, e4⟩
   ·exact .inl e
   ·exact .inr ⟨e1, e2, e4, .inl hx⟩
 | t :: r, b, i, st, o, hw, hlen, hb, hlo, hbig, hwin, hfr, hv => by
   simp only [List.length_cons, nums] at hlo hbig hwin hv ⊢
   have hlr := len_nums r
   have hnt := num_pos t
   obtain ⟨o1, ins1, d1, hn1⟩ := comp_done t (b + i) st o hw.1 ⟨hlen, by omega, by omega, by omega, by omega, hwin (b + i) (Int.le_refl _) (by omega), fun x hx => by
    rcases hv x hx with e | ⟨e1, e2, e3, e4⟩
    ·exact .inl e
    ·exact .inr ⟨e1, e2, by omega, e4⟩, hfr⟩
   have m1 := d1.mono
   obtain ⟨o2, ins2, d2, hn2⟩ := comps_done r b (i + 1) (comp t (b + i) st) o1 hw.2 d1.len hb (by omega) (by omega)
    (fun q hq1 hq2 => by rw [d1.keep q (by omega) (by omega) (by omega)]; exact hwin q (by omega) (by omega)) d1.fr (fun x hx => by
     rcases d1.vars x hx with e | ⟨e1, e2, e3, e4⟩
     ·exact .inl e
     ·refine .inr ⟨e1, e2, ?_, e3⟩
      rcases e4 with e4 | e4 | e4
      ·rcases hv x e4 with e | ⟨f1, f2, f3, f4⟩
       ·omega
       ·omega
      ·omega
      ·omega)
   have m2 := d2.mono
   rw [comps]
   refine ⟨o2, ins1 ++ ins2, ⟨by rw [d2.l, d1.l, List.append_assoc], fun rest => by rw [List.append_assoc, d1.run, d2.run], d2.len, fun q hq1 hq2 hq3 => ?_, d2.fr, by omega, fun x hx => ?_⟩, by omega⟩
   ·rw [d2.keep q hq1 (by omega) (by omega), d1.keep q hq1 hq2 (by omega)]
   ·rcases d2.vars x hx with e | ⟨e1, e2, e3, e4⟩
    ·exact .inl e
    ·refine .inr ⟨e1, e2, e3, ?_⟩
     rcases e4 with e4 | e4 | e4
     ·rcases d1.vars x e4 with e | ⟨f1, f2, f3, f4⟩
      ·omega
      ·rcases f4 with f4 | f4 | f4
       ·exact .inl f4
       ·right; left; omega
       ·right; right; omega
     ·right; left; omega
     ·right; right; omega
end
theorem run_comp {t : T} (hw : t.wf) (hn : t.num <= 64) : run 1 (List.replicate 64 false) (comp t 0 ⟨[], 1, []⟩).l = some t.num := by
 obtain ⟨o', ins, d, h⟩ := comp_done t 0 ⟨[], 1, []⟩ (List.replicate 64 false) hw ⟨by simp, by simp, by omega, by simp, by simp only; omega, rfl, by simp, fun r h1 h2 => by
  unfold opn
  rw [List.getD_eq_getElem?_getD, List.getElem?_replicate_of_lt (by simp only at h1; omega)]
  rfl⟩
 have := d.run []
 rw [List.append_nil] at this
 rw [d.l, List.nil_append, this]
 simp only [run] at h ⊢
 congr 1
 have h : (comp t 0 ⟨[], 1, []⟩).next + 1 = 1 + (t.num : Int) := h
 omega
end Go.M15
