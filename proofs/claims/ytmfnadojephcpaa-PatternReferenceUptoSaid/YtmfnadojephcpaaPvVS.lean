import Derived.Test.YtmfnadojephcpaaPvVC
set_option linter.unusedSimpArgs false
set_option linter.unusedVariables false
namespace Go.Pv
theorem PT.get_mapv {α : Type} (g : α -> α) : ∀ (t : PT α) (k : Nat), (t.mapv g).get k = (t.get k).map g
 | .nil, k => rfl
 | .node l v r, k => by
   unfold PT.mapv PT.get
   split
   ·cases v <;> rfl
   ·split
    ·exact PT.get_mapv g l _
    ·exact PT.get_mapv g r _
theorem gf_put (F : GF) (d : Option Tmp) (v : Option TV) : (F.put d v).ff = F.ff.put d v := by
 cases d with
 | none => rfl
 | some t =>
   simp only [GF.put, GF.ff, FF.put]
   congr 1
   funext k
   simp only [GF.tmg, PT.get_set]
   by_cases h : k = t <;> simp [h]
theorem gf_clr (F : GF) (s : Nat) : (F.clr s).ff = F.ff.clr s := by
 simp only [GF.clr, GF.ff, FF.clr]
 congr 1
 funext k
 simp only [GF.tmg, PT.get_mapv]
 cases h : F.tm.get k with
 | none => simp
 | some x => cases x <;> simp [keepNot]
theorem gf_lset (F : GF) (s : Nat) (cs : List IV) : (F.lset s (some cs)).ff = F.ff.lset s cs := by
 simp only [GF.lset, GF.ff, FF.lset]
 congr 1
 funext k
 simp only [GF.lvg, PT.get_set]
 by_cases h : k = s <;> simp [h]
theorem gf_app (F : GF) (d : Option Tmp) (e : Ef) : (F.app d e).ff = F.ff.app d e := by
 unfold GF.app FF.app
 cases e.loc with
 | none => exact gf_put _ _ _
 | some q =>
   obtain ⟨s, cs⟩ := q
   cases hb : e.box <;> simp only [hb]
   ·simp [gf_lset, gf_put]
   ·simp [gf_lset, gf_put, gf_clr]
theorem gf_forget : ∀ (l : List Nat) (F : GF), (F.forget l).ff = F.ff.forget l
 | [], _ => rfl
 | s :: r, F => by
   unfold GF.forget FF.forget
   rw [gf_forget r]
   congr 1
   have h1 := gf_clr F s
   have e1 : ((F.clr s).lset s none).ff.tm = (F.ff.clr s).tm := by rw [<- h1]; rfl
   have e2 : ((F.clr s).lset s none).ff.lv = fun k => if k = s then none else F.ff.lv k := by
    funext k
    simp only [GF.lset, GF.ff, GF.lvg, PT.get_set, GF.clr]
    by_cases h : k = s <;> simp [h, FF.clr]
   exact FF.ext' (fun k => congrFun e1 k) (fun k => congrFun e2 k)
theorem gf_start {E : Env} {f : FuncId} {ops : List Oper} {draw : Bool} (F : GF) : (F.start E f ops draw).ff = F.ff.start E f ops draw := by
 unfold GF.start FF.start
 cases draw with
 | true => simpa using gf_forget _ _
 | false => simp
section
variable {E : Env} {f : FuncId} {C : FuncId -> List IV -> Heap -> (IV -> Heap -> Prop) -> Prop}
theorem need_iff {b : Bool} {A : Prop} : (stdS C).need b A ↔ b = true /\ A := by cases b <;> simp [stdS, needS]
theorem ldC_sound {ck : CK} {cs : List IV} {off : Nat} {K : IV -> Prop} (h : ldC (stdS C) ck cs off K) : ∃ v, cs[off]? = some v /\ K v := by
 cases ck with
 | int k =>
   simp only [ldC, stdS, ldIS] at h
   split at h
   ·rename_i k' n e
    split at h
    ·rename_i hk; subst hk; exact ⟨_, e, h⟩
    ·exact h.elim
   ·exact h.elim
 | bool =>
   simp only [ldC, stdS, ldBS] at h
   split at h
   ·rename_i e; exact ⟨_, e, h⟩
   ·exact h.elim
 | str =>
   simp only [ldC, stdS, ldSS] at h
   split at h
   ·rename_i e; exact ⟨_, e, h⟩
   ·exact h.elim
 | slc sz =>
   simp only [ldC, stdS, ldVS] at h
   split at h
   ·rename_i e
    split at h
    ·rename_i hk; subst hk; exact ⟨_, e, h⟩
    ·exact h.elim
   ·exact h.elim
 | any =>
   simp only [ldC, stdS, ldAS] at h
   split at h
   ·rename_i e; exact ⟨_, e, h⟩
   ·exact h.elim
theorem ldCs_sound : ∀ {l : List CK} {cs : List IV} {off : Nat} {K : List IV -> Prop}, ldCs (stdS C) l cs off K -> ∃ vs, vs.length = l.length /\ (∀ i, i < l.length -> cs[off + i]? = vs[i]?) /\ K vs
 | [], cs, off, K, h => ⟨[], rfl, fun i hi => by simp at hi, h⟩
 | ck :: r, cs, off, K, h => by
   unfold ldCs at h
   obtain ⟨v, h1, h2⟩ := ldC_sound h
   obtain ⟨vs, h3, h4, h5⟩ := ldCs_sound h2
   refine ⟨v :: vs, by simp [h3], fun i hi => ?_, h5⟩
   cases i with
   | zero => simpa using h1
   | succ i =>
     have := h4 i (by simpa using hi)
     rw [show off + (i + 1) = off + 1 + i by omega, this]
     simp
theorem ldCs_agg {l : List CK} {n : Nat} {t : TypeId} {cs : List IV} {off : Nat} {K : IV -> Prop} (hs : shapeOf E.P t = some (true, n + 1)) (hn : l.length = n + 1) (h : ldCs (stdS C) l cs off fun vs => K (.agg vs)) :
  ∃ v, rdVar E.P t cs off = some v /\ K v := by
 obtain ⟨vs, h1, h2, h3⟩ := ldCs_sound h
 rw [hn] at h1 h2
 have hlast := h2 n (by omega)
 rw [List.getElem?_eq_getElem (show n < vs.length by omega)] at hlast
 have hlt := (List.getElem?_eq_some_iff.1 hlast).1
 refine ⟨.agg vs, ?_, h3⟩
 unfold rdVar
 simp only [hs]
 rw [if_pos (by omega)]
 congr 2
 apply List.ext_getElem?
 intro i
 by_cases hi : i < n + 1
 ·rw [List.getElem?_take_of_lt hi, List.getElem?_drop, h2 i hi]
 ·rw [List.getElem?_eq_none (by simp; omega), List.getElem?_eq_none (by omega)]
theorem ldK_sound {t : TypeId} {cs : List IV} {off : Nat} {K : IV -> Prop} (h : ldK (stdS C) E t cs off K) : ∃ v, rdVar E.P t cs off = some v /\ K v := by
 unfold ldK at h
 split at h
 ·rename_i n hs
  obtain ⟨v, h1, h2⟩ := ldC_sound h
  exact ⟨v, by unfold rdVar; simp only [hs]; exact h1, h2⟩
 ·rename_i n hs
  split at h
  ·rename_i hn
   exact ldCs_agg hs (Nat.eq_of_beq_eq_true hn) h
  ·exact h.elim
 ·exact h.elim
theorem anys_len : ∀ n, (anys n).length = n
 | 0 => rfl
 | n + 1 => by simp [anys, anys_len n]
theorem ldW_sound {f : FuncId} {d : Option Tmp} {t : TypeId} {cs : List IV} {off : Nat} {K : IV -> Prop} (h : ldW (stdS C) E f d t cs off K) : ∃ v, rdVar E.P t cs off = some v /\ K v := by
 unfold ldW at h
 split at h
 ·split at h
  ·split at h
   ·rename_i hs
    simp only [stdS, ldAS] at h
    split at h
    ·rename_i v e
     exact ⟨v, by simp only [rdVar, hs]; exact e, h⟩
    ·exact h.elim
   ·rename_i n hs
    exact ldCs_agg hs (anys_len _) h
   ·exact h.elim
  ·split at h
   ·exact ldK_sound h
   ·split at h
    ·rename_i sz hs hc
     simp only [stdS, ldNVS] at h
     split at h
     ·rename_i e
      exact ⟨_, by simp only [rdVar, hs]; exact e, h⟩
     ·rename_i e
      split at h
      ·rename_i hk; subst hk; exact ⟨_, by simp only [rdVar, hs]; exact e, h⟩
      ·exact h.elim
     ·exact h.elim
    ·exact h.elim
   ·split at h
    ·rename_i hs
     simp only [stdS, ldMS] at h
     split at h
     ·rename_i e
      exact ⟨_, by simp only [rdVar, hs]; exact e, h⟩
     ·exact h.elim
    ·exact h.elim
   ·split at h
    ·rename_i hs
     simp only [stdS, ldPS] at h
     split at h
     ·rename_i e
      exact ⟨_, by simp only [rdVar, hs]; exact e, h⟩
     ·exact h.elim
    ·exact h.elim
   ·split at h
    ·rename_i sz hs hc
     simp only [stdS, ldNHS] at h
     split at h
     ·exact h.elim
     ·rename_i e
      split at h
      ·rename_i hk; subst hk; exact ⟨_, by simp only [rdVar, hs]; exact e, h⟩
      ·exact h.elim
     ·exact h.elim
    ·exact h.elim
   ·split at h
    ·rename_i sz hs hc
     simp only [stdS, ldNHS] at h
     split at h
     ·rename_i e
      exact ⟨_, by simp only [rdVar, hs]; exact e, h⟩
     ·rename_i e
      split at h
      ·rename_i hk; subst hk; exact ⟨_, by simp only [rdVar, hs]; exact e, h⟩
      ·exact h.elim
     ·exact h.elim
    ·exact h.elim
 ·exact ldK_sound h
theorem stK_sound {t : TypeId} {cs : List IV} {off : Nat} {v : IV} {K : List IV -> Prop} (h : stK (stdS C) E t cs off v K) : ∃ cs', wrVar E.P t cs off v = some cs' /\ K cs' := by
 unfold stK at h
 split at h
 ·rename_i n hs hv
  split at h
  ·rename_i hn
   have hn := Nat.eq_of_beq_eq_true hn
   obtain ⟨h1, h2⟩ := need_iff.1 h
   refine ⟨_, ?_, h2⟩
   unfold wrVar
   simp only [hv, hs, if_true]
   rw [if_pos ⟨hn, Nat.le_of_ble_eq_true h1⟩]
  ·exact h.elim
 ·exact h.elim
theorem fieldsEqS_sound {P : Program} : ∀ {fs : List Field} {xs ys : List IV} {b : Bool}, fieldsEqS P fs xs ys = some b -> fieldsEq P fs xs ys = some b
 | [], _, _, _, h => h
 | f :: fs, xs, ys, b, h => by
   unfold fieldsEqS at h
   unfold fieldsEq
   split at h
   ·cases h
   ·rename_i hn
    rw [if_neg hn]
    split at h
    ·rename_i d x y h1 h2 h3
     simp only [h1, h2, h3]
     split at h
     ·rename_i p q hp hq
      simp only [hp]
      simp only [Option.some.injEq] at h
      cases p with
      | true => simp only [Bool.true_and] at h; subst h; exact fieldsEqS_sound hq
      | false => simp only [Bool.false_and] at h; subst h; rfl
     ·cases h
    ·cases h
theorem eqAgg_sound {c : Bool} {t : TypeId} {xs ys : List IV} {b : Bool} (h : eqAgg E t xs ys = some b) : eqIV E.P c t (.agg xs) (.agg ys) = some b := by
 unfold eqAgg at h
 unfold eqIV
 split at h
 ·rename_i fs hf
  simp only [hf]
  split at h
  ·cases h
  ·rename_i hg
   rw [if_neg (by simp [hg])]
   exact fieldsEqS_sound h
 ·cases h
theorem binK_sound {op : BinOp} {c : Bool} {t : TypeId} {a b : IV} {K : IV -> Prop} (h : binK (stdS C) E op c t a b K) : ∃ v, binIV E.P op c t a b = some v /\ K v := by
 unfold binK at h
 split at h
 ·rename_i k x k' y
  split at h
  ·split at h
   ·rename_i hk
    obtain ⟨h1, h2⟩ := need_iff.1 h
    exact ⟨_, by simp [binIV, hk, intBin, show ¬ y = 0 by simpa using h1], h2⟩
   ·exact h.elim
  ·split at h
   ·rename_i hk
    obtain ⟨h1, h2⟩ := need_iff.1 h
    exact ⟨_, by simp [binIV, hk, intBin, show ¬ y = 0 by simpa using h1], h2⟩
   ·exact h.elim
  ·obtain ⟨h1, h2⟩ := need_iff.1 h
   simp only [decide_eq_true_eq] at h1
   exact ⟨_, by simp [binIV, shiftBin, show ¬ y < 0 by omega], h2⟩
  ·obtain ⟨h1, h2⟩ := need_iff.1 h
   simp only [decide_eq_true_eq] at h1
   exact ⟨_, by simp [binIV, shiftBin, show ¬ y < 0 by omega], h2⟩
  ·rename_i h1 h2 h3 h4
   split at h
   ·rename_i v hv
    refine ⟨v, ?_, h⟩
    unfold binIV
    cases op <;> first | exact hv | exact absurd rfl h1 | exact absurd rfl h2 | exact absurd rfl h3 | exact absurd rfl h4
   ·exact h.elim
 ·rename_i x y
  split at h
  ·obtain ⟨h1, h2⟩ := need_iff.1 h
   simp only [Nat.ble_eq] at h1
   refine ⟨_, ?_, h2⟩
   simp only [binIV, strBin]
   rw [if_neg (by omega)]
  ·split at h
   ·rename_i v hv
    exact ⟨v, by simpa [binIV] using hv, h⟩
   ·exact h.elim
 ·rename_i xs ys
  split at h
  ·split at h
   ·rename_i b hb
    exact ⟨_, by simp [binIV, eqAgg_sound hb], h⟩
   ·exact h.elim
  ·split at h
   ·rename_i b hb
    exact ⟨_, by simp [binIV, eqAgg_sound hb], h⟩
   ·exact h.elim
  ·exact h.elim
 ·split at h
  ·rename_i v hv; exact ⟨v, hv, h⟩
  ·exact h.elim
theorem cutK_sound {len : Nat} {lo hi : Option (Option TV)} {K : Int -> Int -> Prop} (h : cutK (stdS C) len lo hi K) : ∃ (l h' : Int), cutBounds len lo hi = some (l.toNat, h'.toNat) /\ 0 <= l /\ l <= h' /\ h' <= len /\ K l h' := by
 unfold cutK at h
 unfold cutBounds
 split at h
 ·rename_i l h' h1 h2
  obtain ⟨h3, h4⟩ := need_iff.1 h
  simp only [Bool.and_eq_true, decide_eq_true_eq] at h3
  refine ⟨l, h', ?_, h3.1, h3.2.1, h3.2.2, h4⟩
  cases lo <;> cases hi <;> simp only at h1 h2 <;> simp [h1, h2] <;> simp_all <;> omega
 ·exact h.elim
theorem noCf_le (cf : FuncId -> List IV -> Heap -> Option (IV × Heap)) : CfLe noCf cf := fun g xs h r e => by cases e
theorem elseK_sound {draw : Bool} {o : Oper} {F : GF} {h : Heap} {K : GF -> Ef -> Prop} (n : Nat) (hk : elseK E f draw o F h K) : ∃ e, effW E f (runF E n) draw o (evOp E F.tmg) F.lvg h = some e /\ K F e := by
 unfold elseK at hk
 split at hk
 ·rename_i e he; exact ⟨e, effW_mono (noCf_le _) he, hk⟩
 ·exact hk.elim
theorem bNow_ff {F : GF} {c : Operand} {b : Bool} (h : evOp E F.tmg c = some (.v (.bool b))) : (bNow c F b).ff = F.ff := by
 unfold bNow
 split
 ·rename_i t
  rw [gf_put]
  refine FF.ext' (fun k => ?_) (fun k => rfl)
  simp only [FF.put]
  by_cases hk : k = t
  ·subst hk; simpa [GF.ff, evOp] using h.symm
  ·simp [hk]
 ·rfl
theorem nrmC_idem (ck : CK) (v : IV) : nrmC ck (nrmC ck v) = nrmC ck v := by
 cases ck <;> cases v <;> rfl
theorem nrmL_idem : ∀ (l : List CK) (vs : List IV), nrmL l (nrmL l vs) = nrmL l vs
 | [], vs => rfl
 | ck :: r, [] => rfl
 | ck :: r, v :: vs => by simp only [nrmL, nrmC_idem, nrmL_idem r vs]
theorem nrmV_idem (P : Program) (t : TypeId) (v : IV) : nrmV P t (nrmV P t v) = nrmV P t v := by
 have h : ∀ v, (∀ cs, v ≠ .agg cs) -> nrmV P t v = nrmC (ckOf P t) v := by
  intro v hv
  unfold nrmV
  split
  ·rename_i cs; exact absurd rfl (hv cs)
  ·rfl
 by_cases hv : ∃ cs, v = .agg cs
 ·obtain ⟨cs, rfl⟩ := hv
  simp only [nrmV, nrmL_idem]
 ·have hn : ∀ cs, v ≠ .agg cs := fun cs e => hv ⟨cs, e⟩
  rw [h v hn, h _ (fun cs e => ?_), nrmC_idem]
  unfold nrmC at e
  split at e
  ·cases e
  ·cases e
  ·exact hn cs e
theorem nrmVs_idem (P : Program) : ∀ (ts : List TypeId) (vs : List IV), nrmVs P ts (nrmVs P ts vs) = nrmVs P ts vs
 | [], vs => rfl
 | t :: ts, [] => rfl
 | t :: ts, v :: vs => by simp only [nrmVs, nrmV_idem, nrmVs_idem P ts vs]
theorem callArgs_sound {g : FuncId} {xs : List IV} {h : Heap} {Q : IV -> Heap -> Prop} (hc : CallW E g (callArgs E g xs) h Q) : CallW E g xs h Q := by
 unfold callArgs at hc
 split at hc
 ·rename_i hi
  split at hc
  ·rename_i fn hf
   obtain ⟨n, v, h', h1, h2⟩ := hc
   refine ⟨n, v, h', ?_, h2⟩
   cases n with
   | zero => simp [runF] at h1
   | succ n =>
     rw [runF_succ] at h1 ⊢
     simp only [hf, hi, nrmVs_idem] at h1 ⊢
     exact h1
  ·exact hc
 ·exact hc
theorem srcK_sound {h : Heap} {sz : Nat} {x : IV} {K : Nat -> List IV -> Prop} (hk : srcK (stdS C) h sz x K) : ∃ n xs, srcCells h sz x = some (n, xs) /\ K n xs := by
 unfold srcK at hk
 unfold srcCells
 split at hk
 ·exact ⟨_, _, rfl, hk⟩
 ·split at hk
  ·rename_i hb
   exact ⟨_, _, by simp only [Nat.eq_of_beq_eq_true hb, if_true], hk⟩
  ·exact hk.elim
 ·split at hk
  ·rename_i hb
   simp only [stdS, hgetS] at hk
   split at hk
   ·rename_i cs hg
    have hk' : (stdS C).need _ _ := hk
    obtain ⟨h1, h2⟩ := need_iff.1 hk'
    have h1 := Nat.le_of_ble_eq_true h1
    exact ⟨_, _, by simp only [Nat.eq_of_beq_eq_true hb, if_true, hg, h1], h2⟩
   ·exact hk.elim
  ·exact hk.elim
 ·split at hk
  ·rename_i hb
   exact ⟨_, _, by simp only [Nat.eq_of_beq_eq_true hb, if_true], hk⟩
  ·exact hk.elim
 ·exact hk.elim
theorem appGK_sound {h : Heap} {way sz bytes : Nat} {s x : IV} {K : IV -> Heap -> Prop} (hk : appGK (stdS C) h way sz bytes s x K) : ∃ v h', appendIV h way sz bytes s x = some (v, h') /\ K v h' := by
 unfold appGK at hk
 split at hk
 ·rename_i hw
  have hw := Nat.eq_of_beq_eq_true hw
  subst hw
  obtain ⟨n, xs, h1, hk⟩ := srcK_sound hk
  unfold appendIV
  simp only [h1]
  cases n with
  | zero => exact hk.elim
  | succ n =>
    rw [if_neg (Nat.succ_ne_zero n)]
    simp only [stdS, appGS] at hk
    split at hk
    ·exact ⟨_, _, by simp only [hk.1, if_true, newRow], hk.2⟩
    ·exact ⟨_, _, by simp only [hk.1, and_self, if_true, newRow], hk.2⟩
    ·exact ⟨_, _, by simp only [hk.1.2.2, hk.1.1, hk.1.2.1, and_self, if_true], hk.1.1 ▸ hk.2⟩
    ·exact hk.elim
 ·exact hk.elim
theorem appK_sound {h : Heap} {way sz bytes : Nat} {s x : IV} {K : IV -> Heap -> Prop} (hk : appK (stdS C) h way sz bytes s x K) : ∃ v h', appendIV h way sz bytes s x = some (v, h') /\ K v h' := by
 unfold appK at hk
 obtain ⟨n, xs, h1, hk⟩ := srcK_sound hk
 unfold appendIV
 simp only [h1]
 by_cases hn : n = 0
 ·subst hn
  simp only [if_true]
  have h00 : Nat.beq 0 0 = true := rfl
  simp only [h00, stdS, brS] at hk
  split at hk
  ·exact ⟨_, _, rfl, hk⟩
  ·split at hk
   ·rename_i hb
    exact ⟨_, _, by simp only [Nat.eq_of_beq_eq_true hb, if_true], Nat.eq_of_beq_eq_true hb ▸ hk⟩
   ·exact hk.elim
  ·split at hk
   ·rename_i hb
    exact ⟨_, _, by simp only [Nat.eq_of_beq_eq_true hb, if_true], Nat.eq_of_beq_eq_true hb ▸ hk⟩
   ·exact hk.elim
  ·exact hk.elim
 ·simp only [hn, if_false]
  have hnb : Nat.beq n 0 = false := by
   cases hq : Nat.beq n 0 with
   | false => rfl
   | true => exact absurd (Nat.eq_of_beq_eq_true hq) hn
  simp only [hnb, stdS, brS] at hk
  split at hk
  ·have hk' : (stdS C).need _ _ := hk
   obtain ⟨h2, h3⟩ := need_iff.1 hk'
   exact ⟨_, _, by simp only [Nat.le_of_ble_eq_true h2, if_true], h3⟩
  ·split at hk
   ·rename_i hb
    have hk' : (stdS C).need _ _ := hk
    obtain ⟨h2, h3⟩ := need_iff.1 hk'
    exact ⟨_, _, by simp only [Nat.eq_of_beq_eq_true hb, Nat.le_of_ble_eq_true h2, and_self, if_true], h3⟩
   ·exact hk.elim
  ·split at hk
   ·rename_i hb
    simp only [tipS] at hk
    split at hk
    ·rename_i m hg
     have hk' : (stdS C).need _ _ := hk
     obtain ⟨h2, h3⟩ := need_iff.1 hk'
     simp only [Bool.and_eq_true] at h2
     exact ⟨_, _, by simp only [hg, Nat.eq_of_beq_eq_true h2.1, Nat.eq_of_beq_eq_true hb, Nat.le_of_ble_eq_true h2.2, and_self, if_true], h3⟩
    ·exact hk.elim
   ·exact hk.elim
  ·split at hk
   ·rename_i hb
    simp only [hgetS] at hk
    split at hk
    ·rename_i cs hg
     have hk' : (stdS C).need _ _ := hk
     obtain ⟨h2, h3⟩ := need_iff.1 hk'
     simp only [Bool.and_eq_true] at h2
     exact ⟨_, _, by simp only [hg, Nat.eq_of_beq_eq_true h2.1, Nat.eq_of_beq_eq_true hb, Nat.le_of_ble_eq_true h2.2.1, Nat.le_of_ble_eq_true h2.2.2, and_self, if_true], h3⟩
    ·exact hk.elim
   ·exact hk.elim
  ·exact hk.elim
theorem opW_sound (hC : ∀ g xs h Q, C g xs h Q -> CallW E g xs h Q) {draw : Bool} {o : Oper} {F : GF} {h : Heap} {K : GF -> Ef -> Prop} (hk : opW (stdS C) E f draw o F h K) :
  ∃ n G e, G.ff = F.ff /\ effW E f (runF E n) draw o (evOp E F.tmg) F.lvg h = some e /\ K G e := by
 have els : elseK E f draw o F h K -> ∃ n G e, G.ff = F.ff /\ effW E f (runF E n) draw o (evOp E F.tmg) F.lvg h = some e /\ K G e := fun q => by
  obtain ⟨e, h1, h2⟩ := elseK_sound 0 q
  exact ⟨0, F, e, rfl, h1, h2⟩
 unfold opW at hk
 split at hk
 ·rename_i c a b hop
  split at hk
  ·rename_i x hx
   cases x with
   | true =>
     simp only [stdS, brS] at hk
     split at hk
     ·rename_i v hv
      exact ⟨0, _, _, bNow_ff hx, by simp [effW, pSem, hop, hx, hv], hk⟩
     ·exact hk.elim
   | false =>
     simp only [stdS, brS] at hk
     split at hk
     ·rename_i v hv
      exact ⟨0, _, _, bNow_ff hx, by simp [effW, pSem, hop, hx, hv], hk⟩
     ·exact hk.elim
  ·exact hk.elim
 ·rename_i op t x y u hop
  split at hk
  ·rename_i a b ha hb
   obtain ⟨v, h1, h2⟩ := binK_sound hk
   exact ⟨0, F, _, rfl, by simp [effW, pSem, hop, ha, hb, h1], h2⟩
  ·exact hk.elim
 ·rename_i t a hop
  split at hk
  ·rename_i s off ha
   split at hk
   ·rename_i cs hl
    obtain ⟨v, h1, h2⟩ := ldW_sound hk
    exact ⟨0, F, _, rfl, by simp [effW, pSem, lSem, hop, ha, hl, h1], h2⟩
   ·exact hk.elim
  ·rename_i cs off ha
   obtain ⟨v, h1, h2⟩ := ldW_sound hk
   exact ⟨0, F, _, rfl, by simp [effW, pSem, hop, ha, h1], h2⟩
  ·rename_i id off ha
   simp only [stdS, hgetS] at hk
   split at hk
   ·rename_i cs hg
    obtain ⟨v, h1, h2⟩ := ldW_sound (C := C) hk
    exact ⟨0, F, _, rfl, by simp [effW, pSem, lSem, sSem, rSem, hop, ha, hg, h1], h2⟩
   ·exact hk.elim
  ·exact hk.elim
 ·rename_i t a x hop
  split at hk
  ·rename_i s off v ha hx
   split at hk
   ·rename_i cs hl
    obtain ⟨cs', h1, h2⟩ := stK_sound hk
    exact ⟨0, F, _, rfl, by simp [effW, pSem, lSem, sSem, hop, ha, hx, hl, h1], h2⟩
   ·exact hk.elim
  ·rename_i id off v ha hx
   simp only [stdS, hgetS] at hk
   split at hk
   ·rename_i cs hg
    obtain ⟨cs', h1, h2⟩ := stK_sound (C := C) hk
    exact ⟨0, F, _, rfl, by simp [effW, pSem, lSem, sSem, rSem, eSem, hop, ha, hx, hg, h1], h2⟩
   ·exact hk.elim
  ·exact hk.elim
 ·rename_i t x ix hop
  split at hk
  ·rename_i i n e hi hu
   split at hk
   ·rename_i sz a hz ha
    obtain ⟨h1, h2⟩ := need_iff.1 hk; simp only [Bool.and_eq_true, decide_eq_true_eq] at h1
    split at h2
    ·rename_i v hv
     exact ⟨0, F, _, rfl, by simp [effW, pSem, hop, hi, hu, hz, ha, h1, hv], h2⟩
    ·exact h2.elim
   ·exact hk.elim
  ·rename_i i e hi hu
   split at hk
   ·rename_i sz id en len z cs hz ha
    split at hk
    ·rename_i hb
     have hb := Nat.eq_of_beq_eq_true hb
     obtain ⟨h1, h2⟩ := need_iff.1 hk; simp only [Bool.and_eq_true, decide_eq_true_eq] at h1
     exact ⟨0, F, _, rfl, by simp [effW, pSem, hop, hi, hu, hz, ha, h1, hb], h2⟩
    ·exact hk.elim
   ·rename_i sz id off len z hz ha
    split at hk
    ·rename_i hb
     have hb := Nat.eq_of_beq_eq_true hb
     obtain ⟨h1, h2⟩ := need_iff.1 hk; simp only [Bool.and_eq_true, decide_eq_true_eq] at h1
     exact ⟨0, F, _, rfl, by simp [effW, pSem, hop, hi, hu, hz, ha, h1, hb], h2⟩
    ·exact hk.elim
   ·exact hk.elim
  ·exact hk.elim
 ·rename_i t x ix hop
  split at hk
  ·rename_i i n e cs hi hu ha
   split at hk
   ·rename_i sz hz
    obtain ⟨h1, h2⟩ := need_iff.1 hk; simp only [Bool.and_eq_true, decide_eq_true_eq] at h1
    obtain ⟨v, h3, h4⟩ := ldK_sound h2
    exact ⟨0, F, _, rfl, by simp [effW, pSem, hop, hi, hu, hz, ha, h1, h3], h4⟩
   ·exact hk.elim
  ·rename_i i s hi hu ha
   obtain ⟨h1, h2⟩ := need_iff.1 hk; simp only [Bool.and_eq_true, decide_eq_true_eq] at h1
   simp only [stdS, chrS] at h2
   split at h2
   ·rename_i b hb
    exact ⟨0, F, _, rfl, by simp [effW, pSem, hop, hi, hu, ha, h1, hb], h2⟩
   ·exact h2.elim
  ·exact hk.elim
 ·rename_i t x lo hi mx hop
  split at hk
  ·rename_i s hu ha
   obtain ⟨l, h', h1, h2, h3, h4, h5⟩ := cutK_sound hk
   exact ⟨0, F, _, rfl, by simp [effW, pSem, hop, sliceIV, hu, ha, h1], h5⟩
  ·rename_i e id en len z cs hu ha
   split at hk
   ·rename_i sz hz
    split at hk
    ·rename_i hb
     have hb := Nat.eq_of_beq_eq_true hb
     obtain ⟨l, h', h1, h2, h3, h4, h5⟩ := cutK_sound hk
     exact ⟨0, F, _, rfl, by simp [effW, pSem, hop, sliceIV, hu, ha, h1, hz, hb], h5⟩
    ·exact hk.elim
   ·exact hk.elim
  ·rename_i e id off len z hu ha
   split at hk
   ·rename_i sz hz
    split at hk
    ·rename_i hb
     have hb := Nat.eq_of_beq_eq_true hb
     obtain ⟨l, h', h1, h2, h3, h4, h5⟩ := cutK_sound hk
     exact ⟨0, F, _, rfl, by simp [effW, pSem, hop, sliceIV, hu, ha, h1, hz, hb], h5⟩
    ·exact hk.elim
   ·exact hk.elim
  ·rename_i n e id off hu ha
   split at hk
   ·rename_i sz hz
    simp only [stdS, hgetS] at hk
    split at hk
    ·rename_i cs hg
     have hk' : (stdS C).need _ _ := hk
     obtain ⟨h6, hk'⟩ := need_iff.1 hk'
     obtain ⟨l, h', h1, h2, h3, h4, h5⟩ := cutK_sound hk'
     have h6 := Nat.le_of_ble_eq_true h6
     have ha' : evOp E F.tmg x = some (.v (.ptr id off)) := by
      unfold plain at ha
      split at ha
      ·rename_i q; rw [q]; cases ha; rfl
      ·cases ha
     exact ⟨0, F, _, rfl, by simp [effW, pSem, lSem, sSem, rSem, hop, sliceIV, hu, ha', plain, hg, h1, hz, h6], h5⟩
    ·exact hk.elim
   ·exact hk.elim
  ·exact els hk
 ·rename_i t l c hop
  split at hk
  ·rename_i e d li ci hu hd hl hc
   split at hk
   ·rename_i sz bytes z hsz hbs hz
    split at hk
    ·rename_i hb
     have hb := Nat.eq_of_beq_eq_true hb
     obtain ⟨h1, h2⟩ := need_iff.1 hk; simp only [Bool.and_eq_true, decide_eq_true_eq] at h1
     exact ⟨0, F, _, rfl, by simp [effW, pSem, lSem, sSem, rSem, eSem, hop, hu, hd, hl, hc, hsz, hbs, hz, hb, h1], h2⟩
    ·exact hk.elim
   ·exact hk.elim
  ·exact hk.elim
 ·rename_i args argTypes hop
  split at hk
  ·rename_i t u sx xx hat har
   split at hk
   ·rename_i s x e du d hs hx hu hdu hd
    split at hk
    ·rename_i sz bytes z hsz hbs hz
     split at hk
     ·rename_i hb
      simp only [Bool.and_eq_true] at hb
      have hb1 := Nat.eq_of_beq_eq_true hb.1
      split at hk
      ·obtain ⟨v, h', h1, h2⟩ := appGK_sound hk
       exact ⟨0, F, _, rfl, by simp [effW, pSem, lSem, sSem, rSem, eSem, hop, hat, har, hs, hx, hu, hdu, hd, hsz, hbs, hz, hb1, hb.2, h1], h2⟩
      ·obtain ⟨v, h', h1, h2⟩ := appK_sound hk
       exact ⟨0, F, _, rfl, by simp [effW, pSem, lSem, sSem, rSem, eSem, hop, hat, har, hs, hx, hu, hdu, hd, hsz, hbs, hz, hb1, hb.2, h1], h2⟩
     ·exact hk.elim
    ·exact hk.elim
   ·exact hk.elim
  ·exact hk.elim
 ·rename_i args argTypes hop
  split at hk
  ·rename_i t ts sx xx hat har
   split at hk
   ·rename_i id off len z x e hs hx hu
    split at hk
    ·rename_i sz hz
     split at hk
     ·rename_i hb
      have hb := Nat.eq_of_beq_eq_true hb
      subst hb
      obtain ⟨n, xs, h1, hk⟩ := srcK_sound hk
      simp only [stdS, hgetS] at hk
      split at hk
      ·rename_i cs hg
       have hk' : (stdS C).need _ _ := hk
       obtain ⟨h6, hk'⟩ := need_iff.1 hk'
       have h6 := Nat.le_of_ble_eq_true h6
       exact ⟨0, F, _, rfl, by simp [effW, pSem, lSem, sSem, rSem, eSem, hop, hat, har, hs, hx, hu, hz, hg, h1, h6], hk'⟩
      ·exact hk.elim
     ·exact hk.elim
    ·exact hk.elim
   ·exact hk.elim
  ·exact hk.elim
 ·rename_i x args argTypes hop
  split at hk
  ·rename_i g a b xs hx hxs
   obtain ⟨n, v, h', h1, h2⟩ := callArgs_sound (hC _ _ _ _ hk)
   exact ⟨n, F, _, rfl, by simp [effW, pSem, lSem, sSem, rSem, eSem, callSem, hop, hx, hxs, <- List.append_assoc, h1], h2⟩
  ·exact hk.elim
 ·rename_i t x k ok hop
  split at hk
  ·rename_i kt et id key hu hx hkey
   split at hk
   ·rename_i d z hd hz
    split at hk
    ·rename_i hf
     simp only [stdS, mlookS] at hk
     split at hk
     ·rename_i es hg
      split at hk
      ·rename_i v hv
       obtain ⟨v', h1, h2⟩ := ldC_sound (C := C) hk
       have h1 : v = v' := by simpa using h1
       subst h1
       refine ⟨0, F, _, rfl, ?_, h2⟩
       cases ok <;> simp [effW, pSem, lSem, sSem, rSem, hop, hu, hx, hkey, hd, hz, hf, hg, hv]
      ·rename_i hv
       refine ⟨0, F, _, rfl, ?_, hk⟩
       cases ok <;> simp [effW, pSem, lSem, sSem, rSem, hop, hu, hx, hkey, hd, hz, hf, hg, hv]
      ·exact hk.elim
     ·exact hk.elim
    ·exact hk.elim
   ·exact hk.elim
  ·exact els hk
 ·rename_i t m k x hop
  split at hk
  ·rename_i kt et id key v hu hm hkey hx
   split at hk
   ·rename_i d hd
    split at hk
    ·rename_i hf
     simp only [stdS, mupdS] at hk
     split at hk
     ·rename_i es hg
      split at hk
      ·rename_i es' hv
       exact ⟨0, F, _, rfl, by simp [effW, pSem, lSem, sSem, rSem, eSem, hop, hu, hm, hx, hkey, hd, hf, hg, hv], hk⟩
      ·exact hk.elim
     ·exact hk.elim
    ·exact hk.elim
   ·exact hk.elim
  ·exact hk.elim
 ·rename_i s d x hop
  split at hk
  ·rename_i e id en len cs hu hd hx
   split at hk
   ·rename_i he
    simp only [stdS, bytS] at hk
    split at hk
    ·rename_i b hb
     exact ⟨0, F, _, rfl, by simp [effW, pSem, convIV, hop, hu, hd, hx, he, hb], hk⟩
    ·exact hk.elim
   ·exact hk.elim
  ·exact els hk
 ·exact els hk
theorem guardK_sound {E : Env} {ops : List Oper} {o : Oper} {F : GF} {run skip : GF -> Prop} (hk : guardK (stdS C) ops o F run skip) :
  ∃ G, G.ff = F.ff /\ ((wantedI ops F.tmg o = some true /\ run G) \/ (wantedI ops F.tmg o = some false /\ skip G)) := by
 unfold guardK at hk
 unfold wantedI
 split at hk
 ·rename_i hg
  exact ⟨F, rfl, .inl ⟨by simp [hg], hk⟩⟩
 ·rename_i j b hg
  split at hk
  ·rename_i d hd
   split at hk
   ·rename_i x hx
    have hff := fun y (hy : x = y) => bNow_ff (E := E) (F := F) (c := .tmp d) (b := y) (by rw [<- hy]; exact hx)
    cases x with
    | true =>
      refine ⟨_, hff true rfl, ?_⟩
      cases b with
      | true => exact .inl ⟨by simp [hg, hd, hx], hk⟩
      | false => exact .inr ⟨by simp [hg, hd, hx], hk⟩
    | false =>
      refine ⟨_, hff false rfl, ?_⟩
      cases b with
      | true => exact .inr ⟨by simp [hg, hd, hx], hk⟩
      | false => exact .inl ⟨by simp [hg, hd, hx], hk⟩
   ·rename_i hx
    exact ⟨F, rfl, .inr ⟨by simp [hg, hd, hx], hk⟩⟩
   ·exact hk.elim
  ·exact hk.elim
theorem weakK_iff {b : Nat} {h : Heap} {A : Prop} : ∀ {ps : Ps}, weakK b h A ps -> weakP ps b h /\ A
 | [], hk => ⟨(fun q hq => nomatch hq), hk⟩
 | q :: r, hk => by
   unfold weakK at hk
   split at hk
   ·rename_i hb
    obtain ⟨h1, h2⟩ := weakK_iff hk
    refine ⟨fun x hx => ?_, h2⟩
    rcases List.mem_cons.1 hx with rfl | hx
    ·exact .inl hb
    ·exact h1 x hx
   ·obtain ⟨h1, h2⟩ := weakK_iff hk.2
    refine ⟨fun x hx => ?_, h2⟩
    rcases List.mem_cons.1 hx with rfl | hx
    ·exact .inr hk.1
    ·exact h1 x hx
theorem fre_iff {C : FuncId -> List IV -> Heap -> (IV -> Heap -> Prop) -> Prop} {h : Heap} {n : Nat} {A : Prop} (hk : (stdS C).fre h n A) : h.get n = .free /\ A := by
 have hk' : freS h n A := hk
 unfold freS at hk'
 split at hk'
 ·rename_i hf; exact ⟨hf, hk'⟩
 ·exact hk'.elim
theorem opA_sound {n : Nat} {o : Oper} {F : GF} {h : Heap} {K : GF -> Ef -> Prop} (hk : opA (stdS C) E f n o F h K) :
  ∃ e, (match aSh E f o (evOp E F.tmg) n with
   | some (v, none) => some ⟨.p, v, none, false, h⟩
   | some (v, some x) => match h.get n with
     | .free => some ⟨.a, v, none, false, h.set n x⟩
     | _ => none
   | none => none) = some e /\ K F e := by
 unfold opA at hk
 split at hk
 ·rename_i t l c hop
  split at hk
  ·rename_i e d li ci hu hd hl hc
   split at hk
   ·rename_i sz bytes z hsz hbs hz
    split at hk
    ·rename_i hb
     have hb := Nat.eq_of_beq_eq_true hb
     obtain ⟨h1, h2⟩ := need_iff.1 hk; simp only [Bool.and_eq_true, decide_eq_true_eq] at h1
     split at h2
     ·rename_i hw
      have hw := Nat.eq_of_beq_eq_true hw
      obtain ⟨h3, h4⟩ := need_iff.1 h2
      have h3 := Nat.le_of_ble_eq_true h3
      obtain ⟨h5, h6⟩ := fre_iff h4
      refine ⟨_, ?_, h6⟩
      simp only [aSh, hop, hu, hd, hl, hc, hsz, hbs, hz]
      rw [if_pos ⟨h1.1, h1.2.1, h1.2.2.1, h1.2.2.2, hb, fun _ => h3⟩]
      simp only [h5]
     ·rename_i hw
      obtain ⟨h5, h6⟩ := fre_iff h2
      refine ⟨_, ?_, h6⟩
      simp only [aSh, hop, hu, hd, hl, hc, hsz, hbs, hz]
      rw [if_pos ⟨h1.1, h1.2.1, h1.2.2.1, h1.2.2.2, hb, fun e => by rw [e] at hw; simp at hw⟩]
      simp only [h5]
    ·exact hk.elim
   ·exact hk.elim
  ·exact hk.elim
 ·rename_i args argTypes hop
  split at hk
  ·rename_i t u sx xx hat har
   split at hk
   ·rename_i x e du d hs hx hu hdu hd
    split at hk
    ·rename_i sz bytes z hsz hbs hz
     split at hk
     ·rename_i hb
      simp only [Bool.and_eq_true] at hb
      have hb1 := Nat.eq_of_beq_eq_true hb.1
      split at hk
      ·rename_i k xs hsrc
       have hk' : brS (Nat.beq k 0) _ _ := hk
       cases hk0 : Nat.beq k 0 with
       | true =>
         rw [hk0] at hk'
         have hk0 := Nat.eq_of_beq_eq_true hk0
         refine ⟨_, ?_, hk'⟩
         simp only [aSh, hop, hat, har, hs, hx, hu, hdu, hd, hsz, hbs, hz]
         rw [if_pos ⟨hb1, hb.2⟩]
         simp only [hsrc, hk0, if_true]
       | false =>
         rw [hk0] at hk'
         obtain ⟨h3, h4⟩ := need_iff.1 hk'
         have h3 := Nat.le_of_ble_eq_true h3
         obtain ⟨h5, h6⟩ := fre_iff h4
         refine ⟨_, ?_, h6⟩
         simp only [aSh, hop, hat, har, hs, hx, hu, hdu, hd, hsz, hbs, hz]
         rw [if_pos ⟨hb1, hb.2⟩]
         simp only [hsrc]
         rw [if_neg (fun e => by rw [e] at hk0; simp at hk0), if_pos h3]
         simp only [h5]
      ·exact hk.elim
     ·exact hk.elim
    ·exact hk.elim
   ·exact hk.elim
  ·exact hk.elim
 ·split at hk
  ·rename_i v ha
   exact ⟨_, by simp only [ha], hk⟩
  ·rename_i v x ha
   obtain ⟨h5, h6⟩ := fre_iff hk
   exact ⟨_, by simp only [ha, h5], h6⟩
  ·exact hk.elim
theorem rdK_iff {C : FuncId -> List IV -> Heap -> (IV -> Heap -> Prop) -> Prop} {rs : Nat -> Option Nat} {m : Met} {b : Nat} {id : Option Nat} {A : Prop} : ∀ {al : List Nat}, rdK (stdS C) rs m b id A al -> (al.all fun j => b.testBit j || (!(m.a.testBit j) || (match rs j, id with
  | some n, some k => !(Nat.beq n k)
  | _, _ => true))) = true /\ A
 | [], hk => ⟨rfl, hk⟩
 | j :: r, hk => by
   unfold rdK at hk
   rw [List.all_cons, Bool.and_eq_true]
   split at hk
   ·rename_i hb
    obtain ⟨h1, h2⟩ := rdK_iff hk
    refine ⟨⟨?_, h1⟩, h2⟩
    rw [<- Bool.or_assoc, hb]; rfl
   ·have triv : ∀ {z : Bool}, z = true -> (b.testBit j || (!(m.a.testBit j) || z)) = true := fun e => by rw [e]; simp
    cases hrs : rs j with
    | none =>
      rw [hrs] at hk
      obtain ⟨h1, h2⟩ := rdK_iff (id := id) hk
      exact ⟨⟨triv rfl, h1⟩, h2⟩
    | some n =>
      cases id with
      | none =>
        rw [hrs] at hk
        obtain ⟨h1, h2⟩ := rdK_iff (id := none) hk
        exact ⟨⟨triv rfl, h1⟩, h2⟩
      | some k =>
        rw [hrs] at hk
        obtain ⟨h3, h4⟩ := need_iff.1 hk
        obtain ⟨h1, h2⟩ := rdK_iff h4
        exact ⟨⟨triv h3, h1⟩, h2⟩
theorem chkK_iff {C : FuncId -> List IV -> Heap -> (IV -> Heap -> Prop) -> Prop} {al : List Nat} {rs : Nat -> Option Nat} {draw : Bool} {m : Met} {ps : Ps} {b : Nat} {id : Option Nat} {e : Ef} {A : Prop} (hk : chkK (stdS C) al rs draw m ps b id e A) : (draw = false \/ ((within (m.chk e.c) b = true \/ e.c = .e /\ within (m.e ||| m.a) b = true /\ weakP ps b e.h) /\ rdOk al rs m b id e.c = true)) /\ A := by
 unfold chkK at hk
 split at hk
 ·exact ⟨.inl rfl, hk⟩
 ·split at hk
  ·rename_i h1
   unfold rdcK at hk
   split at hk
   ·rename_i hc
    obtain ⟨h3, h4⟩ := rdK_iff hk
    exact ⟨.inr ⟨.inl h1, by unfold rdOk; rw [hc]; exact h3⟩, h4⟩
   ·rename_i hc
    refine ⟨.inr ⟨.inl h1, ?_⟩, hk⟩
    unfold rdOk
    split
    ·rename_i h2; exact absurd h2 hc
    ·rfl
  ·split at hk
   ·rename_i hc
    split at hk
    ·rename_i hw
     obtain ⟨h1, h2⟩ := weakK_iff hk
     exact ⟨.inr ⟨.inr ⟨hc, hw, h1⟩, by rw [hc]; rfl⟩, h2⟩
    ·exact hk.elim
   ·exact hk.elim
theorem dOps_sound (hC : ∀ g xs h Q, C g xs h Q -> CallW E g xs h Q) {ops : List Oper} {draw : Bool} {bef : Nat -> Nat} {al : List Nat} {rs : Nat -> Option Nat} : ∀ {l : List (Oper × Nat)} {m : Met} {ps : Ps} {F : GF} {h : Heap} {K : GF -> Heap -> Prop},
  dOps (stdS C) E f ops draw bef al rs l m ps F h K -> OpsW E f ops draw bef al rs l m ps F.ff h fun F' h' => ∃ G, G.ff = F' /\ K G h'
 | [], m, ps, F, h, K, hk => OpsW.nil ⟨F, rfl, hk⟩
 | (o, i) :: r, m, ps, F, h, K, hk => by
   unfold dOps at hk
   obtain ⟨G, hG, hk⟩ := guardK_sound (E := E) hk
   have hw : ∀ {o}, wantedI ops F.ff.tm o = wantedI ops F.tmg o := rfl
   have e1 : G.tmg = F.tmg := congrArg FF.tm hG
   have e2 : G.lvg = F.lvg := congrArg FF.lv hG
   rcases hk with ⟨hk1, hk2⟩ | ⟨hk1, hk2⟩
   ·cases hrs : rs i with
    | none =>
      rw [hrs] at hk2
      obtain ⟨n, G2, e, h1, h2, h3⟩ := opW_sound hC hk2
      obtain ⟨hwi, h3⟩ := chkK_iff h3
      have h4 := dOps_sound hC h3
      rw [e1] at hwi
      refine OpsW.cons ⟨n, e, ?_, hwi, ?_⟩
      ·rw [e1, e2] at h2
       rw [hrs]
       simp only [effA, eff]
       rw [show wantedI ops F.ff.tm o = some true from hk1]
       exact h2
      ·rw [gf_app, h1, hG] at h4
       exact h4
    | some k =>
      rw [hrs] at hk2
      obtain ⟨e, h2, h3⟩ := opA_sound hk2
      obtain ⟨hwi, h3⟩ := chkK_iff h3
      have h4 := dOps_sound hC h3
      rw [e1] at hwi
      refine OpsW.cons ⟨0, e, ?_, hwi, ?_⟩
      ·rw [e1] at h2
       rw [hrs]
       simp only [effA]
       rw [show wantedI ops F.ff.tm o = some true from hk1]
       exact h2
      ·rw [gf_app, hG] at h4
       exact h4
   ·have h4 := dOps_sound hC hk2
    refine OpsW.cons ⟨0, ⟨.p, some .u, none, false, h⟩, ?_, .inr ⟨.inl (by simp [Met.chk, within]), rfl⟩, ?_⟩
    ·cases rs i <;> simp only [effA, eff] <;> rw [show wantedI ops F.ff.tm o = some false from hk1]
    ·rw [gf_put, hG] at h4
     exact h4
theorem dUn_sound {c : Code} {body : GF -> Heap -> (Ex -> GF -> Heap -> Prop) -> Prop} (hb : ∀ F h K, body F h K -> CodeW E f c F.ff h fun x F' h' => ∃ G, G.ff = F' /\ K x G h') :
  ∀ {n : Nat} {F : GF} {h : Heap} {K : Ex -> GF -> Heap -> Prop}, dUn body n F h K -> CodeW E f (.loop c) F.ff h fun x F' h' => ∃ G, G.ff = F' /\ K x G h'
 | 0, F, h, K, hk => hk.elim
 | n + 1, F, h, K, hk => by
   unfold dUn at hk
   refine CodeW.loop ((hb _ _ _ hk).mono ?_)
   rintro x F' h' ⟨G, rfl, hk'⟩
   cases x with
   | normal => exact dUn_sound hb hk'
   | exit id => exact ⟨G, rfl, hk'⟩
   | ret => exact ⟨G, rfl, hk'⟩
theorem tmOf_get : ∀ {l : List (Nat × TV)} {F : GF} {A : Prop}, agreeT F l A -> A /\ ∀ k x, (tmOf l).get k = some x -> x = F.tmg k
 | [], F, A, h => ⟨h, fun k x e => by simp [tmOf, PT.get] at e⟩
 | (s, v) :: r, F, A, h => by
   obtain ⟨h1, h2⟩ := tmOf_get h.2
   refine ⟨h1, fun k x e => ?_⟩
   unfold tmOf at e
   rw [PT.get_set] at e
   split at e
   ·rename_i hk
    subst hk
    simp only [Option.some.injEq] at e
    subst e
    exact h.1.symm
   ·exact h2 k x e
theorem lvOf_get : ∀ {l : List (Nat × List IV)} {F : GF} {A : Prop}, agreeL F l A -> A /\ ∀ k x, (lvOf l).get k = some x -> x = F.lvg k
 | [], F, A, h => ⟨h, fun k x e => by simp [lvOf, PT.get] at e⟩
 | (s, v) :: r, F, A, h => by
   obtain ⟨h1, h2⟩ := lvOf_get h.2
   refine ⟨h1, fun k x e => ?_⟩
   unfold lvOf at e
   rw [PT.get_set] at e
   split at e
   ·rename_i hk
    subst hk
    simp only [Option.some.injEq] at e
    subst e
    exact h.1.symm
   ·exact h2 k x e
theorem agreeT_mono {F : GF} {A B : Prop} (hab : A -> B) : ∀ {l : List (Nat × TV)}, agreeT F l A -> agreeT F l B
 | [], h => hab h
 | (s, v) :: r, h => ⟨h.1, agreeT_mono hab h.2⟩
theorem agreeL_mono {F : GF} {A B : Prop} (hab : A -> B) : ∀ {l : List (Nat × List IV)}, agreeL F l A -> agreeL F l B
 | [], h => hab h
 | (s, v) :: r, h => ⟨h.1, agreeL_mono hab h.2⟩
theorem inv_at1 {v : Inv1} {x : v.X} {F : GF} {h : Heap} {P : Nat -> Prop} (hj : agreeT F (v.slots x) (agreeL F (v.locs x) (h = v.hp x /\ v.cond x /\ P (v.meas x)))) :
  ∃ G m, G.ff = F.ff /\ P m /\ ∀ K : GF -> Heap -> Nat -> Prop, (∀ (x : v.X) (b : FF), v.cond x -> K ⟨tmOf (v.slots x), lvOf (v.locs x), b⟩ (v.hp x) (v.meas x)) -> K G h m := by
 obtain ⟨h1, h2⟩ := tmOf_get hj
 obtain ⟨⟨h3, h4, h5⟩, h6⟩ := lvOf_get h1
 refine ⟨⟨tmOf (v.slots x), lvOf (v.locs x), F.ff⟩, v.meas x, FF.ext' (fun k => ?_) (fun k => ?_), h5, fun K hI => by rw [h3]; exact hI x F.ff h4⟩
 ·simp only [GF.ff, GF.tmg]
  split
  ·rename_i y hy; exact h2 k y hy
  ·rfl
 ·simp only [GF.ff, GF.lvg]
  split
  ·rename_i y hy; exact h6 k y hy
  ·rfl
theorem inv_at : ∀ {v : Inv'} {F : GF} {h : Heap} {P : Nat -> Prop}, v.J F h P -> ∃ G m, G.ff = F.ff /\ P m /\ ∀ K, v.I K -> K G h m
 | .one v, F, h, P, hj => by
   unfold Inv'.J at hj
   split at hj
   ·exact inv_at1 hj
   ·exact hj.elim
 | .ex v, F, h, P, hj => by
   obtain ⟨x, hx⟩ := hj
   exact inv_at1 hx
 | .or a b, F, h, P, hj => by
   rcases hj with hj | hj
   ·obtain ⟨G, m, h1, h2, h3⟩ := inv_at hj
    exact ⟨G, m, h1, h2, fun K hI => h3 K hI.1⟩
   ·obtain ⟨G, m, h1, h2, h3⟩ := inv_at hj
    exact ⟨G, m, h1, h2, fun K hI => h3 K hI.2⟩
theorem J_mono {P P' : Nat -> Prop} (hp : ∀ m, P m -> P' m) : ∀ {v : Inv'} {F : GF} {h : Heap}, v.J F h P -> v.J F h P'
 | .one v, F, h, hj => by
   unfold Inv'.J at hj ⊢
   split at hj
   ·exact agreeT_mono (fun q => agreeL_mono (fun q => ⟨q.1, q.2.1, hp _ q.2.2⟩) q) hj
   ·exact hj
 | .ex v, F, h, hj => by
   obtain ⟨x, hx⟩ := hj
   exact ⟨x, agreeT_mono (fun q => agreeL_mono (fun q => ⟨q.1, q.2.1, hp _ q.2.2⟩) q) hx⟩
 | .or a b, F, h, hj => hj.imp (J_mono hp) (J_mono hp)
theorem J_bound : ∀ {v : Inv'} {F : GF} {h : Heap}, (v.J F h fun _ => True) -> ∃ m, v.J F h fun k => k < m
 | .one v, F, h, hj => by
   unfold Inv'.J at hj ⊢
   split at hj
   ·rename_i x hx
    exact ⟨v.meas x + 1, agreeT_mono (fun q => agreeL_mono (fun q => ⟨q.1, q.2.1, Nat.lt_succ_self _⟩) q) hj⟩
   ·exact hj.elim
 | .ex v, F, h, hj => by
   obtain ⟨x, hx⟩ := hj
   exact ⟨v.meas x + 1, x, agreeT_mono (fun q => agreeL_mono (fun q => ⟨q.1, q.2.1, Nat.lt_succ_self _⟩) q) hx⟩
 | .or a b, F, h, hj => by
   rcases hj with hj | hj
   ·obtain ⟨m, hm⟩ := J_bound hj; exact ⟨m, .inl hm⟩
   ·obtain ⟨m, hm⟩ := J_bound hj; exact ⟨m, .inr hm⟩
theorem dC_sound (hC : ∀ g xs h Q, C g xs h Q -> CallW E g xs h Q) {U : Nat -> Nat} {IL IC : Nat -> Option Inv'} : ∀ {c : Code} {F : GF} {h : Heap} {K : Ex -> GF -> Heap -> Prop}, dC (stdS C) E f U IL IC c F h K -> CodeW E f c F.ff h fun x F' h' => ∃ G, G.ff = F' /\ K x G h' := by
 intro c
 induction c with
 | skip => intro F h K hk; exact CodeW.skip ⟨F, rfl, hk⟩
 | exit id => intro F h K hk; exact CodeW.exit ⟨F, rfl, hk⟩
 | ret => intro F h K hk; exact CodeW.ret ⟨F, rfl, hk⟩
 | region id ops draw =>
   intro F h K hk
   unfold dC at hk
   split at hk
   ·rename_i he
    have := dOps_sound hC hk
    rw [gf_start] at this
    refine CodeW.region ?_
    rw [he]
    exact this
   ·rename_i j r he
    have := dOps_sound hC hk
    rw [gf_start] at this
    refine CodeW.region ?_
    rw [he]
    exact this
 | seq a b iha ihb =>
   intro F h K hk
   unfold dC at hk
   split at hk
   ·split at hk
    ·refine CodeW.seq ((iha hk).mono ?_)
     rintro x F' h' ⟨G, rfl, hk'⟩
     cases x with
     | normal => exact ihb hk'
     | exit id => exact ⟨G, rfl, hk'⟩
     | ret => exact ⟨G, rfl, hk'⟩
    ·rename_i v hv
     obtain ⟨M, hk⟩ := hk
     refine CodeW.seq ((iha hk.1).mono ?_)
     rintro x F' h' ⟨G, rfl, hk'⟩
     cases x with
     | normal =>
       obtain ⟨G', m, h1, hm, h3⟩ := inv_at hk'
       have := ihb (h3 _ hk.2 hm)
       rw [h1] at this
       exact this
     | exit id => exact ⟨G, rfl, hk'⟩
     | ret => exact ⟨G, rfl, hk'⟩
   ·rename_i v hv
    refine CodeW.seq ((iha hk.1).mono ?_)
    rintro x F' h' ⟨G, rfl, hk'⟩
    cases x with
    | normal =>
      obtain ⟨G', m, h1, _, h3⟩ := inv_at hk'
      have := ihb (h3 _ hk.2)
      rw [h1] at this
      exact this
    | exit id => exact ⟨G, rfl, hk'⟩
    | ret => exact ⟨G, rfl, hk'⟩
 | cond c a b iha ihb =>
   intro F h K hk
   unfold dC at hk
   split at hk
   ·rename_i x hx
    cases x with
    | true =>
      refine CodeW.cond (b := true) hx (fun _ => ?_) (fun e => by cases e)
      have := iha (F := bNow c F true) hk
      rw [bNow_ff hx] at this
      exact this
    | false =>
      refine CodeW.cond (b := false) hx (fun e => by cases e) (fun _ => ?_)
      have := ihb (F := bNow c F false) hk
      rw [bNow_ff hx] at this
      exact this
   ·exact hk.elim
 | block id c ih =>
   intro F h K hk
   refine CodeW.block ((ih hk).mono ?_)
   rintro x F' h' ⟨G, rfl, hk'⟩
   cases x with
   | normal => exact ⟨G, rfl, hk'⟩
   | ret => exact ⟨G, rfl, hk'⟩
   | exit id' =>
     simp only at hk' ⊢
     split at hk'
     ·rename_i hb
      rw [if_pos (Nat.eq_of_beq_eq_true hb)]
      exact ⟨G, rfl, hk'⟩
     ·rename_i hb
      rw [if_neg (Nat.ne_of_beq_eq_false hb)]
      exact ⟨G, rfl, hk'⟩
 | loop c ih =>
   intro F h K hk
   unfold dC at hk
   split at hk
   ·rename_i n hu
    exact dUn_sound (fun F h K => ih) hk
   ·split at hk
    ·rename_i v hv
     obtain ⟨hj, hi⟩ := hk
     have key : ∀ (n : Nat) (F : GF) (h : Heap), (v.J F h fun m => m < n) -> CodeW E f (.loop c) F.ff h fun x F' h' => ∃ G, G.ff = F' /\ K x G h' := by
      intro n
      induction n with
      | zero => intro F h hj; obtain ⟨G, m, _, hm, _⟩ := inv_at hj; omega
      | succ n ihn =>
        intro F h hj
        obtain ⟨G, m, h1, hm, h3⟩ := inv_at hj
        have := ih (h3 _ hi)
        rw [<- h1]
        refine CodeW.loop (this.mono ?_)
        rintro x F' h' ⟨G', rfl, hk'⟩
        cases x with
        | normal =>
          refine ihn G' h' ?_
          have hk'' : v.J G' h' fun m' => m' < m := hk'
          exact J_mono (fun k hk => by omega) hk''
        | exit id => exact ⟨G', rfl, hk'⟩
        | ret => exact ⟨G', rfl, hk'⟩
     obtain ⟨m, hm⟩ := J_bound hj
     exact key m F h hm
    ·split at hk
     ·rename_i v hv
      obtain ⟨M, hj, hi⟩ := hk
      have key : ∀ (n : Nat) (F : GF) (h : Heap), n <= M + 1 -> (v.J F h fun m => m < n) -> CodeW E f (.loop c) F.ff h fun x F' h' => ∃ G, G.ff = F' /\ K x G h' := by
       intro n
       induction n with
       | zero => intro F h _ hj; obtain ⟨G, m, _, hm, _⟩ := inv_at hj; omega
       | succ n ihn =>
         intro F h hn hj
         obtain ⟨G, m, h1, hm, h3⟩ := inv_at hj
         have := ih (h3 _ hi (by omega))
         rw [<- h1]
         refine CodeW.loop (this.mono ?_)
         rintro x F' h' ⟨G', rfl, hk'⟩
         cases x with
         | normal =>
           refine ihn G' h' (by omega) ?_
           have hk'' : v.J G' h' fun m' => m' < m := hk'
           exact J_mono (fun k hk => by omega) hk''
         | exit id => exact ⟨G', rfl, hk'⟩
         | ret => exact ⟨G', rfl, hk'⟩
      exact key (M + 1) F h (Nat.le_refl _) (J_mono (fun k hk => by omega) hj)
     ·exact hk.elim
 | scope c ih => intro F h K hk; exact CodeW.scope (ih hk)
 | _ => intros; rename_i hk; exact hk.elim
theorem dSeg_sound (hC : ∀ g xs h Q, C g xs h Q -> CallW E g xs h Q) {U : Nat -> Nat} {IL IC : Nat -> Option Inv'} : ∀ {c : Code} {F : GF} {h : Heap} {K : Ex -> GF -> Heap -> Prop},
  dSeg (stdS C) E f U IL IC c F h K -> dCuts (stdS C) E f U IL IC c K -> CodeW E f c F.ff h fun x F' h' => ∃ G, G.ff = F' /\ K x G h' := by
 intro c
 induction c with
 | seq a b iha ihb =>
   intro F h K hk hc
   unfold dSeg at hk
   unfold dCuts at hc
   split at hk
   ·rename_i hn
    simp only [hn] at hc
    refine CodeW.seq ((dC_sound hC hk).mono ?_)
    rintro x F' h' ⟨G, rfl, hk'⟩
    cases x with
    | normal => exact ihb hk' hc
    | exit id => exact ⟨G, rfl, hk'⟩
    | ret => exact ⟨G, rfl, hk'⟩
   ·rename_i v hv
    simp only [hv] at hc
    refine CodeW.seq ((dC_sound hC hk).mono ?_)
    rintro x F' h' ⟨G, rfl, hk'⟩
    cases x with
    | normal =>
      obtain ⟨G', m, h1, _, h3⟩ := inv_at hk'
      have := ihb (h3 _ hc.1) hc.2
      rw [h1] at this
      exact this
    | exit id => exact ⟨G, rfl, hk'⟩
    | ret => exact ⟨G, rfl, hk'⟩
 | block id c ih =>
   intro F h K hk hc
   refine CodeW.block ((ih (K := blkK id K) hk hc).mono ?_)
   rintro x F' h' ⟨G, rfl, hk'⟩
   unfold blkK at hk'
   cases x with
   | normal => exact ⟨G, rfl, hk'⟩
   | ret => exact ⟨G, rfl, hk'⟩
   | exit id' =>
     simp only at hk' ⊢
     split at hk'
     ·rename_i hb
      rw [if_pos (Nat.eq_of_beq_eq_true hb)]
      exact ⟨G, rfl, hk'⟩
     ·rename_i hb
      rw [if_neg (Nat.ne_of_beq_eq_false hb)]
      exact ⟨G, rfl, hk'⟩
 | scope c ih => intro F h K hk hc; exact CodeW.scope (ih hk hc)
 | _ => intro F h K hk _; exact dC_sound hC hk
theorem resK_sound {F : GF} {h : Heap} {K : IV -> Prop} {r : ResultVar} (hk : resK (stdS C) E f F h K r) {fr : Fr} (hf : fr.ff = F.ff) : ∃ v, resultI E.P fr h r = some v /\ K v := by
 have e1 : fr.tm.get = F.tmg := congrArg FF.tm hf
 have e2 : fr.lv.get = F.lvg := congrArg FF.lv hf
 unfold resK at hk
 unfold resultI
 simp only [e1, e2]
 split at hk
 ·rename_i t
  split at hk
  ·rename_i v hv; exact ⟨v, hv, hk⟩
  ·exact hk.elim
 ·rename_i a t
  split at hk
  ·rename_i s off ha
   split at hk
   ·rename_i cs hl
    obtain ⟨v, h1, h2⟩ := ldW_sound hk
    exact ⟨v, by simp only [ha, hl]; exact h1, h2⟩
   ·exact hk.elim
  ·rename_i id off ha
   simp only [stdS, hgetS] at hk
   split at hk
   ·rename_i cs hg
    obtain ⟨v, h1, h2⟩ := ldW_sound (C := C) hk
    exact ⟨v, by simp only [ha, hg]; exact h1, h2⟩
   ·exact hk.elim
  ·exact hk.elim
theorem resKs_sound {F : GF} {h : Heap} {fr : Fr} (hf : fr.ff = F.ff) : ∀ {l : List ResultVar} {K : List IV -> Prop}, resKs (stdS C) E f F h l K -> ∃ vs, resultsI E.P fr h l = some vs /\ K vs
 | [], K, hk => ⟨[], rfl, hk⟩
 | r :: rs, K, hk => by
   unfold resKs at hk
   obtain ⟨v, h1, h2⟩ := resK_sound hk hf
   obtain ⟨vs, h3, h4⟩ := resKs_sound hf h2
   exact ⟨v :: vs, by simp only [resultsI, h1, h3], h4⟩
theorem frameG_get : ∀ (args : List IV) (i : Nat) (t : PT TV) (u : PT (Option TV)), (∀ k, (match u.get k with | some x => x | none => none) = t.get k) ->
  ∀ k, (match (frameG args i u).get k with | some x => x | none => none) = (frameOf args i t).get k
 | [], i, t, u, h, k => h k
 | v :: r, i, t, u, h, k => by
   unfold frameG frameOf
   refine frameG_get r (i + 1) _ _ (fun k => ?_) k
   simp only [PT.get_set]
   by_cases hk : k = i
   ·simp [hk]
   ·simp only [hk, if_false]; exact h k
theorem frame0_ff (args : List IV) : (frame0 args).ff = Fr.ff ⟨frameOf args 0 .nil, .nil⟩ :=
 FF.ext' (fun k => frameG_get args 0 .nil .nil (fun k => rfl) k) (fun k => rfl)
theorem dBody_sound (hC : ∀ g xs h Q, C g xs h Q -> CallW E g xs h Q) {U : Nat -> Nat} {IL IC : Nat -> Option Inv'} {rs : List ResultVar} {c : Code} {args : List IV} {h : Heap} {K : List IV -> Heap -> Prop}
  (hk : dBody (stdS C) E f U IL IC rs c args h K) : ∃ n vs h', bodyRun E f (runF E n) n rs c args h = some (vs, h') /\ K vs h' := by
 unfold dBody at hk
 have hs : CodeW E f c (frame0 args).ff h fun x F' h' => ∃ G, G.ff = F' /\ (fun (x : Ex) (F : GF) (h' : Heap) => match x with
   | .exit _ => False
   | _ => resKs (stdS C) E f F h' rs fun vs => K vs h') x G h' := by
  split at hk
  ·exact dC_sound hC hk
  ·exact dSeg_sound hC hk.1 hk.2
 have h1 := hs ⟨frameOf args 0 .nil, .nil⟩ (frame0_ff args).symm
 obtain ⟨n, x, fr, h', hr, G, hG, h2⟩ := h1
 cases x with
 | exit id => exact h2.elim
 | normal =>
   obtain ⟨vs, h3, h4⟩ := resKs_sound hG.symm h2
   exact ⟨n, vs, h', by simp [bodyRun, hr, h3], h4⟩
 | ret =>
   obtain ⟨vs, h3, h4⟩ := resKs_sound hG.symm h2
   exact ⟨n, vs, h', by simp [bodyRun, hr, h3], h4⟩
theorem frz1K_sound {h : Heap} {v : IV} {K : IV -> Heap -> Prop} (hk : frz1K (stdS C) h v K) : K (frz1 h v).1 (frz1 h v).2 := by
 unfold frz1K at hk
 split at hk
 ·simp only [stdS, hgetS] at hk
  split at hk
  ·rename_i cs hg
   have hk' : (stdS C).need _ _ := hk
   obtain ⟨h1, h2⟩ := need_iff.1 hk'
   simp only [Bool.and_eq_true] at h1
   have e1 := Nat.le_of_ble_eq_true h1.1
   have e2 := Nat.le_of_ble_eq_true h1.2
   simp only [frz1, hg]
   rw [if_pos ⟨e1, e2⟩]
   exact h2
  ·exact hk.elim
 ·rename_i hn
  have : frz1 h v = (v, h) := by
   unfold frz1
   split
   ·exact absurd rfl (hn _ _ _ _)
   ·rfl
  rw [this]
  exact hk
theorem frzLK_sound {g : Heap -> IV -> (IV -> Heap -> Prop) -> Prop} {g' : Heap -> IV -> IV × Heap} (hg : ∀ h v K, g h v K -> K (g' h v).1 (g' h v).2) : ∀ {vs : List IV} {h : Heap} {K : List IV -> Heap -> Prop}, frzLK g vs h K -> K (frzL g' h vs).1 (frzL g' h vs).2
 | [], h, K, hk => hk
 | v :: r, h, K, hk => by
   unfold frzLK at hk
   have := hg _ _ _ hk
   exact frzLK_sound (vs := r) hg this
theorem frz2K_sound {h : Heap} {v : IV} {K : IV -> Heap -> Prop} (hk : frz2K (stdS C) h v K) : K (frz2 h v).1 (frz2 h v).2 := by
 unfold frz2K at hk
 split at hk
 ·exact frzLK_sound (fun _ _ _ q => frz1K_sound q) hk
 ·rename_i hn
  have : frz2 h v = frz1 h v := by
   unfold frz2
   split
   ·exact absurd rfl (hn _)
   ·rfl
  rw [this]
  exact frz1K_sound hk
theorem frzAllK_sound {vs : List IV} {h : Heap} {K : List IV -> Prop} (hk : frzAllK (stdS C) E f vs h K) : K (frzAll E f vs h) := by
 unfold frzAllK at hk
 unfold frzAll
 split at hk
 ·rename_i hz
  rw [if_pos hz]
  exact frzLK_sound (fun _ _ _ q => frz2K_sound q) hk
 ·rename_i hz
  rw [if_neg (by simp [hz])]
  exact hk
theorem dF_sound (hC : ∀ g xs h Q, C g xs h Q -> CallW E g xs h Q) {U : Nat -> Nat} {IL IC : Nat -> Option Inv'} {args : List IV} {h : Heap} {Q : IV -> Heap -> Prop}
  (hk : dF (stdS C) E f U IL IC args h Q) : CallW E f args h Q := by
 unfold dF at hk
 split at hk
 case h_2 => exact hk.elim
 rename_i fn hf
 split at hk
 case h_2 => exact hk.elim
 rename_i c hb
 split at hk
 ·rename_i hi
  obtain ⟨n, vs, h', h1, h2⟩ := dBody_sound hC hk
  refine ⟨n + 1, (giveOut E f (tupleOf vs) h').1, (giveOut E f (tupleOf vs) h').2, ?_, ?_⟩
  ·rw [runF_succ]
   simp only [hf, hb, hi, h1]
  ·split at h2
   ·exact h2
   ·rename_i hz
    simpa [giveOut, hz] using h2
 ·rename_i hi
  obtain ⟨hp, hk⟩ := need_iff.1 hk
  obtain ⟨n, vs, h', h1, h2⟩ := dBody_sound hC hk
  obtain ⟨h3, h4⟩ := need_iff.1 (frzAllK_sound h2)
  refine ⟨n + 1, _, h, ?_, h4⟩
  rw [runF_succ]
  simp only [hf, hb, hi, hp, h1, if_true, isoOut, h3, Option.map_some]
end
end Go.Pv
namespace Go.Pv
def Sound (E : Env) (C : FuncId -> List IV -> Heap -> (IV -> Heap -> Prop) -> Prop) : Prop := ∀ g xs h Q, C g xs h Q -> CallW E g xs h Q
def noC : FuncId -> List IV -> Heap -> (IV -> Heap -> Prop) -> Prop := fun _ _ _ _ => False
def addC (g : FuncId) (k : List IV -> Heap -> (IV -> Heap -> Prop) -> Prop) (C : FuncId -> List IV -> Heap -> (IV -> Heap -> Prop) -> Prop) : FuncId -> List IV -> Heap -> (IV -> Heap -> Prop) -> Prop :=
 fun g' xs h K => match Nat.beq g' g with
  | true => k xs h K
  | false => C g' xs h K
def noU : Nat -> Nat := fun _ => 0
def noI : Nat -> Option Inv' := fun _ => none
theorem sound_no (E : Env) : Sound E noC := fun _ _ _ _ h => h.elim
theorem sound_add {E : Env} {g : FuncId} {k : List IV -> Heap -> (IV -> Heap -> Prop) -> Prop} {C : FuncId -> List IV -> Heap -> (IV -> Heap -> Prop) -> Prop} (hk : ∀ xs h Q, k xs h Q -> CallW E g xs h Q) (hC : Sound E C) : Sound E (addC g k C) := by
 intro g' xs h Q hq
 unfold addC at hq
 split at hq
 ·rename_i e
  obtain rfl := Nat.eq_of_beq_eq_true e
  exact hk xs h Q hq
 ·exact hC g' xs h Q hq
theorem brS_intro {b : Bool} {A B : Prop} (ha : b = true -> A) (hb : b = false -> B) : brS b A B := by
 cases b with
 | true => exact ha rfl
 | false => exact hb rfl
theorem needS_intro {b : Bool} {A : Prop} (hb : b = true) (ha : A) : needS b A := by subst hb; exact ha
theorem q_eq {Q : IV -> Heap -> Prop} {v v' : IV} {h : Heap} (hk : Q v h) (e : v = v') : Q v' h := e ▸ hk
theorem mp_eq {A B : Prop} (e : A = B) (hb : B) : A := e ▸ hb
theorem dF_run {E : Env} {C : FuncId -> List IV -> Heap -> (IV -> Heap -> Prop) -> Prop} (hC : Sound E C) {f : FuncId} {U : Nat -> Nat} {IL IC : Nat -> Option Inv'} {args : List IV} {h : Heap} {Q : IV -> Heap -> Prop} {text : Prop}
  (e : dF (stdS C) E f U IL IC args h Q = text) (hk : text) : CallW E f args h Q := dF_sound hC (mp_eq e hk)
end Go.Pv
namespace Go.Pv
def atC (slots : List (Nat × TV)) (locs : List (Nat × List IV)) (h : Heap) : Inv' := .one ⟨Unit, fun _ => slots, fun _ => locs, fun _ => h, fun _ => True, fun _ => 0, fun _ _ => some ()⟩
def ic1 (n : Nat) (v : Inv') : Nat -> Option Inv' := fun k => match Nat.beq k n with
 | true => some v
 | false => none
def icA (n : Nat) (v : Inv') (r : Nat -> Option Inv') : Nat -> Option Inv' := fun k => match Nat.beq k n with
 | true => some v
 | false => r k
def atP (p : Prop) (slots : List (Nat × TV)) (locs : List (Nat × List IV)) (h : Heap) : Inv' := .one ⟨Unit, fun _ => slots, fun _ => locs, fun _ => h, fun _ => p, fun _ => 0, fun _ _ => some ()⟩
def atX (X : Type) (slots : X -> List (Nat × TV)) (locs : X -> List (Nat × List IV)) (hp : X -> Heap) (cond : X -> Prop) (meas : X -> Nat) : Inv' := .ex ⟨X, slots, locs, hp, cond, meas, fun _ _ => none⟩
theorem ldIS_map {k : IntKind} {l : List Int} {i : Nat} {K : Int -> Prop} (h : i < l.length) (hk : K l[i]) : ldIS k (l.map (IV.int k)) i K := by
 unfold ldIS
 rw [List.getElem?_map, List.getElem?_eq_getElem h]
 simpa using hk
def icS (r : Nat -> Option Inv') : Nat -> Option Inv' := icA segKey (atC [] [] Heap.empty) r
theorem nbeq_t {a b : Nat} : Nat.beq a b = true ↔ a = b := ⟨Nat.eq_of_beq_eq_true, fun h => by subst h; exact Nat.beq_refl a⟩
theorem nbeq_f {a b : Nat} : Nat.beq a b = false ↔ a ≠ b := by rw [<- Bool.not_eq_true, nbeq_t]
theorem pureL_ints {k : IntKind} : ∀ {l : List Int}, pureL (l.map (IV.int k)) = true
 | [] => rfl
 | _ :: r => by simp only [List.map_cons, pureL, pureB, Bool.true_and]; exact pureL_ints
theorem pureL_append : ∀ {l m : List IV}, pureL (l ++ m) = (pureL l && pureL m)
 | [], m => by simp [pureL]
 | x :: r, m => by simp only [List.cons_append, pureL, pureL_append, Bool.and_assoc]
theorem slQ {k : IntKind} {Q : IV -> Heap -> Prop} {h : Heap} {r : List Int} {n : Nat} {cs : List IV} (hk : Q (.vslice none 0 r.length 1 (r.map (IV.int k))) h) (e : cs = r.map (IV.int k)) (hn : n = r.length) :
  needS (pureL [.vslice none 0 n 1 cs]) (Q (.vslice none 0 n 1 cs) h) := by
 subst e hn
 exact needS_intro (by simp only [pureL, pureB, pureL_ints, Bool.and_true]) hk
theorem brS_f {A B : Prop} : brS false A B = B := rfl
theorem brS_t {A B : Prop} : brS true A B = A := rfl
theorem needS_t {A : Prop} : needS true A = A := rfl
end Go.Pv
