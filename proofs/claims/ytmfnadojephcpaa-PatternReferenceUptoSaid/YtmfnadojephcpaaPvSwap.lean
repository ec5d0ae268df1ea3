import Derived.Test.YtmfnadojephcpaaPvCong
import Derived.Test.YtmfnadojephcpaaPvAddr
set_option linter.unusedSimpArgs false
namespace Go.Pv
structure FF where
 tm : Nat -> Option TV
 lv : Nat -> Option (List IV)
def Fr.ff (fr : Fr) : FF := ⟨fr.tm.get, fr.lv.get⟩
def FF.put (F : FF) (d : Option Tmp) (v : Option TV) : FF :=
 match d with
 | some t => { F with tm := fun k => if k = t then v else F.tm k }
 | none => F
def FF.lset (F : FF) (s : Nat) (cs : List IV) : FF := { F with lv := fun k => if k = s then some cs else F.lv k }
def FF.clr (F : FF) (s : Nat) : FF := { F with tm := fun k => match F.tm k with | some x => if notAt s x then some x else none | none => none }
def FF.app (F : FF) (d : Option Tmp) (e : Ef) : FF :=
 match e.loc with
 | some (s, cs) => if e.box then ((F.clr s).lset s cs).put d e.v else (F.put d e.v).lset s cs
 | none => F.put d e.v
theorem ff_put (fr : Fr) (d : Option Tmp) (v : Option TV) : (fr.put d v).ff = fr.ff.put d v := by
 cases d with
 | none => rfl
 | some t =>
   simp only [Fr.put, Fr.ff, FF.put]
   congr 1
   funext k
   rw [PT.get_set]
theorem ff_app (fr : Fr) (d : Option Tmp) (e : Ef) : (fr.app d e).ff = fr.ff.app d e := by
 unfold Fr.app FF.app
 cases e.loc with
 | none => exact ff_put _ _ _
 | some q =>
   obtain ⟨s, cs⟩ := q
   simp only
   split
   ·rw [ff_put]
    congr 1
    simp only [Fr.box, Fr.ff, FF.lset, FF.clr]
    congr 1
    ·funext k; rw [PT.get_filt]; cases fr.tm.get k <;> rfl
    ·funext k; rw [PT.get_set]
   ·have h1 := ff_put fr d e.v
    have h2 : (fr.put d e.v).lv = fr.lv := by cases d <;> rfl
    have h3 : (Fr.ff { fr.put d e.v with lv := fr.lv.set s (some cs) }) = (Fr.ff (fr.put d e.v)).lset s cs := by
     simp only [Fr.ff, FF.lset]
     congr 1
     funext k
     rw [PT.get_set, h2]
    rw [h3, h1]
section
variable (E : Env) (f : FuncId) (cf : FuncId -> List IV -> Heap -> Option (IV × Heap)) (ops : List Oper) (bef : Nat -> Nat)
def RunR (al : List Nat) (rs : Nat -> Option Nat) (draw : Bool) : List (Oper × Nat) -> Met -> Pd -> FF -> Heap -> FF -> Heap -> Prop
 | [], _, _, F, h, F', h' => F = F' /\ h = h'
 | (o, i) :: r, m, pd, F, h, F', h' => ∃ e, effA E f cf ops draw (rs i) o F.tm F.lv h = some e /\ (draw = true -> okB al rs m pd (bef i) (rdId o (evOp E F.tm)) e = true) /\ RunR al rs draw r (m.add e.c i) (pdAdd E o (evOp E F.tm) e i pd) (F.app o.dst e) e.h F' h'
theorem runR_of {al : List Nat} {rs : Nat -> Option Nat} {draw : Bool} : ∀ {l : List (Oper × Nat)} {m : Met} {pd : Pd} {fr fr' : Fr} {h h' : Heap}, runOps E f cf ops draw bef al rs l m pd fr h = some (fr', h') -> RunR E f cf ops bef al rs draw l m pd fr.ff h fr'.ff h'
 | [], m, pd, fr, fr', h, h', hr => by simp [runOps] at hr; obtain ⟨rfl, rfl⟩ := hr; exact ⟨rfl, rfl⟩
 | (o, i) :: r, m, pd, fr, fr', h, h', hr => by
   unfold runOps at hr
   split at hr
   case h_2 => simp at hr
   rename_i e he
   split at hr
   case isFalse => simp at hr
   rename_i hw
   refine ⟨e, he, fun hd => by subst hd; simpa [Fr.ff] using hw, ?_⟩
   rw [<- ff_app]
   exact runR_of hr
end
mutual
theorem ivEq_eq : ∀ {a b : IV}, ivEq a b = true -> a = b := by
 intro a b h
 cases a <;> cases b <;> simp only [ivEq, Bool.and_eq_true, decide_eq_true_eq, beq_iff_eq, Bool.false_eq_true] at h
 all_goals first
  | rfl
  | (subst h; rfl)
  | (obtain ⟨h1, h2⟩ := h; have e1 := Nat.eq_of_beq_eq_true h1; have e2 := Nat.eq_of_beq_eq_true h2; subst e1; subst e2; rfl)
  | (obtain ⟨h1, h2⟩ := h; subst h1; subst h2; rfl)
  | (have e1 := Nat.eq_of_beq_eq_true h; subst e1; rfl)
  | (have e1 := ivsEq_eq h; subst e1; rfl)
  | (obtain ⟨h1, h2⟩ := h; have e1 := Nat.eq_of_beq_eq_true h1; have e2 := ivsEq_eq h2; subst e1; subst e2; rfl)
  | (obtain ⟨h1, h2, h3⟩ := h; have e2 := ivsEq_eq h2; have e3 := ivsEq_eq h3; subst h1; subst e2; subst e3; rfl)
  | (obtain ⟨h1, h2⟩ := h; have e2 := ivEq_eq h2; subst h1; subst e2; rfl)
  | (obtain ⟨h1, h2, h3, h4⟩ := h; have e1 := Nat.eq_of_beq_eq_true h1; have e2 := Nat.eq_of_beq_eq_true h2; have e3 := Nat.eq_of_beq_eq_true h3; have e4 := Nat.eq_of_beq_eq_true h4; subst e1; subst e2; subst e3; subst e4; rfl)
  | (obtain ⟨h1, h2, h3, h4, h5⟩ := h; have e2 := Nat.eq_of_beq_eq_true h2; have e3 := Nat.eq_of_beq_eq_true h3; have e4 := Nat.eq_of_beq_eq_true h4; have e5 := ivsEq_eq h5; subst h1; subst e2; subst e3; subst e4; subst e5; rfl)
theorem ivsEq_eq : ∀ {a b : List IV}, ivsEq a b = true -> a = b := by
 intro a b h
 cases a with
 | nil => cases b with
   | nil => rfl
   | cons y r => simp [ivsEq] at h
 | cons x l => cases b with
   | nil => simp [ivsEq] at h
   | cons y r =>
     simp only [ivsEq, Bool.and_eq_true] at h
     rw [ivEq_eq h.1, ivsEq_eq h.2]
end
mutual
theorem ivEq_refl : ∀ a : IV, ivEq a a = true := by
 intro a
 have nb : ∀ n : Nat, Nat.beq n n = true := fun n => Nat.beq_refl n
 cases a <;> simp only [ivEq, nb, decide_true, Bool.and_self, beq_self_eq_true, Bool.true_and]
 all_goals first
  | exact ivsEq_refl _
  | (rw [ivsEq_refl, ivsEq_refl]; rfl)
  | exact ivEq_refl _
theorem ivsEq_refl : ∀ a : List IV, ivsEq a a = true := by
 intro a
 cases a with
 | nil => rfl
 | cons x r => simp only [ivsEq, ivEq_refl x, ivsEq_refl r, Bool.and_self]
end
theorem tvEq_eq {a b : TV} (h : tvEq a b = true) : a = b := by
 unfold tvEq at h
 split at h
 ·rw [ivEq_eq h]
 ·cases h
def clash : Cls -> Cls -> Bool
 | .l, .s => true
 | .s, .l => true
 | .s, .s => true
 | .r, .e => true
 | .e, .r => true
 | .e, .e => true
 | .a, .e => true
 | .e, .a => true
 | _, _ => false
section
variable {E : Env} {f : FuncId} {cf : FuncId -> List IV -> Heap -> Option (IV × Heap)} {ops : List Oper}
theorem lSem_load {o : Oper} {ev : Operand -> Option TV} {lv : Nat -> Option (List IV)} {v : TV} (h : lSem E o ev lv = some v) : ∃ t a s off, o.op = .load t a /\ ev a = some (.l s off) := by
 unfold lSem at h
 split at h
 ·rename_i t a hop
  split at h
  ·rename_i s off ha; exact ⟨t, a, s, off, hop, ha⟩
  ·simp at h
 ·simp at h
theorem sSem_store {o : Oper} {ev : Operand -> Option TV} {lv : Nat -> Option (List IV)} {v : Nat × List IV} (h : sSem E o ev lv = some v) : ∃ t a x s off, o.op = .store t a x /\ ev a = some (.l s off) := by
 unfold sSem at h
 split at h
 ·rename_i t a x hop
  split at h
  ·rename_i s off v' ha hx; exact ⟨t, a, x, s, off, hop, ha⟩
  ·simp at h
 ·simp at h
theorem later_none {o : Oper} {ev : Operand -> Option TV} {h : Heap} (hx : (rSem E o ev h).isSome \/ (eSem E f o ev h).isSome \/ (callSem o ev).isSome) (lv : Nat -> Option (List IV)) : lSem E o ev lv = none /\ sSem E o ev lv = none := by
 constructor
 ·cases hl : lSem E o ev lv with
  | none => rfl
  | some v =>
    obtain ⟨t, a, s, off, hop, ha⟩ := lSem_load hl
    simp [rSem, eSem, callSem, hop, ha] at hx
 ·cases hl : sSem E o ev lv with
  | none => rfl
  | some v =>
    obtain ⟨t, a, x, s, off, hop, ha⟩ := sSem_store hl
    simp [rSem, eSem, callSem, hop, ha] at hx
theorem rSem_none {o : Oper} {ev : Operand -> Option TV} {h : Heap} (hx : (eSem E f o ev h).isSome \/ (callSem o ev).isSome) (h2 : Heap) : rSem E o ev h2 = none := by
 cases hr : rSem E o ev h2 with
 | none => rfl
 | some v =>
   unfold rSem at hr
   cases hop : o.op <;> simp only [hop] at hr <;> try (simp at hr; done)
   case load t a => simp [eSem, callSem, hop] at hx
   case convert s d x =>
    split at hr
    ·rename_i e id off len h1 h2' h3
     simp [eSem, callSem, hop, h1, h2', h3] at hx
    ·simp at hr
   case slice t x lo hi mx => simp [eSem, callSem, hop] at hx
   case lookup t x k ok => simp [eSem, callSem, hop] at hx
   case call c =>
    obtain ⟨callee, args, argTypes⟩ := c
    cases callee with
    | value x => simp at hr
    | invoke x n => simp at hr
    | builtin b => cases b <;> simp at hr <;> simp [eSem, callSem, hop] at hx
theorem evOp_l {o : Oper} {tm : Nat -> Option TV} {x : Operand} {s off : Nat} (hx : x ∈ o.op.operands) (h : evOp E tm x = some (.l s off)) : ∃ t, t ∈ o.looksAt ops.toArray /\ tm t = some (.l s off) := by
 cases x with
 | tmp t =>
   refine ⟨t, ?_, h⟩
   simp only [Oper.looksAt, List.mem_append, List.mem_filterMap]
   exact .inl ⟨.tmp t, by simpa using hx, rfl⟩
 | const v =>
   simp only [evOp] at h
   obtain ⟨y, _, h2⟩ := Option.map_eq_some_iff.1 h
   cases h2
 | global g =>
   simp only [evOp] at h
   obtain ⟨y, _, h2⟩ := Option.map_eq_some_iff.1 h
   cases h2
 | func g => simp [evOp] at h
theorem lSem_at {o : Oper} {ev : Operand -> Option TV} {lv : Nat -> Option (List IV)} {v : TV} (h : lSem E o ev lv = some v) : ∃ x ∈ o.op.operands, ∃ s off, ev x = some (.l s off) /\ (∃ cs, lv s = some cs) /\ ∀ lv2, lv2 s = lv s -> lSem E o ev lv2 = some v := by
 unfold lSem at h
 split at h
 ·rename_i t a hop
  split at h
  ·rename_i s off ha
   refine ⟨a, by simp [hop, Op.operands], s, off, ha, ?_, fun lv2 e => ?_⟩
   ·split at h
    ·rename_i cs hc; exact ⟨cs, hc⟩
    ·simp at h
   ·simp only [lSem, hop, ha, e]; exact h
  ·simp at h
 ·simp at h
theorem sSem_at {o : Oper} {ev : Operand -> Option TV} {lv : Nat -> Option (List IV)} {q : Nat × List IV} (h : sSem E o ev lv = some q) : ∃ x ∈ o.op.operands, ∃ off, ev x = some (.l q.1 off) /\ (∃ cs, lv q.1 = some cs) /\ ∀ lv2, lv2 q.1 = lv q.1 -> sSem E o ev lv2 = some q := by
 unfold sSem at h
 split at h
 ·rename_i t a x hop
  split at h
  ·rename_i s off v ha hx
   split at h
   ·rename_i cs hc
    obtain ⟨y, h1, h2⟩ := Option.map_eq_some_iff.1 h
    subst h2
    refine ⟨a, by simp [hop, Op.operands], off, ha, ⟨cs, hc⟩, fun lv2 e => ?_⟩
    simp only at e
    simp only [sSem, hop, ha, hx, e, hc]; exact h
   ·simp at h
  ·simp at h
 ·simp at h
theorem lSem_sSem {o : Oper} {ev : Operand -> Option TV} {lv lv2 : Nat -> Option (List IV)} {q : Nat × List IV} (h : sSem E o ev lv = some q) : lSem E o ev lv2 = none := by
 obtain ⟨t, a, x, s, off, hop, ha⟩ := sSem_store h
 simp [lSem, hop]
def CfIso (E : Env) (cf : FuncId -> List IV -> Heap -> Option (IV × Heap)) : Prop := ∀ g, E.iso g = true -> ∀ xs h v h', cf g xs h = some (v, h') -> h' = h /\ ∀ h2, cf g xs h2 = some (v, h2)
theorem eSem_none {o : Oper} {ev : Operand -> Option TV} (hx : (callSem o ev).isSome) (h2 : Heap) : eSem E f o ev h2 = none := by
 unfold callSem at hx
 split at hx
 ·rename_i x args _ hop
  simp [eSem, hop]
 ·simp at hx
theorem eff_indep (hcfi : CfIso E cf) {o : Oper} {tm : Nat -> Option TV} {lv : Nat -> Option (List IV)} {h : Heap} {e : Ef} (he : eff E f cf ops true o tm lv h = some e) :
  e.box = false /\
  (e.c = .p -> e.loc = none /\ e.h = h /\ ∀ lv2 h2, eff E f cf ops true o tm lv2 h2 = some { e with h := h2 }) /\
  (e.c = .l -> e.loc = none /\ e.h = h /\ ∃ t s off, t ∈ o.looksAt ops.toArray /\ tm t = some (.l s off) /\ (∃ cs, lv s = some cs) /\ ∀ lv2 h2, lv2 s = lv s -> eff E f cf ops true o tm lv2 h2 = some { e with h := h2 }) /\
  (e.c = .s -> e.h = h /\ ∃ t s off cs, t ∈ o.looksAt ops.toArray /\ tm t = some (.l s off) /\ (∃ cs, lv s = some cs) /\ e.loc = some (s, cs) /\ ∀ lv2 h2, lv2 s = lv s -> eff E f cf ops true o tm lv2 h2 = some { e with h := h2 }) /\
  (e.c = .r -> e.loc = none /\ e.h = h /\ ∀ lv2, eff E f cf ops true o tm lv2 h = some e) /\
  (e.c = .e -> e.loc = none /\ ∀ lv2, eff E f cf ops true o tm lv2 h = some e) /\
  (e.c = .b -> e.h = h /\ ∃ d cs, o.dst = some d /\ e.loc = some (d, cs) /\ lv d = none /\ ∀ lv2 h2, lv2 d = none -> eff E f cf ops true o tm lv2 h2 = some { e with h := h2 }) := by
 unfold eff at he
 cases hw : wantedI ops tm o with
 | none => simp [hw] at he
 | some b =>
   simp only [hw] at he
   cases b with
   | false =>
     simp only [Option.some.injEq] at he
     subst he
     refine ⟨rfl, fun _ => ⟨rfl, rfl, fun lv2 h2 => by simp [eff, hw]⟩, ?_, ?_, ?_, ?_, ?_⟩ <;> intro hc <;> simp at hc
   | true =>
     simp only at he
     have hE : ∀ lv2 h2, eff E f cf ops true o tm lv2 h2 = effW E f cf true o (evOp E tm) lv2 h2 := fun lv2 h2 => by simp [eff, hw]
     simp only [hE]
     unfold effW at he ⊢
     cases hp : pSem E f o (evOp E tm) with
     | some q =>
       obtain ⟨v, bx⟩ := q
       simp only [hp] at he ⊢
       split at he
       ·rename_i cs d hd
        simp only [if_true] at he
        split at he
        case h_2 => cases he
        rename_i hlv
        simp only [Option.some.injEq] at he
        subst he
        refine ⟨rfl, ?_, ?_, ?_, ?_, ?_, fun _ => ⟨rfl, d, cs, hd, rfl, hlv, fun lv2 h2 e => by simp [e]⟩⟩ <;> intro hc <;> simp at hc
       ·rename_i hbx
        simp only [Option.some.injEq] at he
        subst he
        refine ⟨rfl, fun _ => ⟨rfl, rfl, fun lv2 h2 => rfl⟩, ?_, ?_, ?_, ?_, ?_⟩ <;> intro hc <;> simp at hc
       ·simp at he
     | none =>
       simp only [hp] at he ⊢
       cases hl : lSem E o (evOp E tm) lv with
       | some v =>
         simp only [hl, Option.some.injEq] at he
         subst he
         obtain ⟨x, hx, s, off, h1, h2, h3⟩ := lSem_at hl
         obtain ⟨t, ht1, ht2⟩ := evOp_l (ops := ops) hx h1
         refine ⟨rfl, ?_, fun _ => ⟨rfl, rfl, t, s, off, ht1, ht2, h2, fun lv2 h2' e => by simp only [h3 lv2 e]⟩, ?_, ?_, ?_, ?_⟩ <;> intro hc <;> simp at hc
       | none =>
         simp only [hl] at he
         cases hs : sSem E o (evOp E tm) lv with
         | some q =>
           obtain ⟨x, hx, off, h1, h2, h3⟩ := sSem_at hs
           obtain ⟨t, ht1, ht2⟩ := evOp_l (ops := ops) hx h1
           have hln := fun lv2 => lSem_sSem (lv2 := lv2) hs
           obtain ⟨s, cs⟩ := q
           simp only [hs, Option.some.injEq] at he
           subst he
           refine ⟨rfl, ?_, ?_, fun _ => ⟨rfl, t, s, off, cs, ht1, ht2, h2, rfl, fun lv2 h2' e => by simp only [hln lv2, h3 lv2 e]⟩, ?_, ?_, ?_⟩ <;> intro hc <;> simp at hc
         | none =>
           simp only [hs] at he
           cases hr : rSem E o (evOp E tm) h with
           | some v =>
             simp only [hr, Option.some.injEq] at he
             subst he
             have hn := fun lv2 => later_none (E := E) (f := f) (o := o) (ev := evOp E tm) (h := h) (.inl (by simp [hr])) lv2
             refine ⟨rfl, ?_, ?_, ?_, fun _ => ⟨rfl, rfl, fun lv2 => by simp only [(hn lv2).1, (hn lv2).2, hr]⟩, ?_, ?_⟩ <;> intro hc <;> simp at hc
           | none =>
             simp only [hr] at he
             cases hee : eSem E f o (evOp E tm) h with
             | some q =>
               obtain ⟨v, h'⟩ := q
               simp only [hee, Option.some.injEq] at he
               subst he
               have hn := fun lv2 => later_none (E := E) (f := f) (o := o) (ev := evOp E tm) (h := h) (.inr (.inl (by simp [hee]))) lv2
               refine ⟨rfl, ?_, ?_, ?_, ?_, fun _ => ⟨rfl, fun lv2 => by simp only [(hn lv2).1, (hn lv2).2, hr, hee]⟩, ?_⟩ <;> intro hc <;> simp at hc
             | none =>
               simp only [hee] at he
               cases hcl : callSem o (evOp E tm) with
               | none => simp [hcl] at he
               | some q =>
                 obtain ⟨g, xs⟩ := q
                 simp only [hcl] at he
                 split at he
                 case h_2 => simp at he
                 rename_i v h' hcf
                 simp only [Option.some.injEq] at he
                 cases hiso : E.iso g with
                 | true =>
                   simp only [hiso, isoCls] at he
                   subst he
                   obtain ⟨rfl, hall⟩ := hcfi g hiso _ _ _ _ hcf
                   have hn := fun lv2 => later_none (E := E) (f := f) (o := o) (ev := evOp E tm) (h := h') (.inr (.inr (by simp [hcl]))) lv2
                   have hrn := rSem_none (E := E) (f := f) (o := o) (ev := evOp E tm) (h := h') (.inr (by simp [hcl]))
                   have hen := eSem_none (E := E) (f := f) (o := o) (ev := evOp E tm) (by simp [hcl])
                   refine ⟨rfl, fun _ => ⟨rfl, rfl, fun lv2 h2 => by simp only [(hn lv2).1, (hn lv2).2, hrn h2, hen h2, hcl, hall h2, hiso, isoCls]⟩, ?_, ?_, ?_, ?_, ?_⟩ <;> intro hc <;> simp at hc
                 | false =>
                 simp only [hiso, isoCls] at he
                 subst he
                 have hn := fun lv2 => later_none (E := E) (f := f) (o := o) (ev := evOp E tm) (h := h) (.inr (.inr (by simp [hcl]))) lv2
                 refine ⟨rfl, ?_, ?_, ?_, ?_, fun _ => ⟨rfl, fun lv2 => by simp only [(hn lv2).1, (hn lv2).2, hr, hee, hcl, hcf, hiso, isoCls]⟩, ?_⟩ <;> intro hc <;> simp at hc
def AddrOk (F : FF) : Prop := ∀ k s off, F.tm k = some (.l s off) -> ∃ cs, F.lv s = some cs
theorem wanted_cong {o : Oper} {tm tm' : Nat -> Option TV} (h : ∀ t ∈ o.looksAt ops.toArray, tm t = tm' t) : wantedI ops tm o = wantedI ops tm' o := by
 unfold wantedI
 cases hg : o.guard with
 | none => rfl
 | some q =>
   obtain ⟨j, b⟩ := q
   simp only
   cases hd : (ops[j]?).bind (·.dst) with
   | none => rfl
   | some d =>
     have : d ∈ o.looksAt ops.toArray := by
      simp only [Oper.looksAt, hg, List.getElem?_toArray, hd]
      simp
     simp only [h d this]
theorem evOp_cong {o : Oper} {tm tm' : Nat -> Option TV} (h : ∀ t ∈ o.looksAt ops.toArray, tm t = tm' t) : ∀ x ∈ o.op.operands, evOp E tm x = evOp E tm' x := by
 intro x hx
 cases x with
 | tmp t =>
   simp only [evOp]
   refine h t ?_
   simp only [Oper.looksAt, List.mem_append, List.mem_filterMap]
   exact .inl ⟨.tmp t, by simpa using hx, rfl⟩
 | const v => rfl
 | global g => rfl
 | func g => rfl
theorem eff_cong {draw : Bool} {o : Oper} {tm tm' : Nat -> Option TV} {lv : Nat -> Option (List IV)} {h : Heap} (hh : ∀ t ∈ o.looksAt ops.toArray, tm t = tm' t) : eff E f cf ops draw o tm lv h = eff E f cf ops draw o tm' lv h := by
 have hc := evOp_cong (E := E) hh
 simp only [eff, wanted_cong hh, effW, pSem_cong (E := E) (f := f) hc, lSem_cong (E := E) (lv := lv) (lv' := lv) hc (fun _ => rfl), sSem_cong (E := E) (lv := lv) (lv' := lv) hc (fun _ => rfl), rSem_cong (E := E) (h := h) hc, eSem_cong (E := E) (f := f) (h := h) hc, callSem_cong hc]
theorem FF.ext' {F G : FF} (h1 : ∀ k, F.tm k = G.tm k) (h2 : ∀ k, F.lv k = G.lv k) : F = G := by
 obtain ⟨a, b⟩ := F
 obtain ⟨c, d⟩ := G
 have e1 : a = c := funext h1
 have e2 : b = d := funext h2
 subst e1; subst e2; rfl
theorem app_tm {F : FF} {d : Option Tmp} {e : Ef} (hb : e.box = false) (k : Nat) : (F.app d e).tm k = if d = some k then e.v else F.tm k := by
 unfold FF.app
 cases e.loc with
 | none =>
   cases d with
   | none => simp [FF.put]
   | some t =>
     simp only [FF.put, Option.some.injEq]
     by_cases h : k = t
     ·simp [h]
     ·simp [h, show ¬ t = k from fun e => h e.symm]
 | some q =>
   simp only [hb, Bool.false_eq_true, if_false, FF.lset]
   cases d with
   | none => simp [FF.put]
   | some t =>
     simp only [FF.put, Option.some.injEq]
     by_cases h : k = t
     ·simp [h]
     ·simp [h, show ¬ t = k from fun e => h e.symm]
theorem app_lv {F : FF} {d : Option Tmp} {e : Ef} (hb : e.box = false) (k : Nat) : (F.app d e).lv k = match e.loc with | some (s, cs) => if k = s then some cs else F.lv k | none => F.lv k := by
 unfold FF.app
 cases hl : e.loc with
 | none => cases d <;> rfl
 | some q =>
   simp only [hb, Bool.false_eq_true, if_false, FF.lset]
   cases d <;> rfl
theorem AddrOk.app (hcfi : CfIso E cf) {o : Oper} {F : FF} {h : Heap} {e : Ef} (hA : AddrOk F) (he : eff E f cf ops true o F.tm F.lv h = some e) : AddrOk (F.app o.dst e) := by
 have hb := (eff_indep hcfi he).1
 have hlv : ∀ s, (∃ cs, F.lv s = some cs) -> ∃ cs, (F.app o.dst e).lv s = some cs := by
  rintro s ⟨cs, hs⟩
  rw [app_lv hb]
  cases e.loc with
  | none => exact ⟨cs, hs⟩
  | some q =>
    obtain ⟨s', cs'⟩ := q
    simp only
    by_cases hk : s = s'
    ·exact ⟨cs', by rw [if_pos hk]⟩
    ·exact ⟨cs, by rw [if_neg hk]; exact hs⟩
 intro k s off hk
 rw [app_tm hb] at hk
 split at hk
 case isFalse => exact hlv s (hA k s off hk)
 rename_i hd
 unfold eff at he
 cases hw : wantedI ops F.tm o with
 | none => simp [hw] at he
 | some b =>
   simp only [hw] at he
   cases b with
   | false => simp only [Option.some.injEq] at he; subst he; simp at hk
   | true =>
     simp only at he
     unfold effW at he
     cases hp : pSem E f o (evOp E F.tm) with
     | some q =>
       obtain ⟨v, bx⟩ := q
       simp only [hp] at he
       cases bx with
       | none =>
         simp only [Option.some.injEq] at he
         subst he
         simp only [Option.some.injEq] at hk
         subst hk
         obtain ⟨x, o', hx⟩ := pSem_l hp
         cases x with
         | tmp t => exact hlv s (hA t s o' hx)
         | const c => simp only [evOp] at hx; obtain ⟨y, _, h2⟩ := Option.map_eq_some_iff.1 hx; cases h2
         | global g => simp only [evOp] at hx; obtain ⟨y, _, h2⟩ := Option.map_eq_some_iff.1 hx; cases h2
         | func g => simp [evOp] at hx
       | some cs =>
         simp only [hd, if_true] at he
         split at he
         case h_2 => cases he
         rename_i hlv
         simp only [Option.some.injEq] at he
         subst he
         simp only [Option.some.injEq] at hk
         subst hk
         obtain rfl := pSem_box hp hd
         refine ⟨cs, ?_⟩
         rw [app_lv rfl]
         simp
     | none =>
       simp only [hp] at he
       exfalso
       have hv : ∀ tv, e.v = some tv -> ∃ x, tv = .v x := by
        intro tv htv
        cases hl : lSem E o (evOp E F.tm) F.lv with
        | some v =>
          simp only [hl, Option.some.injEq] at he
          subst he
          simp only [Option.some.injEq] at htv; subst htv
          unfold lSem at hl
          repeat' split at hl
          all_goals first | (cases hl; done) | (obtain ⟨y, _, h2⟩ := Option.map_eq_some_iff.1 hl; exact ⟨y, h2.symm⟩)
        | none =>
        simp only [hl] at he
        cases hs : sSem E o (evOp E F.tm) F.lv with
        | some v => simp only [hs, Option.some.injEq] at he; subst he; cases htv
        | none =>
        simp only [hs] at he
        cases hr : rSem E o (evOp E F.tm) h with
        | some v =>
          simp only [hr, Option.some.injEq] at he
          subst he
          simp only [Option.some.injEq] at htv; subst htv
          exact rSem_v hr
        | none =>
        simp only [hr] at he
        cases hee : eSem E f o (evOp E F.tm) h with
        | some q =>
          simp only [hee, Option.some.injEq] at he
          subst he
          exact eSem_v hee htv
        | none =>
        simp only [hee] at he
        split at he
        ·split at he
         ·simp only [Option.some.injEq] at he; subst he
          simp only [Option.some.injEq] at htv
          exact ⟨_, htv.symm⟩
         ·cases he
        ·cases he
       obtain ⟨x, hx⟩ := hv _ hk
       cases hx
theorem eff_not_a {draw : Bool} {o : Oper} {tm : Nat -> Option TV} {lv : Nat -> Option (List IV)} {h : Heap} {e : Ef} (he : eff E f cf ops draw o tm lv h = some e) : e.c ≠ .a := by
 unfold eff at he
 split at he
 ·cases he
 ·simp only [Option.some.injEq] at he; subst he; simp
 ·unfold effW at he
  repeat' split at he
  all_goals first
   | (cases he; done)
   | (simp only [Option.some.injEq] at he; subst he; first | (simp; done) | (simp only [isoCls]; split <;> simp))
theorem effA_some {draw : Bool} {n : Nat} {o : Oper} {tm : Nat -> Option TV} {lv : Nat -> Option (List IV)} {h : Heap} {e : Ef} (he : effA E f cf ops draw (some n) o tm lv h = some e) :
  e = ⟨.p, some .u, none, false, h⟩ \/ (∃ v, aSh E f o (evOp E tm) n = some (v, none) /\ e = ⟨.p, v, none, false, h⟩) \/ ∃ v x, aSh E f o (evOp E tm) n = some (v, some x) /\ h.get n = .free /\ e = ⟨.a, v, none, false, h.set n x⟩ := by
 unfold effA at he
 simp only at he
 split at he
 ·cases he
 ·simp only [Option.some.injEq] at he; exact .inl he.symm
 ·split at he
  ·rename_i v ha
   simp only [Option.some.injEq] at he
   exact .inr (.inl ⟨v, ha, he.symm⟩)
  ·rename_i v x ha
   split at he
   ·rename_i hf
    simp only [Option.some.injEq] at he
    exact .inr (.inr ⟨v, x, ha, hf, he.symm⟩)
   ·cases he
  ·cases he
theorem effA_cong {draw : Bool} {rs : Option Nat} {o : Oper} {tm tm' : Nat -> Option TV} {lv : Nat -> Option (List IV)} {h : Heap} (hh : ∀ t ∈ o.looksAt ops.toArray, tm t = tm' t) : effA E f cf ops draw rs o tm lv h = effA E f cf ops draw rs o tm' lv h := by
 unfold effA
 rw [eff_cong hh, wanted_cong hh]
 cases rs with
 | none => rfl
 | some n => simp only [aSh_cong (evOp_cong (E := E) hh)]
theorem eff_read {o : Oper} {tm : Nat -> Option TV} {lv : Nat -> Option (List IV)} {h h2 : Heap} {e : Ef} (he : eff E f cf ops true o tm lv h = some e) (hc : e.c = .r) :
  ∃ v, rSem E o (evOp E tm) h = some v /\ e.v = some v /\ (rSem E o (evOp E tm) h2 = some v -> ∀ lv2, eff E f cf ops true o tm lv2 h2 = some { e with h := h2 }) := by
 unfold eff at he ⊢
 cases hw : wantedI ops tm o with
 | none => simp [hw] at he
 | some b =>
   cases b with
   | false =>
     simp only [hw, Option.some.injEq] at he
     subst he
     simp at hc
   | true =>
     simp only [hw] at he ⊢
     unfold effW at he ⊢
     cases hp : pSem E f o (evOp E tm) with
     | some q =>
       obtain ⟨v1, bx⟩ := q
       exfalso
       simp only [hp] at he
       repeat' split at he
       all_goals first | (cases he; done) | (simp only [Option.some.injEq] at he; subst he; cases hc)
     | none =>
       simp only [hp] at he ⊢
       cases hl : lSem E o (evOp E tm) lv with
       | some v1 =>
         simp only [hl, Option.some.injEq] at he
         subst he
         cases hc
       | none =>
         simp only [hl] at he ⊢
         cases hs : sSem E o (evOp E tm) lv with
         | some q =>
           obtain ⟨q1, q2⟩ := q
           simp only [hs, Option.some.injEq] at he
           subst he
           cases hc
         | none =>
           simp only [hs] at he ⊢
           cases hr1 : rSem E o (evOp E tm) h with
           | some v1 =>
             simp only [hr1, Option.some.injEq] at he
             subst he
             refine ⟨v1, rfl, rfl, fun hr lv2 => ?_⟩
             have hn := later_none (E := E) (f := f) (o := o) (ev := evOp E tm) (h := h) (.inl (by simp [hr1])) lv2
             simp only [hn.1, hn.2, hr]
           | none =>
             exfalso
             simp only [hr1] at he
             repeat' split at he
             all_goals first | (cases he; done) | (simp only [Option.some.injEq] at he; subst he; first | (cases hc; done) | (simp only at hc; unfold isoCls at hc; split at hc <;> cases hc))
theorem sameAt_refl (h : Heap) (i : Option Nat) : sameAt h h i := by cases i <;> simp [sameAt]
theorem effA_indep (hcfi : CfIso E cf) {rs : Option Nat} {o : Oper} {tm : Nat -> Option TV} {lv : Nat -> Option (List IV)} {h : Heap} {e : Ef} (he : effA E f cf ops true rs o tm lv h = some e) :
  e.box = false /\
  (e.c = .p -> e.loc = none /\ e.h = h /\ ∀ lv2 h2, effA E f cf ops true rs o tm lv2 h2 = some { e with h := h2 }) /\
  (e.c = .l -> e.loc = none /\ e.h = h /\ ∃ t s off, t ∈ o.looksAt ops.toArray /\ tm t = some (.l s off) /\ (∃ cs, lv s = some cs) /\ ∀ lv2 h2, lv2 s = lv s -> effA E f cf ops true rs o tm lv2 h2 = some { e with h := h2 }) /\
  (e.c = .s -> e.h = h /\ ∃ t s off cs, t ∈ o.looksAt ops.toArray /\ tm t = some (.l s off) /\ (∃ cs, lv s = some cs) /\ e.loc = some (s, cs) /\ ∀ lv2 h2, lv2 s = lv s -> effA E f cf ops true rs o tm lv2 h2 = some { e with h := h2 }) /\
  (e.c = .r -> e.loc = none /\ e.h = h /\ (∀ lv2 h2, sameAt h h2 (rdId o (evOp E tm)) -> effA E f cf ops true rs o tm lv2 h2 = some { e with h := h2 }) /\ ∀ id, rdId o (evOp E tm) = some id -> h.get id ≠ .free) /\
  (e.c = .e -> e.loc = none /\ ∀ lv2, effA E f cf ops true rs o tm lv2 h = some e) /\
  (e.c = .b -> e.h = h /\ ∃ d cs, o.dst = some d /\ e.loc = some (d, cs) /\ lv d = none /\ ∀ lv2 h2, lv2 d = none -> effA E f cf ops true rs o tm lv2 h2 = some { e with h := h2 }) /\
  (e.c = .a -> e.loc = none /\ ∃ n x, rs = some n /\ h.get n = .free /\ x ≠ .free /\ e.h = h.set n x /\ ∀ lv2 h2, h2.get n = .free -> effA E f cf ops true rs o tm lv2 h2 = some { e with h := h2.set n x }) := by
 cases rs with
 | none =>
   simp only [effA] at he ⊢
   have hna := eff_not_a he
   obtain ⟨b, p, l, s, r, e', x⟩ := eff_indep hcfi he
   refine ⟨b, p, l, s, fun hc => ⟨(r hc).1, (r hc).2.1, fun lv2 h2 hs => ?_, fun id hid => ?_⟩, e', x, fun hc => absurd hc hna⟩
   ·obtain ⟨v, q1, q2, q3⟩ := eff_read (h2 := h2) he hc
    exact q3 (rSem_same q1 hs) lv2
   ·obtain ⟨v, q1, q2, q3⟩ := eff_read (h2 := h) he hc
    exact rSem_free q1 hid
 | some n =>
   unfold effA at he
   cases hw : wantedI ops tm o with
   | none => simp [hw] at he
   | some b =>
     simp only [hw] at he
     cases b with
     | false =>
       simp only [Option.some.injEq] at he
       subst he
       refine ⟨rfl, fun _ => ⟨rfl, rfl, fun lv2 h2 => by simp [effA, hw]⟩, ?_, ?_, ?_, ?_, ?_, ?_⟩ <;> intro hc <;> simp at hc
     | true =>
       simp only at he
       cases ha : aSh E f o (evOp E tm) n with
       | none => simp [ha] at he
       | some q =>
         obtain ⟨v, x⟩ := q
         simp only [ha] at he
         cases x with
         | none =>
           simp only [Option.some.injEq] at he
           subst he
           refine ⟨rfl, fun _ => ⟨rfl, rfl, fun lv2 h2 => by simp [effA, hw, ha]⟩, ?_, ?_, ?_, ?_, ?_, ?_⟩ <;> intro hc <;> simp at hc
         | some x =>
           simp only at he
           split at he
           case h_2 => cases he
           rename_i hf
           simp only [Option.some.injEq] at he
           subst he
           refine ⟨rfl, ?_, ?_, ?_, ?_, ?_, ?_, fun _ => ⟨rfl, n, x, rfl, hf, aSh_free ha, rfl, fun lv2 h2 h0 => by simp [effA, hw, ha, h0]⟩⟩ <;> intro hc <;> simp at hc
theorem AddrOk.appA (hcfi : CfIso E cf) {rs : Option Nat} {o : Oper} {F : FF} {h : Heap} {e : Ef} (hA : AddrOk F) (he : effA E f cf ops true rs o F.tm F.lv h = some e) : AddrOk (F.app o.dst e) := by
 cases rs with
 | none => exact hA.app hcfi he
 | some n =>
   have key : e.loc = none /\ e.box = false /\ ∀ tv, e.v = some tv -> (∃ x, tv = .v x) \/ tv = .u := by
    rcases effA_some he with rfl | ⟨v, ha, rfl⟩ | ⟨v, x, ha, _, rfl⟩
    ·exact ⟨rfl, rfl, fun tv e => by simp at e; exact .inr e.symm⟩
    ·exact ⟨rfl, rfl, fun tv e => .inl (aSh_v ha e)⟩
    ·exact ⟨rfl, rfl, fun tv e => .inl (aSh_v ha e)⟩
   intro k s off hk
   rw [app_tm key.2.1] at hk
   rw [app_lv key.2.1, key.1]
   split at hk
   ·rcases key.2.2 _ hk with ⟨x, hx⟩ | hx <;> cases hx
   ·exact hA k s off hk
theorem swap (hcfi : CfIso E cf) {ra ri : Option Nat} {a i : Oper} {F : FF} {h : Heap} {ea ei : Ef} (hA : AddrOk F) (hap : Oper.apart ops.toArray a i = true) (ha : effA E f cf ops true ra a F.tm F.lv h = some ea)
  (hi : effA E f cf ops true ri i (F.app a.dst ea).tm (F.app a.dst ea).lv ea.h = some ei) (hcl : clash ea.c ei.c = false)
  (hra : ea.c = .a -> ei.c = .r -> ∀ n id, ra = some n -> rdId i (evOp E F.tm) = some id -> n ≠ id) :
  ∃ ei' ea', effA E f cf ops true ri i F.tm F.lv h = some ei' /\ effA E f cf ops true ra a (F.app i.dst ei').tm (F.app i.dst ei').lv ei'.h = some ea' /\ ei'.c = ei.c /\ ea'.c = ea.c /\
   (F.app i.dst ei').app a.dst ea' = (F.app a.dst ea).app i.dst ei /\ ea'.h = ei.h /\ ea'.v = ea.v := by
 obtain ⟨s1, s2, s3⟩ := Oper.apart_spec hap
 obtain ⟨ab, ap, al, as_, ar, ae, ax, aa⟩ := effA_indep hcfi ha
 have hci : effA E f cf ops true ri i (F.app a.dst ea).tm (F.app a.dst ea).lv ea.h = effA E f cf ops true ri i F.tm (F.app a.dst ea).lv ea.h := by
  refine effA_cong (fun t ht => ?_)
  rw [app_tm ab]
  rw [if_neg (fun e => s1 t e ht)]
 rw [hci] at hi
 obtain ⟨ib, ip, il, is_, ir, ie, ix, ia⟩ := effA_indep hcfi hi
 have hlv : ea.loc = none -> (F.app a.dst ea).lv = F.lv := fun e => funext fun k => by rw [app_lv ab, e]
 have hloc : ea.loc = none \/ ∃ s cs, ea.loc = some (s, cs) /\ ((ea.c = .s /\ ∃ c0, F.lv s = some c0) \/ (ea.c = .b /\ a.dst = some s /\ F.lv s = none)) := by
  cases hc : ea.c with
  | p => exact .inl (ap hc).1
  | l => exact .inl (al hc).1
  | r => exact .inl (ar hc).1
  | e => exact .inl (ae hc).1
  | a => exact .inl (aa hc).1
  | s =>
    obtain ⟨_, t, s, off, cs, _, _, h1, h2, _⟩ := as_ hc
    exact .inr ⟨s, cs, h2, .inl ⟨rfl, h1⟩⟩
  | b =>
    obtain ⟨_, d, cs, h1, h2, h3, _⟩ := ax hc
    exact .inr ⟨d, cs, h2, .inr ⟨rfl, h1, h3⟩⟩
 have hlv1 : ∀ k, (F.app a.dst ea).lv k = match ea.loc with | some (s, cs) => if k = s then some cs else F.lv k | none => F.lv k := fun k => app_lv ab k
 have hkeep : ∀ s, (∃ cs, F.lv s = some cs) -> clash ea.c .s = false -> (F.app a.dst ea).lv s = F.lv s := by
  rintro s ⟨cs, hs⟩ hcs
  rw [hlv1]
  rcases hloc with hl | ⟨s', cs', hl, hk | hk⟩
  ·rw [hl]
  ·rw [hk.1] at hcs; simp [clash] at hcs
  ·rw [hl]
   simp only
   rw [if_neg]
   rintro rfl
   rw [hk.2.2] at hs; cases hs
 have hin : ∀ t s off, t ∈ i.looksAt ops.toArray -> F.tm t = some (.l s off) -> ∃ cs, F.lv s = some cs := fun t s off _ e => hA t s off e
 obtain ⟨ei', e1, e2, e3, e4, e5⟩ : ∃ ei', effA E f cf ops true ri i F.tm F.lv h = some ei' /\ ei'.c = ei.c /\ ei'.v = ei.v /\ ei'.loc = ei.loc /\ ((ei.c = .e /\ ei'.h = ei.h /\ ea.h = h) \/ ((ei.c ≠ .e /\ ei.c ≠ .a) /\ ei'.h = h /\ ei.h = ea.h) \/ (ei.c = .a /\ ∃ n x, x ≠ .free /\ h.get n = .free /\ ea.h.get n = .free /\ ei'.h = h.set n x /\ ei.h = ea.h.set n x)) := by
  cases hc : ei.c with
  | p =>
    obtain ⟨p1, p2, p3⟩ := ip hc
    exact ⟨_, p3 F.lv h, hc, rfl, rfl, .inr (.inl ⟨by simp, rfl, p2⟩)⟩
  | l =>
    obtain ⟨p1, p2, t, s, off, q1, q2, q3, p3⟩ := il hc
    have hk : (F.app a.dst ea).lv s = F.lv s := by
     rw [hlv1]
     rcases hloc with hl | ⟨s', cs', hl, hk | hk⟩
     ·rw [hl]
     ·rw [hk.1, hc] at hcl; simp [clash] at hcl
     ·rw [hl]
      simp only
      rw [if_neg]
      rintro rfl
      obtain ⟨c0, h0⟩ := hin t _ off q1 q2
      rw [hk.2.2] at h0; cases h0
    exact ⟨_, p3 F.lv h hk.symm, hc, rfl, rfl, .inr (.inl ⟨by simp, rfl, p2⟩)⟩
  | s =>
    obtain ⟨p2, t, s, off, cs, q1, q2, q3, q4, p3⟩ := is_ hc
    have hk : (F.app a.dst ea).lv s = F.lv s := hkeep s (hin t s off q1 q2) (by rw [hc] at hcl; exact hcl)
    exact ⟨_, p3 F.lv h hk.symm, hc, rfl, rfl, .inr (.inl ⟨by simp, rfl, p2⟩)⟩
  | b =>
    obtain ⟨p2, d, cs, q1, q2, q3, p3⟩ := ix hc
    have hk : F.lv d = none := by
     rw [hlv1] at q3
     rcases hloc with hl | ⟨s', cs', hl, hk⟩
     ·rw [hl] at q3; exact q3
     ·rw [hl] at q3
      simp only at q3
      split at q3
      ·cases q3
      ·exact q3
    exact ⟨_, p3 F.lv h hk, hc, rfl, rfl, .inr (.inl ⟨by simp, rfl, p2⟩)⟩
  | r =>
    obtain ⟨p1, p2, p3, p4⟩ := ir hc
    have hsm : sameAt ea.h h (rdId i (evOp E F.tm)) := by
     cases hca : ea.c with
     | p => rw [(ap hca).2.1]; exact sameAt_refl _ _
     | l => rw [(al hca).2.1]; exact sameAt_refl _ _
     | s => rw [(as_ hca).1]; exact sameAt_refl _ _
     | b => rw [(ax hca).1]; exact sameAt_refl _ _
     | r => rw [(ar hca).2.1]; exact sameAt_refl _ _
     | e => rw [hca, hc] at hcl; simp [clash] at hcl
     | a =>
       obtain ⟨_, n, x, q1, q2, q3, q4, _⟩ := aa hca
       cases hid : rdId i (evOp E F.tm) with
       | none => trivial
       | some id =>
         have := hra hca hc n id q1 hid
         show h.get id = ea.h.get id
         rw [q4, Heap.get_set, if_neg (fun e => this e.symm)]
    exact ⟨_, p3 F.lv h hsm, hc, rfl, rfl, .inr (.inl ⟨by simp, rfl, p2⟩)⟩
  | a =>
    obtain ⟨p1, n, x, q1, q2, q3, q4, p3⟩ := ia hc
    have hf : h.get n = .free := by
     cases hca : ea.c with
     | p => rw [(ap hca).2.1] at q2; exact q2
     | l => rw [(al hca).2.1] at q2; exact q2
     | s => rw [(as_ hca).1] at q2; exact q2
     | b => rw [(ax hca).1] at q2; exact q2
     | r => rw [(ar hca).2.1] at q2; exact q2
     | e => rw [hca, hc] at hcl; simp [clash] at hcl
     | a =>
       obtain ⟨_, n', x', _, _, r3, r4, _⟩ := aa hca
       rw [r4, Heap.get_set] at q2
       split at q2
       ·exact absurd q2 r3
       ·exact q2
    exact ⟨_, p3 F.lv h hf, hc, rfl, rfl, .inr (.inr ⟨rfl, n, x, q3, hf, q2, rfl, q4⟩)⟩
  | e =>
    obtain ⟨p1, p3⟩ := ie hc
    have hh : ea.h = h := by
     cases hca : ea.c with
     | p => exact (ap hca).2.1
     | l => exact (al hca).2.1
     | s => exact (as_ hca).1
     | b => exact (ax hca).1
     | r => rw [hca, hc] at hcl; simp [clash] at hcl
     | e => rw [hca, hc] at hcl; simp [clash] at hcl
     | a => rw [hca, hc] at hcl; simp [clash] at hcl
    have := p3 F.lv
    rw [hh] at this
    exact ⟨_, this, hc, rfl, rfl, .inl ⟨rfl, rfl, hh⟩⟩
 obtain ⟨ib', ip', il', is', ir', ie', ix', ia'⟩ := effA_indep hcfi e1
 have hca2 : effA E f cf ops true ra a (F.app i.dst ei').tm (F.app i.dst ei').lv ei'.h = effA E f cf ops true ra a F.tm (F.app i.dst ei').lv ei'.h := by
  refine effA_cong (fun t ht => ?_)
  rw [app_tm ib']
  rw [if_neg (fun e => s3 t e ht)]
 have hloc2 : ei'.loc = none \/ ∃ s cs, ei'.loc = some (s, cs) /\ ((ei'.c = .s /\ ∃ c0, F.lv s = some c0) \/ (ei'.c = .b /\ i.dst = some s /\ F.lv s = none)) := by
  cases hc : ei'.c with
  | p => exact .inl (ip' hc).1
  | l => exact .inl (il' hc).1
  | r => exact .inl (ir' hc).1
  | e => exact .inl (ie' hc).1
  | a => exact .inl (ia' hc).1
  | s =>
    obtain ⟨_, t, s, off, cs, _, _, h1, h2, _⟩ := is' hc
    exact .inr ⟨s, cs, h2, .inl ⟨rfl, h1⟩⟩
  | b =>
    obtain ⟨_, d, cs, h1, h2, h3, _⟩ := ix' hc
    exact .inr ⟨d, cs, h2, .inr ⟨rfl, h1, h3⟩⟩
 have hlv2 : ∀ k, (F.app i.dst ei').lv k = match ei'.loc with | some (s, cs) => if k = s then some cs else F.lv k | none => F.lv k := fun k => app_lv ib' k
 have hcl2 : clash ea.c ei'.c = false := by rw [e2]; exact hcl
 have hkeep2 : ∀ s, (∃ cs, F.lv s = some cs) -> ei'.c ≠ .s -> (F.app i.dst ei').lv s = F.lv s := by
  rintro s ⟨cs, hs⟩ hcs
  rw [hlv2]
  rcases hloc2 with hl | ⟨s', cs', hl, hk | hk⟩
  ·rw [hl]
  ·exact absurd hk.1 hcs
  ·rw [hl]
   simp only
   rw [if_neg]
   rintro rfl
   rw [hk.2.2] at hs; cases hs
 obtain ⟨ea', g1, g2, g3, g4, g5⟩ : ∃ ea', effA E f cf ops true ra a F.tm (F.app i.dst ei').lv ei'.h = some ea' /\ ea'.c = ea.c /\ ea'.v = ea.v /\ ea'.loc = ea.loc /\ ea'.h = ei.h := by
  cases hc : ea.c with
  | p =>
    obtain ⟨p1, p2, p3⟩ := ap hc
    refine ⟨_, p3 _ _, hc, rfl, rfl, ?_⟩
    rcases e5 with ⟨_, q1, _⟩ | ⟨_, q1, q2⟩ | ⟨_, n, x, _, _, _, q1, q2⟩
    ·exact q1
    ·show ei'.h = _; rw [q1, q2, p2]
    ·show ei'.h = _; rw [q1, q2, p2]
  | l =>
    obtain ⟨p1, p2, t, s, off, t1, t2, t3, p3⟩ := al hc
    refine ⟨_, p3 _ _ (hkeep2 s t3 (fun e => by rw [hc, e] at hcl2; simp [clash] at hcl2)), hc, rfl, rfl, ?_⟩
    rcases e5 with ⟨_, q1, _⟩ | ⟨_, q1, q2⟩ | ⟨_, n, x, _, _, _, q1, q2⟩
    ·exact q1
    ·show ei'.h = _; rw [q1, q2, p2]
    ·show ei'.h = _; rw [q1, q2, p2]
  | s =>
    obtain ⟨p2, t, s, off, cs, t1, t2, t3, t4, p3⟩ := as_ hc
    refine ⟨_, p3 _ _ (hkeep2 s t3 (fun e => by rw [hc, e] at hcl2; simp [clash] at hcl2)), hc, rfl, rfl, ?_⟩
    rcases e5 with ⟨_, q1, _⟩ | ⟨_, q1, q2⟩ | ⟨_, n, x, _, _, _, q1, q2⟩
    ·exact q1
    ·show ei'.h = _; rw [q1, q2, p2]
    ·show ei'.h = _; rw [q1, q2, p2]
  | b =>
    obtain ⟨p2, d, cs, t1, t2, t3, p3⟩ := ax hc
    have hk : (F.app i.dst ei').lv d = none := by
     rw [hlv2]
     rcases hloc2 with hl | ⟨s', cs', hl, hk | hk⟩
     ·rw [hl]; exact t3
     ·rw [hl]
      simp only
      rw [if_neg]
      ·exact t3
      ·rintro rfl
       obtain ⟨c0, hc0⟩ := hk.2
       rw [t3] at hc0; cases hc0
     ·rw [hl]
      simp only
      rw [if_neg]
      ·exact t3
      ·rintro rfl
       exact s2 _ t1 hk.2.1
    refine ⟨_, p3 _ _ hk, hc, rfl, rfl, ?_⟩
    rcases e5 with ⟨_, q1, _⟩ | ⟨_, q1, q2⟩ | ⟨_, n, x, _, _, _, q1, q2⟩
    ·exact q1
    ·show ei'.h = _; rw [q1, q2, p2]
    ·show ei'.h = _; rw [q1, q2, p2]
  | r =>
    obtain ⟨p1, p2, p3, p4⟩ := ar hc
    rcases e5 with ⟨q0, q1, _⟩ | ⟨_, q1, q2⟩ | ⟨_, n, x, _, q5, _, q1, q2⟩
    ·rw [hc, q0] at hcl; simp [clash] at hcl
    ·rw [q1]
     exact ⟨_, p3 _ h (sameAt_refl _ _), hc, rfl, rfl, by show h = ei.h; rw [q2, p2]⟩
    ·rw [q1]
     refine ⟨_, p3 _ _ ?_, hc, rfl, rfl, by show h.set n x = ei.h; rw [q2, p2]⟩
     cases hid : rdId a (evOp E F.tm) with
     | none => trivial
     | some id =>
       have := p4 id hid
       show (h.set n x).get id = h.get id
       rw [Heap.get_set, if_neg (fun e => this (by rw [e]; exact q5))]
  | e =>
    obtain ⟨p1, p3⟩ := ae hc
    rcases e5 with ⟨q0, q1, _⟩ | ⟨_, q1, q2⟩ | ⟨q0, _⟩
    ·rw [hc, q0] at hcl; simp [clash] at hcl
    ·rw [q1]
     exact ⟨_, p3 _, hc, rfl, rfl, q2.symm⟩
    ·rw [hc, q0] at hcl; simp [clash] at hcl
  | a =>
    obtain ⟨p1, n', x', p2, p3, p4, p5, p6⟩ := aa hc
    rcases e5 with ⟨q0, q1, _⟩ | ⟨_, q1, q2⟩ | ⟨_, n, x, q4, q5, q6, q1, q2⟩
    ·rw [hc, q0] at hcl; simp [clash] at hcl
    ·rw [q1]
     exact ⟨_, p6 _ h p3, hc, rfl, rfl, by show h.set n' x' = ei.h; rw [q2, p5]⟩
    ·have hne : n' ≠ n := by
      rintro rfl
      rw [p5, Heap.get_set, if_pos rfl] at q6
      exact p4 q6
     rw [q1]
     refine ⟨_, p6 _ (h.set n x) (by rw [Heap.get_set, if_neg hne]; exact p3), hc, rfl, rfl, ?_⟩
     show (h.set n x).set n' x' = ei.h
     rw [q2, p5, Heap.set_comm _ _ _ hne]
 rw [<- hca2] at g1
 have ab' : ea'.box = false := (effA_indep hcfi g1).1
 refine ⟨ei', ea', e1, g1, e2, g2, ?_, g5, g3⟩
 refine FF.ext' (fun k => ?_) (fun k => ?_)
 ·rw [app_tm ab', app_tm ib', app_tm ib, app_tm ab, e3, g3]
  by_cases h1 : a.dst = some k
  ·have h2 : i.dst ≠ some k := s2 k h1
   simp [h1, h2]
  ·simp [h1]
 ·rw [app_lv ab', app_lv ib', app_lv ib, app_lv ab, e4, g4]
  rcases hloc with hl | ⟨s, cs, hl, hk⟩
  ·rw [hl]
  ·rcases hloc2 with hl2 | ⟨s', cs', hl2, hk2⟩
   ·rw [e4] at hl2; rw [hl2]
   ·rw [e4] at hl2
    rw [hl, hl2]
    simp only
    have hne : s ≠ s' := by
     rintro rfl
     rcases hk with hk | hk <;> rcases hk2 with hk2 | hk2
     ·rw [hk.1, hk2.1] at hcl2; simp [clash] at hcl2
     ·obtain ⟨c0, h0⟩ := hk.2; rw [hk2.2.2] at h0; cases h0
     ·obtain ⟨c0, h0⟩ := hk2.2; rw [hk.2.2] at h0; cases h0
     ·exact s2 _ hk.2.1 hk2.2.1
    by_cases h1 : k = s
    ·subst h1; simp [hne]
    ·simp [h1]
theorem effA_read {rs : Option Nat} {o : Oper} {tm : Nat -> Option TV} {lv : Nat -> Option (List IV)} {h h2 : Heap} {e : Ef} (he : effA E f cf ops true rs o tm lv h = some e) (hc : e.c = .r) {v : TV} (hr : rSem E o (evOp E tm) h2 = some v) (hv : e.v = some v) :
  effA E f cf ops true rs o tm lv h2 = some { e with h := h2 } := by
 cases rs with
 | none =>
   obtain ⟨v', _, q2, q3⟩ := eff_read (h2 := h2) he hc
   rw [q2] at hv
   simp only [Option.some.injEq] at hv
   subst hv
   exact q3 hr lv
 | some n =>
   exfalso
   rcases effA_some he with rfl | ⟨v, ha, rfl⟩ | ⟨v, x, ha, _, rfl⟩ <;> cases hc
theorem swapR (hcfi : CfIso E cf) {ra ri : Option Nat} {a i : Oper} {F : FF} {h : Heap} {ea ei : Ef} (hap : Oper.apart ops.toArray a i = true) (ha : effA E f cf ops true ra a F.tm F.lv h = some ea)
  (hi : effA E f cf ops true ri i (F.app a.dst ea).tm (F.app a.dst ea).lv ea.h = some ei) (hac : ea.c = .r) (hic : ei.c = .e) (hsame : effA E f cf ops true ra a F.tm F.lv ei.h = some { ea with h := ei.h }) :
  effA E f cf ops true ri i F.tm F.lv h = some ei /\ effA E f cf ops true ra a (F.app i.dst ei).tm (F.app i.dst ei).lv ei.h = some { ea with h := ei.h } /\
   (F.app i.dst ei).app a.dst { ea with h := ei.h } = (F.app a.dst ea).app i.dst ei := by
 obtain ⟨s1, s2, s3⟩ := Oper.apart_spec hap
 obtain ⟨ab, ap, al, as_, ar, ae, ax, aa⟩ := effA_indep hcfi ha
 obtain ⟨ar1, ar2, _, _⟩ := ar hac
 have hl1 : (F.app a.dst ea).lv = F.lv := funext fun k => by rw [app_lv ab, ar1]
 have hci : effA E f cf ops true ri i (F.app a.dst ea).tm (F.app a.dst ea).lv ea.h = effA E f cf ops true ri i F.tm (F.app a.dst ea).lv ea.h := by
  refine effA_cong (fun t ht => ?_)
  rw [app_tm ab]
  rw [if_neg (fun e => s1 t e ht)]
 rw [hci, hl1, ar2] at hi
 obtain ⟨ib, ip, il, is_, ir, ie, ix, ia⟩ := effA_indep hcfi hi
 obtain ⟨ie1, _⟩ := ie hic
 have hl2 : (F.app i.dst ei).lv = F.lv := funext fun k => by rw [app_lv ib, ie1]
 have hca : effA E f cf ops true ra a (F.app i.dst ei).tm (F.app i.dst ei).lv ei.h = effA E f cf ops true ra a F.tm (F.app i.dst ei).lv ei.h := by
  refine effA_cong (fun t ht => ?_)
  rw [app_tm ib]
  rw [if_neg (fun e => s3 t e ht)]
 refine ⟨hi, by rw [hca, hl2]; exact hsame, FF.ext' (fun k => ?_) (fun k => ?_)⟩
 ·rw [app_tm (e := { ea with h := ei.h }) ab, app_tm ib, app_tm ib, app_tm ab]
  by_cases h1 : a.dst = some k
  ·have h2 : i.dst ≠ some k := s2 k h1
   simp [h1, h2]
  ·simp [h1]
 ·rw [app_lv (e := { ea with h := ei.h }) ab, app_lv ib, app_lv ib, app_lv ab, ie1]
end
end Go.Pv
