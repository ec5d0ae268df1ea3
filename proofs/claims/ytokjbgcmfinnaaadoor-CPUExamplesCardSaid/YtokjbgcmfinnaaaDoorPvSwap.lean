/-
  Pv: a region in whatever order its edges allow comes to what it comes to in the text's order.
  Conditions: none.
-/
import Derived.Test.YtokjbgcmfinnaaaDoorPvCong
set_option linter.unusedSimpArgs false
namespace Go.Pv

/-- a frame as two functions -/
structure FF where
  tm : Nat → Option TV
  lv : Nat → Option (List IV)

def Fr.ff (fr : Fr) : FF := ⟨fr.tm.get, fr.lv.get⟩
def FF.put (F : FF) (d : Option Tmp) (v : Option TV) : FF :=
  match d with
  | some t => { F with tm := fun k => if k = t then v else F.tm k }
  | none => F
def FF.lset (F : FF) (s : Nat) (cs : List IV) : FF := { F with lv := fun k => if k = s then some cs else F.lv k }
def FF.clr (F : FF) (s : Nat) : FF := { F with tm := fun k => match F.tm k with | some x => if notAt s x then some x else none | none => none }
def FF.app (F : FF) (d : Option Tmp) (e : Ef) : FF :=
  match e.loc with
  | some (s, cs) => if e.box then ((F.clr s).lset s cs).put d e.v else (F.put d e.v).lset s cs
  | none => F.put d e.v

theorem ff_put (fr : Fr) (d : Option Tmp) (v : Option TV) : (fr.put d v).ff = fr.ff.put d v := by
  cases d with
  | none => rfl
  | some t =>
    simp only [Fr.put, Fr.ff, FF.put]
    congr 1
    funext k
    rw [PT.get_set]
theorem ff_app (fr : Fr) (d : Option Tmp) (e : Ef) : (fr.app d e).ff = fr.ff.app d e := by
  unfold Fr.app FF.app
  cases e.loc with
  | none => exact ff_put _ _ _
  | some q =>
    obtain ⟨s, cs⟩ := q
    simp only
    split
    · rw [ff_put]
      congr 1
      simp only [Fr.box, Fr.ff, FF.lset, FF.clr]
      congr 1
      · funext k; rw [PT.get_filt]; cases fr.tm.get k <;> rfl
      · funext k; rw [PT.get_set]
    · have h1 := ff_put fr d e.v
      have h2 : (fr.put d e.v).lv = fr.lv := by cases d <;> rfl
      have h3 : (Fr.ff { fr.put d e.v with lv := fr.lv.set s (some cs) }) = (Fr.ff (fr.put d e.v)).lset s cs := by
        simp only [Fr.ff, FF.lset]
        congr 1
        funext k
        rw [PT.get_set, h2]
      rw [h3, h1]

section
variable (E : Env) (f : FuncId) (cf : FuncId → List IV → Heap → Option (IV × Heap)) (ops : List Oper) (bef : Nat → Nat)

/-- the run of a list of operations over frames as functions -/
def RunR (draw : Bool) : List (Oper × Nat) → Met → FF → Heap → FF → Heap → Prop
  | [], _, F, h, F', h' => F = F' ∧ h = h'
  | (o, i) :: r, m, F, h, F', h' => ∃ e, eff E f cf ops draw o F.tm F.lv h = some e ∧ (draw = true → within (m.chk e.c) (bef i) = true) ∧ RunR draw r (m.add e.c i) (F.app o.dst e) e.h F' h'

theorem runR_of {draw : Bool} : ∀ {l : List (Oper × Nat)} {m : Met} {fr fr' : Fr} {h h' : Heap}, runOps E f cf ops draw bef l m fr h = some (fr', h') → RunR E f cf ops bef draw l m fr.ff h fr'.ff h'
  | [], m, fr, fr', h, h', hr => by simp [runOps] at hr; obtain ⟨rfl, rfl⟩ := hr; exact ⟨rfl, rfl⟩
  | (o, i) :: r, m, fr, fr', h, h', hr => by
    unfold runOps at hr
    split at hr
    case h_2 => simp at hr
    rename_i e he
    split at hr
    case isFalse => simp at hr
    rename_i hw
    refine ⟨e, he, fun hd => by subst hd; simpa using hw, ?_⟩
    rw [← ff_app]
    exact runR_of hr
end

/-- two kinds that must be ordered -/
def clash : Cls → Cls → Bool
  | .l, .s => true
  | .s, .l => true
  | .s, .s => true
  | .r, .e => true
  | .e, .r => true
  | .e, .e => true
  | _, _ => false

section
variable {E : Env} {f : FuncId} {cf : FuncId → List IV → Heap → Option (IV × Heap)} {ops : List Oper}

theorem lSem_load {o : Oper} {ev : Operand → Option TV} {lv : Nat → Option (List IV)} {v : TV} (h : lSem E o ev lv = some v) : ∃ t a s off, o.op = .load t a ∧ ev a = some (.l s off) := by
  unfold lSem at h
  split at h
  · rename_i t a hop
    split at h
    · rename_i s off ha; exact ⟨t, a, s, off, hop, ha⟩
    · simp at h
  · simp at h
theorem sSem_store {o : Oper} {ev : Operand → Option TV} {lv : Nat → Option (List IV)} {v : Nat × List IV} (h : sSem E o ev lv = some v) : ∃ t a x s off, o.op = .store t a x ∧ ev a = some (.l s off) := by
  unfold sSem at h
  split at h
  · rename_i t a x hop
    split at h
    · rename_i s off v' ha hx; exact ⟨t, a, x, s, off, hop, ha⟩
    · simp at h
  · simp at h
theorem later_none {o : Oper} {ev : Operand → Option TV} {h : Heap} (hx : (rSem E o ev h).isSome ∨ (eSem E f o ev h).isSome ∨ (callSem o ev).isSome) (lv : Nat → Option (List IV)) : lSem E o ev lv = none ∧ sSem E o ev lv = none := by
  constructor
  · cases hl : lSem E o ev lv with
    | none => rfl
    | some v =>
      obtain ⟨t, a, s, off, hop, ha⟩ := lSem_load hl
      simp [rSem, eSem, callSem, hop, ha] at hx
  · cases hl : sSem E o ev lv with
    | none => rfl
    | some v =>
      obtain ⟨t, a, x, s, off, hop, ha⟩ := sSem_store hl
      simp [rSem, eSem, callSem, hop, ha] at hx
/-- the kinds of operations of each class that reads or writes the heap are told apart without the heap -/
theorem rSem_none {o : Oper} {ev : Operand → Option TV} {h : Heap} (hx : (eSem E f o ev h).isSome ∨ (callSem o ev).isSome) (h2 : Heap) : rSem E o ev h2 = none := by
  cases hr : rSem E o ev h2 with
  | none => rfl
  | some v =>
    unfold rSem at hr
    cases hop : o.op <;> simp only [hop] at hr <;> try (simp at hr; done)
    case load t a => simp [eSem, callSem, hop] at hx
    case convert s d x =>
      split at hr
      · rename_i e id off len h1 h2' h3
        simp [eSem, callSem, hop, h1, h2', h3] at hx
      · simp at hr
    case slice t x lo hi mx => simp [eSem, callSem, hop] at hx
    case lookup t x k ok => simp [eSem, callSem, hop] at hx
    case call c =>
      obtain ⟨callee, args, argTypes⟩ := c
      cases callee with
      | value x => simp at hr
      | invoke x n => simp at hr
      | builtin b => cases b <;> simp at hr <;> simp [eSem, callSem, hop] at hx

theorem eff_indep {o : Oper} {tm : Nat → Option TV} {lv : Nat → Option (List IV)} {h : Heap} {e : Ef} (he : eff E f cf ops true o tm lv h = some e) :
    e.box = false ∧
    (e.c = .p → e.loc = none ∧ e.h = h ∧ ∀ lv2 h2, eff E f cf ops true o tm lv2 h2 = some { e with h := h2 }) ∧
    (e.c = .l → e.loc = none ∧ e.h = h ∧ ∀ h2, eff E f cf ops true o tm lv h2 = some { e with h := h2 }) ∧
    (e.c = .s → e.h = h ∧ ∀ h2, eff E f cf ops true o tm lv h2 = some { e with h := h2 }) ∧
    (e.c = .r → e.loc = none ∧ e.h = h ∧ ∀ lv2, eff E f cf ops true o tm lv2 h = some e) ∧
    (e.c = .e → e.loc = none ∧ ∀ lv2, eff E f cf ops true o tm lv2 h = some e) := by
  unfold eff at he
  cases hw : wantedI ops tm o with
  | none => simp [hw] at he
  | some b =>
    simp only [hw] at he
    cases b with
    | false =>
      simp only [Option.some.injEq] at he
      subst he
      refine ⟨rfl, fun _ => ⟨rfl, rfl, fun lv2 h2 => by simp [eff, hw]⟩, ?_, ?_, ?_, ?_⟩ <;> intro hc <;> simp at hc
    | true =>
      simp only at he
      have hE : ∀ lv2 h2, eff E f cf ops true o tm lv2 h2 = effW E f cf true o (evOp E tm) lv2 h2 := fun lv2 h2 => by simp [eff, hw]
      simp only [hE]
      unfold effW at he ⊢
      cases hp : pSem E f o (evOp E tm) with
      | some q =>
        obtain ⟨v, bx⟩ := q
        simp only [hp] at he ⊢
        split at he
        · rename_i cs d hd
          simp only [if_true] at he
          split at he
          case h_2 => cases he
          rename_i hlv
          simp only [Option.some.injEq] at he
          subst he
          refine ⟨rfl, ?_, ?_, fun _ => ⟨rfl, fun h2 => by simp [hlv]⟩, ?_, ?_⟩ <;> intro hc <;> simp at hc
        · rename_i hbx
          simp only [Option.some.injEq] at he
          subst he
          refine ⟨rfl, fun _ => ⟨rfl, rfl, fun lv2 h2 => rfl⟩, ?_, ?_, ?_, ?_⟩ <;> intro hc <;> simp at hc
        · simp at he
      | none =>
        simp only [hp] at he ⊢
        cases hl : lSem E o (evOp E tm) lv with
        | some v =>
          simp only [hl, Option.some.injEq] at he
          subst he
          refine ⟨rfl, ?_, fun _ => ⟨rfl, rfl, fun h2 => by simp only [hl]⟩, ?_, ?_, ?_⟩ <;> intro hc <;> simp at hc
        | none =>
          simp only [hl] at he
          cases hs : sSem E o (evOp E tm) lv with
          | some q =>
            obtain ⟨s, cs⟩ := q
            simp only [hs, Option.some.injEq] at he
            subst he
            refine ⟨rfl, ?_, ?_, fun _ => ⟨rfl, fun h2 => by simp only [hl, hs]⟩, ?_, ?_⟩ <;> intro hc <;> simp at hc
          | none =>
            simp only [hs] at he
            cases hr : rSem E o (evOp E tm) h with
            | some v =>
              simp only [hr, Option.some.injEq] at he
              subst he
              have hn := fun lv2 => later_none (E := E) (f := f) (o := o) (ev := evOp E tm) (h := h) (.inl (by simp [hr])) lv2
              refine ⟨rfl, ?_, ?_, ?_, fun _ => ⟨rfl, rfl, fun lv2 => by simp only [(hn lv2).1, (hn lv2).2, hr]⟩, ?_⟩ <;> intro hc <;> simp at hc
            | none =>
              simp only [hr] at he
              cases hee : eSem E f o (evOp E tm) h with
              | some q =>
                obtain ⟨v, h'⟩ := q
                simp only [hee, Option.some.injEq] at he
                subst he
                have hn := fun lv2 => later_none (E := E) (f := f) (o := o) (ev := evOp E tm) (h := h) (.inr (.inl (by simp [hee]))) lv2
                refine ⟨rfl, ?_, ?_, ?_, ?_, fun _ => ⟨rfl, fun lv2 => by simp only [(hn lv2).1, (hn lv2).2, hr, hee]⟩⟩ <;> intro hc <;> simp at hc
              | none =>
                simp only [hee] at he
                cases hcl : callSem o (evOp E tm) with
                | none => simp [hcl] at he
                | some q =>
                  obtain ⟨g, xs⟩ := q
                  simp only [hcl] at he
                  split at he
                  case h_2 => simp at he
                  rename_i v h' hcf
                  simp only [Option.some.injEq] at he
                  subst he
                  have hn := fun lv2 => later_none (E := E) (f := f) (o := o) (ev := evOp E tm) (h := h) (.inr (.inr (by simp [hcl]))) lv2
                  refine ⟨rfl, ?_, ?_, ?_, ?_, fun _ => ⟨rfl, fun lv2 => by simp only [(hn lv2).1, (hn lv2).2, hr, hee, hcl, hcf]⟩⟩ <;> intro hc <;> simp at hc

theorem wanted_cong {o : Oper} {tm tm' : Nat → Option TV} (h : ∀ t ∈ o.looksAt ops.toArray, tm t = tm' t) : wantedI ops tm o = wantedI ops tm' o := by
  unfold wantedI
  cases hg : o.guard with
  | none => rfl
  | some q =>
    obtain ⟨j, b⟩ := q
    simp only
    cases hd : (ops[j]?).bind (·.dst) with
    | none => rfl
    | some d =>
      have : d ∈ o.looksAt ops.toArray := by
        simp only [Oper.looksAt, hg, List.getElem?_toArray, hd]
        simp
      simp only [h d this]
theorem evOp_cong {o : Oper} {tm tm' : Nat → Option TV} (h : ∀ t ∈ o.looksAt ops.toArray, tm t = tm' t) : ∀ x ∈ o.op.operands, evOp E tm x = evOp E tm' x := by
  intro x hx
  cases x with
  | tmp t =>
    simp only [evOp]
    refine h t ?_
    simp only [Oper.looksAt, List.mem_append, List.mem_filterMap]
    exact .inl ⟨.tmp t, by simpa using hx, rfl⟩
  | const v => rfl
  | global g => rfl
  | func g => rfl
theorem eff_cong {draw : Bool} {o : Oper} {tm tm' : Nat → Option TV} {lv : Nat → Option (List IV)} {h : Heap} (hh : ∀ t ∈ o.looksAt ops.toArray, tm t = tm' t) : eff E f cf ops draw o tm lv h = eff E f cf ops draw o tm' lv h := by
  have hc := evOp_cong (E := E) hh
  simp only [eff, wanted_cong hh, effW, pSem_cong (E := E) (f := f) hc, lSem_cong (E := E) (lv := lv) (lv' := lv) hc (fun _ => rfl), sSem_cong (E := E) (lv := lv) (lv' := lv) hc (fun _ => rfl), rSem_cong (E := E) (h := h) hc, eSem_cong (E := E) (f := f) (h := h) hc, callSem_cong hc]

theorem FF.ext' {F G : FF} (h1 : ∀ k, F.tm k = G.tm k) (h2 : ∀ k, F.lv k = G.lv k) : F = G := by
  obtain ⟨a, b⟩ := F
  obtain ⟨c, d⟩ := G
  have e1 : a = c := funext h1
  have e2 : b = d := funext h2
  subst e1; subst e2; rfl

/-- how a frame reads behind an operation of a drawn region -/
theorem app_tm {F : FF} {d : Option Tmp} {e : Ef} (hb : e.box = false) (k : Nat) : (F.app d e).tm k = if d = some k then e.v else F.tm k := by
  unfold FF.app
  cases e.loc with
  | none =>
    cases d with
    | none => simp [FF.put]
    | some t =>
      simp only [FF.put, Option.some.injEq]
      by_cases h : k = t
      · simp [h]
      · simp [h, show ¬ t = k from fun e => h e.symm]
  | some q =>
    simp only [hb, Bool.false_eq_true, if_false, FF.lset]
    cases d with
    | none => simp [FF.put]
    | some t =>
      simp only [FF.put, Option.some.injEq]
      by_cases h : k = t
      · simp [h]
      · simp [h, show ¬ t = k from fun e => h e.symm]
theorem app_lv {F : FF} {d : Option Tmp} {e : Ef} (hb : e.box = false) (k : Nat) : (F.app d e).lv k = match e.loc with | some (s, cs) => if k = s then some cs else F.lv k | none => F.lv k := by
  unfold FF.app
  cases hl : e.loc with
  | none => cases d <;> rfl
  | some q =>
    simp only [hb, Bool.false_eq_true, if_false, FF.lset]
    cases d <;> rfl

theorem swap {a i : Oper} {F : FF} {h : Heap} {ea ei : Ef} (hap : Oper.apart ops.toArray a i = true) (ha : eff E f cf ops true a F.tm F.lv h = some ea)
    (hi : eff E f cf ops true i (F.app a.dst ea).tm (F.app a.dst ea).lv ea.h = some ei) (hcl : clash ea.c ei.c = false) :
    ∃ ei' ea', eff E f cf ops true i F.tm F.lv h = some ei' ∧ eff E f cf ops true a (F.app i.dst ei').tm (F.app i.dst ei').lv ei'.h = some ea' ∧ ei'.c = ei.c ∧ ea'.c = ea.c ∧
      (F.app i.dst ei').app a.dst ea' = (F.app a.dst ea).app i.dst ei ∧ ea'.h = ei.h := by
  obtain ⟨s1, s2, s3⟩ := Oper.apart_spec hap
  obtain ⟨ab, ap, al, as_, ar, ae⟩ := eff_indep ha
  -- the second reads the same slots before the first
  have hci : eff E f cf ops true i (F.app a.dst ea).tm (F.app a.dst ea).lv ea.h = eff E f cf ops true i F.tm (F.app a.dst ea).lv ea.h := by
    refine eff_cong (fun t ht => ?_)
    rw [app_tm ab]
    rw [if_neg (fun e => s1 t e ht)]
  rw [hci] at hi
  obtain ⟨ib, ip, il, is_, ir, ie⟩ := eff_indep hi
  have hlv : ea.loc = none → (F.app a.dst ea).lv = F.lv := fun e => funext fun k => by rw [app_lv ab, e]
  -- the second, first
  obtain ⟨ei', e1, e2, e3, e4, e5⟩ : ∃ ei', eff E f cf ops true i F.tm F.lv h = some ei' ∧ ei'.c = ei.c ∧ ei'.v = ei.v ∧ ei'.loc = ei.loc ∧ ((ei.c = .e ∧ ei'.h = ei.h ∧ ea.h = h) ∨ (ei.c ≠ .e ∧ ei'.h = h ∧ ei.h = ea.h)) := by
    cases hc : ei.c with
    | p =>
      obtain ⟨p1, p2, p3⟩ := ip hc
      exact ⟨_, p3 F.lv h, hc, rfl, rfl, .inr ⟨by simp, rfl, p2⟩⟩
    | l =>
      obtain ⟨p1, p2, p3⟩ := il hc
      have : ea.loc = none := by
        cases hca : ea.c with
        | p => exact (ap hca).1
        | l => exact (al hca).1
        | s => rw [hca, hc] at hcl; simp [clash] at hcl
        | r => exact (ar hca).1
        | e => exact (ae hca).1
      rw [hlv this] at p3
      exact ⟨_, p3 h, hc, rfl, rfl, .inr ⟨by simp, rfl, p2⟩⟩
    | s =>
      obtain ⟨p2, p3⟩ := is_ hc
      have : ea.loc = none := by
        cases hca : ea.c with
        | p => exact (ap hca).1
        | l => rw [hca, hc] at hcl; simp [clash] at hcl
        | s => rw [hca, hc] at hcl; simp [clash] at hcl
        | r => exact (ar hca).1
        | e => exact (ae hca).1
      rw [hlv this] at p3
      exact ⟨_, p3 h, hc, rfl, rfl, .inr ⟨by simp, rfl, p2⟩⟩
    | r =>
      obtain ⟨p1, p2, p3⟩ := ir hc
      have hh : ea.h = h := by
        cases hca : ea.c with
        | p => exact (ap hca).2.1
        | l => exact (al hca).2.1
        | s => exact (as_ hca).1
        | r => exact (ar hca).2.1
        | e => rw [hca, hc] at hcl; simp [clash] at hcl
      have := p3 F.lv
      rw [hh] at this
      exact ⟨_, this, hc, rfl, rfl, .inr ⟨by simp, by rw [p2, hh], p2⟩⟩
    | e =>
      obtain ⟨p1, p3⟩ := ie hc
      have hh : ea.h = h := by
        cases hca : ea.c with
        | p => exact (ap hca).2.1
        | l => exact (al hca).2.1
        | s => exact (as_ hca).1
        | r => rw [hca, hc] at hcl; simp [clash] at hcl
        | e => rw [hca, hc] at hcl; simp [clash] at hcl
      have := p3 F.lv
      rw [hh] at this
      exact ⟨_, this, hc, rfl, rfl, .inl ⟨rfl, rfl, hh⟩⟩
  have ib' : ei'.box = false := (eff_indep e1).1
  -- the first, second
  have hca2 : eff E f cf ops true a (F.app i.dst ei').tm (F.app i.dst ei').lv ei'.h = eff E f cf ops true a F.tm (F.app i.dst ei').lv ei'.h := by
    refine eff_cong (fun t ht => ?_)
    rw [app_tm ib']
    rw [if_neg (fun e => s3 t e ht)]
  have hlv' : ei.loc = none → (F.app i.dst ei').lv = F.lv := fun e => funext fun k => by rw [app_lv ib', e4, e]
  obtain ⟨ea', g1, g2, g3, g4, g5⟩ : ∃ ea', eff E f cf ops true a F.tm (F.app i.dst ei').lv ei'.h = some ea' ∧ ea'.c = ea.c ∧ ea'.v = ea.v ∧ ea'.loc = ea.loc ∧ ea'.h = ei.h := by
    have hil : ea.c = .l ∨ ea.c = .s → ei.loc = none := by
      intro hq
      cases hc : ei.c with
      | p => exact (ip hc).1
      | l => exact (il hc).1
      | s => rcases hq with hq | hq <;> (rw [hq, hc] at hcl; simp [clash] at hcl)
      | r => exact (ir hc).1
      | e => exact (ie hc).1
    cases hc : ea.c with
    | p =>
      obtain ⟨p1, p2, p3⟩ := ap hc
      refine ⟨_, p3 _ _, hc, rfl, rfl, ?_⟩
      rcases e5 with ⟨_, q1, _⟩ | ⟨_, q1, q2⟩
      · exact q1
      · show ei'.h = _; rw [q1, q2, p2]
    | l =>
      obtain ⟨p1, p2, p3⟩ := al hc
      rw [hlv' (hil (.inl hc))]
      refine ⟨_, p3 _, hc, rfl, rfl, ?_⟩
      rcases e5 with ⟨_, q1, _⟩ | ⟨_, q1, q2⟩
      · exact q1
      · show ei'.h = _; rw [q1, q2, p2]
    | s =>
      obtain ⟨p2, p3⟩ := as_ hc
      rw [hlv' (hil (.inr hc))]
      refine ⟨_, p3 _, hc, rfl, rfl, ?_⟩
      rcases e5 with ⟨_, q1, _⟩ | ⟨_, q1, q2⟩
      · exact q1
      · show ei'.h = _; rw [q1, q2, p2]
    | r =>
      obtain ⟨p1, p2, p3⟩ := ar hc
      rcases e5 with ⟨q0, q1, _⟩ | ⟨_, q1, q2⟩
      · rw [hc, q0] at hcl; simp [clash] at hcl
      · rw [q1]
        exact ⟨_, p3 _, hc, rfl, rfl, q2.symm⟩
    | e =>
      obtain ⟨p1, p3⟩ := ae hc
      rcases e5 with ⟨q0, q1, _⟩ | ⟨_, q1, q2⟩
      · rw [hc, q0] at hcl; simp [clash] at hcl
      · rw [q1]
        exact ⟨_, p3 _, hc, rfl, rfl, q2.symm⟩
  rw [← hca2] at g1
  have ab' : ea'.box = false := (eff_indep g1).1
  refine ⟨ei', ea', e1, g1, e2, g2, ?_, g5⟩
  refine FF.ext' (fun k => ?_) (fun k => ?_)
  · rw [app_tm ab', app_tm ib', app_tm ib, app_tm ab, e3, g3]
    by_cases h1 : a.dst = some k
    · have h2 : i.dst ≠ some k := s2 k h1
      simp [h1, h2]
    · simp [h1]
  · rw [app_lv ab', app_lv ib', app_lv ib, app_lv ab, e4, g4]
    cases hla : ea.loc with
    | none => rfl
    | some q =>
      cases hli : ei.loc with
      | none => rfl
      | some q' =>
        have c1 : ea.c = .s := by
          cases hc : ea.c with
          | p => rw [(ap hc).1] at hla; simp at hla
          | l => rw [(al hc).1] at hla; simp at hla
          | s => rfl
          | r => rw [(ar hc).1] at hla; simp at hla
          | e => rw [(ae hc).1] at hla; simp at hla
        have c2 : ei.c = .s := by
          cases hc : ei.c with
          | p => rw [(ip hc).1] at hli; simp at hli
          | l => rw [(il hc).1] at hli; simp at hli
          | s => rfl
          | r => rw [(ir hc).1] at hli; simp at hli
          | e => rw [(ie hc).1] at hli; simp at hli
        rw [c1, c2] at hcl
        simp [clash] at hcl
end
end Go.Pv
