import Derived.Test.YtmfnadojephcpaaPvRegion
import Derived.Test.YtmfnadojephcpaaPvFrz
import Derived.Scope
import Derived.LoopN
set_option linter.unusedSimpArgs false
namespace Go.Pv
def regOkB (ops : List Oper) (bef : Nat -> Nat) : Bool :=
 ops.zipIdx.all fun (o, i) =>
  o.after.toList.all (fun e => !Region.binds .any e || decide (e.on < i)) &&
  (ops.zipIdx.all (fun (oa, a) => !decide (a < i) || (bef i).testBit a || Oper.apart ops.toArray oa o) &&
  within (bef i) (o.after.toList.foldl (fun s e => if Region.binds .any e then s ||| bit e.on ||| bef e.on else s) 0))
theorem fold_bits (bef : Nat -> Nat) (a : Nat) : ∀ (l : List Edge) (s : Nat), (l.foldl (fun s e => if Region.binds .any e then s ||| bit e.on ||| bef e.on else s) s).testBit a = true ->
  s.testBit a = true \/ ∃ e ∈ l, Region.binds .any e = true /\ (e.on = a \/ (bef e.on).testBit a = true)
 | [], s, h => .inl h
 | e :: l, s, h => by
   simp only [List.foldl_cons] at h
   rcases fold_bits bef a l _ h with h | ⟨e', h1, h2⟩
   ·split at h
    ·rename_i hb
     simp only [Nat.testBit_or, Bool.or_eq_true, testBit_bit, decide_eq_true_eq] at h
     rcases h with (h | h) | h
     ·exact .inl h
     ·exact .inr ⟨e, by simp, hb, .inl h⟩
     ·exact .inr ⟨e, by simp, hb, .inr h⟩
    ·exact .inl h
   ·exact .inr ⟨e', by simp [h1], h2⟩
theorem mem_zip {ops : List Oper} {i : Nat} {o : Oper} (h : ops[i]? = some o) : (o, i) ∈ ops.zipIdx := by
 rw [List.mem_zipIdx_iff_getElem?]; exact h
theorem regOk_of {ops : List Oper} {bef : Nat -> Nat} (h : regOkB ops bef = true) : RegOk ops bef := by
 unfold regOkB at h
 rw [List.all_eq_true] at h
 have h' : ∀ i o, ops[i]? = some o -> _ := fun i o ho => h (o, i) (mem_zip ho)
 simp only [Bool.and_eq_true, List.all_eq_true] at h'
 refine ⟨fun i o ho e he hb => ?_, fun i o a oa ho hlt hoa hnb => ?_, fun i o a ho hb => ?_⟩
 ·have := (h' i o ho).1 e he
  simpa [hb] using this
 ·have := (h' i o ho).2.1 (oa, a) (mem_zip hoa)
  simpa [hlt, hnb] using this
 ·have hw := (within_iff _ _).1 (h' i o ho).2.2 a hb
  rcases fold_bits bef a _ _ hw with h0 | h1
  ·simp at h0
  ·exact h1
def codeOk (n : Nat) : Code -> Bool
 | .region _ ops draw => ops.toList.all (fun o => match o.dst with | some t => decide (t < n) | none => true) && (!draw || regOkB ops.toList (befOf ops))
 | .seq a b => codeOk n a && codeOk n b
 | .cond _ a b => codeOk n a && codeOk n b
 | .block _ c => codeOk n c
 | .loop c => codeOk n c
 | .scope c => codeOk n c
 | _ => true
def funcOk (fn : Func) : Bool :=
 match fn.body with
 | some c => codeOk fn.ntmps c && !(fn.name == "runtime.NumGoroutine")
 | none => true
def progOk (P : Program) : Bool := P.funcs.toList.all funcOk
def Ex.toExit : Ex -> Exit
 | .normal => .normal
 | .exit id => .exit id
 | .ret => .ret
section
variable {E : Env} {f : FuncId} {cf : FuncId -> List IV -> Heap -> Option (IV × Heap)} {N B n : Nat}
theorem todo_zip {ops : List Oper} (hd : ops.all (fun o => match o.dst with | some t => decide (t < n) | none => true) = true) : Todo ops n ops.zipIdx := by
 refine ⟨fun p hp => ?_, fun p hp t ht => ?_⟩
 ·obtain ⟨o, i⟩ := p
  exact (List.mem_zipIdx_iff_getElem?).1 hp
 ·obtain ⟨o, i⟩ := p
  have ho := (List.mem_zipIdx_iff_getElem?).1 hp
  rw [List.all_eq_true] at hd
  have := hd o (List.mem_of_getElem? ho)
  simp only at ht
  rw [ht] at this
  simpa using this
theorem rise_zip (ops : List Oper) : ops.zipIdx.Pairwise (fun p q => ahead ops p q = true) := by
 rw [List.pairwise_iff_getElem]
 intro i j hi hj hij
 simp only [List.getElem_zipIdx, ahead, Bool.or_eq_true]
 exact .inl (Nat.ble_eq_true_of_le (by omega))
theorem mem_pick {ops : List Oper} {l : List Nat} {p : Oper × Nat} : p ∈ pickL ops l ↔ p.2 ∈ l /\ ops[p.2]? = some p.1 := by
 unfold pickL
 simp only [List.mem_filterMap, Option.map_eq_some_iff]
 constructor
 ·rintro ⟨i, hi, o, ho, rfl⟩
  exact ⟨hi, ho⟩
 ·rintro ⟨h1, h2⟩
  exact ⟨p.2, h1, p.1, h2, rfl⟩
theorem ordL_cases (l : List Nat) (draw : Bool) (ops : List Oper) : ordL l draw ops = ops.zipIdx \/ (draw = true /\ ordL l draw ops = pickL ops l /\ l.length <= ops.length /\ (∀ j, j < ops.length -> j ∈ l) /\ aheadL ops (pickL ops l) = true) := by
 unfold ordL
 split
 ·rename_i i r
  split
  ·rename_i h
   simp only [Bool.and_eq_true, List.all_eq_true, List.mem_range] at h
   exact .inr ⟨rfl, rfl, Nat.le_of_ble_eq_true h.1.1, fun j hj => by simpa using h.1.2 j hj, h.2⟩
  ·exact .inl rfl
 ·exact .inl rfl
theorem zip_snd (ops : List Oper) : ops.zipIdx.map (·.2) = List.range ops.length := by
 apply List.ext_getElem?
 intro i
 by_cases h : i < ops.length
 ·simp [h, List.getElem?_range]
 ·simp [h]
theorem lst_start (ops : List Oper) : Lst ops ops.zipIdx (Array.replicate ops.length false) := by
 refine ⟨by simp, fun i hi => ?_, fun j o hj hl => ?_⟩
 ·simp only [Array.getD_eq_getD_getElem?, Array.getElem?_replicate, hi, if_true, Option.getD_some, true_iff]
  exact ⟨(ops[i], i), mem_zip (List.getElem?_eq_getElem hi), rfl⟩
 ·have hlt := (List.getElem?_eq_some_iff.1 hj).1
  simp [Array.getD_eq_getD_getElem?, hlt] at hl
theorem lst_pick {ops : List Oper} {l : List Nat} (h : ∀ j, j < ops.length -> j ∈ l) : Lst ops (pickL ops l) (Array.replicate ops.length false) := by
 have h0 := lst_start ops
 refine ⟨h0.size, fun i hi => ?_, h0.clos⟩
 rw [h0.iff_ i hi]
 constructor
 ·rintro ⟨q, hq, e⟩
  exact ⟨q, mem_pick.2 ⟨by rw [e]; exact h i hi, (List.mem_zipIdx_iff_getElem?).1 hq⟩, e⟩
 ·rintro ⟨q, hq, e⟩
  exact ⟨q, mem_zip (mem_pick.1 hq).2, e⟩
theorem todo_pick {ops : List Oper} {l : List Nat} (h : Todo ops n ops.zipIdx) : Todo ops n (pickL ops l) :=
 ⟨fun _ hp => (mem_pick.1 hp).2, fun p hp => h.dst p (mem_zip (mem_pick.1 hp).2)⟩
structure Sim (E : Env) (B n : Nat) (M : Meta) (h : Heap) (w : World) (fr : Fr) (a : Act) (pb : Nat -> Nat) : Prop where
 glob : GOK E M
 inv : Inv M h w
 fr : FR M h w B n fr.ff a pb
 le : B <= w.heap.size
theorem Nxt.sim {M M' : Meta} {h h' : Heap} {w w' : World} {fr' : Fr} {a a' : Act} {pb' : Nat -> Nat} (x : Nxt E B n M h w a fr'.ff h' a' w' M' pb') (hB : B <= w.heap.size) : Sim E B n M' h' w' fr' a' pb' := ⟨x.glob, x.inv, x.fr, Nat.le_trans hB x.pres.size⟩
theorem FR.forget1 {M : Meta} {h : Heap} {w : World} {fr : Fr} {a : Act} {pb : Nat -> Nat} (s : Nat) (hF : FR M h w B n fr.ff a pb) : FR M h w B n (Fr.ff { tm := fr.tm.filt (notAt s), lv := fr.lv.set s none }) a pb := by
 have htm : ∀ k tv, (fr.tm.filt (notAt s)).get k = some tv -> fr.tm.get k = some tv /\ notAt s tv = true := by
  intro k tv e
  rw [PT.get_filt] at e
  split at e
  ·rename_i x hx
   split at e
   ·rename_i hn
    simp only [Option.some.injEq] at e
    subst e
    exact ⟨hx, hn⟩
   ·cases e
  ·cases e
 have hlv : ∀ t cs, (fr.lv.set s none).get t = some cs -> t ≠ s /\ fr.lv.get t = some cs := by
  intro t cs e
  rw [PT.get_set] at e
  split at e
  ·cases e
  ·rename_i hk
   exact ⟨hk, e⟩
 refine ⟨hF.size, fun k tv e => hF.tm k tv (htm k tv e).1, fun t cs e => hF.loc t cs (hlv t cs e).2, fun t t' c1 c2 e1 e2 e3 => hF.one t t' c1 c2 (hlv t c1 e1).2 (hlv t' c2 e2).2 e3, fun k t off e => ?_⟩
 obtain ⟨h1, h2⟩ := htm k _ e
 have hts : t ≠ s := by simpa [notAt] using h2
 obtain ⟨cs, hc⟩ := hF.addr k t off h1
 refine ⟨cs, ?_⟩
 show (fr.lv.set s none).get t = some cs
 rw [PT.get_set, if_neg hts]
 exact hc
theorem FR.forget {M : Meta} {h : Heap} {w : World} {a : Act} {pb : Nat -> Nat} : ∀ (l : List Nat) {fr : Fr}, FR M h w B n fr.ff a pb -> FR M h w B n (fr.forget l).ff a pb
 | [], _, hF => hF
 | s :: r, _, hF => FR.forget r (hF.forget1 s)
theorem FR.start {M : Meta} {h : Heap} {w : World} {a : Act} {pb : Nat -> Nat} {fr : Fr} {f : FuncId} {ops : List Oper} {draw : Bool} (hF : FR M h w B n fr.ff a pb) : FR M h w B n (fr.start E f ops draw).ff a pb := by
 unfold Fr.start
 split
 ·exact FR.forget _ hF
 ·exact hF
def Goes (E : Env) (B n : Nat) (c : Code) (fr : Fr) (h : Heap) (ex : Ex) (fr' : Fr) (h' : Heap) : Prop :=
 ∀ M w a pb, Sim E B n M h w fr a pb -> ∀ Q : Exit -> Act -> World -> Prop, (∀ a' w' M' pb', Nxt E B n M h w a fr'.ff h' a' w' M' pb' -> Q ex.toExit a' w') -> c.wp E.P Q a w
theorem region_sim (hcf : CFok E cf) (hcfi : CfIso E cf) (hm : E.P.follows .mixedOrders = true) {id : Nat} {ops : Array Oper} {draw : Bool} {fr fr' : Fr} {h h' : Heap} (hok : codeOk n (.region id ops draw) = true)
  (hr : runOps E f cf ops.toList draw (befOf ops) (E.an f id) (rsOf h.next (E.an f id)) (ordL (E.od f id) draw ops.toList) {} [] fr (h.reserve (E.an f id).length) = some (fr', h')) : Goes E B n (.region id ops draw) fr h .normal fr' h' := by
 intro M0 w a pb hs0 Q hQ0
 obtain ⟨M, hI0, hP0⟩ := hs0.inv.reserve (E.an f id).length
 have hs : Sim E B n M (h.reserve (E.an f id).length) w fr a pb := ⟨hs0.glob.mono hP0.ext, hI0, hs0.fr.step hP0, hs0.le⟩
 have hQ : ∀ a' w' M' pb', Nxt E B n M (h.reserve (E.an f id).length) w a fr'.ff h' a' w' M' pb' -> Q Ex.normal.toExit a' w' := fun a' w' M' pb' hx => hQ0 a' w' M' pb' ⟨hx.fr, hx.inv, hx.glob, (hP0.mono hs0.le).trans hx.pres, hx.defers⟩
 simp only [codeOk, Bool.and_eq_true] at hok
 have hrr := runR_of (E := E) (f := f) (cf := cf) (ops := ops.toList) (bef := befOf ops) hr
 have hT := todo_zip hok.1
 cases draw with
 | false =>
   refine wp_region ?_
   rw [show ordL (E.od f id) false ops.toList = ops.toList.zipIdx from rfl] at hrr
   have := list_sim (ops := ops.toList) hcf Q _ _ _ _ _ _ _ hrr hT M w a pb hs.glob hs.inv hs.fr hs.le hQ
   rw [zip_snd] at this
   simpa using this
 | true =>
   refine wp_region_any hm ?_
   have hR := regOk_of (by simpa using hok.2)
   have hI' := hs.inv.drew
   have hF' : FR M (h.reserve (E.an f id).length) w.drew B n fr.ff a pb := ⟨hs.fr.size, hs.fr.tm, hs.fr.loc, hs.fr.one, hs.fr.addr⟩
   have hL0 : Todo ops.toList n (ordL (E.od f id) true ops.toList) /\ (ordL (E.od f id) true ops.toList).Pairwise (fun p q => ahead ops.toList p q = true) /\ Lst ops.toList (ordL (E.od f id) true ops.toList) (Array.replicate ops.toList.length false) /\ (ordL (E.od f id) true ops.toList).length <= ops.toList.length := by
    rcases ordL_cases (E.od f id) true ops.toList with z | ⟨_, z, z0, z1, z2⟩
    ·rw [z]
     exact ⟨hT, rise_zip _, lst_start _, by simp⟩
    ·rw [z]
     exact ⟨todo_pick hT, aheadL_pw z2, lst_pick z1, Nat.le_trans (List.length_filterMap_le _ _) z0⟩
   obtain ⟨hT, hrise, hL, hlen⟩ := hL0
   have := any_sim (ops := ops.toList) (fun _ _ e => rsOf_mem e) hcf hcfi hR Q ops.toList.length _ _ _ _ _ _ _ _ hlen hrr hT hrise hL M w.drew a pb hs.glob hI' hF' hs.le (fun a' w' M' pb' hx => hQ a' w' M' pb'
    ⟨hx.fr, hx.inv, hx.glob, ⟨hx.pres.ext, hx.pres.size, hx.pres.os, hx.pres.tape, hx.pres.output, hx.pres.keep⟩, hx.defers⟩)
   simpa using this
theorem code_sim (hcf : CFok E cf) (hcfi : CfIso E cf) (hm : E.P.follows .mixedOrders = true) : ∀ (c : Code), codeOk n c = true -> ∀ (fr : Fr) (h : Heap) (ex : Ex) (fr' : Fr) (h' : Heap), runC E f cf N c fr h = some (ex, fr', h') -> Goes E B n c fr h ex fr' h' := by
 intro c
 induction c with
 | skip =>
   intro hok fr h ex fr' h' hr
   simp [runC] at hr; obtain ⟨rfl, rfl, rfl⟩ := hr
   intro M w a pb hs Q hQ
   exact wp_skip (hQ a w M pb ⟨hs.fr, hs.inv, hs.glob, Pres.refl _ _ _ _, rfl⟩)
 | region id ops draw =>
   intro hok fr h ex fr' h' hr
   simp only [runC] at hr
   split at hr
   case h_2 => simp at hr
   rename_i fr1 h1 he
   simp at hr; obtain ⟨rfl, rfl, rfl⟩ := hr
   exact fun M w a pb hs Q hQ => region_sim hcf hcfi hm hok he M w a pb ⟨hs.glob, hs.inv, hs.fr.start, hs.le⟩ Q hQ
 | seq x y ihx ihy =>
   intro hok fr h ex fr' h' hr
   simp only [codeOk, Bool.and_eq_true] at hok
   simp only [runC] at hr
   intro M w a pb hs Q hQ
   refine wp_seq ?_
   split at hr
   ·rename_i fr1 h1 he
    refine ihx hok.1 _ _ _ _ _ he M w a pb hs _ (fun a1 w1 M1 pb1 hx => ?_)
    show y.wp E.P Q a1 w1
    refine ihy hok.2 _ _ _ _ _ hr M1 w1 a1 pb1 (hx.sim hs.le) Q (fun a2 w2 M2 pb2 hy => hQ a2 w2 M2 pb2 (hx.trans' hy))
   ·rename_i hne
    refine ihx hok.1 _ _ _ _ _ hr M w a pb hs _ (fun a1 w1 M1 pb1 hx => ?_)
    have hq := hQ a1 w1 M1 pb1 hx
    cases ex with
    | normal => exact absurd hr (hne _ _)
    | exit id => exact hq
    | ret => exact hq
 | cond c x y ihx ihy =>
   intro hok fr h ex fr' h' hr
   simp only [codeOk, Bool.and_eq_true] at hok
   simp only [runC] at hr
   intro M w a pb hs Q hQ
   split at hr
   ·rename_i he
    have hv : VR M (.bool true) (a.eval c) := ev_ok hs.glob hs.fr c _ he
    generalize hc : a.eval c = r at hv
    cases hv
    exact wp_cond_true hc (ihx hok.1 _ _ _ _ _ hr M w a pb hs Q hQ)
   ·rename_i he
    have hv : VR M (.bool false) (a.eval c) := ev_ok hs.glob hs.fr c _ he
    generalize hc : a.eval c = r at hv
    cases hv
    exact wp_cond_false hc (ihy hok.2 _ _ _ _ _ hr M w a pb hs Q hQ)
   ·simp at hr
 | block id x ihx =>
   intro hok fr h ex fr' h' hr
   simp only [codeOk] at hok
   simp only [runC] at hr
   intro M w a pb hs Q hQ
   refine wp_block ?_
   split at hr
   ·rename_i id' fr1 h1 he
    refine ihx hok _ _ _ _ _ he M w a pb hs _ (fun a1 w1 M1 pb1 hx => ?_)
    show (if id' = id then Q .normal a1 w1 else Q (.exit id') a1 w1)
    split at hr
    ·rename_i hid
     simp at hr; obtain ⟨rfl, rfl, rfl⟩ := hr
     rw [if_pos hid]
     exact hQ a1 w1 M1 pb1 hx
    ·rename_i hid
     simp at hr; obtain ⟨rfl, rfl, rfl⟩ := hr
     rw [if_neg hid]
     exact hQ a1 w1 M1 pb1 hx
   ·rename_i hne
    refine ihx hok _ _ _ _ _ hr M w a pb hs _ (fun a1 w1 M1 pb1 hx => ?_)
    have hq := hQ a1 w1 M1 pb1 hx
    cases ex with
    | normal => exact hq
    | exit id => exact absurd hr (hne _ _ _)
    | ret => exact hq
 | loop x ihx =>
   intro hok fr h ex fr' h' hr
   simp only [codeOk] at hok
   simp only [runC] at hr
   intro M w a pb hs Q hQ
   refine wp_loop_rounds N ?_
   have key : ∀ (k : Nat) (fr : Fr) (h : Heap), runLoop (runC E f cf N x) k fr h = some (ex, fr', h') -> ∀ M w a pb, Sim E B n M h w fr a pb ->
     (∀ a' w' M' pb', Nxt E B n M h w a fr'.ff h' a' w' M' pb' -> Q ex.toExit a' w') -> Code.rounds E.P x Q k a w := by
    intro k
    induction k with
    | zero => intro fr h hr; simp [runLoop] at hr
    | succ k ihk =>
      intro fr h hr M w a pb hs hQ
      rw [rounds_succ]
      unfold runLoop at hr
      split at hr
      ·rename_i fr1 h1 he
       refine ihx hok _ _ _ _ _ he M w a pb hs _ (fun a1 w1 M1 pb1 hx => ?_)
       show Code.rounds E.P x Q k a1 w1
       exact ihk fr1 h1 hr M1 w1 a1 pb1 (hx.sim hs.le) (fun a2 w2 M2 pb2 hy => hQ a2 w2 M2 pb2 (hx.trans' hy))
      ·rename_i hne
       refine ihx hok _ _ _ _ _ hr M w a pb hs _ (fun a1 w1 M1 pb1 hx => ?_)
       have hq := hQ a1 w1 M1 pb1 hx
       cases ex with
       | normal => exact absurd hr (hne _ _)
       | exit id => exact hq
       | ret => exact hq
   exact key N fr h hr M w a pb hs hQ
 | rangeFunc f ps x y ihx ihy =>
   intro hok fr h ex fr' h' hr
   simp [runC] at hr
 | exit id =>
   intro hok fr h ex fr' h' hr
   simp [runC] at hr; obtain ⟨rfl, rfl, rfl⟩ := hr
   intro M w a pb hs Q hQ
   exact wp_exit (hQ a w M pb ⟨hs.fr, hs.inv, hs.glob, Pres.refl _ _ _ _, rfl⟩)
 | scope x ihx =>
   intro hok fr h ex fr' h' hr
   simp only [codeOk] at hok
   simp only [runC] at hr
   intro M w a pb hs Q hQ
   refine wp_scope_straight ?_
   refine ihx hok _ _ _ _ _ hr M w a pb hs _ (fun a1 w1 M1 pb1 hx => ?_)
   have hq := hQ a1 w1 M1 pb1 hx
   cases ex <;> exact hq
 | label l =>
   intro hok fr h ex fr' h' hr
   simp [runC] at hr
 | goto l =>
   intro hok fr h ex fr' h' hr
   simp [runC] at hr
 | ret =>
   intro hok fr h ex fr' h' hr
   simp [runC] at hr; obtain ⟨rfl, rfl, rfl⟩ := hr
   intro M w a pb hs Q hQ
   exact wp_ret (hQ a w M pb ⟨hs.fr, hs.inv, hs.glob, Pres.refl _ _ _ _, rfl⟩)
 | refuse s =>
   intro hok fr h ex fr' h' hr
   simp [runC] at hr
def resV (tmps : Array Value) : ResultVar -> Sem Value
 | .tmp t => pure (tmps.getD t undef)
 | .cell a t => do loadVar t (<- asAddr (tmps.getD a undef))
theorem results_eq (fn : Func) (tmps : Array Value) : results fn tmps = (do let vs <- fn.results.mapM (resV tmps); pure (if h : vs.size = 1 then vs[0] else .tuple vs)) := rfl
theorem result_ok {M : Meta} {h : Heap} {w : World} {fr : Fr} {a : Act} {pb : Nat -> Nat} (hs : Sim E B n M h w fr a pb) : ∀ {rs : List ResultVar} {vs : List IV}, resultsI E.P fr h rs = some vs ->
  ∃ rv : List Value, (rs.mapM (resV a.tmps)).run E.P w = .ok rv w /\ VRs M vs rv
 | [], vs, hr => by simp [resultsI] at hr; subst hr; exact ⟨[], rfl, VRs.nil M⟩
 | r :: rs, vs, hr => by
   unfold resultsI at hr
   split at hr
   case h_2 => simp at hr
   rename_i v vs' h1 h2
   simp at hr; subst hr
   obtain ⟨rv, h3, h4⟩ := result_ok hs h2
   have hone : ∃ q, (resV a.tmps r).run E.P w = .ok q w /\ VR M v q := by
    cases r with
    | tmp t =>
      simp only [resultI] at h1
      exact ⟨_, rfl, hs.fr.tm t _ (plain_some h1)⟩
    | cell ad t =>
      simp only [resultI] at h1
      split at h1
      ·rename_i s off had
       split at h1
       case h_2 => simp at h1
       rename_i cs hlv
       have hp : a.tmps.getD ad undef = .pointer (some ⟨pb s, off, none⟩) := hs.fr.tm ad _ had
       obtain ⟨_, _, _, rc, el, fz, k4, k5, k6⟩ := hs.fr.loc s cs hlv
       obtain ⟨q, k7, k8⟩ := load_ok (P := E.P) (w := w) (b := pb s) (base := 0) k6 (fun i hi => by simp [World.cell?, k4, show i < rc.size by simpa using hi]) h1
       refine ⟨q, ?_, k8⟩
       simp only [resV, hp, asAddr, Sem.run_bind, Sem.run_pure, Result.andThen_ok]
       simpa using k7
      ·rename_i id off had
       split at h1
       case h_2 => simp at h1
       rename_i cs hg
       have hp : VR M (.ptr id off) (a.tmps.getD ad undef) := hs.fr.tm ad _ had
       generalize hq : a.tmps.getD ad undef = pr at hp
       cases hp with
       | @ptr _ _ b hl =>
         obtain ⟨b', rc, l1, l2, l3, l4, l5⟩ := hs.inv.row hg
         rw [hl] at l1; simp at l1; subst l1
         obtain ⟨q, k7, k8⟩ := load_ok (P := E.P) l4 l5 h1
         refine ⟨q, ?_, k8⟩
         simp only [resV, hq, asAddr, Sem.run_bind, Sem.run_pure, Result.andThen_ok]
         simpa using k7
      ·simp at h1
   obtain ⟨q, h5, h6⟩ := hone
   refine ⟨q :: rv, ?_, VRs.cons h6 h4⟩
   simp only [List.mapM_cons, Sem.run_bind, h5, Result.andThen_ok, h3, Sem.run_pure]
def mkRes (rv : List Value) : Value := if h : rv.toArray.size = 1 then rv.toArray[0] else .tuple rv.toArray
theorem vr_mkRes {M : Meta} {vs : List IV} {rv : List Value} (h2 : VRs M vs rv) : VR M (tupleOf vs) (mkRes rv) := by
 unfold mkRes
 have hl := h2.1
 cases vs with
 | nil =>
   cases rv with
   | nil => exact vr_tuple_mk h2
   | cons _ _ => simp at hl
 | cons v vs' =>
   cases rv with
   | nil => simp at hl
   | cons q rv' =>
     cases vs' with
     | nil =>
       cases rv' with
       | nil =>
         have := h2.2 0 (by simp) (by simp)
         simpa [tupleOf] using this
       | cons _ _ => simp at hl
     | cons v2 vs2 =>
       cases rv' with
       | nil => simp at hl
       | cons q2 rv2 =>
         have : ¬ ((q :: q2 :: rv2).toArray.size = 1) := by simp
         rw [dif_neg this]
         exact vr_tuple_mk h2
theorem results_ok {M : Meta} {h : Heap} {w : World} {fr : Fr} {a : Act} {pb : Nat -> Nat} (hs : Sim E B n M h w fr a pb) {fn : Func} {vs : List IV} (hr : resultsI E.P fr h fn.results.toList = some vs) :
  ∃ rv, (results fn a.tmps).run E.P w = .ok (mkRes rv) w /\ VRs M vs rv := by
 obtain ⟨rv, h1, h2⟩ := result_ok hs hr
 have hm : (fn.results.mapM (resV a.tmps)).run E.P w = .ok rv.toArray w := by
  rw [Array.mapM_eq_mapM_toList]
  simp only [Sem.run_map]
  rw [h1]
  rfl
 refine ⟨rv, ?_, h2⟩
 rw [results_eq]
 simp only [Sem.run_bind, hm, Result.andThen_ok, Sem.run_pure]
 rfl
theorem frameOf_get : ∀ (args : List IV) (i : Nat) (t : PT TV) (k : Nat), (frameOf args i t).get k = if i <= k /\ k < i + args.length then (args[k - i]?).map .v else t.get k
 | [], i, t, k => by
   rw [if_neg (by simp only [List.length_nil]; omega)]; rfl
 | v :: r, i, t, k => by
   unfold frameOf
   rw [frameOf_get r (i + 1) _ k, PT.get_set]
   by_cases h1 : k = i
   ·subst h1
    rw [if_neg (by omega), if_pos rfl, if_pos ⟨Nat.le_refl _, by simp⟩]
    simp
   ·by_cases h2 : i + 1 <= k /\ k < i + 1 + r.length
    ·rw [if_pos h2, if_pos ⟨by omega, by simp; omega⟩]
     rw [show k - i = (k - (i + 1)) + 1 by omega]
     simp
    ·rw [if_neg h2, if_neg h1, if_neg (by simp; omega)]
theorem body_sim {cf : FuncId -> List IV -> Heap -> Option (IV × Heap)} (hcf : CFok E cf) (hcfi : CfIso E cf) (hm : E.P.follows .mixedOrders = true) {g : FuncId} {fn : Func} {c : Code} (hfn : E.P.funcs[g]? = some fn) (hbody : fn.body = some c) (hok : codeOk fn.ntmps c = true)
  {xs vs : List IV} {h h1 : Heap} (hr : bodyRun E g cf N fn.results.toList c xs h = some (vs, h1)) {M : Meta} {w : World} {rs : List Value} (hI : Inv M h w) (hG : GOK E M) (hrs : VRs M xs rs) :
  Calls E.P g rs.toArray w fun e w' => ∃ rv M', e = .returned (mkRes rv) /\ VRs M' vs rv /\ Inv M' h1 w' /\ Pres w.heap.size M h w M' h1 w' := by
 have fin : ∀ (ex : Ex) (fr : Fr), (ex = .normal \/ ex = .ret) -> runC E g cf N c ⟨frameOf xs 0 .nil, .nil⟩ h = some (ex, fr, h1) -> resultsI E.P fr h1 fn.results.toList = some vs ->
   Calls E.P g rs.toArray w fun e w' => ∃ rv M', e = .returned (mkRes rv) /\ VRs M' vs rv /\ Inv M' h1 w' /\ Pres w.heap.size M h w M' h1 w' := by
  intro ex fr hex hrun hres
  refine calls_of_wp hfn hbody ?_
  have hlen : xs.length = rs.length := hrs.1
  have hget : ∀ t, ((rs.toArray ++ Array.replicate (fn.ntmps - rs.toArray.size) undef).getD t undef) = (rs[t]?).getD undef := by
   intro t
   rw [Array.getD_eq_getD_getElem?]
   by_cases ht : t < rs.length
   ·rw [Array.getElem?_append_left (by simpa using ht)]
    simp
   ·rw [Array.getElem?_append_right (by simp; omega)]
    simp only [List.getElem?_eq_none (Nat.le_of_not_lt ht), Option.getD_none, Array.getElem?_replicate]
    split <;> rfl
  have hs0 : Sim E w.heap.size fn.ntmps M h w ⟨frameOf xs 0 .nil, .nil⟩ { tmps := rs.toArray ++ Array.replicate (fn.ntmps - rs.toArray.size) undef, defers := [] } (fun _ => 0) := by
   refine ⟨hG, hI, ⟨by simp; omega, fun t tv ht => ?_, fun s cs e => by simp [Fr.ff, PT.get] at e, fun s s' c1 c2 e => by simp [Fr.ff, PT.get] at e, fun k s off e => by
    simp only [Fr.ff, frameOf_get] at e
    split at e
    ·obtain ⟨x, _, h2⟩ := Option.map_eq_some_iff.1 e; cases h2
    ·simp [PT.get] at e⟩, Nat.le_refl _⟩
   simp only [Fr.ff, frameOf_get] at ht
   rw [hget]
   split at ht
   ·rename_i hb
    simp only [Nat.sub_zero] at ht
    obtain ⟨x, hx, rfl⟩ := Option.map_eq_some_iff.1 ht
    obtain ⟨r, hr1, hr2⟩ := hrs.get hx
    rw [hr1]
    exact hr2
   ·simp [PT.get] at ht
  refine code_sim (B := w.heap.size) hcf hcfi hm c hok _ _ _ _ _ hrun M w _ _ hs0 _ (fun a' w' M' pb' hx => ?_)
  obtain ⟨rv, hr1, hr2⟩ := results_ok (hx.sim (Nat.le_refl _)) hres
  rcases hex with rfl | rfl
  ·exact ⟨hx.defers, mkRes rv, hr1, rv, M', rfl, hr2, hx.inv, hx.pres⟩
  ·exact ⟨hx.defers, mkRes rv, hr1, rv, M', rfl, hr2, hx.inv, hx.pres⟩
 unfold bodyRun at hr
 split at hr
 ·rename_i fr h' hrun
  obtain ⟨q, q1, q2⟩ := Option.map_eq_some_iff.1 hr
  simp only [Prod.mk.injEq] at q2
  obtain ⟨rfl, rfl⟩ := q2
  exact fin .normal fr (.inl rfl) hrun q1
 ·rename_i fr h' hrun
  obtain ⟨q, q1, q2⟩ := Option.map_eq_some_iff.1 hr
  simp only [Prod.mk.injEq] at q2
  obtain ⟨rfl, rfl⟩ := q2
  exact fin .ret fr (.inr rfl) hrun q1
 ·cases hr
theorem iso_back {M M2 : Meta} {h h2 : Heap} {w w' : World} (a : Inv M h w) (hi : Inv M2 h2 w') (hp : Pres w.heap.size M.pure Heap.empty w M2 h2 w') :
  ∃ M3, Inv M3 h w' /\ Pres w.heap.size M h w M3 h w' /\ (∀ b o v, M2.im b o = some v -> M3.im b o = some v) /\ (∀ b n, M2.bsz b = some n -> M3.bsz b = some n) := by
 have hk : ∀ b, b < w.heap.size -> w'.heap[b]? = w.heap[b]? /\ ∀ o, M2.im b o = M.im b o := fun b hb => by
  obtain ⟨h1, _, h3⟩ := hp.keep b hb (by rintro ⟨id, e⟩; simp [Wb, Heap.empty, Heap.get, PT.get] at e)
  exact ⟨h1, h3⟩
 let M3 : Meta := { M with im := fun b o => if b < w.heap.size then M.im b o else M2.im b o, bsz := fun b => match M.bsz b with | some n => some n | none => M2.bsz b }
 have him3 : ∀ b o, b < w.heap.size -> M3.im b o = M.im b o := fun b o hb => if_pos hb
 have hE : Ext M M3 := ⟨Nat.le_refl _, fun _ _ e => e, fun b o v e => by
  have hb : b < w.heap.size := by
   have := a.im b o v e
   unfold World.cell? at this
   rcases Nat.lt_or_ge b w.heap.size with q | q
   ·exact q
   ·simp [Array.getElem?_eq_none q] at this
  rw [him3 b o hb]; exact e, fun b n e => by simp [M3, e], fun _ _ => Nat.le_refl _, fun _ _ _ => rfl⟩
 have hbs : ∀ b n, M.bsz b = some n -> M3.bsz b = M.bsz b := fun b n e => by simp [M3, e]
 have hblk : ∀ {b rc}, Blk M w b rc -> Blk M3 w' b rc := fun l => l.keep (hk _ l.lt).1 (hbs _ _ l.bsz)
 refine ⟨M3, ⟨a.nid, a.fresh, a.freshl, fun id cs e => ?_, fun id n e => ?_, fun id es e => ?_, fun b o v e => ?_, fun b n e => ?_, a.one, a.resv⟩, ⟨hE, hp.size, hp.os, hp.tape, hp.output, fun b hb hn => ⟨(hk b hb).1, hn, fun o => him3 b o hb⟩⟩, fun b o v e => ?_, fun b n e => ?_⟩
 ·obtain ⟨b, rc, l1, l2, l3, l4, l5⟩ := a.cells id cs e
  exact ⟨b, rc, l1, hblk l2, l3, l4.mono hE, fun o => by rw [him3 b o l2.lt]; exact l5 o⟩
 ·obtain ⟨l0, b, e', rc, l1, l2, l3, l4⟩ := a.tips id n e
  exact ⟨l0, b, e', rc, l1, hblk l2, l3, fun o ho => by rw [him3 b o l2.lt]; exact l4 o ho⟩
 ·obtain ⟨b, ents, cl, l1, l2, l3⟩ := a.maps id es e
  exact ⟨b, ents, cl, l1, (hk b (lt_of_some l2)).1.trans l2, ⟨l3.1.1.mono hE, l3.1.2.mono hE⟩, l3.2⟩
 ·simp only [M3] at e
  split at e
  ·rename_i hb
   have h1 := a.im b o v e
   unfold World.cell? at h1 ⊢
   simp only at h1 ⊢
   rw [(hk b hb).1]
   exact h1
  ·exact hi.im b o v e
 ·simp only [M3] at e
  split at e
  ·rename_i m hm
   have := a.bsz b m hm
   have := hp.size
   omega
  ·exact hi.bsz b n e
 ·simp only [M3]
  split
  ·rename_i hb
   rw [<- (hk b hb).2 o]; exact e
  ·exact e
 ·simp only [M3]
  split
  ·rename_i m hm
   have := hp.ext.bsz b m hm
   rw [this] at e
   exact e
  ·exact e
theorem invPure {M : Meta} {h : Heap} {w : World} (a : Inv M h w) : Inv M.pure Heap.empty w where
 nid := rfl
 fresh := fun id _ => by simp [Heap.empty, Heap.get, PT.get]
 freshl := fun _ _ => rfl
 cells := fun id cs e => by simp [Heap.empty, Heap.get, PT.get] at e
 tips := fun id n e => by simp [Heap.empty, Heap.get, PT.get] at e
 maps := fun id es e => by simp [Heap.empty, Heap.get, PT.get] at e
 im := a.im
 bsz := a.bsz
 one := fun id id' b e _ => by simp [Wb, Heap.empty, Heap.get, PT.get] at e
 resv := fun id e => by simp [Heap.empty, Heap.get, PT.get] at e
theorem runF_iso (E : Env) : ∀ N, CfIso E (runF E N)
 | 0 => fun g hi xs h v h' hr => by simp [runF] at hr
 | N + 1 => fun g hi xs h v h' hr => by
   rw [runF_succ] at hr
   split at hr
   case h_2 => simp at hr
   rename_i fn hfn
   split at hr
   case h_2 => simp at hr
   rename_i c hbody
   simp only [hi] at hr
   split at hr
   case isFalse => simp at hr
   rename_i hpu
   split at hr
   case h_2 => simp at hr
   rename_i vs h1 hb
   obtain ⟨v', hv', hq⟩ := Option.map_eq_some_iff.1 hr
   simp only [Prod.mk.injEq] at hq
   obtain ⟨rfl, rfl⟩ := hq
   refine ⟨rfl, fun h2 => ?_⟩
   rw [runF_succ]
   simp only [hfn, hbody, hi, hpu, hb, hv', if_true, Option.map_some]
theorem func_sim (hm : E.P.follows .mixedOrders = true) (hP : progOk E.P = true) : ∀ N, CFok E (runF E N)
 | 0 => fun g xs h v h' hr => by simp [runF] at hr
 | N + 1 => fun g xs h v h' hr => by
   have ih := func_sim hm hP N
   rw [runF_succ] at hr
   split at hr
   case h_2 => simp at hr
   rename_i fn hfn
   split at hr
   case h_2 => simp at hr
   rename_i c hbody
   have hok : funcOk fn = true := by
    unfold progOk at hP
    rw [List.all_eq_true] at hP
    have : fn ∈ E.P.funcs.toList := by
     rw [<- Array.getElem?_toList] at hfn
     exact List.mem_of_getElem? hfn
    exact hP fn this
   unfold funcOk at hok
   rw [hbody] at hok
   simp only [Bool.and_eq_true, Bool.not_eq_true'] at hok
   refine ⟨⟨fn, hfn, by simp [hbody], hok.2⟩, fun M w rs hI hG hrs => ?_⟩
   split at hr
   ·split at hr
    case h_2 => simp at hr
    rename_i vs h1 hb
    refine (body_sim ih (runF_iso E N) hm hfn hbody hok.1 hb hI hG hrs).mono fun e w' => ?_
    rintro ⟨rv, M', h2, h3, h4, h5⟩
    obtain ⟨M2, g1, g2, g3⟩ := giveOut_ok E g h4 (vr_mkRes h3)
    simp only [Option.some.injEq] at hr
    rw [hr] at g1 g2 g3
    exact ⟨_, M2, h2, g3, g1, h5.trans (g2.mono h5.size)⟩
   ·split at hr
    case isFalse => simp at hr
    rename_i hpu
    split at hr
    case h_2 => simp at hr
    rename_i vs h1 hb
    obtain ⟨v', hv', hq⟩ := Option.map_eq_some_iff.1 hr
    simp only [Prod.mk.injEq] at hq
    obtain ⟨rfl, rfl⟩ := hq
    have hargs : VRs M.pure (nrmVs E.P fn.params.toList xs) rs := pures_ok (M := M) (M' := M.pure) (fun _ _ _ e => e) (fun _ _ e => e) (nrmVs_ok hrs) hpu
    have hGp : GOK E M.pure := fun g cs e => (show VR M.pure.pure (.vref cs 0) _ from hG g cs e)
    refine (body_sim ih (runF_iso E N) hm hfn hbody hok.1 hb (invPure hI) hGp hargs).mono fun e w' => ?_
    rintro ⟨rv, M', h2, h3, h4, h5⟩
    have hfr : ∃ M2 h2', Inv M2 h2' w' /\ Pres w.heap.size M.pure Heap.empty w M2 h2' w' /\ VRs M2 (frzAll E g vs h1) rv := by
     unfold frzAll
     split
     ·obtain ⟨M2, c1, c2, c3, _⟩ := frzL_ok frz2_ok vs M' h1 w' rv h4 h3
      exact ⟨M2, _, c1, h5.trans (c2.mono h5.size), c3⟩
     ·exact ⟨M', h1, h4, h5, h3⟩
    obtain ⟨M2, h2', c1, c2, c3⟩ := hfr
    obtain ⟨M3, d1, d2, d3, d4⟩ := iso_back hI c1 c2
    unfold isoOut at hv'
    simp only at hv'
    split at hv'
    case isFalse => cases hv'
    rename_i hpo
    simp only [Option.some.injEq] at hv'
    subst hv'
    exact ⟨_, M3, h2, vr_mkRes (pures_ok d3 d4 (nrmVs_ok c3) hpo), d1, d2⟩
end
end Go.Pv
