import Derived.Test.YtmfnadojephcpaaPvAddr
import Derived.Test.YtmfnadojephcpaaPvSwap
import Derived.Test.YtmfnadojephcpaaPvA
set_option linter.unusedSimpArgs false
namespace Go.Pv
structure FR (M : Meta) (h : Heap) (w : World) (B n : Nat) (F : FF) (a : Act) (pb : Nat -> Nat) : Prop where
 size : n <= a.tmps.size
 tm : ∀ t tv, F.tm t = some tv -> TR M pb tv (a.tmps.getD t undef)
 loc : ∀ s cs, F.lv s = some cs -> B <= pb s /\ ¬ Wr M h (pb s) /\ (∀ o, M.im (pb s) o = none) /\ ∃ rc el fz, w.heap[pb s]? = some (.cells rc el fz) /\ (∀ i, i < rc.size -> w.frozen? ⟨pb s, i, none⟩ = false) /\ CRs M cs rc.toList
 one : ∀ s s' cs cs', F.lv s = some cs -> F.lv s' = some cs' -> pb s = pb s' -> s = s'
 addr : ∀ k s off, F.tm k = some (.l s off) -> ∃ cs, F.lv s = some cs
def GOK (E : Env) (M : Meta) : Prop := ∀ g cs, E.G g = some cs -> VR M.pure (.vref cs 0) (.pointer (some ⟨g, 0, none⟩))
theorem Ext.pures {M M' : Meta} (hE : Ext M M') : Ext M.pure M'.pure := ⟨Nat.le_refl _, fun _ _ e => (by cases e), hE.im, hE.bsz, fun i hi => absurd hi (Nat.not_lt_zero i), fun i hi => absurd hi (Nat.not_lt_zero i)⟩
theorem Ext.pure (M : Meta) : Ext M.pure M := ⟨Nat.zero_le _, fun _ _ e => (by cases e), fun _ _ _ e => e, fun _ _ e => e, fun i hi => absurd hi (Nat.not_lt_zero i), fun i hi => absurd hi (Nat.not_lt_zero i)⟩
theorem GOK.mono {E : Env} {M M' : Meta} (hE : Ext M M') (h : GOK E M) : GOK E M' := fun g cs e => (h g cs e).mono hE.pures
def CFok (E : Env) (cf : FuncId -> List IV -> Heap -> Option (IV × Heap)) : Prop :=
 ∀ g xs h v h', cf g xs h = some (v, h') → (∃ fn, E.P.funcs[g]? = some fn ∧ fn.body.isNone = false ∧ (fn.name == "runtime.NumGoroutine") = false) ∧ ∀ M w rs, Inv M h w → GOK E M → VRs M xs rs →
  Calls E.P g rs.toArray w fun e w' => ∃ r M', e = .returned r /\ VR M' v r /\ Inv M' h' w' /\ Pres w.heap.size M h w M' h' w'
section
variable {E : Env} {M M' : Meta} {h h' : Heap} {w w' : World} {B n : Nat} {F : FF} {a : Act} {pb : Nat -> Nat}
theorem TR.mono (hE : Ext M M') {tv : TV} {r : Value} (ht : TR M pb tv r) : TR M' pb tv r := by
 cases tv with
 | v x => exact VR.mono hE ht
 | l s off => exact ht
 | u => exact ht
theorem ev_ok (hG : GOK E M) (hF : FR M h w B n F a pb) : ∀ x tv, evOp E F.tm x = some tv -> TR M pb tv (a.eval x) := by
 intro x tv hx
 cases x with
 | tmp t => exact hF.tm t tv hx
 | const v =>
   simp only [evOp] at hx
   obtain ⟨y, h1, h2⟩ := Option.map_eq_some_iff.1 hx
   subst h2
   exact (ofValue_ok (M := M) h1).1
 | global g =>
   simp only [evOp] at hx
   obtain ⟨y, h1, h2⟩ := Option.map_eq_some_iff.1 hx
   subst h2
   exact (hG g y h1).mono (Ext.pure M)
 | func g =>
   simp [evOp] at hx
   subst hx
   exact vr_func_mk (VRs.nil M) (VRs.nil M)
theorem FR.step (hF : FR M h w B n F a pb) (hp : Pres w.heap.size M h w M' h' w') : FR M' h' w' B n F a pb where
 size := hF.size
 tm := fun t tv e => (hF.tm t tv e).mono hp.ext
 loc := fun s cs e => by
  obtain ⟨h1, h2, h3, rc, el, fz, h4, h5, h6⟩ := hF.loc s cs e
  obtain ⟨k1, k2, k3⟩ := hp.keep (pb s) (lt_of_some h4) h2
  exact ⟨h1, k2, fun o => (k3 o).trans (h3 o), rc, el, fz, k1.trans h4, fun i hi => (frozen_of_block k1).trans (h5 i hi), h6.mono hp.ext⟩
 one := hF.one
 addr := hF.addr
theorem getD_set (t : Array Value) (d k : Nat) (r : Value) (hd : d < t.size) : (t.setIfInBounds d r).getD k undef = if k = d then r else t.getD k undef := by
 simp only [Array.getD_eq_getD_getElem?, Array.getElem?_setIfInBounds]
 by_cases hk : k = d
 ·subst hk; simp [hd]
 ·rw [if_neg (fun e => hk e.symm), if_neg hk]
theorem FR.put (hF : FR M h w B n F a pb) {d : Option Tmp} (hd : ∀ t, d = some t -> t < n) {v : Option TV} {r : Value} (hv : ∀ tv, v = some tv -> TR M pb tv r) (hl : ∀ s off, v = some (.l s off) -> ∃ cs, F.lv s = some cs) : FR M h w B n (F.put d v) (a.put d r) pb := by
 cases d with
 | none => exact hF
 | some t =>
   have ht := hd t rfl
   have hs := hF.size
   refine ⟨by simpa [Act.put] using hF.size, fun k tv e => ?_, hF.loc, hF.one, fun k s off e => ?_⟩
   case refine_2 =>
    simp only [FF.put] at e
    by_cases hk : k = t
    ·rw [if_pos hk] at e
     exact hl s off e
    ·rw [if_neg hk] at e
     exact hF.addr k s off e
   simp only [FF.put] at e
   simp only [Act.put]
   rw [getD_set _ _ _ _ (Nat.lt_of_lt_of_le ht hs)]
   by_cases hk : k = t
   ·rw [if_pos hk] at e ⊢
    exact hv tv e
   ·rw [if_neg hk] at e ⊢
    exact hF.tm k tv e
theorem Inv.apart (hI : Inv M h w) {b : Nat} (hb : ¬ Wr M h b) (hm : ∀ o, M.im b o = none) (hk : ∀ k, k ≠ b -> k < w.heap.size -> w'.heap[k]? = w.heap[k]?) (hs : w.heap.size <= w'.heap.size) : Inv M h w' where
 nid := hI.nid
 fresh := hI.fresh
 freshl := hI.freshl
 cells := fun id cs e => by
  obtain ⟨c, rc, h1, h2, h3⟩ := hI.cells id cs e
  have hc : c ≠ b := fun e' => hb ⟨id, by simp [Wb, e, h1, e']⟩
  exact ⟨c, rc, h1, h2.keep (hk c hc h2.lt) rfl, h3⟩
 tips := fun id n e => by
  obtain ⟨h0, c, e', rc, h1, h2, h3⟩ := hI.tips id n e
  have hc : c ≠ b := fun e' => hb ⟨id, by simp [Wb, e, h1, e']⟩
  exact ⟨h0, c, e', rc, h1, h2.keep (hk c hc h2.lt) rfl, h3⟩
 maps := fun id es e => by
  obtain ⟨c, ents, cl, h1, h2, h3⟩ := hI.maps id es e
  have hc : c ≠ b := fun e' => hb ⟨id, by simp [Wb, e, h1, e']⟩
  exact ⟨c, ents, cl, h1, (hk c hc (lt_of_some h2)).trans h2, h3⟩
 im := fun c o v e => by
  have hc : c ≠ b := fun e' => by subst e'; rw [hm] at e; simp at e
  rw [cell_of_block (hk c hc (hI.im_lt e))]
  exact hI.im c o v e
 bsz := fun c n e => by have := hI.bsz c n e; omega
 one := hI.one
 resv := hI.resv
structure Nxt (E : Env) (B n : Nat) (M : Meta) (h : Heap) (w : World) (a : Act) (F' : FF) (h' : Heap) (a' : Act) (w' : World) (M' : Meta) (pb' : Nat -> Nat) : Prop where
 fr : FR M' h' w' B n F' a' pb'
 inv : Inv M' h' w'
 glob : GOK E M'
 pres : Pres B M h w M' h' w'
 defers : a'.defers = a.defers
theorem wanted_ok {ops : List Oper} {o : Oper} {b : Bool} (hF : FR M h w B n F a pb) (hw : wantedI ops F.tm o = some b) : Region.wanted o (yielded ops.toArray a.tmps) = b := by
 unfold wantedI at hw
 unfold Region.wanted
 cases hg : o.guard with
 | none => simp [hg] at hw; simp [hw]
 | some q =>
   obtain ⟨j, c⟩ := q
   simp only [hg] at hw ⊢
   split at hw
   case h_2 => simp at hw
   rename_i d hd
   split at hw
   case h_3 => simp at hw
   case h_2 =>
    rename_i hx
    simp at hw; subst hw
    have hv : a.tmps.getD d undef = undef := hF.tm d _ hx
    have hy : yielded ops.toArray a.tmps j = none := by
     simp only [yielded, List.getElem?_toArray, hd, Option.bind_some]
     rw [Array.getD_eq_getD_getElem?] at hv
     cases hq : a.tmps[d]? with
     | none => rfl
     | some y => rw [hq] at hv; simp at hv; subst hv; rfl
    rw [hy]; rfl
   rename_i x hx
   simp at hw; subst hw
   have hv : VR M (.bool x) (a.tmps.getD d undef) := hF.tm d _ hx
   generalize hr : a.tmps.getD d undef = r at hv
   cases hv
   have hlt : a.tmps[d]? = some (.bool x) := by
    rw [Array.getD_eq_getD_getElem?] at hr
    cases hq : a.tmps[d]? with
    | none => rw [hq] at hr; simp [undef] at hr
    | some y => rw [hq] at hr; simp at hr; rw [hr]
   have hy : yielded ops.toArray a.tmps j = some x := by
    simp only [yielded, List.getElem?_toArray, hd, Option.bind_some, hlt]
   rw [hy]
   cases x <;> cases c <;> rfl
theorem op_sim {f : FuncId} {cf : FuncId -> List IV -> Heap -> Option (IV × Heap)} {ops : List Oper} {draw : Bool} {o : Oper} {e : Ef} (hcf : CFok E cf) (hG : GOK E M) (hI : Inv M h w) (hF : FR M h w B n F a pb) (hB : B <= w.heap.size)
  (hd : ∀ t, o.dst = some t -> t < n) (he : eff E f cf ops draw o F.tm F.lv h = some e) (Q : Exit -> Act -> World -> Prop) (K : Act -> World -> Prop)
  (hK : ∀ a' w' M' pb', Nxt E B n M h w a (F.app o.dst e) e.h a' w' M' pb' -> K a' w') :
  if Region.wanted o (yielded ops.toArray a.tmps) then o.wp E.P a w K Q \/ (o.asks E.P a w /\ LetsOut Q) else K (a.put o.dst undef) w := by
 have hev := ev_ok hG hF
 have hput : ∀ (d : Option Tmp) (r : Value), (a.put d r).defers = a.defers := fun d r => by cases d <;> rfl
 unfold eff at he
 cases hw : wantedI ops F.tm o with
 | none => simp [hw] at he
 | some b =>
   rw [wanted_ok hF hw]
   simp only [hw] at he
   cases b with
   | false =>
     simp only [Option.some.injEq] at he
     subst he
     simp only [Bool.false_eq_true, if_false]
     refine hK _ _ M pb ⟨?_, hI, hG, Pres.refl _ _ _ _, hput _ _⟩
     exact hF.put hd (fun tv e => by simp at e; subst e; exact rfl) (fun s off e => by simp at e)
   | true =>
     simp only at he
     simp only [if_true]
     refine .inl ?_
     unfold Oper.wp
     unfold effW at he
     cases hp : pSem E f o (evOp E F.tm) with
     | some q =>
       obtain ⟨v, bx⟩ := q
       simp only [hp] at he
       rcases pSem_ok (E := E) (M := M) (w := w) (pb := pb) hI.im hev hp with ⟨rfl, r, hr, hv⟩ | ⟨cs, d, rc, el, rfl, hdst, rfl, hr, hc⟩ | ⟨rfl, hlit⟩
       ·simp only [Option.some.injEq] at he
        subst he
        rw [hr]
        refine hK _ _ M pb ⟨?_, hI, hG, Pres.refl _ _ _ _, hput _ _⟩
        exact hF.put hd (fun tv e => by simp at e; subst e; exact hv) (fun s off e => by
         simp only [Option.some.injEq] at e
         subst e
         obtain ⟨x, o', hx⟩ := pSem_l hp
         cases x with
         | tmp t => exact hF.addr t s o' hx
         | const c => simp only [evOp] at hx; obtain ⟨y, _, h2⟩ := Option.map_eq_some_iff.1 hx; cases h2
         | global g => simp only [evOp] at hx; obtain ⟨y, _, h2⟩ := Option.map_eq_some_iff.1 hx; cases h2
         | func g => simp [evOp] at hx)
       ·simp only [hdst] at he
        have hbox : ∃ c bb, e = ⟨c, some (.l d 0), some (d, cs), bb, h⟩ /\ (bb = true \/ F.lv d = none) := by
         split at he
         ·split at he
          ·rename_i hlv
           simp only [Option.some.injEq] at he
           exact ⟨_, _, he.symm, .inr hlv⟩
          ·simp at he
         ·simp only [Option.some.injEq] at he
          exact ⟨_, _, he.symm, .inl rfl⟩
        obtain ⟨c, bb, rfl, hbb⟩ := hbox
        have htm : ∀ t tv, (F.app (some d) ⟨c, some (.l d 0), some (d, cs), bb, h⟩).tm t = some tv -> (t = d /\ tv = .l d 0) \/ (t ≠ d /\ F.tm t = some tv /\ notAt d tv = true) := by
         intro t tv et
         by_cases hk : t = d
         ·left
          refine ⟨hk, ?_⟩
          subst hk
          cases bb with
          | true =>
            simp only [FF.app, if_true, FF.put, FF.lset, FF.clr, Option.some.injEq] at et
            exact et.symm
          | false =>
            simp only [FF.app, Bool.false_eq_true, if_false, if_true, FF.put, FF.lset, Option.some.injEq] at et
            exact et.symm
         ·right
          refine ⟨hk, ?_⟩
          cases bb with
          | true =>
            simp only [FF.app, if_true, FF.put, FF.lset, FF.clr, if_neg hk] at et
            split at et
            case h_2 => simp at et
            rename_i x hx
            split at et
            case isFalse => simp at et
            rename_i hna
            simp only [Option.some.injEq] at et
            subst et
            exact ⟨hx, hna⟩
          | false =>
            simp only [FF.app, Bool.false_eq_true, if_false, FF.put, FF.lset, if_neg hk] at et
            refine ⟨et, ?_⟩
            cases tv with
            | v y => rfl
            | u => rfl
            | l s off =>
              obtain ⟨cs2, h2⟩ := hF.addr t s off et
              have hn := hbb.resolve_left (by simp)
              have : s ≠ d := fun e => by subst e; rw [hn] at h2; cases h2
              simpa [notAt] using this
        have hlv : ∀ s, (F.app (some d) ⟨c, some (.l d 0), some (d, cs), bb, h⟩).lv s = if s = d then some cs else F.lv s := by
         intro s
         cases bb <;> simp [FF.app, FF.put, FF.lset, FF.clr]
        rw [hr]
        simp only [Oper.upon]
        have nb := NewBlk.alloc w (.cells rc el)
        have hnw : ¬ Wr M h w.heap.size := by
         rintro ⟨id, e⟩
         have := hI.wb_lt e
         omega
        have himn : ∀ off, M.im w.heap.size off = none := by
         intro off
         cases e : M.im w.heap.size off with
         | none => rfl
         | some v => have := hI.im_lt e; omega
        have hI' : Inv M h (w.alloc (.cells rc el)) := hI.apart hnw himn (fun k _ hlt => nb.old k hlt) (by rw [nb.size]; omega)
        refine hK _ _ M (fun s => if s = d then w.heap.size else pb s) ⟨?_, hI', hG, ⟨Ext.refl M, by rw [nb.size]; omega, rfl, rfl, rfl, fun k hk hn => ⟨nb.old k (by omega), hn, fun _ => rfl⟩⟩, hput _ _⟩
        have hsz := hF.size
        have hdn := hd d hdst
        refine ⟨?_, ?_, ?_, ?_, ?_⟩
        ·rw [hdst]; simpa [Act.put] using hF.size
        ·intro t tv et
         rw [hdst] at et ⊢
         simp only [Act.put]
         rw [getD_set _ _ _ _ (Nat.lt_of_lt_of_le hdn hsz)]
         rcases htm t tv et with ⟨hk, rfl⟩ | ⟨hk, hx, hna⟩
         ·rw [if_pos hk]; simp [TR]
         ·rw [if_neg hk]
          have := hF.tm t tv hx
          cases tv with
          | v y => exact this
          | l s off =>
            have hsd : s ≠ d := by simpa [notAt] using hna
            simpa [TR, hsd] using this
          | u => exact this
        ·intro s cs' es
         rw [hdst, hlv] at es
         by_cases hk : s = d
         ·rw [if_pos hk] at es ⊢
          simp only [Option.some.injEq] at es
          subst es
          exact ⟨hB, hnw, himn, rc, el, (0, 0), nb.new, fun i hi => frozen_new nb.new (.inl (Nat.le_refl _)) i hi, hc⟩
         ·rw [if_neg hk] at es ⊢
          obtain ⟨h1, h2, h3, rc', el', fz', h4, h5, h6⟩ := hF.loc s cs' es
          have hlt := lt_of_some h4
          exact ⟨h1, h2, h3, rc', el', fz', (nb.old _ hlt).trans h4, fun i hi => (frozen_of_block (nb.old _ hlt)).trans (h5 i hi), h6⟩
        ·intro s s' c1 c2 e1 e2 e3
         rw [hdst, hlv] at e1 e2
         by_cases hk : s = d
         ·by_cases hk' : s' = d
          ·rw [hk, hk']
          ·rw [if_neg hk'] at e2 e3
           rw [if_pos hk] at e3
           obtain ⟨_, _, _, rc', el', fz', h4, _⟩ := hF.loc s' c2 e2
           have := lt_of_some h4
           omega
         ·rw [if_neg hk] at e1 e3
          by_cases hk' : s' = d
          ·rw [if_pos hk'] at e3
           obtain ⟨_, _, _, rc', el', fz', h4, _⟩ := hF.loc s c1 e1
           have := lt_of_some h4
           omega
          ·rw [if_neg hk'] at e2 e3
           exact hF.one s s' c1 c2 e1 e2 e3
        ·intro k s off e
         rw [hdst] at e ⊢
         rw [hlv]
         by_cases hk : s = d
         ·exact ⟨cs, by rw [if_pos hk]⟩
         ·rw [if_neg hk]
          rcases htm k _ e with ⟨_, he2⟩ | ⟨_, hx, _⟩
          ·simp at he2; exact absurd he2.1 hk
          ·exact hF.addr k s off hx
       ·simp only [Option.some.injEq] at he
        subst he
        obtain ⟨w', M', x, r, rfl, hr, h2, g1, g2⟩ := hlit h hI
        rw [hr]
        have hF' := hF.step g2
        refine hK _ _ M' pb ⟨?_, g1, hG.mono g2.ext, g2.mono hB, hput _ _⟩
        exact hF'.put hd (fun tv e => by simp at e; subst e; exact h2) (fun s off e => by simp at e)
     | none =>
       simp only [hp] at he
       cases hl : lSem E o (evOp E F.tm) F.lv with
       | some v =>
         simp only [hl, Option.some.injEq] at he
         subst he
         obtain ⟨t, ad, s, off, hop, hx⟩ := lSem_load hl
         simp only [lSem, hop, hx] at hl
         split at hl
         case h_2 => simp at hl
         rename_i cs hlv
         obtain ⟨y, h1, h2⟩ := Option.map_eq_some_iff.1 hl
         subst h2
         obtain ⟨_, _, _, rc, el, fz, h4, h5, h6⟩ := hF.loc s cs hlv
         have hrho : a.eval ad = .pointer (some ⟨pb s, off, none⟩) := hev _ _ hx
         obtain ⟨r, h7, h8⟩ := load_ok (P := E.P) (w := w) (b := pb s) (base := 0) h6 (fun i hi => by simp [World.cell?, h4, show i < rc.size by simpa using hi]) h1
         have hr : (execOp a.eval o).run E.P w = .ok (.value r) w := by
          simp only [execOp, hop, hrho, Instr.loadAt, Instr.sureAddr]
          exact exec_v _ _ (by simpa using h7)
         rw [hr]
         refine hK _ _ M pb ⟨?_, hI, hG, Pres.refl _ _ _ _, hput _ _⟩
         exact hF.put hd (fun tv e => by simp at e; subst e; exact h8) (fun s off e => by simp at e)
       | none =>
         simp only [hl] at he
         cases hs : sSem E o (evOp E F.tm) F.lv with
         | some q =>
           obtain ⟨s0, cs'⟩ := q
           simp only [hs, Option.some.injEq] at he
           subst he
           obtain ⟨t, ad, x, s, off, hop, hx⟩ := sSem_store hs
           simp only [sSem, hop, hx] at hs
           split at hs
           case h_2 => simp at hs
           rename_i s' off' v' heq hv'
           simp only [Option.some.injEq, TV.l.injEq] at heq
           obtain ⟨rfl, rfl⟩ := heq
           split at hs
           case h_2 => simp at hs
           rename_i cs hlv
           obtain ⟨y, h1, h2⟩ := Option.map_eq_some_iff.1 hs
           simp only [Prod.mk.injEq] at h2
           obtain ⟨rfl, rfl⟩ := h2
           obtain ⟨l1, l2, l3, rc, el, fz, h4, h5, h6⟩ := hF.loc s cs hlv
           have hrho : a.eval ad = .pointer (some ⟨pb s, off, none⟩) := hev _ _ hx
           have h6' : CRs M cs (rc.toList.take cs.length) := by rw [List.take_of_length_le (by have := h6.len; simp at this ⊢; omega)]; exact h6
           obtain ⟨rc', s1, s2, s3, s4, s5, s6⟩ := store_ok (P := E.P) h6' h4 h5 (ev_plain hev hv') h1
           have hr : (execOp a.eval o).run E.P w = .ok .skip (w.setCells (pb s) off (a.eval x).cells.toList) := by
            simp only [execOp, hop, hrho, Instr.storeAt, Instr.sureAddr]
            exact exec_u _ _ (by simpa using s1)
           rw [hr]
           simp only [Oper.upon]
           have hoth := fun k (hk : k ≠ pb s) => setCells_other (pb s) (a.eval x).cells.toList off w k hk
           have hrest := setCells_rest (pb s) (a.eval x).cells.toList off w
           have hsize := setCells_size (pb s) (a.eval x).cells.toList off w
           have hfrz : ∀ c j, (w.setCells (pb s) off (a.eval x).cells.toList).frozen? ⟨c, j, none⟩ = w.frozen? ⟨c, j, none⟩ := fun c j => World.frozen?_setCells _ _ _ _ _
           have hI' : Inv M h (w.setCells (pb s) off (a.eval x).cells.toList) := hI.apart l2 l3 (fun k hk _ => hoth k hk) (by omega)
           have hFp := hF.put (d := o.dst) (v := none) (r := undef) hd (fun tv e => by simp at e) (fun s off e => by simp at e)
           have htm : ((F.put o.dst none).lset s y).tm = (F.put o.dst none).tm := rfl
           have hlvp : (F.put o.dst none).lv = F.lv := by cases o.dst <;> rfl
           refine hK _ _ M pb ⟨?_, hI', hG, ⟨Ext.refl M, by omega, hrest.1, hrest.2.1, hrest.2.2, fun k hk hn => ⟨hoth k (by omega), hn, fun _ => rfl⟩⟩, hput _ _⟩
           refine ⟨hFp.size, fun t tv et => hFp.tm t tv et, fun z cz ez => ?_, fun z z' c1 c2 e1 e2 e3 => ?_, fun k z off2 e => ?_⟩
           case refine_3 =>
            obtain ⟨cz, hz⟩ := hFp.addr k z off2 e
            rw [hlvp] at hz
            simp only [FF.app, Bool.false_eq_true, if_false, FF.lset, hlvp]
            by_cases hzs : z = s
            ·exact ⟨_, if_pos hzs⟩
            ·exact ⟨cz, by rw [if_neg hzs]; exact hz⟩
           ·simp only [FF.app, Bool.false_eq_true, if_false, FF.lset, hlvp] at ez
            by_cases hz : z = s
            ·subst hz
             rw [if_pos rfl] at ez
             simp only [Option.some.injEq] at ez
             subst ez
             refine ⟨l1, l2, l3, rc', el, fz, s2, fun i hi => by rw [hfrz]; exact h5 i (by omega), ?_⟩
             rw [List.take_of_length_le (by have := h6.len; simp at this ⊢; omega)] at s5
             exact s5
            ·rw [if_neg hz] at ez
             obtain ⟨k1, k2, k3, rc2, el2, fz2, k4, k5, k6⟩ := hF.loc z cz ez
             have hne : pb z ≠ pb s := fun e => hz (hF.one z s cz cs ez hlv e)
             exact ⟨k1, k2, k3, rc2, el2, fz2, (hoth _ hne).trans k4, fun i hi => by rw [hfrz]; exact k5 i hi, k6⟩
           ·simp only [FF.app, Bool.false_eq_true, if_false, FF.lset, hlvp] at e1 e2
            have g1 : ∃ c, F.lv z = some c := by
             by_cases hz : z = s
             ·exact ⟨cs, hz ▸ hlv⟩
             ·rw [if_neg hz] at e1; exact ⟨_, e1⟩
            have g2 : ∃ c, F.lv z' = some c := by
             by_cases hz : z' = s
             ·exact ⟨cs, hz ▸ hlv⟩
             ·rw [if_neg hz] at e2; exact ⟨_, e2⟩
            obtain ⟨d1, g1⟩ := g1
            obtain ⟨d2, g2⟩ := g2
            exact hF.one z z' d1 d2 g1 g2 e3
         | none =>
           simp only [hs] at he
           cases hr : rSem E o (evOp E F.tm) h with
           | some v =>
             simp only [hr, Option.some.injEq] at he
             subst he
             obtain ⟨x, r, rfl, h1, h2⟩ := rSem_ok (E := E) (pb := pb) hI hev hr
             rw [h1]
             refine hK _ _ M pb ⟨?_, hI, hG, Pres.refl _ _ _ _, hput _ _⟩
             exact hF.put hd (fun tv e => by simp at e; subst e; exact h2) (fun s off e => by simp at e)
           | none =>
             simp only [hr] at he
             cases hee : eSem E f o (evOp E F.tm) h with
             | some q =>
               obtain ⟨v, h'⟩ := q
               simp only [hee, Option.some.injEq] at he
               subst he
               obtain ⟨w', M', g1, g2, g3⟩ := eSem_ok (E := E) (pb := pb) hI hev hee
               have hF' := hF.step g2
               rcases g3 with ⟨x, r, rfl, h1, h2⟩ | ⟨rfl, h1⟩
               ·rw [h1]
                refine hK _ _ M' pb ⟨?_, g1, hG.mono g2.ext, g2.mono hB, hput _ _⟩
                exact hF'.put hd (fun tv e => by simp at e; subst e; exact h2) (fun s off e => by simp at e)
               ·rw [h1]
                refine hK _ _ M' pb ⟨?_, g1, hG.mono g2.ext, g2.mono hB, hput _ _⟩
                exact hF'.put hd (fun tv e => by simp at e) (fun s off e => by simp at e)
             | none =>
               simp only [hee] at he
               cases hcl : callSem o (evOp E F.tm) with
               | none => simp [hcl] at he
               | some q =>
                 obtain ⟨g, xs⟩ := q
                 simp only [hcl] at he
                 split at he
                 case h_2 => simp at he
                 rename_i v h' hcall
                 simp only [Option.some.injEq] at he
                 subst he
                 unfold callSem at hcl
                 split at hcl
                 case h_2 => simp at hcl
                 rename_i x args at' hop
                 split at hcl
                 case h_2 => simp at hcl
                 rename_i g' p q' xs' hx hxs
                 simp only [Option.some.injEq, Prod.mk.injEq] at hcl
                 obtain ⟨rfl, rfl⟩ := hcl
                 have hfv : VR M (.func (.func g') p q') (a.eval x) := hev _ _ hx
                 obtain ⟨rp, rq, hrf, vp, vq⟩ := vr_func hfv
                 have hargs := ev_plains hev hxs
                 obtain ⟨⟨fn, hfn, hbody, hname⟩, hcalls⟩ := hcf g' _ _ _ _ hcall
                 have hc := hcalls M w (rp ++ args.toList.map a.eval ++ rq) hI hG ((vp.append hargs).append vq)
                 have hrun : (execOp a.eval o).run E.P w = (callFunc g' (rp ++ args.toList.map a.eval ++ rq).toArray).run E.P w := by
                  simp only [execOp, hop, resolve, hrf, Deferred.ofValue, Sem.run_bind, Sem.run_pure, Result.andThen_ok, invoke]
                  congr 2
                  apply Array.ext'
                  simp
                 have henter : (callFunc g' (rp ++ args.toList.map a.eval ++ rq).toArray).run E.P w = .ok (.enter g' (rp ++ args.toList.map a.eval ++ rq).toArray) w := by
                  simp only [callFunc, Sem.run_bind, run_program, Result.andThen_ok, hfn, hname, hbody, Bool.false_eq_true, if_false, Sem.run_pure]
                 rw [hrun, henter]
                 simp only [Oper.upon]
                 refine Calls.mono hc (fun e w' hpost => ?_)
                 obtain ⟨r, M', rfl, h1, h2, h3⟩ := hpost
                 have hF' := hF.step h3
                 refine hK _ _ M' pb ⟨?_, h2, hG.mono h3.ext, h3.mono hB, hput _ _⟩
                 exact hF'.put hd (fun tv e => by simp at e; subst e; exact h1) (fun s off e => by simp at e)
theorem opA_sim {f : FuncId} {cf : FuncId -> List IV -> Heap -> Option (IV × Heap)} {ops : List Oper} {draw : Bool} {rs : Option Nat} {o : Oper} {e : Ef} (hcf : CFok E cf) (hG : GOK E M) (hI : Inv M h w) (hF : FR M h w B n F a pb) (hB : B <= w.heap.size)
  (hd : ∀ t, o.dst = some t -> t < n) (he : effA E f cf ops draw rs o F.tm F.lv h = some e) (Q : Exit -> Act -> World -> Prop) (K : Act -> World -> Prop)
  (hK : ∀ a' w' M' pb', Nxt E B n M h w a (F.app o.dst e) e.h a' w' M' pb' -> K a' w') :
  if Region.wanted o (yielded ops.toArray a.tmps) then o.wp E.P a w K Q \/ (o.asks E.P a w /\ LetsOut Q) else K (a.put o.dst undef) w := by
 cases rs with
 | none => exact op_sim hcf hG hI hF hB hd he Q K hK
 | some k =>
   have hev := ev_ok hG hF
   have hput : ∀ (d : Option Tmp) (r : Value), (a.put d r).defers = a.defers := fun d r => by cases d <;> rfl
   unfold effA at he
   cases hw : wantedI ops F.tm o with
   | none => simp [hw] at he
   | some b =>
     rw [wanted_ok hF hw]
     simp only [hw] at he
     cases b with
     | false =>
       simp only [Option.some.injEq] at he
       subst he
       simp only [Bool.false_eq_true, if_false]
       refine hK _ _ M pb ⟨?_, hI, hG, Pres.refl _ _ _ _, hput _ _⟩
       exact hF.put hd (fun tv e => by simp at e; subst e; exact rfl) (fun s off e => by simp at e)
     | true =>
       simp only at he
       simp only [if_true]
       refine .inl ?_
       unfold Oper.wp
       cases ha : aSh E f o (evOp E F.tm) k with
       | none => simp [ha] at he
       | some q =>
         obtain ⟨v, x⟩ := q
         simp only [ha] at he
         have hend : ∃ c h', e = ⟨c, v, none, false, h'⟩ /\ EEnd E M h w o a.eval v h' := by
          cases x with
          | none =>
            simp only [Option.some.injEq] at he
            exact ⟨_, _, he.symm, aSh_ok0 (pb := pb) hI hev ha⟩
          | some x =>
            simp only at he
            split at he
            case h_2 => cases he
            rename_i hf
            simp only [Option.some.injEq] at he
            exact ⟨_, _, he.symm, aSh_ok (pb := pb) hI hev hf ha⟩
         obtain ⟨c, h', rfl, hend⟩ := hend
         obtain ⟨w', M', g1, g2, g3⟩ := hend
         have hF' := hF.step g2
         rcases g3 with ⟨x, r, rfl, h1, h2⟩ | ⟨rfl, h1⟩
         ·rw [h1]
          refine hK _ _ M' pb ⟨?_, g1, hG.mono g2.ext, g2.mono hB, hput _ _⟩
          exact hF'.put hd (fun tv e => by simp at e; subst e; exact h2) (fun s off e => by simp at e)
         ·rw [h1]
          refine hK _ _ M' pb ⟨?_, g1, hG.mono g2.ext, g2.mono hB, hput _ _⟩
          exact hF'.put hd (fun tv e => by simp at e) (fun s off e => by simp at e)
end
end Go.Pv
