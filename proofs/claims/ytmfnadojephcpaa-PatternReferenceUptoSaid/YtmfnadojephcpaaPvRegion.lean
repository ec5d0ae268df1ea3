import Derived.Test.YtmfnadojephcpaaPvOp
import Derived.Orders
set_option linter.unusedSimpArgs false
namespace Go.Pv
theorem within_iff (m b : Nat) : within m b = true ↔ ∀ k, m.testBit k = true -> b.testBit k = true := by
 unfold within
 rw [beq_iff_eq]
 constructor
 ·intro h k hk
  rw [<- h, Nat.testBit_and] at hk
  simp at hk
  exact hk.2
 ·intro h
  apply Nat.eq_of_testBit_eq
  intro k
  rw [Nat.testBit_and]
  cases hm : m.testBit k with
  | false => simp
  | true => simp [h k hm]
theorem testBit_bit (i k : Nat) : (bit i).testBit k = decide (i = k) := by
 unfold bit
 rw [Nat.testBit_two_pow]
theorem chk_noclash (m : Met) {c c' : Cls} (i : Nat) (h : clash c c' = false) : (m.add c i).chk c' = m.chk c' := by
 cases c <;> cases c' <;> first | rfl | simp [clash] at h
theorem chk_clash (m : Met) {c c' : Cls} (i : Nat) (h : clash c c' = true) : ((m.add c i).chk c').testBit i = true := by
 cases c <;> cases c' <;> first | (simp [clash] at h; done) | simp [Met.add, Met.chk, testBit_bit]
theorem add_comm' (m : Met) (c c' : Cls) (i j : Nat) : (m.add c i).add c' j = (m.add c' j).add c i := by
 have : ∀ a b d : Nat, a ||| b ||| d = a ||| d ||| b := fun a b d => by rw [Nat.or_assoc, Nat.or_comm b d, Nat.or_assoc]
 cases c <;> cases c' <;> first | rfl | simp [Met.add, this _ (bit i) (bit j)]
theorem clash_symm (c c' : Cls) : clash c c' = clash c' c := by cases c <;> cases c' <;> rfl
section
variable {E : Env} {f : FuncId} {cf : FuncId -> List IV -> Heap -> Option (IV × Heap)} {ops : List Oper} {bef : Nat -> Nat}
def MLe (m m' : Met) : Prop := (∀ k, m'.e.testBit k = true -> m.e.testBit k = true) /\ (∀ k, m'.r.testBit k = true -> m.r.testBit k = true) /\ (∀ k, m'.s.testBit k = true -> m.s.testBit k = true) /\ (∀ k, m'.l.testBit k = true -> m.l.testBit k = true) /\ (∀ k, m'.a.testBit k = true -> m.a.testBit k = true)
def PdLe (pd pd' : Pd) : Prop := ∀ p' ∈ pd', ∃ p ∈ pd, p.1 = p'.1 /\ ∀ h, p.2 h = true -> p'.2 h = true
theorem MLe.of_add (m : Met) (c : Cls) (i : Nat) : MLe (m.add c i) m := by
 cases c <;> refine ⟨fun k hk => ?_, fun k hk => ?_, fun k hk => ?_, fun k hk => ?_, fun k hk => ?_⟩ <;> simp [Met.add, hk]
theorem MLe.add {m m' : Met} (h : MLe m m') (c : Cls) (i : Nat) : MLe (m.add c i) (m'.add c i) := by
 obtain ⟨h1, h2, h3, h4, h5⟩ := h
 have key : ∀ a b : Nat, (∀ k, b.testBit k = true -> a.testBit k = true) -> ∀ k, (b ||| bit i).testBit k = true -> (a ||| bit i).testBit k = true := by
  intro a b hab k hk
  rw [Nat.testBit_or, Bool.or_eq_true] at hk ⊢
  rcases hk with hk | hk
  ·exact .inl (hab k hk)
  ·exact .inr hk
 cases c
 ·exact ⟨h1, h2, h3, h4, h5⟩
 ·exact ⟨h1, h2, h3, key _ _ h4, h5⟩
 ·exact ⟨h1, h2, key _ _ h3, h4, h5⟩
 ·exact ⟨h1, key _ _ h2, h3, h4, h5⟩
 ·exact ⟨key _ _ h1, h2, h3, h4, h5⟩
 ·exact ⟨h1, h2, h3, h4, h5⟩
 ·exact ⟨h1, h2, h3, h4, key _ _ h5⟩
theorem MLe.chk {m m' : Met} (h : MLe m m') (c : Cls) {b : Nat} (hw : within (m.chk c) b = true) : within (m'.chk c) b = true := by
 obtain ⟨h1, h2, h3, h4, h5⟩ := h
 rw [within_iff] at hw ⊢
 intro k hk
 apply hw
 cases c
 ·exact hk
 ·exact h3 k hk
 ·simp only [Met.chk, Nat.testBit_or, Bool.or_eq_true] at hk ⊢
  rcases hk with hk | hk
  ·exact .inl (h3 k hk)
  ·exact .inr (h4 k hk)
 ·exact h1 k hk
 ·simp only [Met.chk, Nat.testBit_or, Bool.or_eq_true] at hk ⊢
  rcases hk with (hk | hk) | hk
  ·exact .inl (.inl (h1 k hk))
  ·exact .inl (.inr (h2 k hk))
  ·exact .inr (h5 k hk)
 ·exact hk
 ·exact h1 k hk
theorem rdOk_mono {al : List Nat} {rs : Nat -> Option Nat} {m m' : Met} {b : Nat} {id : Option Nat} {c : Cls} (hm : MLe m m') (hw : rdOk al rs m b id c = true) : rdOk al rs m' b id c = true := by
 unfold rdOk at hw ⊢
 split at hw
 ·simp only [List.all_eq_true, Bool.or_eq_true, Bool.not_eq_true'] at hw ⊢
  intro j hj
  rcases hw j hj with z | z | z
  ·exact .inl z
  ·refine .inr (.inl ?_)
   cases hq : m'.a.testBit j with
   | false => rfl
   | true => rw [hm.2.2.2.2 j hq] at z; cases z
  ·exact .inr (.inr z)
 ·rfl
theorem rsOf_mem : ∀ {l : List Nat} {k j n : Nat}, rsOf k l j = some n -> j ∈ l
 | [], _, _, _, h => by cases h
 | i :: r, k, j, n, h => by
   unfold rsOf at h
   split at h
   ·rename_i e
    rw [Nat.eq_of_beq_eq_true e]
    exact List.mem_cons_self
   ·exact List.mem_cons_of_mem _ (rsOf_mem h)
theorem weak_mono {m m' : Met} {pd pd' : Pd} {b : Nat} {e e' : Ef} (hm : MLe m m') (hp : PdLe pd pd') (hc : e'.c = e.c) (hh : e.c = .e -> e'.h = e.h) (hw : weak m pd b e = true) : weak m' pd' b e' = true := by
 unfold weak at hw ⊢
 cases hec : e.c with
 | e =>
   rw [hec] at hw hc
   rw [hc, hh hec]
   simp only [Bool.and_eq_true, List.all_eq_true, Bool.or_eq_true] at hw ⊢
   refine ⟨(within_iff _ _).2 fun k hk => (within_iff _ _).1 hw.1 k ?_, fun p' hp' => ?_⟩
   ·rw [Nat.testBit_or, Bool.or_eq_true] at hk ⊢
    exact hk.imp (hm.1 k) (hm.2.2.2.2 k)
   obtain ⟨p, q1, q2, q3⟩ := hp p' hp'
   rcases hw.2 p q1 with z | z
   ·exact .inl (by rw [<- q2]; exact z)
   ·exact .inr (q3 _ z)
 | _ => rw [hec] at hw; cases hw
theorem ok_mono {al : List Nat} {rs : Nat -> Option Nat} {id : Option Nat} {m m' : Met} {pd pd' : Pd} {b : Nat} {e e' : Ef} (hm : MLe m m') (hp : PdLe pd pd') (hc : e'.c = e.c) (hh : e.c = .e -> e'.h = e.h) (hw : okB al rs m pd b id e = true) :
  okB al rs m' pd' b id e' = true := by
 unfold okB at hw ⊢
 rw [Bool.and_eq_true, Bool.or_eq_true] at hw ⊢
 refine ⟨?_, by rw [hc]; exact rdOk_mono hm hw.2⟩
 rcases hw.1 with z | z
 ·exact .inl (by rw [hc]; exact hm.chk _ z)
 ·exact .inr (weak_mono hm hp hc hh z)
theorem PdLe.refl (pd : Pd) : PdLe pd pd := fun p hp => ⟨p, hp, rfl, fun _ h => h⟩
theorem PdLe.of_add (pd : Pd) (o : Oper) (ev : Operand -> Option TV) (e : Ef) (i : Nat) : PdLe (pdAdd E o ev e i pd) pd := by
 intro p hp
 refine ⟨p, ?_, rfl, fun _ h => h⟩
 unfold pdAdd
 split
 ·exact List.mem_cons_of_mem _ hp
 ·exact hp
theorem PdLe.add {pd pd' : Pd} (h : PdLe pd pd') (o : Oper) (ev : Operand -> Option TV) (e : Ef) (i : Nat) : PdLe (pdAdd E o ev e i pd) (pdAdd E o ev e i pd') := by
 unfold pdAdd
 split
 ·intro p' hp'
  rcases List.mem_cons.1 hp' with rfl | hp'
  ·exact ⟨_, List.mem_cons_self, rfl, fun _ z => z⟩
  ·obtain ⟨p, q1, q2⟩ := h p' hp'
   exact ⟨p, List.mem_cons_of_mem _ q1, q2⟩
 ·exact h
theorem runR_mono {al : List Nat} {rs : Nat -> Option Nat} {draw : Bool} : ∀ {l : List (Oper × Nat)} {m m' : Met} {pd pd' : Pd} {F F' : FF} {h h' : Heap}, RunR E f cf ops bef al rs draw l m pd F h F' h' -> MLe m m' -> PdLe pd pd' -> RunR E f cf ops bef al rs draw l m' pd' F h F' h'
 | [], _, _, _, _, _, _, _, _, hr, _, _ => hr
 | (o, i) :: l, m, m', pd, pd', F, F', h, h', hr, hm, hp => by
   obtain ⟨e, r1, r2, r3⟩ := hr
   exact ⟨e, r1, fun hd => ok_mono hm hp rfl (fun _ => rfl) (r2 hd), runR_mono r3 (hm.add _ _) (hp.add _ _ _ _)⟩
theorem MLe.refl (m : Met) : MLe m m := ⟨fun _ h => h, fun _ h => h, fun _ h => h, fun _ h => h, fun _ h => h⟩
theorem bubble (hcfi : CfIso E cf) {al : List Nat} {rs : Nat -> Option Nat} (hrs : ∀ j n, rs j = some n -> j ∈ al) {o : Oper} {i : Nat} {B : List (Oper × Nat)} : ∀ {A : List (Oper × Nat)} {m : Met} {pd : Pd} {F F' : FF} {h h' : Heap}, AddrOk F -> (∀ p ∈ A, (bef i).testBit p.2 = false /\ Oper.apart ops.toArray p.1 o = true) ->
  RunR E f cf ops bef al rs true (A ++ (o, i) :: B) m pd F h F' h' ->
  ∃ e, effA E f cf ops true (rs i) o F.tm F.lv h = some e /\ okB al rs m pd (bef i) (rdId o (evOp E F.tm)) e = true /\ RunR E f cf ops bef al rs true (A ++ B) m pd (F.app o.dst e) e.h F' h'
 | [], m, pd, F, F', h, h', _, _, hr => by
   obtain ⟨e, r1, r2, r3⟩ := hr
   exact ⟨e, r1, r2 rfl, runR_mono r3 (MLe.of_add _ _ _) (PdLe.of_add _ _ _ _ _)⟩
 | (oa, ia) :: A, m, pd, F, F', h, h', hAd, hA, hr => by
   obtain ⟨h1, h2⟩ := hA (oa, ia) (by simp)
   obtain ⟨ea, r1, r2, r3⟩ := hr
   obtain ⟨ei, s1, s2, s3⟩ := bubble hcfi hrs (hAd.appA hcfi r1) (fun p hp => hA p (by simp [hp])) r3
   have hr2 := r2 rfl
   obtain ⟨ab, ap, al_, as_, ar, ae, ax, aa⟩ := effA_indep hcfi r1
   obtain ⟨ib, ip, il, is_, ir, ie, ix, ia_⟩ := effA_indep hcfi s1
   obtain ⟨t1, t2, t3⟩ := Oper.apart_spec h2
   have hro : rdId o (evOp E (F.app oa.dst ea).tm) = rdId o (evOp E F.tm) := rdId_cong (evOp_cong (E := E) (ops := ops) fun t ht => by rw [app_tm ab, if_neg (fun e => t1 t e ht)])
   rw [hro] at s2
   cases hcl : clash ea.c ei.c with
   | false =>
     have hra : ea.c = .a -> ei.c = .r -> ∀ n id, rs ia = some n -> rdId o (evOp E F.tm) = some id -> n ≠ id := by
      intro c1 c2 n id hn hid
      have hs := s2
      unfold okB rdOk at hs
      rw [c2, Bool.and_eq_true] at hs
      have hs2 := hs.2
      simp only [List.all_eq_true, Bool.or_eq_true, Bool.not_eq_true'] at hs2
      obtain ⟨_, n', x', w1, _⟩ := aa c1
      rw [w1] at hn
      simp only [Option.some.injEq] at hn
      subst hn
      rcases hs2 ia (hrs _ _ w1) with z | z | z
      ·rw [h1] at z; cases z
      ·rw [c1] at z; simp [Met.add, testBit_bit] at z
      ·rw [w1, hid] at z
       simp only [Bool.not_eq_true'] at z
       rintro rfl
       rw [Nat.beq_refl] at z; cases z
     obtain ⟨ei', ea', q1, q2, q3, q4, q5, q6, q7⟩ := swap hcfi hAd h2 r1 s1 hcl hra
     obtain ⟨ib', _, _, _, _, _, _, _⟩ := effA_indep hcfi q1
     obtain ⟨ab', ap', al', as', ar', ae', ax', aa'⟩ := effA_indep hcfi q2
     have hra' : rdId oa (evOp E (F.app o.dst ei').tm) = rdId oa (evOp E F.tm) := rdId_cong (evOp_cong (E := E) (ops := ops) fun t ht => by rw [app_tm ib', if_neg (fun e => t3 t e ht)])
     have hih : ei.c = .e -> ei'.h = ei.h := by
      intro hc
      rw [<- q6]
      rw [hc] at hcl
      cases hca : ea'.c with
      | p => exact (ap' hca).2.1.symm
      | l => exact (al' hca).2.1.symm
      | s => exact (as' hca).1.symm
      | b => exact (ax' hca).1.symm
      | r => rw [q4] at hca; rw [hca] at hcl; cases hcl
      | e => rw [q4] at hca; rw [hca] at hcl; cases hcl
      | a => rw [q4] at hca; rw [hca] at hcl; cases hcl
     have hah : ea.c = .e -> ea'.h = ea.h := by
      intro hc
      rw [q6]
      rw [hc] at hcl
      cases hci : ei.c with
      | p => exact (ip hci).2.1
      | l => exact (il hci).2.1
      | s => exact (is_ hci).1
      | b => exact (ix hci).1
      | r => rw [hci] at hcl; cases hcl
      | e => rw [hci] at hcl; cases hcl
      | a => rw [hci] at hcl; cases hcl
     refine ⟨ei', q1, ok_mono (MLe.of_add _ _ _) (PdLe.of_add _ _ _ _ _) q3 hih s2, ea', q2, fun _ => by rw [hra']; exact ok_mono (MLe.refl _) (PdLe.refl _) q4 hah hr2, ?_⟩
     rw [q4, q5, q6]
     refine runR_mono s3 (MLe.refl _) ?_
     have hev : ∀ h2, rSem E oa (evOp E (F.app o.dst ei').tm) h2 = rSem E oa (evOp E F.tm) h2 := fun h2 => rSem_cong (evOp_cong (E := E) (ops := ops) fun t ht => by rw [app_tm ib', if_neg (fun e => t3 t e ht)])
     unfold pdAdd
     rw [q4]
     cases hca : ea.c with
     | r =>
       simp only [q7, hev]
       exact PdLe.refl _
     | _ => exact PdLe.refl _
   | true =>
     have s2' := s2
     unfold okB at s2'
     rw [Bool.and_eq_true, Bool.or_eq_true] at s2'
     rcases s2'.1 with s2' | s2'
     ·have := (within_iff _ _).1 s2' ia (chk_clash m ia hcl)
      rw [h1] at this; cases this
     ·have hic : ei.c = .e := by
       unfold weak at s2'
       cases hc : ei.c with
       | e => rfl
       | _ => rw [hc] at s2'; cases s2'
      have hs := s2'
      unfold weak at hs
      rw [hic] at hs hcl
      simp only [Bool.and_eq_true] at hs
      have hac : ea.c = .r := by
       cases hc : ea.c with
       | r => rfl
       | e =>
         exfalso
         have := (within_iff _ _).1 hs.1 ia (by rw [hc]; simp [Met.add, testBit_bit])
         rw [h1] at this; cases this
       | a =>
         exfalso
         have := (within_iff _ _).1 hs.1 ia (by rw [hc]; simp [Met.add, testBit_bit])
         rw [h1] at this; cases this
       | _ => rw [hc] at hcl; cases hcl
      have hall := hs.2
      unfold pdAdd at hall
      rw [hac] at hall
      simp only [List.all_cons, Bool.and_eq_true, h1, Bool.false_or] at hall
      have hP := hall.1
      have hsame : effA E f cf ops true (rs ia) oa F.tm F.lv ei.h = some { ea with h := ei.h } := by
       split at hP
       ·rename_i v2 v hv2 hv
        have e1 := tvEq_eq hP
        subst e1
        exact effA_read r1 hac hv2 hv
       ·cases hP
      obtain ⟨g1, g2, g3⟩ := swapR hcfi h2 r1 s1 hac hic hsame
      have hra' : rdId oa (evOp E (F.app o.dst ei).tm) = rdId oa (evOp E F.tm) := rdId_cong (evOp_cong (E := E) (ops := ops) fun t ht => by rw [app_tm ib, if_neg (fun e => t3 t e ht)])
      refine ⟨ei, g1, ok_mono (MLe.of_add _ _ _) (PdLe.of_add _ _ _ _ _) rfl (fun _ => rfl) s2, { ea with h := ei.h }, g2, fun _ => ?_, ?_⟩
      ·rw [hra']
       exact ok_mono (e := ea) (e' := { ea with h := ei.h }) (MLe.refl _) (PdLe.refl _) rfl (fun hc => by rw [hac] at hc; cases hc) hr2
      ·rw [g3]
       refine runR_mono s3 (MLe.refl _) ?_
       have hev : ∀ h2, rSem E oa (evOp E (F.app o.dst ei).tm) h2 = rSem E oa (evOp E F.tm) h2 := fun h2 => rSem_cong (evOp_cong (E := E) (ops := ops) fun t ht => by rw [app_tm ib, if_neg (fun e => t3 t e ht)])
       unfold pdAdd
       simp only [hac, hev]
       exact PdLe.refl _
structure RegOk (ops : List Oper) (bef : Nat -> Nat) : Prop where
 back : ∀ i o, ops[i]? = some o -> ∀ e ∈ o.after.toList, Region.binds .any e = true -> e.on < i
 apart : ∀ i o a oa, ops[i]? = some o -> a < i -> ops[a]? = some oa -> (bef i).testBit a = false -> Oper.apart ops.toArray oa o = true
 clos : ∀ i o a, ops[i]? = some o -> (bef i).testBit a = true -> ∃ e ∈ o.after.toList, Region.binds .any e = true /\ (e.on = a \/ (bef e.on).testBit a = true)
theorem listed_bef (hR : RegOk ops bef) {P : Nat -> Prop} (hclosed : ∀ j o, P j -> ops[j]? = some o -> ∀ e ∈ o.after.toList, Region.binds .any e = true -> P e.on) (hin : ∀ j, P j -> ∃ o, ops[j]? = some o) :
  ∀ i o, ops[i]? = some o -> (∀ e ∈ o.after.toList, Region.binds .any e = true -> P e.on) -> ∀ a, (bef i).testBit a = true -> P a := by
 intro i
 induction i using Nat.strongRecOn with
 | _ i ih =>
   intro o ho he a ha
   obtain ⟨e, h1, h2, h3⟩ := hR.clos i o a ho ha
   have hp := he e h1 h2
   rcases h3 with rfl | h3
   ·exact hp
   ·obtain ⟨o', ho'⟩ := hin _ hp
    exact ih e.on (hR.back i o ho e h1 h2) o' ho' (fun e' h1' h2' => hclosed _ _ hp ho' e' h1' h2') a h3
variable {B n : Nat}
structure Todo (ops : List Oper) (n : Nat) (L : List (Oper × Nat)) : Prop where
 at_ : ∀ p ∈ L, ops[p.2]? = some p.1
 dst : ∀ p ∈ L, ∀ t, p.1.dst = some t -> t < n
theorem Nxt.trans' {M M1 M2 : Meta} {h h1 h2 : Heap} {w w1 w2 : World} {a a1 a2 : Act} {F1 F2 : FF} {pb1 pb2 : Nat -> Nat} (x : Nxt E B n M h w a F1 h1 a1 w1 M1 pb1) (y : Nxt E B n M1 h1 w1 a1 F2 h2 a2 w2 M2 pb2) :
  Nxt E B n M h w a F2 h2 a2 w2 M2 pb2 := ⟨y.fr, y.inv, y.glob, x.pres.trans y.pres, y.defers.trans x.defers⟩
theorem list_sim {al : List Nat} {rs : Nat -> Option Nat} {draw : Bool} (hcf : CFok E cf) (Q : Exit -> Act -> World -> Prop) : ∀ (L : List (Oper × Nat)) (m : Met) (pd : Pd) (F : FF) (h : Heap) (F' : FF) (h' : Heap), RunR E f cf ops bef al rs draw L m pd F h F' h' -> Todo ops n L ->
  ∀ (M : Meta) (w : World) (a : Act) (pb : Nat -> Nat), GOK E M -> Inv M h w -> FR M h w B n F a pb -> B <= w.heap.size ->
  (∀ a' w' M' pb', Nxt E B n M h w a F' h' a' w' M' pb' -> Q .normal a' w') -> wpOps E.P ops.toArray Q (L.map (·.2)) a w
 | [], m, pd, F, h, F', h', hr, hT, M, w, a, pb, hG, hI, hF, hB, hQ => by
   obtain ⟨rfl, rfl⟩ := hr
   exact hQ a w M pb ⟨hF, hI, hG, Pres.refl _ _ _ _, rfl⟩
 | (o, i) :: L, m, pd, F, h, F', h', hr, hT, M, w, a, pb, hG, hI, hF, hB, hQ => by
   obtain ⟨e, r1, r2, r3⟩ := hr
   have ho : ops.toArray[i]? = some o := by simpa using hT.at_ (o, i) (by simp)
   simp only [List.map_cons, wpOps, ho]
   refine opA_sim hcf hG hI hF hB (hT.dst (o, i) (by simp)) r1 Q _ (fun a1 w1 M1 pb1 hx => ?_)
   exact list_sim hcf Q L _ _ _ _ _ _ r3 ⟨fun p hp => hT.at_ p (by simp [hp]), fun p hp => hT.dst p (by simp [hp])⟩ M1 w1 a1 pb1 hx.glob hx.inv hx.fr (Nat.le_trans hB hx.pres.size)
    (fun a2 w2 M2 pb2 hy => hQ a2 w2 M2 pb2 (hx.trans' hy))
structure Lst (ops : List Oper) (L : List (Oper × Nat)) (listed : Array Bool) : Prop where
 size : listed.size = ops.length
 iff_ : ∀ i, i < ops.length -> (listed.getD i true = false ↔ ∃ p ∈ L, p.2 = i)
 clos : ∀ j o, ops[j]? = some o -> listed.getD j true = true -> ∀ e ∈ o.after.toList, Region.binds .any e = true -> listed.getD e.on false = true
theorem ahead_cases {p q : Oper × Nat} (h : ahead ops p q = true) : p.2 < q.2 \/ (p.2 ≠ q.2 /\ (∀ e ∈ p.1.after.toList, e.on ≠ q.2) /\ Oper.apart ops.toArray p.1 q.1 = true) := by
 unfold ahead at h
 simp only [Bool.or_eq_true, Bool.and_eq_true, List.all_eq_true, Bool.not_eq_true'] at h
 rcases h with h | ⟨⟨h1, h2⟩, h3⟩
 ·exact .inl (Nat.le_of_ble_eq_true h)
 ·exact .inr ⟨Nat.ne_of_beq_eq_false h1, fun e he => Nat.ne_of_beq_eq_false (h2 e he), h3⟩
theorem ahead_ne {p q : Oper × Nat} (h : ahead ops p q = true) : p.2 ≠ q.2 := by
 rcases ahead_cases h with z | z
 ·omega
 ·exact z.1
theorem aheadL_pw : ∀ {L : List (Oper × Nat)}, aheadL ops L = true -> L.Pairwise (fun p q => ahead ops p q = true)
 | [], _ => .nil
 | p :: r, h => by
   simp only [aheadL, Bool.and_eq_true, List.all_eq_true] at h
   exact .cons h.1 (aheadL_pw h.2)
theorem getD_tf (l : Array Bool) (i : Nat) (h : i < l.size) (a b : Bool) : l.getD i a = l.getD i b := by simp [Array.getD_eq_getD_getElem?, h]
theorem any_sim {al : List Nat} {rs : Nat -> Option Nat} (hrs : ∀ j n, rs j = some n -> j ∈ al) (hcf : CFok E cf) (hcfi : CfIso E cf) (hR : RegOk ops bef) (Q : Exit -> Act -> World -> Prop) : ∀ (fuel : Nat) (L : List (Oper × Nat)) (listed : Array Bool) (m : Met) (pd : Pd) (F : FF) (h : Heap) (F' : FF) (h' : Heap), L.length <= fuel -> RunR E f cf ops bef al rs true L m pd F h F' h' -> Todo ops n L -> L.Pairwise (fun p q => ahead ops p q = true) -> Lst ops L listed ->
  ∀ (M : Meta) (w : World) (a : Act) (pb : Nat -> Nat), GOK E M -> Inv M h w -> FR M h w B n F a pb -> B <= w.heap.size ->
  (∀ a' w' M' pb', Nxt E B n M h w a F' h' a' w' M' pb' -> Q .normal a' w') -> wpAny E.P .any ops.toArray Q fuel listed a w := by
 have empty : ∀ {L : List (Oper × Nat)} {listed : Array Bool}, Todo ops n L -> L.Pairwise (fun p q => ahead ops p q = true) -> Lst ops L listed -> Region.ready .any ops.toArray listed = [] -> L = [] := by
  intro L listed hT hrs hL hr
  cases L with
  | nil => rfl
  | cons p L =>
    exfalso
    have hp := hT.at_ p (by simp)
    have hlt : p.2 < ops.length := (List.getElem?_eq_some_iff.1 hp).1
    have hfalse := (hL.iff_ p.2 hlt).2 ⟨p, by simp, rfl⟩
    have : p.2 ∈ Region.ready .any ops.toArray listed := by
     simp only [Region.ready, List.mem_filter, List.mem_range, List.size_toArray]
     refine ⟨hlt, ?_⟩
     simp only [hfalse, Bool.not_false, Bool.true_and, List.getElem?_toArray, hp, Option.map_some, Option.getD_some]
     rw [Array.all_eq_true_iff_forall_mem]
     intro e he
     cases hb : Region.binds .any e with
     | false => simp
     | true =>
       have hon := hR.back p.2 p.1 hp e (by simpa using he) hb
       have hlt' : e.on < ops.length := by omega
       simp only [Bool.not_true, Bool.false_or]
       rw [getD_tf listed e.on (by rw [hL.size]; exact hlt') false true]
       cases hq : listed.getD e.on true with
       | true => rfl
       | false =>
         obtain ⟨q, q1, q2⟩ := (hL.iff_ e.on hlt').1 hq
         have hrise := List.pairwise_cons.1 hrs
         simp only [List.mem_cons] at q1
         rcases q1 with rfl | q1
         ·omega
         ·rcases ahead_cases (hrise.1 q q1) with z | ⟨_, z, _⟩
          ·omega
          ·exact absurd q2.symm (z e (by simpa using he))
    rw [hr] at this
    simp at this
 intro fuel
 induction fuel with
 | zero =>
   intro L listed m pd F h F' h' hlen hr hT hris hL M w a pb hG hI hF hB hQ
   have : L = [] := by simpa using hlen
   subst this
   obtain ⟨rfl, rfl⟩ := hr
   refine ⟨?_, hQ a w M pb ⟨hF, hI, hG, Pres.refl _ _ _ _, rfl⟩⟩
   simp only [Region.ready]
   rw [List.filter_eq_nil_iff]
   intro i hi
   simp only [List.mem_range, List.size_toArray] at hi
   have : ¬ listed.getD i true = false := by
    rw [hL.iff_ i hi]
    simp
   simp at this
   simp [this]
 | succ fuel ih =>
   intro L listed m pd F h F' h' hlen hr hT hris hL M w a pb hG hI hF hB hQ
   refine ⟨fun hre => ?_, fun i hi => ?_⟩
   ·have := empty hT hris hL hre
    subst this
    obtain ⟨rfl, rfl⟩ := hr
    exact hQ a w M pb ⟨hF, hI, hG, Pres.refl _ _ _ _, rfl⟩
   ·simp only [Region.ready, List.mem_filter, List.mem_range, List.size_toArray, Bool.and_eq_true, Bool.not_eq_true', List.getElem?_toArray] at hi
    obtain ⟨hlt, hfalse, hall⟩ := hi
    obtain ⟨p, hp, hpi⟩ := (hL.iff_ i hlt).1 hfalse
    obtain ⟨o, i'⟩ := p
    simp only at hpi
    subst hpi
    obtain ⟨A, B', hAB⟩ := List.append_of_mem hp
    subst hAB
    have ho : ops[i']? = some o := hT.at_ _ hp
    have hwait : ∀ e ∈ o.after.toList, Region.binds .any e = true -> listed.getD e.on false = true := by
     simp only [ho, Option.map_some, Option.getD_some] at hall
     rw [Array.all_eq_true_iff_forall_mem] at hall
     intro e he hb
     have := hall e (by simpa using he)
     simpa [hb] using this
    have hrise := List.pairwise_append.1 hris
    have hAlt : ∀ q ∈ A, ahead ops q (o, i') = true := fun q hq => hrise.2.2 q hq (o, i') (by simp)
    have hcl : ∀ j oj, (j < ops.length /\ listed.getD j true = true) -> ops[j]? = some oj -> ∀ e ∈ oj.after.toList, Region.binds .any e = true -> (e.on < ops.length /\ listed.getD e.on true = true) := by
     intro j oj hj hoj e he hb
     have h1 := hR.back j oj hoj e he hb
     have h2 := hL.clos j oj hoj hj.2 e he hb
     refine ⟨by omega, ?_⟩
     rwa [getD_tf listed e.on (by rw [hL.size]; omega) true false]
    have hbef := listed_bef hR (P := fun j => j < ops.length /\ listed.getD j true = true) hcl (fun j hj => ⟨_, List.getElem?_eq_getElem hj.1⟩) i' o ho
     (fun e he hb => by
      have h1 := hR.back i' o ho e he hb
      refine ⟨by omega, ?_⟩
      rw [getD_tf listed e.on (by rw [hL.size]; omega) true false]
      exact hwait e he hb)
    have hr' := bubble hcfi hrs hF.addr (fun q hq => by
     have hq' : q ∈ A ++ (o, i') :: B' := by simp [hq]
     have hqo := hT.at_ q hq'
     have hqlt : q.2 < ops.length := (List.getElem?_eq_some_iff.1 hqo).1
     have hqf := (hL.iff_ q.2 hqlt).2 ⟨q, hq', rfl⟩
     have hnb : (bef i').testBit q.2 = false := by
      cases hb : (bef i').testBit q.2 with
      | false => rfl
      | true =>
        have := (hbef q.2 hb).2
        rw [hqf] at this; simp at this
     refine ⟨hnb, ?_⟩
     rcases ahead_cases (hAlt q hq) with z | ⟨_, _, z⟩
     ·exact hR.apart i' o q.2 q.1 ho z hqo hnb
     ·exact z) hr
    obtain ⟨e, r1, r2, r3⟩ := hr'
    have hT' : Todo ops n (A ++ B') := by
     refine ⟨fun q hq => hT.at_ q ?_, fun q hq => hT.dst q ?_⟩
     ·simp at hq ⊢; rcases hq with hq | hq <;> simp [hq]
     ·simp at hq ⊢; rcases hq with hq | hq <;> simp [hq]
    have hrs' : (A ++ B').Pairwise (fun p q => ahead ops p q = true) := List.pairwise_append.2 ⟨hrise.1, (List.pairwise_cons.1 hrise.2.1).2, fun x hx y hy => hrise.2.2 x hx y (by simp [hy])⟩
    have hAne : ∀ q ∈ A, q.2 ≠ i' := fun q hq => ahead_ne (hAlt q hq)
    have hBne : ∀ q ∈ B', q.2 ≠ i' := fun q hq => (ahead_ne ((List.pairwise_cons.1 hrise.2.1).1 q hq)).symm
    have hset : ∀ j, j < ops.length -> (listed.setIfInBounds i' true).getD j true = if j = i' then true else listed.getD j true := by
     intro j hj
     simp only [Array.getD_eq_getD_getElem?, Array.getElem?_setIfInBounds]
     by_cases hji : j = i'
     ·subst hji; simp [hL.size, hj]
     ·rw [if_neg (fun e => hji e.symm), if_neg hji]
    have hL' : Lst ops (A ++ B') (listed.setIfInBounds i' true) := by
     refine ⟨by simpa using hL.size, fun j hj => ?_, fun j oj hoj hj e he hb => ?_⟩
     ·rw [hset j hj]
      by_cases hji : j = i'
      ·subst hji
       simp only [if_true]
       constructor
       ·intro h; simp at h
       ·rintro ⟨q, hq, e⟩
        simp only [List.mem_append] at hq
        rcases hq with hq | hq
        ·exact absurd e (hAne q hq)
        ·exact absurd e (hBne q hq)
      ·rw [if_neg hji, hL.iff_ j hj]
       constructor
       ·rintro ⟨q, hq, e⟩
        simp only [List.mem_append, List.mem_cons] at hq
        rcases hq with hq | rfl | hq
        ·exact ⟨q, by simp [hq], e⟩
        ·exact absurd e.symm hji
        ·exact ⟨q, by simp [hq], e⟩
       ·rintro ⟨q, hq, e⟩
        simp only [List.mem_append] at hq
        rcases hq with hq | hq
        ·exact ⟨q, by simp [hq], e⟩
        ·exact ⟨q, by simp [hq], e⟩
     ·have hjl : j < ops.length := (List.getElem?_eq_some_iff.1 hoj).1
      have hon := hR.back j oj hoj e he hb
      have hsz : (listed.setIfInBounds i' true).size = ops.length := by simpa using hL.size
      rw [getD_tf _ e.on (by omega) false true, hset _ (by omega)]
      by_cases hei : e.on = i'
      ·simp [hei]
      ·rw [if_neg hei]
       rw [getD_tf listed e.on (by rw [hL.size]; omega) true false]
       rw [hset j hjl] at hj
       by_cases hji : j = i'
       ·subst hji
        rw [ho] at hoj; simp at hoj; subst hoj
        exact hwait e he hb
       ·rw [if_neg hji] at hj
        exact hL.clos j oj hoj hj e he hb
    have ho' : ops.toArray[i']? = some o := by simpa using ho
    simp only [wpOp, ho']
    refine opA_sim hcf hG hI hF hB (hT.dst (o, i') (by simp)) r1 Q _ (fun a1 w1 M1 pb1 hx => ?_)
    exact ih (A ++ B') _ _ _ _ _ _ _ (by simp at hlen ⊢; omega) r3 hT' hrs' hL' M1 w1 a1 pb1 hx.glob hx.inv hx.fr (Nat.le_trans hB hx.pres.size) (fun a2 w2 M2 pb2 hy => hQ a2 w2 M2 pb2 (hx.trans' hy))
end
end Go.Pv
