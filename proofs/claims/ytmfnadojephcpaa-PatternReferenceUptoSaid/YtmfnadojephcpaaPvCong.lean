import Derived.Test.YtmfnadojephcpaaPvE
set_option linter.unusedSimpArgs false
namespace Go.Pv
section
variable {E : Env} {f : FuncId} {o : Oper} {ev ev' : Operand -> Option TV} {h : Heap}
theorem map_cong {l : List Operand} (hl : ∀ x ∈ l, ev x = ev' x) : l.map ev = l.map ev' := List.map_congr_left hl
theorem parts_cong {l : List (Nat × Operand)} (hl : ∀ x ∈ l.map (·.2), ev x = ev' x) : (l.map fun (i, x) => (i, ev x)) = l.map fun (i, x) => (i, ev' x) :=
 List.map_congr_left fun p hp => by
  obtain ⟨i, x⟩ := p
  simp only [hl x (List.mem_map.2 ⟨(i, x), hp, rfl⟩)]
theorem opt_cong {x : Option Operand} (hl : ∀ y, x = some y -> ev y = ev' y) : x.map ev = x.map ev' := by
 cases x with
 | none => rfl
 | some y => simp [hl y rfl]
theorem pSem_cong (hc : ∀ x ∈ o.op.operands, ev x = ev' x) : pSem E f o ev = pSem E f o ev' := by
 unfold pSem
 cases hop : o.op <;> simp only [hop, Op.operands] at hc ⊢
 case move x => rw [hc x (by simp)]
 case assign x => rw [hc x (by simp)]
 case pick c a b => rw [hc c (by simp), hc a (by simp), hc b (by simp)]
 case box t x => rw [hc x (by simp)]
 case build t ps => rw [parts_cong (ev := ev) (ev' := ev') (fun x hx => hc x (by simpa using hx))]
 case buildSlice t n ps => rw [parts_cong (ev := ev) (ev' := ev') (fun x hx => hc x (by simpa using hx))]
 case load t x => rw [hc x (by simp)]
 case nilCheck x => rw [hc x (by simp)]
 case binOp op t x y u => rw [hc x (by simp), hc y (by simp)]
 case unOp op t x => rw [hc x (by simp)]
 case convert s d x => rw [hc x (by simp)]
 case makeInterface t x => rw [hc x (by simp)]
 case makeFunc fn a b => rw [map_cong (ev := ev) (ev' := ev') (fun x hx => hc x (by simp at hx ⊢; exact .inl hx)), map_cong (ev := ev) (ev' := ev') (l := b.toList) (fun x hx => hc x (by simp at hx ⊢; exact .inr hx))]
 case slice t x lo hi mx =>
  rw [hc x (by simp), opt_cong (ev := ev) (ev' := ev') (fun y hy => hc y (by subst hy; simp)), opt_cong (ev := ev) (ev' := ev') (x := hi) (fun y hy => hc y (by subst hy; simp))]
 case fieldAddr t x i => rw [hc x (by simp)]
 case field t x i => rw [hc x (by simp)]
 case indexAddr t x i => rw [hc x (by simp), hc i (by simp)]
 case index t x i => rw [hc x (by simp), hc i (by simp)]
 case extract x i => rw [hc x (by simp)]
 case typeAssert x s t ok => rw [hc x (by simp)]
 case call c =>
  obtain ⟨callee, args, argTypes⟩ := c
  cases callee with
  | value x => rfl
  | invoke x n => rfl
  | builtin b =>
    have ha : ∀ x ∈ args.toList, ev x = ev' x := fun x hx => hc x (by simp [Call.operands]; simpa using hx)
    have h0 : ((args[0]?).bind fun x => plain (ev x)) = (args[0]?).bind fun x => plain (ev' x) := by
     cases hq : args[0]? with
     | none => rfl
     | some y =>
       have : y ∈ args.toList := by
        rw [<- Array.getElem?_toList] at hq
        exact List.mem_of_getElem? hq
       simp [ha y this]
    cases b <;> simp only [h0, map_cong ha]
theorem lSem_cong {lv lv' : Nat -> Option (List IV)} (hc : ∀ x ∈ o.op.operands, ev x = ev' x) (hl : ∀ s, lv s = lv' s) : lSem E o ev lv = lSem E o ev' lv' := by
 have : lv = lv' := funext hl
 subst this
 unfold lSem
 cases hop : o.op <;> simp only [hop, Op.operands] at hc ⊢
 case load t x => rw [hc x (by simp)]
theorem sSem_cong {lv lv' : Nat -> Option (List IV)} (hc : ∀ x ∈ o.op.operands, ev x = ev' x) (hl : ∀ s, lv s = lv' s) : sSem E o ev lv = sSem E o ev' lv' := by
 have : lv = lv' := funext hl
 subst this
 unfold sSem
 cases hop : o.op <;> simp only [hop, Op.operands] at hc ⊢
 case store t a x => rw [hc a (by simp), hc x (by simp)]
theorem rSem_cong (hc : ∀ x ∈ o.op.operands, ev x = ev' x) : rSem E o ev h = rSem E o ev' h := by
 unfold rSem
 cases hop : o.op <;> simp only [hop, Op.operands] at hc ⊢
 case load t x => rw [hc x (by simp)]
 case convert s d x => rw [hc x (by simp)]
 case slice t x lo hi mx =>
  rw [hc x (by simp), opt_cong (ev := ev) (ev' := ev') (fun y hy => hc y (by subst hy; simp)), opt_cong (ev := ev) (ev' := ev') (x := hi) (fun y hy => hc y (by subst hy; simp))]
 case lookup t x k ok => rw [hc x (by simp), hc k (by simp)]
 case call c =>
  obtain ⟨callee, args, argTypes⟩ := c
  cases callee with
  | value x => rfl
  | invoke x n => rfl
  | builtin b =>
    have ha : ∀ x ∈ args.toList, ev x = ev' x := fun x hx => hc x (by simp [Call.operands]; simpa using hx)
    have h0 : ((args[0]?).bind fun x => plain (ev x)) = (args[0]?).bind fun x => plain (ev' x) := by
     cases hq : args[0]? with
     | none => rfl
     | some y =>
       have : y ∈ args.toList := by
        rw [<- Array.getElem?_toList] at hq
        exact List.mem_of_getElem? hq
       simp [ha y this]
    cases b <;> simp only [h0]
theorem eSem_cong (hc : ∀ x ∈ o.op.operands, ev x = ev' x) : eSem E f o ev h = eSem E f o ev' h := by
 unfold eSem
 cases hop : o.op <;> simp only [hop, Op.operands] at hc ⊢
 case box t x => rw [hc x (by simp)]
 case buildSlice t n ps => rw [parts_cong (ev := ev) (ev' := ev') (fun x hx => hc x (by simpa using hx))]
 case makeSlice t l c => rw [hc l (by simp), hc c (by simp)]
 case convert s d x => rw [hc x (by simp)]
 case store t a x => rw [hc a (by simp), hc x (by simp)]
 case mapUpdate t m k x => rw [hc m (by simp), hc k (by simp), hc x (by simp)]
 case mapEntry t m k => rw [hc m (by simp), hc k (by simp)]
 case entryStore t m s x => rw [hc m (by simp), hc s (by simp), hc x (by simp)]
 case call c =>
  obtain ⟨callee, args, argTypes⟩ := c
  cases callee with
  | value x => rfl
  | invoke x n => rfl
  | builtin b =>
    have ha : ∀ x ∈ args.toList, ev x = ev' x := fun x hx => hc x (by simp [Call.operands]; simpa using hx)
    cases b <;> try rfl
    ·simp only
     split
     ·rename_i sx xx _ har
      rw [ha sx (by rw [har]; simp), ha xx (by rw [har]; simp)]
     ·rfl
    ·simp only
     split
     ·rename_i sx xx _ har
      rw [ha sx (by rw [har]; simp), ha xx (by rw [har]; simp)]
     ·rfl
theorem aSh_cong {n : Nat} (hc : ∀ x ∈ o.op.operands, ev x = ev' x) : aSh E f o ev n = aSh E f o ev' n := by
 unfold aSh
 cases hop : o.op <;> simp only [hop, Op.operands] at hc ⊢
 case makeSlice t l c => rw [hc l (by simp), hc c (by simp)]
 case call c =>
  obtain ⟨callee, args, argTypes⟩ := c
  cases callee with
  | value x => rfl
  | invoke x n => rfl
  | builtin b =>
    have ha : ∀ x ∈ args.toList, ev x = ev' x := fun x hx => hc x (by simp [Call.operands]; simpa using hx)
    cases b <;> try rfl
    simp only
    split
    ·rename_i sx xx _ har
     rw [ha sx (by rw [har]; simp), ha xx (by rw [har]; simp)]
    ·rfl
theorem rdId_cong (hc : ∀ x ∈ o.op.operands, ev x = ev' x) : rdId o ev = rdId o ev' := by
 unfold rdId
 cases hop : o.op <;> simp only [hop, Op.operands] at hc ⊢
 case load t x => rw [hc x (by simp)]
 case convert s d x => rw [hc x (by simp)]
 case slice t x lo hi mx => rw [hc x (by simp)]
 case lookup t x k ok => rw [hc x (by simp)]
 case call c =>
  obtain ⟨callee, args, argTypes⟩ := c
  cases callee with
  | value x => rfl
  | invoke x n => rfl
  | builtin b =>
    have ha : ∀ x ∈ args.toList, ev x = ev' x := fun x hx => hc x (by simp [Call.operands]; simpa using hx)
    have h0 : ((args[0]?).bind fun x => plain (ev x)) = (args[0]?).bind fun x => plain (ev' x) := by
     cases hq : args[0]? with
     | none => rfl
     | some y =>
       have : y ∈ args.toList := by
        rw [<- Array.getElem?_toList] at hq
        exact List.mem_of_getElem? hq
       simp [ha y this]
    cases b <;> simp only [h0]
theorem callSem_cong (hc : ∀ x ∈ o.op.operands, ev x = ev' x) : callSem o ev = callSem o ev' := by
 unfold callSem
 cases hop : o.op <;> simp only [hop, Op.operands] at hc ⊢
 case call c =>
  obtain ⟨callee, args, argTypes⟩ := c
  cases callee with
  | builtin b => rfl
  | invoke x n => rfl
  | value x =>
    have ha : ∀ x ∈ args.toList, ev x = ev' x := fun y hy => hc y (by simp [Call.operands]; simp at hy; exact .inr hy)
    simp only
    rw [hc x (by simp [Call.operands]), map_cong ha]
end
def sameAt (h h2 : Heap) : Option Nat -> Prop
 | none => True
 | some id => h2.get id = h.get id
theorem rSem_same {E : Env} {o : Oper} {ev : Operand -> Option TV} {h h2 : Heap} {v : TV} (hr : rSem E o ev h = some v) (hs : sameAt h h2 (rdId o ev)) : rSem E o ev h2 = some v := by
 unfold rdId at hs
 unfold rSem at hr ⊢
 split at hr
 ·rename_i t a hop
  simp only [hop] at hs ⊢
  split at hr
  ·rename_i id off he
   simp only [he, sameAt] at hs ⊢
   rw [hs]; exact hr
  ·cases hr
 ·rename_i s d x hop
  simp only [hop] at hs ⊢
  split at hr
  ·rename_i e id off len e1 e2 e3
   simp only [e3, sameAt] at hs
   simp only [e1, e2, e3, hs]
   exact hr
  ·cases hr
 ·rename_i t x lo hi mx hop
  simp only [hop] at hs ⊢
  split at hr
  ·rename_i n e id off e2 e3
   simp only [e3, sameAt] at hs
   simp only [e2, e3, hs]
   exact hr
  ·cases hr
 ·rename_i t x k ok hop
  simp only [hop] at hs ⊢
  split at hr
  ·rename_i kt et m key e1 e2 e3
   cases m with
   | map id =>
     rw [e2] at hs
     have hs' : h2.get id = h.get id := hs
     simp only [hs'] at hr ⊢
     exact hr
   | _ => exact hr
  ·cases hr
 ·rename_i args argTypes _ hop
  simp only [hop] at hs ⊢
  split at hr
  ·rename_i t id e1 e2
   simp only [e2, sameAt] at hs
   simp only [e1, e2, hs]
   exact hr
  ·cases hr
 ·cases hr
theorem rSem_free {E : Env} {o : Oper} {ev : Operand -> Option TV} {h : Heap} {v : TV} {id : Nat} (hr : rSem E o ev h = some v) (hi : rdId o ev = some id) : h.get id ≠ .free := by
 intro hf
 unfold rdId at hi
 unfold rSem at hr
 split at hr
 ·rename_i t a hop
  simp only [hop] at hi
  split at hr
  ·rename_i id' off he
   simp only [he, Option.some.injEq] at hi
   subst hi
   rw [hf] at hr; cases hr
  ·cases hr
 ·rename_i s d x hop
  simp only [hop] at hi
  split at hr
  ·rename_i e id' off len e1 e2 e3
   simp only [e3, Option.some.injEq] at hi
   subst hi
   simp only [hf] at hr
   split at hr
   ·simp_all
   ·cases hr
  ·cases hr
 ·rename_i t x lo hi' mx hop
  simp only [hop] at hi
  split at hr
  ·rename_i n e id' off e2 e3
   simp only [e3, Option.some.injEq] at hi
   subst hi
   rw [hf] at hr; simp at hr
  ·cases hr
 ·rename_i t x k ok hop
  simp only [hop] at hi
  split at hr
  ·rename_i kt et m key e1 e2 e3
   rw [e2] at hi
   cases m with
   | map id' =>
     simp only [Option.some.injEq] at hi
     subst hi
     simp only [hf] at hr
     split at hr
     ·simp_all
     ·cases hr
   | _ => cases hi
  ·cases hr
 ·rename_i args argTypes _ hop
  simp only [hop] at hi
  split at hr
  ·rename_i t id' e1 e2
   simp only [e2, Option.some.injEq] at hi
   subst hi
   rw [hf] at hr; simp at hr
  ·cases hr
 ·cases hr
end Go.Pv
