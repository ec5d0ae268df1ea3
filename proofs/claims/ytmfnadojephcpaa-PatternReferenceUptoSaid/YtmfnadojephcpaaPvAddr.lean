import Derived.Test.YtmfnadojephcpaaPvDef
set_option linter.unusedSimpArgs false
set_option linter.unusedVariables false
namespace Go.Pv
theorem addrPlus_l {n : Nat} {x : TV} {s off : Nat} (h : addrPlus n x = some (.l s off)) : ∃ o, x = .l s o := by
 unfold addrPlus at h
 split at h <;> simp at h
 exact ⟨_, by rw [h.1]⟩
theorem pSem_l {E : Env} {f : FuncId} {o : Oper} {ev : Operand -> Option TV} {s off : Nat} (h : pSem E f o ev = some (.l s off, none)) : ∃ x o', ev x = some (.l s o') := by
 unfold pSem at h
 split at h
 case h_1 x hx => obtain ⟨y, h1, h2⟩ := Option.map_eq_some_iff.1 h; simp at h2; subst h2; exact ⟨_, _, h1⟩
 case h_2 x hx => obtain ⟨y, h1, h2⟩ := Option.map_eq_some_iff.1 h; simp at h2; subst h2; exact ⟨_, _, h1⟩
 case h_3 c a b hx =>
  split at h
  ·obtain ⟨y, h1, h2⟩ := Option.map_eq_some_iff.1 h; simp at h2; subst h2; exact ⟨_, _, h1⟩
  ·obtain ⟨y, h1, h2⟩ := Option.map_eq_some_iff.1 h; simp at h2; subst h2; exact ⟨_, _, h1⟩
  ·cases h
 all_goals (repeat' split at h)
 all_goals first
  | (cases h; done)
  | (exfalso; obtain ⟨y, h1, h2⟩ := Option.map_eq_some_iff.1 h; simp at h2; done)
  | (simp at h; done)
  | (obtain ⟨y, h1, h2⟩ := Option.map_eq_some_iff.1 h; simp only [Prod.mk.injEq, and_true] at h2; subst h2; obtain ⟨o', rfl⟩ := addrPlus_l h1; exact ⟨_, _, by assumption⟩)
  | (simp only [Option.some.injEq, Prod.mk.injEq, TV.l.injEq, and_true] at h; obtain ⟨rfl, rfl⟩ := h; exact ⟨_, _, by assumption⟩)
theorem pSem_box {E : Env} {f : FuncId} {o : Oper} {ev : Operand -> Option TV} {s off d : Nat} {cs : List IV} (h : pSem E f o ev = some (.l s off, some cs)) (hd : o.dst = some d) : s = d := by
 unfold pSem at h
 repeat' split at h
 all_goals first
  | (cases h; done)
  | (simp at h; done)
  | (simp_all; done)
  | (obtain ⟨y, h1, h2⟩ := Option.map_eq_some_iff.1 h; simp at h2; done)
  | (obtain ⟨y, h1, h2⟩ := Option.map_eq_some_iff.1 h; simp_all; done)
theorem rSem_v {E : Env} {o : Oper} {ev : Operand -> Option TV} {h : Heap} {tv : TV} (he : rSem E o ev h = some tv) : ∃ x, tv = .v x := by
 unfold rSem at he
 repeat' split at he
 all_goals first
  | (cases he; done)
  | (obtain ⟨y, _, h2⟩ := Option.map_eq_some_iff.1 he; exact ⟨_, h2.symm⟩)
  | (simp only [Option.some.injEq] at he; exact ⟨_, he.symm⟩)
theorem eSem_v {E : Env} {f : FuncId} {o : Oper} {ev : Operand -> Option TV} {h : Heap} {q : Option TV × Heap} {tv : TV} (he : eSem E f o ev h = some q) (hq : q.1 = some tv) : ∃ x, tv = .v x := by
 unfold eSem at he
 repeat' split at he
 all_goals first
  | (cases he; done)
  | (obtain ⟨y, _, h2⟩ := Option.map_eq_some_iff.1 he; subst h2; simp at hq; done)
  | (obtain ⟨y, _, h2⟩ := Option.map_eq_some_iff.1 he; subst h2; simp only [Option.some.injEq] at hq; exact ⟨_, hq.symm⟩)
  | (simp only [Option.some.injEq] at he; subst he; simp only [Option.some.injEq] at hq; exact ⟨_, hq.symm⟩)
  | (simp only [Option.some.injEq] at he; subst he; simp at hq; done)
theorem aSh_v {E : Env} {f : FuncId} {o : Oper} {ev : Operand -> Option TV} {n : Nat} {q : Option TV × Option IObj} {tv : TV} (he : aSh E f o ev n = some q) (hq : q.1 = some tv) : ∃ x, tv = .v x := by
 unfold aSh at he
 repeat' split at he
 all_goals first
  | (cases he; done)
  | (obtain ⟨y, _, h2⟩ := Option.map_eq_some_iff.1 he; subst h2; simp only [Option.some.injEq] at hq; exact ⟨_, hq.symm⟩)
  | (simp only [Option.some.injEq] at he; subst he; simp only [Option.some.injEq] at hq; exact ⟨_, hq.symm⟩)
theorem rowObj_free {way len sz : Nat} {cs : List IV} : rowObj way len sz cs ≠ .free := by
 unfold rowObj
 split <;> simp
theorem aSh_free {E : Env} {f : FuncId} {o : Oper} {ev : Operand -> Option TV} {n : Nat} {v : Option TV} {x : IObj} (he : aSh E f o ev n = some (v, some x)) : x ≠ .free := by
 unfold aSh at he
 repeat' split at he
 all_goals first
  | (cases he; done)
  | (obtain ⟨y, _, h2⟩ := Option.map_eq_some_iff.1 he; simp only [Prod.mk.injEq, Option.some.injEq] at h2; rw [<- h2.2]; simp; done)
  | (simp only [Option.some.injEq, Prod.mk.injEq] at he; rw [<- he.2]; first | exact rowObj_free | simp)
  | (simp at he; done)
end Go.Pv
