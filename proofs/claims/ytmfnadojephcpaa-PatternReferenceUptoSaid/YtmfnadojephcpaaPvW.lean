import Derived.Test.YtmfnadojephcpaaPvRun
set_option linter.unusedSimpArgs false
set_option linter.unusedVariables false
namespace Go.Pv
section
variable {E : Env} {f : FuncId} {cf cf' : FuncId -> List IV -> Heap -> Option (IV × Heap)} {ops : List Oper} {draw : Bool} {bef : Nat -> Nat}
def CfLe (cf cf' : FuncId -> List IV -> Heap -> Option (IV × Heap)) : Prop := ∀ g xs h r, cf g xs h = some r -> cf' g xs h = some r
theorem effW_mono (hc : CfLe cf cf') {o : Oper} {ev : Operand -> Option TV} {lv : Nat -> Option (List IV)} {h : Heap} {e : Ef} (he : effW E f cf draw o ev lv h = some e) : effW E f cf' draw o ev lv h = some e := by
 unfold effW at he ⊢
 cases hp : pSem E f o ev with
 | some q => simp only [hp] at he ⊢; exact he
 | none =>
 simp only [hp] at he ⊢
 cases hl : lSem E o ev lv with
 | some q => simp only [hl] at he ⊢; exact he
 | none =>
 simp only [hl] at he ⊢
 cases hs : sSem E o ev lv with
 | some q => simp only [hs] at he ⊢; exact he
 | none =>
 simp only [hs] at he ⊢
 cases hr : rSem E o ev h with
 | some q => simp only [hr] at he ⊢; exact he
 | none =>
 simp only [hr] at he ⊢
 cases hee : eSem E f o ev h with
 | some q => simp only [hee] at he ⊢; exact he
 | none =>
 simp only [hee] at he ⊢
 cases hcl : callSem o ev with
 | none => simp only [hcl] at he; cases he
 | some q =>
 simp only [hcl] at he ⊢
 cases hcf : cf q.1 q.2 h with
 | none => simp only [hcf] at he; cases he
 | some r => simp only [hcf, hc _ _ _ _ hcf] at he ⊢; exact he
theorem eff_mono (hc : CfLe cf cf') {o : Oper} {tm : Nat -> Option TV} {lv : Nat -> Option (List IV)} {h : Heap} {e : Ef} (he : eff E f cf ops draw o tm lv h = some e) : eff E f cf' ops draw o tm lv h = some e := by
 unfold eff at he ⊢
 split at he
 ·cases he
 ·exact he
 ·exact effW_mono hc he
theorem effA_mono (hc : CfLe cf cf') {rs : Option Nat} {o : Oper} {tm : Nat -> Option TV} {lv : Nat -> Option (List IV)} {h : Heap} {e : Ef} (he : effA E f cf ops draw rs o tm lv h = some e) : effA E f cf' ops draw rs o tm lv h = some e := by
 cases rs with
 | none => exact eff_mono hc he
 | some n => exact he
theorem runOps_mono (hc : CfLe cf cf') {al : List Nat} {rs : Nat -> Option Nat} : ∀ {l : List (Oper × Nat)} {m : Met} {pd : Pd} {fr : Fr} {h : Heap} {r : Fr × Heap}, runOps E f cf ops draw bef al rs l m pd fr h = some r -> runOps E f cf' ops draw bef al rs l m pd fr h = some r
 | [], _, _, _, _, _, he => he
 | (o, i) :: l, m, pd, fr, h, r, he => by
   unfold runOps at he ⊢
   split at he
   ·rename_i e hee
    simp only [effA_mono hc hee]
    split at he
    ·rename_i hw; rw [if_pos hw]; exact runOps_mono hc he
    ·cases he
   ·cases he
theorem runLoop_mono {body body' : Fr -> Heap -> Option (Ex × Fr × Heap)} (hb : ∀ fr h r, body fr h = some r -> body' fr h = some r) : ∀ {n m : Nat} {fr : Fr} {h : Heap} {r : Ex × Fr × Heap}, n <= m -> runLoop body n fr h = some r -> runLoop body' m fr h = some r
 | 0, _, _, _, _, _, he => by simp [runLoop] at he
 | n + 1, 0, _, _, _, hn, _ => by omega
 | n + 1, m + 1, fr, h, r, hn, he => by
   unfold runLoop at he ⊢
   split at he
   ·rename_i fr' h' hbo
    simp only [hb _ _ _ hbo]
    exact runLoop_mono hb (Nat.le_of_succ_le_succ hn) he
   ·rename_i hne
    rw [hb _ _ _ he]
    split
    ·rename_i fr' h' heq
     cases heq
     exact absurd he (hne _ _)
    ·rfl
theorem runC_mono (hc : CfLe cf cf') {n m : Nat} (hn : n <= m) : ∀ {c : Code} {fr : Fr} {h : Heap} {r : Ex × Fr × Heap}, runC E f cf n c fr h = some r -> runC E f cf' m c fr h = some r := by
 intro c
 induction c with
 | region id ops draw =>
   intro fr h r he
   simp only [runC] at he ⊢
   split at he
   ·rename_i fr' h' ho; simp only [runOps_mono hc ho]; exact he
   ·cases he
 | seq a b iha ihb =>
   intro fr h r he
   simp only [runC] at he ⊢
   split at he
   ·rename_i fr' h' ha; simp only [iha ha]; exact ihb he
   ·rename_i hne
    rw [iha he]
    split
    ·rename_i fr' h' heq
     cases heq
     exact absurd he (hne _ _)
    ·rfl
 | cond c a b iha ihb =>
   intro fr h r he
   simp only [runC] at he ⊢
   split at he
   ·exact iha he
   ·exact ihb he
   ·cases he
 | block id c ih =>
   intro fr h r he
   simp only [runC] at he ⊢
   split at he
   ·rename_i id' fr' h' ha; simp only [ih ha]; exact he
   ·rename_i hne
    rw [ih he]
    split
    ·rename_i id' fr' h' heq
     cases heq
     exact absurd he (hne _ _ _)
    ·rfl
 | loop c ih =>
   intro fr h r he
   simp only [runC] at he ⊢
   exact runLoop_mono (fun _ _ _ q => ih q) hn he
 | scope c ih =>
   intro fr h r he
   simp only [runC] at he ⊢
   exact ih he
 | _ => intro fr h r he; first | exact he | (simp only [runC] at he ⊢; exact he)
theorem bodyRun_mono (hc : CfLe cf cf') {n m : Nat} (hn : n <= m) {rs : List ResultVar} {c : Code} {args : List IV} {h : Heap} {r : List IV × Heap} (he : bodyRun E f cf n rs c args h = some r) : bodyRun E f cf' m rs c args h = some r := by
 unfold bodyRun at he ⊢
 split at he
 ·rename_i fr h' hr; simp only [runC_mono hc hn hr]; exact he
 ·rename_i fr h' hr; simp only [runC_mono hc hn hr]; exact he
 ·cases he
theorem runF_mono {E : Env} : ∀ {n m : Nat}, n <= m -> CfLe (runF E n) (runF E m)
 | 0, _, _ => fun g xs h r he => by simp [runF] at he
 | n + 1, 0, hn => by omega
 | n + 1, m + 1, hn => fun g xs h r he => by
   have ih := runF_mono (E := E) (Nat.le_of_succ_le_succ hn)
   have hn' := Nat.le_of_succ_le_succ hn
   rw [runF_succ] at he ⊢
   split at he
   ·rename_i fn hf
    split at he
    ·rename_i c hb
     split at he
     ·split at he
      ·rename_i vs h' hr
       simp only [bodyRun_mono ih hn' hr]
       exact he
      ·cases he
     ·split at he
      ·rename_i hp
       rw [if_pos hp]
       split at he
       ·rename_i vs h' hr
        simp only [bodyRun_mono ih hn' hr]
        exact he
       ·cases he
      ·cases he
    ·cases he
   ·cases he
theorem eff_ff {fr fr' : Fr} (h : fr.ff = fr'.ff) {o : Oper} {hp : Heap} : eff E f cf ops draw o fr.tm.get fr.lv.get hp = eff E f cf ops draw o fr'.tm.get fr'.lv.get hp := by
 have h1 : fr.tm.get = fr'.tm.get := congrArg FF.tm h
 have h2 : fr.lv.get = fr'.lv.get := congrArg FF.lv h
 rw [h1, h2]
theorem effA_ff {fr fr' : Fr} (h : fr.ff = fr'.ff) {rs : Option Nat} {o : Oper} {hp : Heap} : effA E f cf ops draw rs o fr.tm.get fr.lv.get hp = effA E f cf ops draw rs o fr'.tm.get fr'.lv.get hp := by
 have h1 : fr.tm.get = fr'.tm.get := congrArg FF.tm h
 have h2 : fr.lv.get = fr'.lv.get := congrArg FF.lv h
 rw [h1, h2]
theorem runOps_ff {al : List Nat} {rs : Nat -> Option Nat} : ∀ {l : List (Oper × Nat)} {m : Met} {pd : Pd} {fr fr' fr1 : Fr} {h h1 : Heap}, fr.ff = fr'.ff -> runOps E f cf ops draw bef al rs l m pd fr h = some (fr1, h1) -> ∃ fr1', runOps E f cf ops draw bef al rs l m pd fr' h = some (fr1', h1) /\ fr1'.ff = fr1.ff
 | [], m, pd, fr, fr', fr1, h, h1, hf, he => by
   simp [runOps] at he; obtain ⟨rfl, rfl⟩ := he
   exact ⟨fr', rfl, hf.symm⟩
 | (o, i) :: l, m, pd, fr, fr', fr1, h, h1, hf, he => by
   unfold runOps at he ⊢
   rw [<- effA_ff hf, <- show fr.tm.get = fr'.tm.get from congrArg FF.tm hf]
   split at he
   ·rename_i e hee
    split at he
    ·rename_i hw
     have : (fr.app o.dst e).ff = (fr'.app o.dst e).ff := by rw [ff_app, ff_app, hf]
     obtain ⟨q, q1, q2⟩ := runOps_ff this he
     exact ⟨q, by simp only [hw, if_true]; exact q1, q2⟩
    ·cases he
   ·cases he
def FF.forget (F : FF) : List Nat -> FF
 | [] => F
 | s :: r => FF.forget { tm := (F.clr s).tm, lv := fun k => if k = s then none else F.lv k } r
def FF.start (E : Env) (f : FuncId) (ops : List Oper) (draw : Bool) (F : FF) : FF := if draw then F.forget (ops.filterMap (madeAt E f)) else F
theorem ff_forget : ∀ (l : List Nat) (fr : Fr), (fr.forget l).ff = fr.ff.forget l
 | [], _ => rfl
 | s :: r, fr => by
   unfold Fr.forget FF.forget
   rw [ff_forget r]
   congr 1
   simp only [Fr.ff, FF.clr]
   congr 1
   ·funext k; rw [PT.get_filt]; cases fr.tm.get k <;> rfl
   ·funext k; rw [PT.get_set]
theorem ff_start (fr : Fr) (ops : List Oper) (draw : Bool) : (fr.start E f ops draw).ff = fr.ff.start E f ops draw := by
 unfold Fr.start FF.start
 split
 ·exact ff_forget _ _
 ·rfl
theorem evOp_ff {fr fr' : Fr} (h : fr.ff = fr'.ff) (x : Operand) : evOp E fr.tm.get x = evOp E fr'.tm.get x := by rw [show fr.tm.get = fr'.tm.get from congrArg FF.tm h]
theorem runLoop_ff {body : Fr -> Heap -> Option (Ex × Fr × Heap)} (hb : ∀ fr fr' h x fr1 h1, fr.ff = fr'.ff -> body fr h = some (x, fr1, h1) -> ∃ fr1', body fr' h = some (x, fr1', h1) /\ fr1'.ff = fr1.ff) :
  ∀ {n : Nat} {fr fr' : Fr} {h : Heap} {x : Ex} {fr1 : Fr} {h1 : Heap}, fr.ff = fr'.ff -> runLoop body n fr h = some (x, fr1, h1) -> ∃ fr1', runLoop body n fr' h = some (x, fr1', h1) /\ fr1'.ff = fr1.ff
 | 0, _, _, _, _, _, _, _, he => by simp [runLoop] at he
 | n + 1, fr, fr', h, x, fr1, h1, hf, he => by
   unfold runLoop at he ⊢
   split at he
   ·rename_i fr2 h2 hbo
    obtain ⟨q, q1, q2⟩ := hb _ _ _ _ _ _ hf hbo
    simp only [q1]
    exact runLoop_ff hb q2.symm he
   ·rename_i hne
    obtain ⟨q, q1, q2⟩ := hb _ _ _ _ _ _ hf he
    rw [q1]
    split
    ·rename_i fr' h' heq
     cases heq
     exact absurd he (hne _ _)
    ·exact ⟨q, rfl, q2⟩
theorem runC_ff {n : Nat} : ∀ {c : Code} {fr fr' : Fr} {h : Heap} {x : Ex} {fr1 : Fr} {h1 : Heap}, fr.ff = fr'.ff -> runC E f cf n c fr h = some (x, fr1, h1) -> ∃ fr1', runC E f cf n c fr' h = some (x, fr1', h1) /\ fr1'.ff = fr1.ff := by
 intro c
 induction c with
 | region id ops draw =>
   intro fr fr' h x fr1 h1 hf he
   simp only [runC] at he ⊢
   split at he
   ·rename_i fr2 h2 ho
    obtain ⟨q, q1, q2⟩ := runOps_ff (fr' := fr'.start E f ops.toList draw) (by rw [ff_start, ff_start, hf]) ho
    simp at he; obtain ⟨rfl, rfl, rfl⟩ := he
    exact ⟨q, by simp only [q1], q2⟩
   ·cases he
 | seq a b iha ihb =>
   intro fr fr' h x fr1 h1 hf he
   simp only [runC] at he ⊢
   split at he
   ·rename_i fr2 h2 ha
    obtain ⟨q, q1, q2⟩ := iha hf ha
    simp only [q1]
    exact ihb q2.symm he
   ·rename_i hne
    obtain ⟨q, q1, q2⟩ := iha hf he
    rw [q1]
    split
    ·rename_i fr' h' heq
     cases heq
     exact absurd he (hne _ _)
    ·exact ⟨q, rfl, q2⟩
 | cond c a b iha ihb =>
   intro fr fr' h x fr1 h1 hf he
   simp only [runC] at he ⊢
   rw [<- evOp_ff (E := E) hf]
   split at he
   ·exact iha hf he
   ·exact ihb hf he
   ·cases he
 | block id c ih =>
   intro fr fr' h x fr1 h1 hf he
   simp only [runC] at he ⊢
   split at he
   ·rename_i id' fr2 h2 ha
    obtain ⟨q, q1, q2⟩ := ih hf ha
    simp only [q1]
    split at he
    ·rename_i hid
     simp at he; obtain ⟨rfl, rfl, rfl⟩ := he
     exact ⟨q, by rw [if_pos hid], q2⟩
    ·rename_i hid
     simp at he; obtain ⟨rfl, rfl, rfl⟩ := he
     exact ⟨q, by rw [if_neg hid], q2⟩
   ·rename_i hne
    obtain ⟨q, q1, q2⟩ := ih hf he
    rw [q1]
    split
    ·rename_i id' fr' h' heq
     cases heq
     exact absurd he (hne _ _ _)
    ·exact ⟨q, rfl, q2⟩
 | loop c ih =>
   intro fr fr' h x fr1 h1 hf he
   simp only [runC] at he ⊢
   exact runLoop_ff (body := runC E f cf n c) (fun _ _ _ _ _ _ a b => ih a b) hf he
 | scope c ih =>
   intro fr fr' h x fr1 h1 hf he
   simp only [runC] at he ⊢
   exact ih hf he
 | skip =>
   intro fr fr' h x fr1 h1 hf he
   simp [runC] at he ⊢; obtain ⟨rfl, rfl, rfl⟩ := he
   exact ⟨fr', ⟨rfl, rfl, rfl⟩, hf.symm⟩
 | exit id =>
   intro fr fr' h x fr1 h1 hf he
   simp [runC] at he ⊢; obtain ⟨rfl, rfl, rfl⟩ := he
   exact ⟨fr', ⟨rfl, rfl, rfl⟩, hf.symm⟩
 | ret =>
   intro fr fr' h x fr1 h1 hf he
   simp [runC] at he ⊢; obtain ⟨rfl, rfl, rfl⟩ := he
   exact ⟨fr', ⟨rfl, rfl, rfl⟩, hf.symm⟩
 | _ => intro fr fr' h x fr1 h1 hf he; simp [runC] at he
end
def CallW (E : Env) (g : FuncId) (xs : List IV) (h : Heap) (Q : IV -> Heap -> Prop) : Prop := ∃ n v h', runF E n g xs h = some (v, h') /\ Q v h'
abbrev Ps := List (Nat × (Heap -> Prop))
def Pok : Pd -> Ps -> Prop
 | [], [] => True
 | p :: r, q :: s => (p.1 = q.1 /\ ∀ h2, q.2 h2 -> p.2 h2 = true) /\ Pok r s
 | _, _ => False
def weakP (ps : Ps) (b : Nat) (h : Heap) : Prop := ∀ q ∈ ps, b.testBit q.1 = true \/ q.2 h
theorem Pok.all : ∀ {pd : Pd} {ps : Ps} {b : Nat} {h : Heap}, Pok pd ps -> weakP ps b h -> pd.all (fun p => b.testBit p.1 || p.2 h) = true
 | [], [], _, _, _, _ => rfl
 | p :: r, q :: s, b, h, hp, hw => by
   rw [List.all_cons, Bool.and_eq_true, Bool.or_eq_true]
   refine ⟨?_, Pok.all hp.2 fun x hx => hw x (List.mem_cons_of_mem _ hx)⟩
   rw [hp.1.1]
   rcases hw q List.mem_cons_self with z | z
   ·exact .inl z
   ·exact .inr (hp.1.2 h z)
 | [], _ :: _, _, _, hp, _ => hp.elim
 | _ :: _, [], _, _, hp, _ => hp.elim
def OpsW (E : Env) (f : FuncId) (ops : List Oper) (draw : Bool) (bef : Nat -> Nat) (al : List Nat) (rs : Nat -> Option Nat) (l : List (Oper × Nat)) (m : Met) (ps : Ps) (F : FF) (h : Heap) (Q : FF -> Heap -> Prop) : Prop :=
 ∀ (fr : Fr) (pd : Pd), Pok pd ps -> fr.ff = F -> ∃ n fr' h', runOps E f (runF E n) ops draw bef al rs l m pd fr h = some (fr', h') /\ Q fr'.ff h'
def CodeW (E : Env) (f : FuncId) (c : Code) (F : FF) (h : Heap) (Q : Ex -> FF -> Heap -> Prop) : Prop :=
 ∀ fr : Fr, fr.ff = F -> ∃ n x fr' h', runC E f (runF E n) n c fr h = some (x, fr', h') /\ Q x fr'.ff h'
section
variable {E : Env} {f : FuncId}
theorem CallW.mono {g : FuncId} {xs : List IV} {h : Heap} {Q R : IV -> Heap -> Prop} (a : CallW E g xs h Q) (hq : ∀ v h', Q v h' -> R v h') : CallW E g xs h R := by
 obtain ⟨n, v, h', h1, h2⟩ := a
 exact ⟨n, v, h', h1, hq _ _ h2⟩
theorem CodeW.mono {c : Code} {F : FF} {h : Heap} {Q R : Ex -> FF -> Heap -> Prop} (a : CodeW E f c F h Q) (hq : ∀ x F' h', Q x F' h' -> R x F' h') : CodeW E f c F h R := fun fr hf => by
 obtain ⟨n, x, fr', h', h1, h2⟩ := a fr hf
 exact ⟨n, x, fr', h', h1, hq _ _ _ h2⟩
theorem CodeW.up {c : Code} {fr : Fr} {h : Heap} {n m : Nat} (hn : n <= m) {r : Ex × Fr × Heap} (h1 : runC E f (runF E n) n c fr h = some r) : runC E f (runF E m) m c fr h = some r :=
 runC_mono (runF_mono hn) hn h1
theorem CodeW.skip {F : FF} {h : Heap} {Q : Ex -> FF -> Heap -> Prop} (hq : Q .normal F h) : CodeW E f .skip F h Q := fun fr hf => ⟨0, _, _, _, rfl, by rw [hf]; exact hq⟩
theorem CodeW.exit {id : Nat} {F : FF} {h : Heap} {Q : Ex -> FF -> Heap -> Prop} (hq : Q (.exit id) F h) : CodeW E f (.exit id) F h Q := fun fr hf => ⟨0, _, _, _, rfl, by rw [hf]; exact hq⟩
theorem CodeW.ret {F : FF} {h : Heap} {Q : Ex -> FF -> Heap -> Prop} (hq : Q .ret F h) : CodeW E f .ret F h Q := fun fr hf => ⟨0, _, _, _, rfl, by rw [hf]; exact hq⟩
theorem CodeW.seq {a b : Code} {F : FF} {h : Heap} {Q : Ex -> FF -> Heap -> Prop} (ha : CodeW E f a F h fun x F' h' => match x with | .normal => CodeW E f b F' h' Q | x => Q x F' h') : CodeW E f (.seq a b) F h Q := fun fr hf => by
 obtain ⟨n, x, fr1, h1, r1, q1⟩ := ha fr hf
 cases x with
 | normal =>
   obtain ⟨m, y, fr2, h2, r2, q2⟩ := q1 fr1 rfl
   refine ⟨max n m, y, fr2, h2, ?_, q2⟩
   simp only [runC, CodeW.up (Nat.le_max_left n m) r1]
   exact CodeW.up (Nat.le_max_right n m) r2
 | exit id => exact ⟨n, _, fr1, h1, by simp only [runC, r1], q1⟩
 | ret => exact ⟨n, _, fr1, h1, by simp only [runC, r1], q1⟩
theorem CodeW.cond {x : Operand} {b : Bool} {c d : Code} {F : FF} {h : Heap} {Q : Ex -> FF -> Heap -> Prop} (he : evOp E F.tm x = some (.v (.bool b))) (hc : b = true -> CodeW E f c F h Q) (hd : b = false -> CodeW E f d F h Q) :
  CodeW E f (.cond x c d) F h Q := fun fr hf => by
 have he' : evOp E fr.tm.get x = some (.v (.bool b)) := by rw [<- he, <- hf]; rfl
 cases b with
 | true =>
   obtain ⟨n, y, fr1, h1, r1, q1⟩ := hc rfl fr hf
   exact ⟨n, y, fr1, h1, by simp only [runC, he', r1], q1⟩
 | false =>
   obtain ⟨n, y, fr1, h1, r1, q1⟩ := hd rfl fr hf
   exact ⟨n, y, fr1, h1, by simp only [runC, he', r1], q1⟩
theorem CodeW.block {id : Nat} {c : Code} {F : FF} {h : Heap} {Q : Ex -> FF -> Heap -> Prop} (hc : CodeW E f c F h fun x F' h' => match x with | .exit id' => if id' = id then Q .normal F' h' else Q (.exit id') F' h' | x => Q x F' h') : CodeW E f (.block id c) F h Q := fun fr hf => by
 obtain ⟨n, x, fr1, h1, r1, q1⟩ := hc fr hf
 cases x with
 | normal => exact ⟨n, _, fr1, h1, by simp only [runC, r1], q1⟩
 | ret => exact ⟨n, _, fr1, h1, by simp only [runC, r1], q1⟩
 | exit id' =>
   simp only at q1
   by_cases hid : id' = id
   ·rw [if_pos hid] at q1
    exact ⟨n, .normal, fr1, h1, by simp only [runC, r1, if_pos hid], q1⟩
   ·rw [if_neg hid] at q1
    exact ⟨n, .exit id', fr1, h1, by simp only [runC, r1, if_neg hid], q1⟩
theorem CodeW.scope {c : Code} {F : FF} {h : Heap} {Q : Ex -> FF -> Heap -> Prop} (hc : CodeW E f c F h Q) : CodeW E f (.scope c) F h Q := fun fr hf => by
 obtain ⟨n, x, fr1, h1, r1, q1⟩ := hc fr hf
 exact ⟨n, x, fr1, h1, by simp only [runC, r1], q1⟩
theorem CodeW.loop {c : Code} {F : FF} {h : Heap} {Q : Ex -> FF -> Heap -> Prop} (hc : CodeW E f c F h fun x F' h' => match x with | .normal => CodeW E f (.loop c) F' h' Q | x => Q x F' h') : CodeW E f (.loop c) F h Q := fun fr hf => by
 obtain ⟨n, x, fr1, h1, r1, q1⟩ := hc fr hf
 have more : ∀ (y : Ex) (fr2 : Fr) (h2 : Heap) (k : Nat), n <= k -> (∀ fr' h', (some (x, fr1, h1) : Option (Ex × Fr × Heap)) = some (.normal, fr', h') -> runLoop (runC E f (runF E (k + 1)) (k + 1) c) k fr' h' = some (y, fr2, h2)) -> (x ≠ .normal -> y = x /\ fr2 = fr1 /\ h2 = h1) ->
   runC E f (runF E (k + 1)) (k + 1) (.loop c) fr h = some (y, fr2, h2) := by
  intro y fr2 h2 k hk hn hx
  simp only [runC]
  unfold runLoop
  rw [CodeW.up (Nat.le_succ_of_le hk) r1]
  cases x with
  | normal => exact hn _ _ rfl
  | exit id => obtain ⟨rfl, rfl, rfl⟩ := hx (by simp); rfl
  | ret => obtain ⟨rfl, rfl, rfl⟩ := hx (by simp); rfl
 cases x with
 | normal =>
   obtain ⟨m, y, fr2, h2, r2, q2⟩ := q1 fr1 rfl
   refine ⟨max n m + 1, y, fr2, h2, more y fr2 h2 _ (Nat.le_max_left n m) (fun fr' h' e => ?_) (fun e => absurd rfl e), q2⟩
   cases e
   simp only [runC] at r2
   have hm : m <= max n m + 1 := Nat.le_succ_of_le (Nat.le_max_right n m)
   exact runLoop_mono (fun _ _ _ q => runC_mono (runF_mono hm) hm q) (Nat.le_max_right n m) r2
 | exit id => exact ⟨n + 1, _, fr1, h1, more _ _ _ n (Nat.le_refl n) (fun _ _ e => by cases e) (fun _ => ⟨rfl, rfl, rfl⟩), q1⟩
 | ret => exact ⟨n + 1, _, fr1, h1, more _ _ _ n (Nat.le_refl n) (fun _ _ e => by cases e) (fun _ => ⟨rfl, rfl, rfl⟩), q1⟩
theorem CodeW.region {id : Nat} {ops : Array Oper} {draw : Bool} {F : FF} {h : Heap} {Q : Ex -> FF -> Heap -> Prop} (hc : OpsW E f ops.toList draw (befOf ops) (E.an f id) (rsOf h.next (E.an f id)) (ordL (E.od f id) draw ops.toList) {} [] (F.start E f ops.toList draw) (h.reserve (E.an f id).length) fun F' h' => Q .normal F' h') : CodeW E f (.region id ops draw) F h Q := fun fr hf => by
 obtain ⟨n, fr1, h1, r1, q1⟩ := hc (fr.start E f ops.toList draw) [] trivial (by rw [ff_start, hf])
 exact ⟨n, _, fr1, h1, by simp only [runC, r1], q1⟩
theorem OpsW.nil {ops : List Oper} {draw : Bool} {bef : Nat -> Nat} {al : List Nat} {rs : Nat -> Option Nat} {m : Met} {ps : Ps} {F : FF} {h : Heap} {Q : FF -> Heap -> Prop} (hq : Q F h) : OpsW E f ops draw bef al rs [] m ps F h Q := fun fr pd hp hf => ⟨0, fr, h, rfl, by rw [hf]; exact hq⟩
def psAdd (E : Env) (o : Oper) (ev : Operand -> Option TV) (e : Ef) (i : Nat) (ps : Ps) : Ps := match e.c with
 | .r => (i, fun h2 => sameAt e.h h2 (rdId o ev)) :: ps
 | _ => ps
theorem effW_read {cf : FuncId -> List IV -> Heap -> Option (IV × Heap)} {draw : Bool} {o : Oper} {ev : Operand -> Option TV} {lv : Nat -> Option (List IV)} {h : Heap} {e : Ef} (he : effW E f cf draw o ev lv h = some e) (hc : e.c = .r) :
  e.h = h /\ ∃ v, rSem E o ev h = some v /\ e.v = some v := by
 unfold effW at he
 split at he
 ·repeat' split at he
  all_goals first
   | (cases he; done)
   | (cases he; cases hc)
 ·split at he
  ·cases he; cases hc
  ·split at he
   ·cases he; cases hc
   ·split at he
    ·rename_i v hv
     cases he
     exact ⟨rfl, v, hv, rfl⟩
    ·split at he
     ·cases he; cases hc
     ·split at he
      ·split at he
       ·cases he
        rename_i g xs _ _ _ _ _
        simp only [isoCls] at hc
        split at hc <;> cases hc
       ·cases he
      ·cases he
theorem Pok.add {cf : FuncId -> List IV -> Heap -> Option (IV × Heap)} {draw : Bool} {ops : List Oper} {rs : Option Nat} {o : Oper} {tm : Nat -> Option TV} {lv : Nat -> Option (List IV)} {h : Heap} {e : Ef} {i : Nat} {pd : Pd} {ps : Ps} (he : effA E f cf ops draw rs o tm lv h = some e) (hp : Pok pd ps) :
  Pok (pdAdd E o (evOp E tm) e i pd) (psAdd E o (evOp E tm) e i ps) := by
 by_cases hc : e.c = .r
 ·unfold pdAdd psAdd
  rw [hc]
  refine ⟨⟨rfl, fun h2 hs => ?_⟩, hp⟩
  cases rs with
  | some n =>
    exfalso
    rcases effA_some he with rfl | ⟨v, ha, rfl⟩ | ⟨v, x, ha, _, rfl⟩ <;> cases hc
  | none =>
  have he : eff E f cf ops draw o tm lv h = some e := he
  unfold eff at he
  split at he
  ·cases he
  ·cases he; cases hc
  ·obtain ⟨e1, v, e2, e3⟩ := effW_read he hc
   rw [e1] at hs
   have e4 := rSem_same e2 hs
   obtain ⟨x, rfl⟩ := rSem_v e2
   simp only [e4, e3, tvEq]
   exact ivEq_refl x
 ·have e1 : pdAdd E o (evOp E tm) e i pd = pd := by
   unfold pdAdd
   split
   ·rename_i h; exact absurd h hc
   ·rfl
  have e2 : psAdd E o (evOp E tm) e i ps = ps := by
   unfold psAdd
   split
   ·rename_i h; exact absurd h hc
   ·rfl
  rw [e1, e2]
  exact hp
theorem OpsW.cons {ops : List Oper} {draw : Bool} {bef : Nat -> Nat} {al : List Nat} {rs : Nat -> Option Nat} {o : Oper} {i : Nat} {l : List (Oper × Nat)} {m : Met} {ps : Ps} {F : FF} {h : Heap} {Q : FF -> Heap -> Prop}
  (he : ∃ n e, effA E f (runF E n) ops draw (rs i) o F.tm F.lv h = some e /\ (draw = false \/ ((within (m.chk e.c) (bef i) = true \/ e.c = .e /\ within (m.e ||| m.a) (bef i) = true /\ weakP ps (bef i) e.h) /\ rdOk al rs m (bef i) (rdId o (evOp E F.tm)) e.c = true)) /\ OpsW E f ops draw bef al rs l (m.add e.c i) (psAdd E o (evOp E F.tm) e i ps) (F.app o.dst e) e.h Q) :
  OpsW E f ops draw bef al rs ((o, i) :: l) m ps F h Q := fun fr pd hp hf => by
 obtain ⟨n, e, h1, h2, h3⟩ := he
 have h1' : effA E f (runF E n) ops draw (rs i) o fr.tm.get fr.lv.get h = some e := by rw [<- h1, <- hf]; rfl
 have hev : evOp E F.tm = evOp E fr.tm.get := by rw [<- hf]; rfl
 rw [hev] at h2 h3
 obtain ⟨k, fr', h', h4, h5⟩ := h3 (fr.app o.dst e) (pdAdd E o (evOp E fr.tm.get) e i pd) (Pok.add h1' hp) (by rw [ff_app, hf])
 refine ⟨max n k, fr', h', ?_, h5⟩
 unfold runOps
 have h2' : (!draw || okB al rs m pd (bef i) (rdId o (evOp E fr.tm.get)) e) = true := by
  rw [Bool.or_eq_true]
  rcases h2 with z | ⟨z, z4⟩
  ·exact .inl (by rw [z]; rfl)
  ·refine .inr ?_
   unfold okB
   rw [Bool.and_eq_true, Bool.or_eq_true]
   refine ⟨?_, z4⟩
   rcases z with z | ⟨z1, z2, z3⟩
   ·exact .inl z
   ·refine .inr ?_
    unfold weak
    simp only [z1, z2, Bool.true_and]
    exact Pok.all hp z3
 simp only [effA_mono (runF_mono (Nat.le_max_left n k)) h1', h2', if_true]
 exact runOps_mono (runF_mono (Nat.le_max_right n k)) h4
end
end Go.Pv
