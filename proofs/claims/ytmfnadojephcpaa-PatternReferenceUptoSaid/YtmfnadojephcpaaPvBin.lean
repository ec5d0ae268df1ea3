import Derived.Test.YtmfnadojephcpaaPvMem
import Derived.Laws.StructEq
import Derived.WalkSpells
namespace Go.Pv
section
variable {P : Program} {M : Meta} (w : World)
theorem run_intBin {op : BinOp} {k : IntKind} {a b : Int} {v : IV} (t : TypeId) (h : intBin op k a b = some v) : ∃ r, (binOp op t (.int k a) (.int k b)).run P w = .ok r w /\ VR M v r := by
 cases op <;> simp only [intBin] at h
 case quo =>
  split at h
  ·simp at h
  ·rename_i hb; simp at h; subst h; exact ⟨_, by simp [binOp, Op.intDiv, hb], .int _ _⟩
 case rem =>
  split at h
  ·simp at h
  ·rename_i hb; simp at h; subst h; exact ⟨_, by simp [binOp, Op.intDiv, hb], .int _ _⟩
 all_goals (first | (simp at h; done) | (simp only [Option.some.injEq] at h; subst h))
 ·exact ⟨_, by rw [binOp_add]; rfl, .int _ _⟩
 ·exact ⟨_, by rw [binOp_sub]; rfl, .int _ _⟩
 ·exact ⟨_, by rw [binOp_mul]; rfl, .int _ _⟩
 ·exact ⟨_, by rw [binOp_and]; rfl, .int _ _⟩
 ·exact ⟨_, by rw [binOp_or]; rfl, .int _ _⟩
 ·exact ⟨_, by rw [binOp_xor]; rfl, .int _ _⟩
 ·exact ⟨_, by rw [binOp_andNot]; rfl, .int _ _⟩
 ·exact ⟨_, by rw [binOp_eql]; rfl, .bool _⟩
 ·exact ⟨_, by rw [binOp_neq]; rfl, .bool _⟩
 ·exact ⟨_, by rw [binOp_lss]; rfl, .bool _⟩
 ·exact ⟨_, by rw [binOp_leq]; rfl, .bool _⟩
 ·exact ⟨_, by rw [binOp_gtr]; rfl, .bool _⟩
 ·exact ⟨_, by rw [binOp_geq]; rfl, .bool _⟩
theorem run_shiftBin {op : BinOp} {k yk : IntKind} {a b : Int} {v : IV} (t : TypeId) (ho : op = .shl \/ op = .shr) (h : shiftBin op k a b = some v) :
  ∃ r, (binOp op t (.int k a) (.int yk b)).run P w = .ok r w /\ VR M v r := by
 unfold shiftBin at h
 split at h
 ·simp at h
 ·rename_i hb
  rcases ho with rfl | rfl <;> simp only [Option.some.injEq] at h <;> subst h
  ·exact ⟨_, by rw [binOp_shl]; simp [Op.shift, hb], .int _ _⟩
  ·exact ⟨_, by rw [binOp_shr]; simp [Op.shift, hb], .int _ _⟩
theorem run_strBin {op : BinOp} {a b : ByteArray} {v : IV} (t : TypeId) (h : strBin op a.data.toList b.data.toList = some v) :
  ∃ r, (binOp op t (.string a) (.string b)).run P w = .ok r w /\ VR M v r := by
 have ea := ByteArray.toList_eq a
 have eb := ByteArray.toList_eq b
 cases op <;> simp only [strBin] at h
 case add =>
  split at h
  ·simp at h
  ·rename_i hb
   simp only [Option.some.injEq] at h
   subst h
   have hs : ¬ (((a.size + b.size : Nat) : Int) > IntKind.i64.max) := by
    rw [IntKind.max_i64]
    simp only [Array.length_toList] at hb
    exact hb
   refine ⟨.string (a ++ b), ?_, ?_⟩
   ·simp only [binOp, Op.stringOp]
    rw [if_neg hs]
    rfl
   ·have := VR.str (M := M) (a ++ b)
    rwa [show (a ++ b).data.toList = a.data.toList ++ b.data.toList from by simp] at this
 all_goals first
  | (simp at h; done)
  | (simp only [Option.some.injEq] at h; subst h; exact ⟨_, by simp [binOp, Op.stringOp, ea, eb], .bool _⟩)
theorem scalarEq_ok {d : TypeDesc} {x y : IV} {r : Bool} {a b : Value} {t : TypeId} (n : Nat) (ht : P.underlying t = some d) (h : scalarEq d x y = some r) (hx : VR M x a) (hy : VR M y b) :
  (Op.equalIn (n + 1) t a b).run P w = .ok r w := by
 unfold scalarEq at h
 split at h
 ·simp at h; subst h; cases hx; cases hy; exact run_equalIn_bool w n t _ _ ht
 ·split at h
  ·rename_i hk
   simp at h; subst h; subst hk; cases hx; cases hy
   exact run_equalIn_int w n t _ _ _ _ ht
  ·simp at h
 ·simp at h; subst h
  cases hx with | str s1 => cases hy with | str s2 =>
  rw [run_equalIn_string w n t _ _ ht, ByteArray.toList_eq, ByteArray.toList_eq]
 ·simp at h
theorem run_partLeaf {t : TypeId} {d : TypeDesc} {rc : List Value} {off : Nat} {r : Value} (ht : P.underlying t = some d) (hd : isAggD d = false) (h : rc[off]? = some r) :
  (part t rc.toArray off).run P w = .ok r w := by
 simp [part, run_isAgg ht, hd, h]
theorem scalar_notAgg {d : TypeDesc} {x y : IV} {r : Bool} (h : scalarEq d x y = some r) : isAggD d = false := by
 cases d <;> first | rfl | simp [scalarEq] at h
theorem fieldsEq_ok (n : Nat) {xs ys : List IV} {rx ry : List Value} (hx : CRs M xs rx) (hy : CRs M ys ry) : ∀ {fs : List Field} {r : Bool}, fieldsEq P fs xs ys = some r ->
  (Op.eqFields (n + 1) rx.toArray ry.toArray fs).run P w = .ok r w
 | [], r, h => by simp [fieldsEq] at h; subst h; rfl
 | f :: fs, r, h => by
   unfold fieldsEq at h
   split at h
   ·simp at h
   rename_i hn
   have hn' : f.name ≠ "_" := by simpa using hn
   split at h
   case h_2 => simp at h
   rename_i d x y h1 h2 h3
   obtain ⟨a, ha, va⟩ := hx.get h2
   obtain ⟨b, hb, vb⟩ := hy.get h3
   split at h
   ·rename_i hs
    have e1 := run_partLeaf (P := P) w h1 (scalar_notAgg hs) ha
    have e2 := run_partLeaf (P := P) w h1 (scalar_notAgg hs) hb
    have e3 := scalarEq_ok (P := P) w n h1 hs va vb
    simp only [Op.eqFields, if_pos hn', Sem.run_bind, e1, e2, e3, Result.andThen_ok, Bool.not_true, Bool.false_eq_true, if_false]
    exact fieldsEq_ok n hx hy h
   ·rename_i hs
    simp at h; subst h
    have e1 := run_partLeaf (P := P) w h1 (scalar_notAgg hs) ha
    have e2 := run_partLeaf (P := P) w h1 (scalar_notAgg hs) hb
    have e3 := scalarEq_ok (P := P) w n h1 hs va vb
    simp only [Op.eqFields, if_pos hn', Sem.run_bind, e1, e2, e3, Result.andThen_ok, Bool.not_false, if_true, Sem.run_pure]
   ·simp at h
theorem eqIV_ok {c : Bool} {t : TypeId} {x y : IV} {r : Bool} {a b : Value} (op : BinOp) (xo yo : Operand) (hc : c = (isConst xo || isConst yo)) (h : eqIV P c t x y = some r) (hx : VR M x a) (hy : VR M y b) :
  (Op.equal t a b).run P w = .ok r w /\ (eqGuard op t xo yo a b).run P w = .ok () w := by
 unfold eqIV at h
 cases hu : P.underlying t with
 | none => simp [hu] at h
 | some d =>
   have base : scalarEq d x y = some r -> (Op.equal t a b).run P w = .ok r w /\ (eqGuard op t xo yo a b).run P w = .ok () w := by
    intro hs
    refine ⟨scalarEq_ok w 9999 hu hs hx hy, ?_⟩
    unfold scalarEq at hs
    split at hs
    ·cases hx; cases hy; rw [eqGuard_at_bool]; rfl
    ·cases hx; cases hy; rw [eqGuard_at_int]; rfl
    ·cases hx; cases hy; rw [eqGuard_at_string]; rfl
    ·simp at hs
   have nilEq : ∀ (k : Nat), (∀ n, (Op.equalIn (n + 1) t a b).run P w = .ok r w) -> (Op.equal t a b).run P w = .ok r w := fun _ hh => hh 9999
   simp only [hu] at h
   cases d <;> simp only at h <;> first | exact base h | skip
   case struct fs =>
    split at h
    case h_2 => simp at h
    rename_i xs ys
    split at h
    ·simp at h
    rename_i hg
    simp only [Bool.or_eq_true, not_or, Bool.not_eq_true] at hg
    obtain ⟨rx, rfl, cx⟩ := vr_agg hx
    obtain ⟨ry, rfl, cy⟩ := vr_agg hy
    refine ⟨?_, run_eqGuard_agg w op t xo yo _ _ hg.2⟩
    have hf : P.fieldsOf t = fs := by simp [Program.fieldsOf, hu]
    have := run_equalIn_struct (P := P) w 9999 t rx.toArray ry.toArray (by rw [hf]; exact hu) hg.1
    rw [hf] at this
    show (Op.equalIn (9999 + 1) t _ _).run P w = _
    rw [this]
    exact fieldsEq_ok w 9998 cx cy h
   case pointer e =>
    split at h
    all_goals (first | (simp at h; done) | skip)
    all_goals
     simp only [Option.some.injEq] at h
     subst h
     cases hx
     cases hy
     refine ⟨nilEq 9999 (by intro n; simp [Op.equalIn, run_underlying hu]), by rw [eqGuard_at_pointer]; rfl⟩
   case interface ms =>
    split at h
    case h_1 =>
     split at h
     case isFalse => simp at h
     rename_i hct
     simp at h; subst h; cases hx; cases hy
     refine ⟨nilEq 9999 (by intro n; simp [Op.equalIn, run_underlying hu]), ?_⟩
     rw [hc, Bool.or_eq_true] at hct
     have : ((match xo with | .const _ => true | _ => false) || (match yo with | .const _ => true | _ => false)) = true := by
      rcases hct with hct | hct <;> (unfold isConst at hct; split at hct <;> simp_all)
     cases xo <;> cases yo <;> first | (simp [isConst] at hct; done) | (cases op <;> rfl)
    all_goals (first | (simp at h; done) | skip)
    all_goals
     simp only [Option.some.injEq] at h
     subst h
     cases hx
     cases hy
     refine ⟨nilEq 9999 (by intro n; simp [Op.equalIn, run_underlying hu]), by cases op <;> rfl⟩
   case slice e =>
    split at h
    all_goals (first | (simp at h; done) | skip)
    case h_4 =>
     split at h
     case isFalse => simp at h
     rename_i hq
     simp only [Option.some.injEq] at h
     subst h
     cases hx
     cases hy
     ·simp at hq
     ·refine ⟨nilEq 9999 (by intro n; simp [Op.equalIn, run_underlying hu]), by rw [eqGuard_at_slice]; rfl⟩
    case h_5 =>
     split at h
     case isFalse => simp at h
     rename_i hq
     simp only [Option.some.injEq] at h
     subst h
     cases hy
     cases hx
     ·simp at hq
     ·refine ⟨nilEq 9999 (by intro n; simp [Op.equalIn, run_underlying hu]), by rw [eqGuard_at_slice]; rfl⟩
    all_goals
     simp only [Option.some.injEq] at h
     subst h
     cases hx
     cases hy
     refine ⟨nilEq 9999 (by intro n; simp [Op.equalIn, run_underlying hu]), by rw [eqGuard_at_slice]; rfl⟩
   case map k e =>
    split at h
    all_goals (first | (simp at h; done) | skip)
    all_goals
     simp only [Option.some.injEq] at h
     subst h
     cases hx
     cases hy
     refine ⟨nilEq 9999 (by intro n; simp [Op.equalIn, run_underlying hu]), by rw [eqGuard_at_map]; rfl⟩
   case func ps rs vr =>
    split at h
    all_goals (first | (simp at h; done) | skip)
    all_goals
     simp only [Option.some.injEq] at h
     subst h
     cases hx
     cases hy
     refine ⟨nilEq 9999 (by intro n; simp [Op.equalIn, run_underlying hu]), by first | (rw [eqGuard_at_nilFunc]; rfl) | (rw [eqGuard_at_func]; rfl)⟩
end
end Go.Pv
