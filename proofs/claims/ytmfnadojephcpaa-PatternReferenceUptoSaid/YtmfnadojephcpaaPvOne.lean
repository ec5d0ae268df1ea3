import Derived.Test.YtmfnadojephcpaaPvBin
import Derived.Laws.BytesArg
import Derived.Laws.BytesString
namespace Go.Pv
section
variable {P : Program} {M : Meta} (w : World)
theorem run_binEq {t : TypeId} {x y : IV} {a b : Value} (hx : VR M x a) (hy : VR M y b) (hi : ∀ k p k' q, ¬ (x = .int k p /\ y = .int k' q)) (hs : ∀ p q, ¬ (x = .str p /\ y = .str q)) :
  binOp .eql t a b = (do pure (.bool (<- Op.equal t a b))) /\ binOp .neq t a b = (do pure (.bool (!(<- Op.equal t a b)))) := by
 cases hx
 case int k n =>
  cases hy
  case int k' m => exact absurd ⟨rfl, rfl⟩ (hi k n k' m)
  all_goals exact ⟨by simp [binOp], by simp [binOp]⟩
 case str p =>
  cases hy
  case str q => exact absurd ⟨rfl, rfl⟩ (hs _ _)
  all_goals exact ⟨by simp [binOp], by simp [binOp]⟩
 all_goals exact ⟨by simp [binOp], by simp [binOp]⟩
theorem binIV_ok {op : BinOp} {c : Bool} {t : TypeId} {x y v : IV} {a b : Value} (xo yo : Operand) (hc : c = (isConst xo || isConst yo)) (hx : VR M x a) (hy : VR M y b) (h : binIV P op c t x y = some v) :
  ∃ r, (do eqGuard op t xo yo a b; binOp op t a b : Sem Value).run P w = .ok r w /\ VR M v r := by
 unfold binIV at h
 split at h
 ·rename_i k p k' q
  cases hx; cases hy
  have hg : (eqGuard op t xo yo (.int k p) (.int k' q)).run P w = .ok () w := by rw [eqGuard_at_int]; rfl
  split at h
  ·obtain ⟨r, h1, h2⟩ := run_shiftBin (P := P) (M := M) (yk := k') w t (.inl rfl) h
   exact ⟨r, by simp only [Sem.run_bind, hg, Result.andThen_ok]; exact h1, h2⟩
  ·obtain ⟨r, h1, h2⟩ := run_shiftBin (P := P) (M := M) (yk := k') w t (.inr rfl) h
   exact ⟨r, by simp only [Sem.run_bind, hg, Result.andThen_ok]; exact h1, h2⟩
  ·split at h
   ·rename_i hk; subst hk
    obtain ⟨r, h1, h2⟩ := run_intBin (P := P) (M := M) w t h
    exact ⟨r, by simp only [Sem.run_bind, hg, Result.andThen_ok]; exact h1, h2⟩
   ·simp at h
 ·cases hx with | str p => cases hy with | str q =>
  have hg : (eqGuard op t xo yo (.string p) (.string q)).run P w = .ok () w := by rw [eqGuard_at_string]; rfl
  obtain ⟨r, h1, h2⟩ := run_strBin (P := P) (M := M) w t h
  exact ⟨r, by simp only [Sem.run_bind, hg, Result.andThen_ok]; exact h1, h2⟩
 ·rename_i n1 n2
  have hi : ∀ k p k' q, ¬ (x = .int k p /\ y = .int k' q) := fun k p k' q ⟨e1, e2⟩ => n1 k p k' q e1 e2
  have hs : ∀ p q, ¬ (x = .str p /\ y = .str q) := fun p q ⟨e1, e2⟩ => n2 p q e1 e2
  obtain ⟨q1, q2⟩ := run_binEq (t := t) hx hy hi hs
  split at h
  ·obtain ⟨r, h1, h2⟩ := Option.map_eq_some_iff.1 h
   subst h2
   obtain ⟨e1, e2⟩ := eqIV_ok (P := P) w .eql xo yo hc h1 hx hy
   exact ⟨.bool r, by simp only [Sem.run_bind, e2, Result.andThen_ok, q1, e1, Sem.run_pure], .bool _⟩
  ·obtain ⟨r, h1, h2⟩ := Option.map_eq_some_iff.1 h
   subst h2
   obtain ⟨e1, e2⟩ := eqIV_ok (P := P) w .neq xo yo hc h1 hx hy
   exact ⟨.bool !r, by simp only [Sem.run_bind, e2, Result.andThen_ok, q2, e1, Sem.run_pure], .bool _⟩
  ·simp at h
theorem unIV_ok {op : UnOp} {x v : IV} {a : Value} (hx : VR M x a) (h : unIV op x = some v) : ∃ r, (Op.unary op a).run P w = .ok r w /\ VR M v r := by
 unfold unIV at h
 split at h
 ·simp only [Option.some.injEq] at h; subst h; cases hx; exact ⟨_, by simp only [Op.unary, Op.intArith]; rfl, .int _ _⟩
 ·rename_i k n
  simp only [intBin, Option.some.injEq] at h
  subst h; cases hx
  exact ⟨_, by simp only [Op.unary, Op.intBits]; rfl, .int _ _⟩
 ·simp at h; subst h; cases hx; exact ⟨_, by simp only [Op.unary]; rfl, .bool _⟩
 ·simp at h
theorem bytesIV_ns : ∀ {cs : List IV} {rc : List Value} {b : List UInt8}, VRs M cs rc -> bytesIV cs = some b -> ∃ ns : List Int, rc = ns.map (Value.int .u8) /\ b = ns.map fun n => UInt8.ofNat n.toNat
 | [], rc, b, hv, h => by
   cases rc with
   | nil => simp [bytesIV] at h; subst h; exact ⟨[], rfl, rfl⟩
   | cons r rs => simp [VRs] at hv
 | x :: cs, rc, b, hv, h => by
   obtain ⟨r, rc', rfl, h1, h2⟩ := hv.uncons
   unfold bytesIV at h
   split at h
   case h_1 e => simp at e
   case h_2 n r' e =>
    simp only [List.cons.injEq] at e
    obtain ⟨rfl, rfl⟩ := e
    obtain ⟨b', h3, h4⟩ := Option.map_eq_some_iff.1 h
    subst h4
    cases h1
    obtain ⟨ns, h5, h6⟩ := bytesIV_ns h2 h3
    exact ⟨n :: ns, by simp [h5], by simp [h6]⟩
   case h_3 => simp at h
theorem bytesToString_ok {cs : List IV} {rc : List Value} {b : List UInt8} {a : Addr} {cap : Nat} (hv : VRs M cs rc) (h : bytesIV cs = some b)
  (hm : (loadCells a rc.length).run P w = .ok rc.toArray w) : (Conv.bytesToString (.slice (some a) rc.length cap)).run P w = .ok (.string ⟨b.toArray⟩) w := by
 obtain ⟨ns, h1, h2⟩ := bytesIV_ns hv h
 rw [run_bytesToString w a rc.length cap ns (by rw [hm, h1]), foldl_push_bytes, h2]
 show Result.ok (Value.string ⟨#[] ++ _⟩) w = _
 simp
theorem loadCells_at {rc : List Value} {b base : Nat} (h : At w b base rc) : (loadCells ⟨b, base, none⟩ rc.length).run P w = .ok rc.toArray w :=
 run_loadCells_list (P := P) w ⟨b, base, none⟩ rc (fun j v hj => by
  obtain ⟨hk, rfl⟩ := List.getElem?_eq_some_iff.1 hj
  rw [add_none]
  exact h _ hk)
theorem convIV_ok {s d : TypeId} {x v : IV} {a : Value} (him : ∀ b o u, M.im b o = some u -> w.cell? ⟨b, o, none⟩ = some u) (hx : VR M x a) (h : convIV P s d x = some v) :
  ∃ r, (convert s d a).run P w = .ok r w /\ VR M v r := by
 unfold convIV at h
 cases hs : P.underlying s with
 | none => simp [hs] at h
 | some ds =>
   cases hd : P.underlying d with
   | none => simp [hs, hd] at h
   | some dd =>
     simp only [hs, hd] at h
     split at h
     ·simp only [Option.some.injEq] at h; subst h; cases hx
      exact ⟨_, by simp [convert, run_underlying hs, run_underlying hd, Conv.intToInt], .int _ _⟩
     ·simp only [Option.some.injEq] at h; subst h; cases hx
      exact ⟨_, by simp [convert, run_underlying hs, run_underlying hd], .str _⟩
     ·split at h
      case h_2 => simp at h
      rename_i e
      split at h
      case h_2 => simp at h
      rename_i he
      split at h
      ·simp only [Option.some.injEq] at h; subst h; cases hx
       refine ⟨_, by rw [run_convert_bytes_string w s d e _ _ _ hs he hd]; rfl, ?_⟩
       exact VR.str (M := M) ByteArray.empty
      ·rename_i id' e' len cs hne
       clear hne
       obtain ⟨b, h1, h2⟩ := Option.map_eq_some_iff.1 h
       subst h2
       cases hx with
       | vnil =>
         simp only [bytesIV, Option.some.injEq] at h1; subst h1
         refine ⟨_, by rw [run_convert_bytes_string w s d e _ _ _ hs he hd]; rfl, ?_⟩
         exact VR.str (M := M) ByteArray.empty
       | @vslice _ _ _ _ cap _ a rv hn hlen ha him' hv hc ht hf =>
         refine ⟨.string ⟨b.toArray⟩, ?_, vr_str b⟩
         rw [run_convert_bytes_string w s d e _ _ _ hs he hd]
         have hcap : cap = 0 \/ a.spot = none := ha.imp id (·.1)
         have hr : VRs M cs ((List.range cs.length).map rv) := ⟨by simp, fun i p q => by simpa using hv i p⟩
         have hl : ((List.range cs.length).map rv).length = len := by simp [hn]
         rw [<- hl]
         refine bytesToString_ok w hr h1 ?_
         by_cases h0 : cs.length = 0
         ·simp [h0, loadCells, loadCellsFrom]
         ·have hsp : a.spot = none := by
           rcases hcap with hcap | hcap
           ·omega
           ·exact hcap
          obtain ⟨ab, ao, asp⟩ := a
          simp only at hsp
          subst hsp
          exact loadCells_at w (fun i hi => by simp at hi; simpa using him _ _ _ (him' i hi))
      ·simp at h
     ·simp at h
theorem asI_ok {tv : Option TV} {n : Int} (h : asI tv = some n) : ∃ k, tv = some (.v (.int k n)) := by
 unfold asI at h
 split at h
 ·simp at h; subst h; exact ⟨_, rfl⟩
 ·simp at h
theorem run_sliceBound {k : IntKind} {i : Int} {y : Nat} {code : BoundsCode} (h : 0 <= i /\ i <= y) : (Instr.sliceBound (.int k i) y code).run P w = .ok i.toNat w := by
 simp [Instr.sliceBound, asIntOf, h]
def BR (M : Meta) : Option (Option TV) -> Option Value -> Prop
 | none, none => True
 | some (some (.v x)), some r => VR M x r
 | some (some (.l _ _)), some _ => True
 | some (some .u), some _ => True
 | some none, some _ => True
 | _, _ => False
theorem bound_ok {o : Option (Option TV)} {r : Option Value} {d n : Int} (e : (match o with | none => some d | some x => asI x) = some n) (b : BR M o r) :
  (r = none /\ d = n) \/ ∃ k, r = some (.int k n) := by
 cases o with
 | none =>
   cases r with
   | none => simp at e; exact .inl ⟨rfl, e⟩
   | some r => exact b.elim
 | some tv =>
   obtain ⟨k, rfl⟩ := asI_ok e
   cases r with
   | none => exact b.elim
   | some r => cases b; exact .inr ⟨k, rfl⟩
theorem cutBounds_ok {isSlice : Bool} {len cap l h : Nat} {lo hi : Option (Option TV)} {rlo rhi : Option Value} (hle : len <= cap) (blo : BR M lo rlo) (bhi : BR M hi rhi) (hc : cutBounds len lo hi = some (l, h)) :
  l <= h /\ h <= len /\ (Instr.sliceBounds isSlice len cap rlo rhi none).run P w = .ok (l, h, cap) w := by
 unfold cutBounds at hc
 simp only at hc
 split at hc
 case h_2 => simp at hc
 rename_i l' h' e1 e2
 split at hc
 case isFalse => simp at hc
 rename_i hb
 obtain ⟨b1, b2, b3⟩ := hb
 simp only [Option.some.injEq, Prod.mk.injEq] at hc
 obtain ⟨rfl, rfl⟩ := hc
 refine ⟨by omega, by omega, ?_⟩
 have r1 : ∀ k code, (Instr.sliceBound (.int k h') cap code).run P w = .ok h'.toNat w := fun k code => run_sliceBound w ⟨by omega, by omega⟩
 have r2 : ∀ k code, (Instr.sliceBound (.int k l') h'.toNat code).run P w = .ok l'.toNat w := fun k code => run_sliceBound w ⟨by omega, by omega⟩
 rcases bound_ok e1 blo with ⟨rfl, q1⟩ | ⟨k1, rfl⟩ <;> rcases bound_ok e2 bhi with ⟨rfl, q2⟩ | ⟨k2, rfl⟩
 ·subst q1; subst q2; simp [Instr.sliceBounds]
 ·subst q1; simp [Instr.sliceBounds, r1]
 ·subst q2; simp only [Int.toNat_natCast] at r2; simp [Instr.sliceBounds, r2]
 ·simp [Instr.sliceBounds, r1, r2]
end
end Go.Pv
