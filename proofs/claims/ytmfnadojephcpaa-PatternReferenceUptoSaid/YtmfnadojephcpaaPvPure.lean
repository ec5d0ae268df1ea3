import Derived.Test.YtmfnadojephcpaaPvSlice
namespace Go.Pv
section
variable {P : Program} {M : Meta} (w : World)
theorem plain_some {tv : Option TV} {x : IV} (h : plain tv = some x) : tv = some (.v x) := by
 unfold plain at h
 split at h
 ·simp at h; subst h; rfl
 ·simp at h
section
variable {pb : Nat -> Nat} {ev : Operand -> Option TV} {ρ : Operand -> Value} (hev : ∀ x tv, ev x = some tv -> TR M pb tv (ρ x))
include hev
theorem ev_plain {x : Operand} {v : IV} (h : plain (ev x) = some v) : VR M v (ρ x) := hev _ _ (plain_some h)
theorem ev_plains : ∀ {l : List Operand} {xs : List IV}, plains (l.map ev) = some xs -> VRs M xs (l.map ρ)
 | [], xs, h => by simp [plains] at h; subst h; exact VRs.nil M
 | x :: l, xs, h => by
   simp only [List.map_cons] at h ⊢
   unfold plains at h
   split at h
   ·rename_i v vs h1 h2
    simp at h; subst h
    exact VRs.cons (ev_plain hev h1) (ev_plains h2)
   ·simp at h
theorem ev_parts : ∀ {l : List (Nat × Operand)} {ps : List (Nat × IV)}, plainParts (l.map fun (i, x) => (i, ev x)) = some ps -> PR M ps (l.map fun (i, x) => (i, ρ x))
 | [], ps, h => by simp [plainParts] at h; subst h; trivial
 | (i, x) :: l, ps, h => by
   simp only [List.map_cons] at h ⊢
   unfold plainParts at h
   split at h
   ·rename_i v vs h1 h2
    simp at h; subst h
    exact ⟨rfl, ev_plain hev h1, ev_parts h2⟩
   ·simp at h
theorem ev_bound (o : Option Operand) : BR M (o.map ev) (o.map ρ) := by
 cases o with
 | none => trivial
 | some x =>
   cases h : ev x with
   | none => simp [BR, h]
   | some tv =>
     have := hev _ _ h
     cases tv with
     | v y => simpa [BR, h, TR] using this
     | l s off => simp [BR, h]
     | u => simp [BR, h]
end
theorem run_places (fs : List Field) (h : fs.all (fun x => (P.info? x.type).isSome) = true) :
  (fs.mapM (m := Sem) fun f => do pure (f.offset, <- sizeOf f.type)).run P w = .ok (fs.map fun x => (x.offset, P.cellsOf x.type)) w := by
 induction fs with
 | nil => simp
 | cons f fs ih =>
   simp only [List.all_cons, Bool.and_eq_true] at h
   obtain ⟨i, hi⟩ := Option.isSome_iff_exists.1 h.1
   have ih' := ih h.2
   simp only [List.mapM_cons, Sem.run_bind, run_sizeOf hi, Result.andThen_ok, Sem.run_pure, ih']
   simp [Program.cellsOf, hi]
theorem run_zeroValue {t : TypeId} {i : TypeInfo} {r : Value} (h : P.info? t = some i) (hz : i.zero = some r) : (zeroValue t).run P w = .ok r w := by
 simp [zeroValue, typeInfo, h, hz]
theorem build_ok {t : TypeId} {z : IV} {ps : List (Nat × IV)} {parts : Array (Nat × Value)} (hz : zeroIV P t = some z) (hp : PR M ps parts.toList) {cs : List IV}
  (h : (∃ fs, P.underlying t = some (.struct fs) /\ fs.toList.all (fun x => (P.info? x.type).isSome) = true /\ ifill (placeOf P fs) (cellsOf z) ps = some cs) \/
   (∃ n e sz, P.underlying t = some (.array n e) /\ szOf P e = some sz /\ ifill (fun i => some (i * sz, sz)) (cellsOf z) ps = some cs)) :
  ∃ r, (Instr.build t parts).run P w = .ok r w /\ VR M (.agg cs) r := by
 obtain ⟨i, r, h1, h2, h3, h4⟩ := zeroIV_info (M := M) hz
 have hc := vr_cells h3 h4
 rcases h with ⟨fs, hu, ha, hf⟩ | ⟨n, e, sz, hu, hs, hf⟩
 ·obtain ⟨ro, h5, h6⟩ := ifill_ok hp hc hf
  have hm : (fs.mapM (m := Sem) fun f => do pure (f.offset, <- sizeOf f.type)).run P w = .ok (fs.map fun x => (x.offset, P.cellsOf x.type)) w := by
   rw [Array.mapM_eq_mapM_toList]
   simp only [Sem.run_map, run_places w fs.toList ha, Result.andThen_ok]
   congr 1
   apply Array.ext'
   simp
  refine ⟨.agg ro, ?_, by simpa using vr_agg_mk h6⟩
  have hpl : (fun i => (fs.map fun x => (x.offset, P.cellsOf x.type))[i]?) = placeOf P fs := by
   funext j; simp [placeOf]
  simp only [Instr.build, Sem.run_bind, run_zeroValue w h1 h2, Result.andThen_ok, run_underlying hu, hm]
  have : Instr.fill (fun x => (fs.map fun x => (x.offset, P.cellsOf x.type))[x]?) r.cells parts.toList = some ro := by rw [hpl]; exact h5
  rw [this]
  rfl
 ·obtain ⟨ro, h5, h6⟩ := ifill_ok hp hc hf
  obtain ⟨j, hj1, hj2⟩ := szOf_info hs
  refine ⟨.agg ro, ?_, by simpa using vr_agg_mk h6⟩
  simp only [Instr.build, Sem.run_bind, run_zeroValue w h1 h2, Result.andThen_ok, run_underlying hu, run_sizeOf hj1, hj2, h5, Sem.run_pure]
theorem fieldOf_some {t : TypeId} {f : Nat} {ft : TypeId} {off : Nat} (h : fieldOf P t f = some (ft, off)) : ∃ fs x, P.underlying t = some (.struct fs) /\ fs[f]? = some x /\ x.type = ft /\ x.offset = off := by
 unfold fieldOf at h
 split at h
 ·rename_i fs hu
  obtain ⟨x, h1, h2⟩ := Option.map_eq_some_iff.1 h
  simp at h2
  exact ⟨fs, x, hu, h1, h2.1, h2.2⟩
 ·simp at h
theorem fold_min : ∀ {xs : List IV} {rs : List Value} {x v : IV} {r : Value}, VR M x r -> VRs M xs rs -> fold2 min2 x xs = some v -> ∃ s, (rs.foldlM Builtin.min2 r).run P w = .ok s w /\ VR M v s
 | [], rs, x, v, r, hx, hs, h => by
   cases rs with
   | nil => simp [fold2] at h; subst h; exact ⟨r, by simp, hx⟩
   | cons _ _ => simp [VRs] at hs
 | y :: ys, rs, x, v, r, hx, hs, h => by
   obtain ⟨q, rs', rfl, h1, h2⟩ := hs.uncons
   unfold fold2 at h
   split at h
   ·rename_i z hz
    unfold min2 at hz
    split at hz
    ·simp at hz; subst hz
     cases hx; cases h1
     obtain ⟨s, h3, h4⟩ := fold_min (.int _ _) h2 h
     exact ⟨s, by simp only [List.foldlM_cons, Builtin.min2, Sem.run_bind, Sem.run_pure, Result.andThen_ok]; exact h3, h4⟩
    ·simp at hz
   ·simp at h
theorem fold_max : ∀ {xs : List IV} {rs : List Value} {x v : IV} {r : Value}, VR M x r -> VRs M xs rs -> fold2 max2 x xs = some v -> ∃ s, (rs.foldlM Builtin.max2 r).run P w = .ok s w /\ VR M v s
 | [], rs, x, v, r, hx, hs, h => by
   cases rs with
   | nil => simp [fold2] at h; subst h; exact ⟨r, by simp, hx⟩
   | cons _ _ => simp [VRs] at hs
 | y :: ys, rs, x, v, r, hx, hs, h => by
   obtain ⟨q, rs', rfl, h1, h2⟩ := hs.uncons
   unfold fold2 at h
   split at h
   ·rename_i z hz
    unfold max2 at hz
    split at hz
    ·simp at hz; subst hz
     cases hx; cases h1
     obtain ⟨s, h3, h4⟩ := fold_max (.int _ _) h2 h
     exact ⟨s, by simp only [List.foldlM_cons, Builtin.max2, Sem.run_bind, Sem.run_pure, Result.andThen_ok]; exact h3, h4⟩
    ·simp at hz
   ·simp at h
theorem exec_v {P : Program} {s : Sem Value} {r : Value} (w w' : World) (h : s.run P w = .ok r w') : ((do pure (.value (<- s)) : Sem Next).run P w) = .ok (.value r) w' := by
 simp only [Sem.run_bind, h, Result.andThen_ok, Sem.run_pure]
theorem exec_u {P : Program} {s : Sem Unit} (w w' : World) (h : s.run P w = .ok () w') : ((do s; pure .skip : Sem Next).run P w) = .ok .skip w' := by
 simp only [Sem.run_bind, h, Result.andThen_ok, Sem.run_pure]
theorem isIfaceT_some {t : TypeId} {b : Bool} {P : Program} (h : isIfaceT P t = some b) : ∃ d, P.underlying t = some d /\ ((∃ ms, d = .interface ms) ↔ b = true) := by
 unfold isIfaceT at h
 split at h
 ·rename_i ms hu; simp at h; subst h; exact ⟨_, hu, by simp⟩
 ·rename_i d hn hu; simp at h; subst h; exact ⟨d, hu, by simp; intro ms e; subst e; exact hn _ rfl⟩
 ·simp at h
end
end Go.Pv
