import Derived.Test.YtmfnadojephcpaaPvRow
set_option linter.unusedSimpArgs false
namespace Go.Pv
section
variable {E : Env} {M : Meta} {w : World} {f : FuncId} {o : Oper} {ev : Operand -> Option TV} {ρ : Operand -> Value} {pb : Nat -> Nat}
def PEnd (E : Env) (M : Meta) (w : World) (o : Oper) (ρ : Operand -> Value) (pb : Nat -> Nat) (tv : TV) (bx : Option (List IV)) : Prop :=
 (bx = none /\ ∃ r, (execOp ρ o).run E.P w = .ok (.value r) w /\ TR M pb tv r) \/
 (∃ cs d rc el, bx = some cs /\ o.dst = some d /\ tv = .l d 0 /\ (execOp ρ o).run E.P w = .ok (.value (.pointer (some ⟨w.heap.size, 0, none⟩))) (w.alloc (.cells rc el)) /\ CRs M cs rc.toList) \/
 (bx = none /\ ∀ h, Inv M h w -> ∃ w' M' x r, tv = .v x /\ (execOp ρ o).run E.P w = .ok (.value r) w' /\ VR M' x r /\ Inv M' h w' /\ Pres w.heap.size M h w M' h w')
theorem PEnd.val {x : IV} {r : Value} (h : (execOp ρ o).run E.P w = .ok (.value r) w) (hv : VR M x r) : PEnd E M w o ρ pb (.v x) none := .inl ⟨rfl, r, h, hv⟩
theorem pSem_ok (him : ∀ b o u, M.im b o = some u -> w.cell? ⟨b, o, none⟩ = some u) (hev : ∀ x tv, ev x = some tv -> TR M pb tv (ρ x)) {tv : TV} {bx : Option (List IV)}
  (h : pSem E f o ev = some (tv, bx)) : PEnd E M w o ρ pb tv bx := by
 unfold pSem at h
 cases hop : o.op with
 | move x =>
   simp only [hop] at h
   obtain ⟨a, h1, h2⟩ := Option.map_eq_some_iff.1 h
   simp at h2; obtain ⟨rfl, rfl⟩ := h2
   exact .inl ⟨rfl, ρ x, by simp [execOp, hop], hev _ _ h1⟩
 | assign x =>
   simp only [hop] at h
   obtain ⟨a, h1, h2⟩ := Option.map_eq_some_iff.1 h
   simp at h2; obtain ⟨rfl, rfl⟩ := h2
   exact .inl ⟨rfl, ρ x, by simp [execOp, hop], hev _ _ h1⟩
 | pick c a b =>
   simp only [hop] at h
   split at h
   ·rename_i hc
    obtain ⟨q, h1, h2⟩ := Option.map_eq_some_iff.1 h
    simp at h2; obtain ⟨rfl, rfl⟩ := h2
    have hcv : VR M (.bool true) (ρ c) := hev _ _ hc
    generalize hρ : ρ c = rcv at hcv
    cases hcv
    exact .inl ⟨rfl, ρ a, by simp [execOp, hop, hρ, asBool], hev _ _ h1⟩
   ·rename_i hc
    obtain ⟨q, h1, h2⟩ := Option.map_eq_some_iff.1 h
    simp at h2; obtain ⟨rfl, rfl⟩ := h2
    have hcv : VR M (.bool false) (ρ c) := hev _ _ hc
    generalize hρ : ρ c = rcv at hcv
    cases hcv
    exact .inl ⟨rfl, ρ b, by simp [execOp, hop, hρ, asBool], hev _ _ h1⟩
   ·simp at h
 | alloc t =>
   simp only [hop] at h
   split at h
   case h_2 => simp at h
   rename_i d hd
   split at h
   case isFalse => simp at h
   obtain ⟨z, h1, h2⟩ := Option.map_eq_some_iff.1 h
   simp at h2; obtain ⟨rfl, rfl⟩ := h2
   obtain ⟨i, r, h3, h4, h5, h6⟩ := zeroIV_info (M := M) h1
   refine .inr (.inl ⟨_, d, r.cells, t, rfl, hd, rfl, ?_, vr_cells h5 h6⟩)
   simp only [execOp, hop]
   refine exec_v _ _ ?_
   simp only [Instr.alloc, Sem.run_bind, run_zeroValue w h3 h4, Result.andThen_ok, newVar, Go.newRow, run_newObj, Sem.run_pure]
   rfl
 | box t x =>
   simp only [hop] at h
   split at h
   case h_2 => simp at h
   rename_i d v hd hv
   split at h
   case isFalse => simp at h
   rename_i hc
   simp at h; obtain ⟨rfl, rfl⟩ := h
   refine .inr (.inl ⟨_, d, (ρ x).cells, t, rfl, hd, rfl, ?_, vr_cells (ev_plain hev hv) hc.2⟩)
   simp only [execOp, hop]
   refine exec_v _ _ ?_
   simp only [Instr.box, newVar, Go.newRow, Sem.run_bind, run_newObj, Result.andThen_ok, Sem.run_pure]
   rfl
 | build t parts =>
   simp only [hop] at h
   split at h
   case h_2 => simp at h
   rename_i z ps hz hp
   have hp' : PR M ps (parts.map fun (i, x) => (i, ρ x)).toList := by
    have := ev_parts (M := M) hev hp
    simpa using this
   split at h
   ·rename_i fs hu
    split at h
    case isFalse => simp at h
    rename_i ha
    obtain ⟨cs, h1, h2⟩ := Option.map_eq_some_iff.1 h
    simp at h2; obtain ⟨rfl, rfl⟩ := h2
    obtain ⟨r, h3, h4⟩ := build_ok (P := E.P) w hz hp' (.inl ⟨fs, hu, ha, h1⟩)
    exact .val (by simp only [execOp, hop]; exact exec_v _ _ h3) h4
   ·rename_i n e hu
    split at h
    case h_2 => simp at h
    rename_i sz hs
    obtain ⟨cs, h1, h2⟩ := Option.map_eq_some_iff.1 h
    simp at h2; obtain ⟨rfl, rfl⟩ := h2
    obtain ⟨r, h3, h4⟩ := build_ok (P := E.P) w hz hp' (.inr ⟨n, e, sz, hu, hs, h1⟩)
    exact .val (by simp only [execOp, hop]; exact exec_v _ _ h3) h4
   ·simp at h
 | buildSlice t n parts =>
   simp only [hop] at h
   split at h
   case h_2 => simp at h
   rename_i e d hu hd
   split at h
   case isFalse => simp at h
   split at h
   case h_2 => simp at h
   rename_i sz z ps hsz hz hp
   split at h
   case isFalse => simp at h
   rename_i hcond
   obtain ⟨cs, h1, h2⟩ := Option.map_eq_some_iff.1 h
   simp at h2; obtain ⟨rfl, rfl⟩ := h2
   have hp' : PR M ps (parts.map fun (i, x) => (i, ρ x)).toList := by
    have := ev_parts (M := M) hev hp
    simpa using this
   obtain ⟨ro, r1, r2, r3⟩ := buildSlice_run (P := E.P) (M := M) w hu hsz hz hcond.1 hcond.2 hp' h1
   have r2' : CRs M (match E.nf f with | true => nrmL (rep n (cksOf E.P 8 e)) cs | false => cs) ro.toList := by
    split
    ·exact nrmL_crs r2
    ·exact r2
   have r3' : (match E.nf f with | true => nrmL (rep n (cksOf E.P 8 e)) cs | false => cs).length = n * (sz + 1) := by
    split
    ·rw [nrmL_len]; exact r3
    ·exact r3
   refine .inr (.inr ⟨rfl, fun h hI => ?_⟩)
   obtain ⟨M', q1, q2, q3⟩ := new_lit hI (NewBlk.alloc w (.cells ro e)) r3' (by omega) r2'
   exact ⟨_, M', _, _, rfl, by simp only [execOp, hop]; exact exec_v _ _ r1, q3, q1, q2⟩
 | load t a =>
   simp only [hop] at h
   split at h
   case h_2 => simp at h
   rename_i cs off ha
   obtain ⟨v, h1, h2⟩ := Option.map_eq_some_iff.1 h
   simp at h2; obtain ⟨rfl, rfl⟩ := h2
   have hav : VR M (.vref cs off) (ρ a) := hev _ _ ha
   generalize hρ : ρ a = ra at hav
   cases hav with
   | @vref _ _ b base rv him' hv hc =>
     have hcr : CRs M cs ((List.range cs.length).map rv) := ⟨⟨by simp, fun i p q => by simpa using hv i p⟩, hc⟩
     obtain ⟨r, h3, h4⟩ := load_ok (P := E.P) (w := w) (b := b) (base := base) hcr (fun i hi => by simp at hi; simpa using him _ _ _ (him' i hi)) h1
     exact .val (by simp only [execOp, hop, hρ, Instr.loadAt, Instr.sureAddr]; exact exec_v _ _ (by simpa using h3)) h4
 | nilCheck x =>
   simp only [hop] at h
   split at h
   ·rename_i s off hx
    simp at h; obtain ⟨rfl, rfl⟩ := h
    have : ρ x = .pointer (some ⟨pb s, off, none⟩) := hev _ _ hx
    exact .inl ⟨rfl, _, by simp [execOp, hop, this], rfl⟩
   ·rename_i id off hx
    simp at h; obtain ⟨rfl, rfl⟩ := h
    have hav : VR M (.ptr id off) (ρ x) := hev _ _ hx
    generalize hρ : ρ x = ra at hav
    have hav' := hav
    cases hav
    exact .val (by simp [execOp, hop, hρ]) hav'
   ·rename_i cs off hx
    simp at h; obtain ⟨rfl, rfl⟩ := h
    have hav : VR M (.vref cs off) (ρ x) := hev _ _ hx
    generalize hρ : ρ x = ra at hav
    have hav' := hav
    cases hav
    exact .val (by simp [execOp, hop, hρ]) hav'
   ·rename_i g a b hx
    simp at h; obtain ⟨rfl, rfl⟩ := h
    have hav : VR M (.func (.func g) a b) (ρ x) := hev _ _ hx
    generalize hρ : ρ x = ra at hav
    have hav' := hav
    cases hav
    exact .val (by simp [execOp, hop, hρ]) hav'
   ·rename_i t v hx
    simp at h; obtain ⟨rfl, rfl⟩ := h
    have hav : VR M (.iface t v) (ρ x) := hev _ _ hx
    generalize hρ : ρ x = ra at hav
    have hav' := hav
    cases hav
    exact .val (by simp [execOp, hop, hρ]) hav'
   ·simp at h
 | binOp op t x y u =>
   simp only [hop] at h
   split at h
   case h_2 => simp at h
   rename_i a b ha hb
   obtain ⟨v, h1, h2⟩ := Option.map_eq_some_iff.1 h
   simp at h2; obtain ⟨rfl, rfl⟩ := h2
   obtain ⟨r, h3, h4⟩ := binIV_ok (P := E.P) w x y rfl (ev_plain hev ha) (ev_plain hev hb) h1
   exact .val (by simp only [execOp, hop]; exact exec_v _ _ h3) h4
 | unOp op t x =>
   simp only [hop] at h
   split at h
   case h_2 => simp at h
   rename_i a ha
   obtain ⟨v, h1, h2⟩ := Option.map_eq_some_iff.1 h
   simp at h2; obtain ⟨rfl, rfl⟩ := h2
   obtain ⟨r, h3, h4⟩ := unIV_ok (P := E.P) w (ev_plain hev ha) h1
   exact .val (by simp only [execOp, hop]; exact exec_v _ _ h3) h4
 | convert s d x =>
   simp only [hop] at h
   split at h
   case h_2 => simp at h
   rename_i a ha
   obtain ⟨v, h1, h2⟩ := Option.map_eq_some_iff.1 h
   simp at h2; obtain ⟨rfl, rfl⟩ := h2
   obtain ⟨r, h3, h4⟩ := convIV_ok (P := E.P) w him (ev_plain hev ha) h1
   exact .val (by simp only [execOp, hop]; exact exec_v _ _ h3) h4
 | makeInterface t x =>
   simp only [hop] at h
   split at h
   case h_2 => simp at h
   rename_i a hi ha
   simp at h; obtain ⟨rfl, rfl⟩ := h
   obtain ⟨d, hu, hd⟩ := isIfaceT_some hi
   refine .val (r := .iface t (ρ x)) ?_ (.iface (ev_plain hev ha))
   simp only [execOp, hop]
   refine exec_v _ _ ?_
   cases d <;> first | (exact absurd (hd.1 ⟨_, rfl⟩) (by simp)) | simp [Instr.makeInterface, run_underlying hu]
 | makeFunc fn a b =>
   simp only [hop] at h
   split at h
   case h_2 => simp at h
   rename_i xs ys hx hy
   simp at h; obtain ⟨rfl, rfl⟩ := h
   refine .val (r := .func fn (a.map ρ) (b.map ρ)) (by simp only [execOp, hop]; exact exec_v _ _ (by simp [Instr.makeFunc])) ?_
   have h1 := ev_plains hev hx
   have h2 := ev_plains hev hy
   have := vr_func_mk (fn := fn) h1 h2
   have e : ∀ a : Array Operand, (a.toList.map ρ).toArray = a.map ρ := fun a => by apply Array.ext'; simp
   rwa [e, e] at this
 | slice t x lo hi mx =>
   simp only [hop] at h
   split at h
   case h_2 => simp at h
   rename_i a ha
   obtain ⟨v, h1, h2⟩ := Option.map_eq_some_iff.1 h
   simp at h2; obtain ⟨rfl, rfl⟩ := h2
   obtain ⟨r, h3, h4⟩ := sliceIV_ok (P := E.P) w (ev_plain hev ha) (ev_bound hev lo) (ev_bound hev hi) h1
   exact .val (by simp only [execOp, hop]; exact exec_v _ _ h3) h4
 | fieldAddr t x i =>
   simp only [hop] at h
   split at h
   case h_2 => simp at h
   rename_i ft off a hf ha
   split at h
   case h_2 => simp at h
   rename_i n hn
   obtain ⟨v, h1, h2⟩ := Option.map_eq_some_iff.1 h
   simp at h2; obtain ⟨rfl, rfl⟩ := h2
   obtain ⟨fs, fx, hu, hfx, rfl, rfl⟩ := fieldOf_some hf
   obtain ⟨ii, hi1, hi2⟩ := szOf_info hn
   obtain ⟨ad, he, ht⟩ := addrPlus_ok h1 (hev _ _ ha)
   refine .inl ⟨rfl, _, ?_, ht⟩
   simp only [execOp, hop]
   refine exec_v _ _ ?_
   simp [Instr.fieldAt, run_underlying hu, hfx, he, Instr.sureAddr, fieldPlace, run_sizeOf hi1, hi2]
 | field t x i =>
   simp only [hop] at h
   split at h
   case h_2 => simp at h
   rename_i ft off cs hf ha
   obtain ⟨v, h1, h2⟩ := Option.map_eq_some_iff.1 h
   simp at h2; obtain ⟨rfl, rfl⟩ := h2
   obtain ⟨fs, fx, hu, hfx, rfl, rfl⟩ := fieldOf_some hf
   obtain ⟨rc, hr, hc⟩ := vr_agg (ev_plain hev ha)
   obtain ⟨r, h3, h4⟩ := part_ok (P := E.P) (w := w) hc h1
   refine .val ?_ h4
   simp only [execOp, hop]
   refine exec_v _ _ ?_
   simp [Instr.field, run_underlying hu, hfx, hr, asAgg, h3]
 | indexAddr t x ix =>
   simp only [hop] at h
   split at h
   ·rename_i i n e hi hu
    obtain ⟨k, hk⟩ := asI_ok hi
    have hkv : VR M (.int k i) (ρ ix) := hev _ _ hk
    generalize hρi : ρ ix = ri at hkv
    cases hkv
    split at h
    case h_2 => simp at h
    rename_i sz a hs ha
    split at h
    case isFalse => simp at h
    rename_i hb
    obtain ⟨v, h1, h2⟩ := Option.map_eq_some_iff.1 h
    simp at h2; obtain ⟨rfl, rfl⟩ := h2
    obtain ⟨ii, hi1, hi2⟩ := szOf_info hs
    obtain ⟨ad, he, ht⟩ := addrPlus_ok h1 (hev _ _ ha)
    refine .inl ⟨rfl, _, ?_, ht⟩
    simp only [execOp, hop]
    refine exec_v _ _ ?_
    simp [Instr.indexAt, run_underlying hu, hρi, asIntOf, he, Instr.sureAddr, hb, run_sizeOf hi1, hi2]
   ·rename_i i e hi hu
    obtain ⟨k, hk⟩ := asI_ok hi
    have hkv : VR M (.int k i) (ρ ix) := hev _ _ hk
    generalize hρi : ρ ix = ri at hkv
    cases hkv
    split at h
    ·rename_i sz id' e' len z cs hs ha
     split at h
     case isFalse => simp at h
     rename_i hb
     obtain ⟨b1, b2, rfl⟩ := hb
     simp at h; obtain ⟨rfl, rfl⟩ := h
     obtain ⟨ii, hi1, hi2⟩ := szOf_info hs
     have hav := ev_plain hev ha
     generalize hρ : ρ x = ra at hav
     cases hav with
     | vnil => omega
     | @vslice _ _ _ _ cap _ a rv hn hlen ha' him' hv hc ht hf =>
       have hsp := ha'.resolve_left (by omega)
       obtain ⟨ab, ao, asp⟩ := a
       obtain ⟨hsp1, hsp2⟩ := hsp
       simp only at hsp1; subst hsp1
       refine .inl ⟨rfl, .pointer (some ⟨ab, ao + i.toNat * z, none⟩), ?_, VR.vref rv him' hv hc⟩
       simp only [execOp, hop]
       refine exec_v _ _ ?_
       simp [Instr.indexAt, run_underlying hu, hρi, hρ, asIntOf, b1, b2, run_sizeOf hi1, hi2, add_none]
    ·rename_i sz id' off len z hs ha
     split at h
     case isFalse => simp at h
     rename_i hb
     obtain ⟨b1, b2, rfl⟩ := hb
     simp at h; obtain ⟨rfl, rfl⟩ := h
     obtain ⟨ii, hi1, hi2⟩ := szOf_info hs
     have hav := ev_plain hev ha
     generalize hρ : ρ x = ra at hav
     cases hav with
     | @hslice _ _ _ _ cap b a hl ha' hlen =>
       obtain ⟨rfl, hsp⟩ := ha'.resolve_left (by omega)
       refine .inl ⟨rfl, .pointer (some ⟨b, off + i.toNat * z, none⟩), ?_, VR.ptr hl⟩
       simp only [execOp, hop]
       refine exec_v _ _ ?_
       simp [Instr.indexAt, run_underlying hu, hρi, hρ, asIntOf, b1, b2, run_sizeOf hi1, hi2, add_none]
    ·simp at h
   ·simp at h
 | index t x ix =>
   simp only [hop] at h
   split at h
   ·rename_i i n e cs hi hu ha
    obtain ⟨k, hk⟩ := asI_ok hi
    have hkv : VR M (.int k i) (ρ ix) := hev _ _ hk
    generalize hρi : ρ ix = ri at hkv
    cases hkv
    split at h
    case h_2 => simp at h
    rename_i sz hs
    split at h
    case isFalse => simp at h
    rename_i hb
    obtain ⟨v, h1, h2⟩ := Option.map_eq_some_iff.1 h
    simp at h2; obtain ⟨rfl, rfl⟩ := h2
    obtain ⟨ii, hi1, hi2⟩ := szOf_info hs
    obtain ⟨rc, hr, hc⟩ := vr_agg (ev_plain hev ha)
    obtain ⟨r, h3, h4⟩ := part_ok (P := E.P) (w := w) hc h1
    refine .val ?_ h4
    simp only [execOp, hop]
    refine exec_v _ _ ?_
    simp [Instr.index, run_underlying hu, hρi, hr, asIntOf, hb, run_sizeOf hi1, hi2, h3]
   ·rename_i i s hi hu ha
    obtain ⟨k, hk⟩ := asI_ok hi
    have hkv : VR M (.int k i) (ρ ix) := hev _ _ hk
    generalize hρi : ρ ix = ri at hkv
    cases hkv
    split at h
    case isFalse => simp at h
    rename_i hb
    obtain ⟨v, h1, h2⟩ := Option.map_eq_some_iff.1 h
    simp at h2; obtain ⟨rfl, rfl⟩ := h2
    have hav := ev_plain hev ha
    generalize hρ : ρ x = ra at hav
    cases hav with
    | str b =>
      refine .val (r := .int .u8 v.toNat) ?_ (.int _ _)
      simp only [execOp, hop]
      refine exec_v _ _ ?_
      have h1' : b[i.toNat]? = some v := by
       have : i.toNat < b.size := by
        have := List.getElem?_eq_some_iff.1 h1
        simpa using this.1
       rw [getElem?_pos b i.toNat this]
       have h2 := h1
       rw [List.getElem?_eq_getElem (by simpa using this)] at h2
       simpa [ByteArray.getElem_eq_getElem_data] using h2
      simp [Instr.index, run_underlying hu, hρi, hρ, asIntOf, hb, h1']
   ·simp at h
 | extract x i =>
   simp only [hop] at h
   split at h
   case h_2 => simp at h
   rename_i vs ha
   obtain ⟨v, h1, h2⟩ := Option.map_eq_some_iff.1 h
   simp at h2; obtain ⟨rfl, rfl⟩ := h2
   obtain ⟨rc, hr, hc⟩ := vr_tuple (ev_plain hev ha)
   obtain ⟨r, h3, h4⟩ := hc.get h1
   refine .val ?_ h4
   simp only [execOp, hop]
   refine exec_v _ _ ?_
   simp [Instr.extract, hr, h3]
 | typeAssert x s t ok =>
   simp only [hop] at h
   split at h
   ·rename_i u v hi ha
    obtain ⟨d, hu, hd⟩ := isIfaceT_some hi
    have hav := ev_plain hev ha
    generalize hρ : ρ x = ra at hav
    cases hav with
    | @iface _ _ rv hv =>
      have hnd : ∀ ms, d ≠ .interface ms := fun ms e => absurd (hd.1 ⟨ms, e⟩) (by simp)
      split at h
      ·rename_i hut
       subst hut
       split at h
       ·rename_i hok
        simp at h; obtain ⟨rfl, rfl⟩ := h
        refine .val (r := .tuple #[rv, .bool true]) ?_ (by simpa using vr_tuple_mk (VRs.cons hv (VRs.cons (.bool true) (VRs.nil M))))
        simp only [execOp, hop]
        refine exec_v _ _ ?_
        cases d <;> first | (exact absurd rfl (hnd _)) | simp [Instr.typeAssert, run_underlying hu, hρ, hok]
       ·rename_i hok
        simp at h; obtain ⟨rfl, rfl⟩ := h
        refine .val (r := rv) ?_ hv
        simp only [execOp, hop]
        refine exec_v _ _ ?_
        cases d <;> first | (exact absurd rfl (hnd _)) | simp [Instr.typeAssert, run_underlying hu, hρ, hok]
      ·rename_i hut
       split at h
       case isFalse => simp at h
       rename_i hok
       obtain ⟨z, h1, h2⟩ := Option.map_eq_some_iff.1 h
       simp at h2; obtain ⟨rfl, rfl⟩ := h2
       obtain ⟨i, r, h3, h4, h5, h6⟩ := zeroIV_info (M := M) h1
       refine .val (r := .tuple #[r, .bool false]) ?_ (by simpa using vr_tuple_mk (VRs.cons h5 (VRs.cons (.bool false) (VRs.nil M))))
       simp only [execOp, hop]
       refine exec_v _ _ ?_
       cases d <;> first | (exact absurd rfl (hnd _)) | simp [Instr.typeAssert, run_underlying hu, hρ, hok, hut, run_zeroValue w h3 h4]
   ·rename_i hi ha
    obtain ⟨d, hu, hd⟩ := isIfaceT_some hi
    have hnd : ∀ ms, d ≠ .interface ms := fun ms e => absurd (hd.1 ⟨ms, e⟩) (by simp)
    have hav := ev_plain hev ha
    generalize hρ : ρ x = ra at hav
    cases hav
    split at h
    case isFalse => simp at h
    rename_i hok
    obtain ⟨z, h1, h2⟩ := Option.map_eq_some_iff.1 h
    simp at h2; obtain ⟨rfl, rfl⟩ := h2
    obtain ⟨i, r, h3, h4, h5, h6⟩ := zeroIV_info (M := M) h1
    refine .val (r := .tuple #[r, .bool false]) ?_ (by simpa using vr_tuple_mk (VRs.cons h5 (VRs.cons (.bool false) (VRs.nil M))))
    simp only [execOp, hop]
    refine exec_v _ _ ?_
    cases d <;> first | (exact absurd rfl (hnd _)) | simp [Instr.typeAssert, run_underlying hu, hρ, hok, run_zeroValue w h3 h4]
   ·simp at h
 | call c =>
   obtain ⟨callee, args, argTypes⟩ := c
   simp only [hop] at h
   cases callee with
   | value x => simp at h
   | invoke x n => simp at h
   | builtin b =>
     cases b
     case len =>
      simp only at h
      split at h
      case h_2 => simp at h
      rename_i t x ht hx
      obtain ⟨y, hy, hyx⟩ := Option.bind_eq_some_iff.1 hx
      have hav := ev_plain hev hyx
      have h0 : (args.map ρ)[0]? = some (ρ y) := by simp [hy]
      have hexec : ∀ r, (Builtin.len_ argTypes o.type (args.map ρ)).run E.P w = .ok r w -> (execOp ρ o).run E.P w = .ok (.value r) w := by
       intro r hr
       simp only [execOp, hop, resolve, invoke, Sem.run_bind, Sem.run_pure, Result.andThen_ok, builtin, hr]
      generalize hρ : ρ y = ra at hav h0
      split at h
      ·rename_i s hu
       simp at h; obtain ⟨rfl, rfl⟩ := h
       cases hav
       refine .val (hexec _ (by simp [Builtin.len_, ht, hy, hρ, run_underlying hu]; rfl)) ?_
       simpa [goInt] using VR.int (M := M) _ _
      ·rename_i e hu
       simp at h; obtain ⟨rfl, rfl⟩ := h
       cases hav
       exact .val (hexec _ (by simp [Builtin.len_, ht, hy, hρ, run_underlying hu]; rfl)) (.int _ _)
      ·rename_i e i1 i2 len i3 hu
       simp at h; obtain ⟨rfl, rfl⟩ := h
       obtain ⟨a, cap, rfl, _⟩ := hslice_shape hav
       exact .val (hexec _ (by simp [Builtin.len_, ht, hy, hρ, run_underlying hu]; rfl)) (.int _ _)
      ·rename_i e i1 i2 len i3 i4 hu
       simp at h; obtain ⟨rfl, rfl⟩ := h
       obtain ⟨a, cap, rfl, _⟩ := vslice_shape hav
       exact .val (hexec _ (by simp [Builtin.len_, ht, hy, hρ, run_underlying hu]; rfl)) (.int _ _)
      ·rename_i k e hu
       simp at h; obtain ⟨rfl, rfl⟩ := h
       cases hav
       exact .val (hexec _ (by simp [Builtin.len_, ht, hy, hρ, run_underlying hu]; rfl)) (.int _ _)
      ·rename_i n e hu
       simp at h; obtain ⟨rfl, rfl⟩ := h
       exact .val (hexec _ (by simp [Builtin.len_, ht, hy, run_underlying hu]; rfl)) (.int _ _)
      ·simp at h
     case min =>
      simp only at h
      split at h
      case h_2 => simp at h
      rename_i x r hx
      obtain ⟨v, h1, h2⟩ := Option.map_eq_some_iff.1 h
      simp at h2; obtain ⟨rfl, rfl⟩ := h2
      obtain ⟨q, rs', hrs, v1, v2⟩ := (ev_plains hev hx).uncons
      obtain ⟨s, h3, h4⟩ := fold_min (P := E.P) w v1 v2 h1
      refine .val (r := s) ?_ h4
      simp only [execOp, hop, resolve, invoke, Sem.run_bind, Sem.run_pure, Result.andThen_ok, builtin, Builtin.min_, Array.toList_map, hrs, h3]
     case max =>
      simp only at h
      split at h
      case h_2 => simp at h
      rename_i x r hx
      obtain ⟨v, h1, h2⟩ := Option.map_eq_some_iff.1 h
      simp at h2; obtain ⟨rfl, rfl⟩ := h2
      obtain ⟨q, rs', hrs, v1, v2⟩ := (ev_plains hev hx).uncons
      obtain ⟨s, h3, h4⟩ := fold_max (P := E.P) w v1 v2 h1
      refine .val (r := s) ?_ h4
      simp only [execOp, hop, resolve, invoke, Sem.run_bind, Sem.run_pure, Result.andThen_ok, builtin, Builtin.max_, Array.toList_map, hrs, h3]
     all_goals simp at h
 | _ => simp [hop] at h
end
end Go.Pv
