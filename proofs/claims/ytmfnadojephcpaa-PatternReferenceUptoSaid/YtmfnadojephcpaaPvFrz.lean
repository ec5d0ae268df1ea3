import Derived.Test.YtmfnadojephcpaaPvRow
set_option linter.unusedSimpArgs false
set_option linter.unusedVariables false
namespace Go.Pv
section
variable {M : Meta} {h : Heap} {w : World}
def FrzOk (g : Heap -> IV -> IV × Heap) : Prop :=
 ∀ (M : Meta) (h : Heap) (w : World) (v : IV) (r : Value), Inv M h w -> VR M v r -> ∃ M', Inv M' (g h v).2 w /\ Pres w.heap.size M h w M' (g h v).2 w /\ VR M' (g h v).1 r /\ isCell (g h v).1 = isCell v
theorem frz1_hs {id off len sz : Nat} {cs : List IV} {r : Value} (a : Inv M h w) (hg : h.get id = .cells cs) (h0 : 0 < sz) (hle : off + len * sz <= cs.length) (hv : VR M (.hslice id off len sz) r) :
  ∃ M', Inv M' (h.set id .dead) w /\ Pres w.heap.size M h w M' (h.set id .dead) w /\ VR M' (.vslice none 0 len sz ((cs.drop off).take (len * sz))) r := by
 obtain ⟨b, rc, l1, l2, l3, l4, l5⟩ := a.cells id cs hg
 cases hv with
 | @hslice _ _ _ _ cap b' ad hl had hlen =>
   rw [hl] at l1; simp at l1; subst l1
   have hidlt : id < h.next := by
    rcases Nat.lt_or_ge id h.next with q | q
    ·exact q
    ·rw [a.fresh id q] at hg; simp at hg
   let M' : Meta := { M with im := fun c o => if c = b' then rc[o]? else M.im c o }
   have hE : Ext M M' := ⟨Nat.le_refl _, fun _ _ x => x, fun c o v x => by
     simp only [M']
     split
     ·rename_i hc; subst hc; rw [l5] at x; simp at x
     ·exact x, fun _ _ x => x, fun _ _ => Nat.le_refl _, fun _ _ _ => rfl⟩
   have hdead : (h.set id .dead).get id = .dead := by rw [Heap.get_set, if_pos rfl]
   obtain ⟨el, fz, hbk⟩ := l2.at_
   have hmain : Inv M' (h.set id .dead) w /\ Pres w.heap.size M h w M' (h.set id .dead) w := by
    refine UpdS.done (S := fun j => j = id) (tb := b') ?_ a
    refine {
     get := fun j hj => by rw [Heap.get_set, if_neg hj], loc := fun _ _ => rfl, tip := fun _ _ => rfl, cur := fun _ _ => rfl, heap := fun _ _ _ => rfl, im := fun c o hc => by simp [M', hc], bsz := fun _ _ => rfl, size := Nat.le_refl _,
     os := rfl, tape := rfl, output := rfl, own := .inl ⟨id, rfl, by simp [Wb, hg, hl]⟩, wb := ?_, one := fun i i' e e' _ _ => e.trans e'.symm, ext := hE, nid := a.nid, fresh := ?_, freshl := a.freshl, imtb := ?_, bsztb := fun n x => a.bsz b' n x, cells := ?_, tips := ?_, maps := ?_, resv := fun i hi e => by subst hi; simp [Heap.get_set] at e }
    ·intro i c e ew
     subst e
     simp [Wb, hdead] at ew
    ·intro j hj
     rw [Heap.next_set] at hj
     rw [Heap.get_set, if_neg (by omega)]
     exact a.fresh j hj
    ·intro o v x
     simp only [M', if_true] at x
     simp only [World.cell?, hbk, Option.isSome_none, Bool.false_eq_true, if_false]
     exact x
    ·intro i cs' e eg; subst e; rw [hdead] at eg; simp at eg
    ·intro i cs' e eg; subst e; rw [hdead] at eg; simp at eg
    ·intro i cs' e eg; subst e; rw [hdead] at eg; simp at eg
   have hc' := ((l4.drop off).take (len * sz)).mono hE
   have hlen2 : ((cs.drop off).take (len * sz)).length = len * sz := by simp; omega
   refine ⟨M', hmain.1, hmain.2, ?_⟩
   refine .vslice ad (fun i => (((rc.toList.take cs.length).drop off).take (len * sz)).getD i undef) hlen2 hlen ?_ ?_ ?_ hc'.2 (by simp) (fun _ => .inl rfl)
   ·rcases had with had | ⟨rfl, n, hn, hnle⟩
    ·exact .inl had
    ·exact .inr ⟨rfl, n, hn, hnle⟩
   ·intro i hi
    rw [hlen2] at hi
    have hcap : cap ≠ 0 := by
     intro e
     have : len = 0 := by omega
     subst this
     simp at hi
    obtain ⟨rfl, _⟩ := had.resolve_left hcap
    have hlt : off + i < rc.size := by omega
    simp only [M', if_true, List.getD_eq_getElem?_getD]
    rw [List.getElem?_take, if_pos hi, List.getElem?_drop, List.getElem?_take, if_pos (by omega)]
    simp [hlt]
   ·intro i hi
    have := hc'.1.2 i hi (by rw [<- hc'.len]; exact hi)
    simp only [List.getD_eq_getElem?_getD]
    rw [List.getElem?_eq_getElem (by rw [<- hc'.len]; exact hi)]
    exact this
theorem frz1_ok : FrzOk frz1 := by
 intro M h w v r a hv
 by_cases e : frz1 h v = (v, h)
 ·rw [e]; exact ⟨M, a, Pres.refl _ _ _ _, hv, rfl⟩
 ·cases v with
  | hslice id off len sz =>
    cases hg : h.get id with
    | cells cs =>
      by_cases hc : 0 < sz /\ off + len * sz <= cs.length
      ·have e2 : frz1 h (.hslice id off len sz) = (.vslice none 0 len sz ((cs.drop off).take (len * sz)), h.set id .dead) := by
        simp only [frz1, hg]; rw [if_pos hc]
       rw [e2]
       obtain ⟨M', h1, h2, h3⟩ := frz1_hs a hg hc.1 hc.2 hv
       exact ⟨M', h1, h2, h3, rfl⟩
      ·exact absurd (by simp only [frz1, hg]; rw [if_neg hc]) e
    | tip n => exact absurd (by simp only [frz1, hg]) e
    | map es => exact absurd (by simp only [frz1, hg]) e
    | dead => exact absurd (by simp only [frz1, hg]) e
    | free => exact absurd (by simp only [frz1, hg]) e
  | _ => exact absurd rfl e
theorem frzL_ok {g : Heap -> IV -> IV × Heap} (hg : FrzOk g) : ∀ (vs : List IV) (M : Meta) (h : Heap) (w : World) (rs : List Value), Inv M h w -> VRs M vs rs ->
  ∃ M', Inv M' (frzL g h vs).2 w /\ Pres w.heap.size M h w M' (frzL g h vs).2 w /\ VRs M' (frzL g h vs).1 rs /\ (frzL g h vs).1.length = vs.length /\ ((∀ (i : Nat) (hi : i < vs.length), isCell vs[i] = true) -> ∀ (i : Nat) (hi : i < (frzL g h vs).1.length), isCell (frzL g h vs).1[i] = true)
 | [], M, h, w, rs, a, hv => ⟨M, a, Pres.refl _ _ _ _, hv, rfl, fun hh => hh⟩
 | v :: vs, M, h, w, rs, a, hv => by
   obtain ⟨r, rs', rfl, h1, h2⟩ := hv.uncons
   obtain ⟨M1, b1, b2, b3, b4⟩ := hg M h w v r a h1
   obtain ⟨M2, c1, c2, c3, c4, c5⟩ := frzL_ok hg vs M1 (g h v).2 w rs' b1 (h2.mono b2.ext)
   refine ⟨M2, c1, b2.trans c2, VRs.cons (b3.mono c2.ext) c3, by simp [frzL, c4], fun hh i hi => ?_⟩
   simp only [frzL]
   cases i with
   | zero =>
     have := hh 0 (by simp)
     simp only [List.getElem_cons_zero] at this ⊢
     rw [b4]; exact this
   | succ i =>
     simp only [List.getElem_cons_succ]
     exact c5 (fun j hj => by have := hh (j + 1) (by simpa using hj); simpa using this) i (by simpa [frzL] using hi)
theorem frz2_ok : FrzOk frz2 := by
 intro M h w v r a hv
 cases v with
 | agg cs =>
   obtain ⟨rc, rfl, hc⟩ := vr_agg hv
   obtain ⟨M', c1, c2, c3, c4, c5⟩ := frzL_ok frz1_ok cs M h w rc a hc.1
   exact ⟨M', c1, c2, vr_agg_mk ⟨c3, c5 hc.2⟩, rfl⟩
 | _ => exact frz1_ok M h w _ r a hv
theorem frz3_ok : FrzOk frz3 := by
 intro M h w v r a hv
 cases v with
 | tuple vs =>
   obtain ⟨rc, rfl, hc⟩ := vr_tuple hv
   obtain ⟨M', c1, c2, c3, c4, c5⟩ := frzL_ok frz2_ok vs M h w rc a hc
   exact ⟨M', c1, c2, vr_tuple_mk c3, rfl⟩
 | _ => exact frz2_ok M h w _ r a hv
theorem giveOut_ok (E : Env) (f : FuncId) {v : IV} {r : Value} (a : Inv M h w) (hv : VR M v r) : ∃ M', Inv M' (giveOut E f v h).2 w /\ Pres w.heap.size M h w M' (giveOut E f v h).2 w /\ VR M' (giveOut E f v h).1 r := by
 unfold giveOut
 split
 ·obtain ⟨M', h1, h2, h3, _⟩ := frz3_ok M h w v r a hv
  exact ⟨M', h1, h2, h3⟩
 ·exact ⟨M, a, Pres.refl _ _ _ _, hv⟩
end
end Go.Pv
