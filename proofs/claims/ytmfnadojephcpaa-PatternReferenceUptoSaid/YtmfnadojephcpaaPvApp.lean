import Derived.Test.YtmfnadojephcpaaPvRow
namespace Go.Pv
section
variable {P : Program} {M : Meta} {h : Heap} {w : World}
theorem append_zero {t tx ty e : TypeId} {i : TypeInfo} (ht : P.underlying t = some (.slice e)) (hi : P.info? e = some i) {base : Option Addr} {len cap : Nat} {r : Value} (hs : Src P i.size tx r 0 [] w) (hle : len <= cap) :
  (Builtin.append_ #[t, tx] ty #[.slice base len cap, r]).run P w = .ok (.slice base len cap) w := by
 rcases hs.kind with ⟨e', hk⟩ | hk <;> cases base <;> simp [Builtin.append_, run_underlying ht, run_underlying hk, sizeOf, typeInfo, hi, hs.len, hle, hs.cells, storeCells]
theorem splV_end (l : List Value) (o : Nat) (c : List Value) (k : Nat) (hk : k = o + c.length) (ho : o <= l.length) : (splV l o c).take k = l.take o ++ c := by
 subst hk
 unfold splV
 rw [List.take_append_of_le_length (by simp; omega)]
 rw [List.take_of_length_le (by simp; omega)]
theorem append_ok (a : Inv M h w) {way sz bytes : Nat} {t tx ty e : TypeId} {i : TypeInfo} {z : Value} {du : TypeDesc} {s x v : IV} {rs rx : Value} {h' : Heap} (ht : P.underlying t = some (.slice e)) (hi : P.info? e = some i) (hsz : i.size = sz + 1) (hby : i.bytes = bytes + 1)
  (hz : i.zero = some z) (hzl : z.cells.size = sz + 1) (hu : P.underlying tx = some du) (hk : srcKind du = true) (hs : VR M s rs) (hx : VR M x rx) (happ : appendIV h way (sz + 1) (bytes + 1) s x = some (v, h')) :
  ∃ r w' M', (Builtin.append_ #[t, tx] ty #[rs, rx]).run P w = .ok r w' /\ VR M' v r /\ Inv M' h' w' /\ Pres w.heap.size M h w M' h' w' := by
 unfold appendIV at happ
 cases hsrc : srcCells h (sz + 1) x with
 | none => simp [hsrc] at happ
 | some q =>
   obtain ⟨n, xs⟩ := q
   simp only [hsrc] at happ
   obtain ⟨news, hc, hS⟩ := src_Src (P := P) a hu hk hx hsrc
   have hxl : xs.length = n * (sz + 1) := (src_ok (P := P) a hx hsrc).1
   have hnl : news.length = n * (sz + 1) := by rw [<- hc.len, hxl]
   rw [<- hsz] at hS
   have hzero : ∀ m, (Builtin.zeroCells z.cells m).size = m * (sz + 1) := fun m => by rw [size_zeroCells, hzl]
   split at happ
   ·
    rename_i hn0
    subst hn0
    have hnews : news = [] := by simpa using hnl
    subst hnews
    have fin : v = s -> h' = h -> ∀ base len cap, rs = .slice base len cap -> len <= cap -> ∃ r w' M', (Builtin.append_ #[t, tx] ty #[rs, rx]).run P w = .ok r w' /\ VR M' v r /\ Inv M' h' w' /\ Pres w.heap.size M h w M' h' w' := by
     intro e1 e2 base len cap e3 hle
     subst e1; subst e2; subst e3
     exact ⟨_, w, M, append_zero ht hi hS hle, hs, a, Pres.refl _ _ _ _⟩
    split at happ
    ·simp at happ
     cases hs
     exact fin happ.1.symm happ.2.symm _ _ _ rfl (Nat.le_refl _)
    ·split at happ
     case isFalse => simp at happ
     simp at happ
     obtain ⟨ad, cap, e3, hle, _⟩ := vslice_shape hs
     exact fin happ.1.symm happ.2.symm _ _ _ e3 hle
    ·split at happ
     case isFalse => simp at happ
     simp at happ
     obtain ⟨ad, cap, e3, hle⟩ := hslice_shape hs
     exact fin happ.1.symm happ.2.symm _ _ _ e3 hle
    ·simp at happ
   ·rename_i hn0
    have hn : 0 < n := by omega
    split at happ
    ·
     split at happ
     case isFalse => simp at happ
     rename_i hb
     simp only [Option.some.injEq] at happ
     cases hs
     have hfit : Builtin.nextslicecap (0 + n) 0 * i.bytes <= 281474976710656 := growslice_fits (by omega) (by rw [hby]; simpa using hb)
     have h63 : ((0 + n : Nat) : Int) <= 9223372036854775807 := by
      have : n * 1 <= n * (bytes + 1) := Nat.mul_le_mul_left _ (by omega)
      omega
     have hrun := run_append_grow_src (P := P) w t tx ty e i z ht hi hz none 0 0 [] (run_firstCells_none w.drew i.size 0 0 0) rx n news hS (by omega) h63 hfit
     simp only [List.nil_append, Nat.zero_add] at hrun
     have hge := grownCap_ge w n 0 e
     have hcap : grownCap w n 0 e * (sz + 1) <= (news.toArray ++ Builtin.zeroCells z.cells (grownCap w n 0 e - n)).size := by
      simp only [Array.size_append, List.size_toArray, hnl, hzero]
      rw [<- Nat.add_mul]
      exact Nat.mul_le_mul_right _ (by omega)
     obtain ⟨M', r1, r2, r3⟩ := newRow_ok a way (fz := (0, 0)) (cut_drew w _) (.inl (Nat.le_refl _)) hxl hge hcap (by
      rw [hxl, <- hnl]
      simpa using hc)
     rw [happ] at r1 r2 r3
     exact ⟨_, _, M', hrun, r3, r1, r2⟩
    ·
     rename_i len z' cs
     split at happ
     case isFalse => simp at happ
     rename_i hcond
     obtain ⟨rfl, hb⟩ := hcond
     simp only [Option.some.injEq] at happ
     have hmul : (len + n) * (sz + 1) = len * (sz + 1) + n * (sz + 1) := Nat.add_mul _ _ _
     cases hs with
     | @vslice _ _ _ _ cap _ ad rv hcl hlen had him hv hcc htp hfl =>
       have hcap0 : cap = len := by
        rcases hfl rfl with h0 | ⟨_, h0, _⟩
        ·simp at h0
        ·exact h0
       subst hcap0
       have hfit : Builtin.nextslicecap (cap + n) cap * i.bytes <= 281474976710656 := growslice_fits (by omega) (by rw [hby]; exact hb)
       have h63 : ((cap + n : Nat) : Int) <= 9223372036854775807 := by
        have : (cap + n) * 1 <= (cap + n) * (bytes + 1) := Nat.mul_le_mul_left _ (by omega)
        omega
       have hcr : CRs M cs ((List.range cs.length).map rv) := ⟨⟨by simp, fun i p q => by simpa using hv i p⟩, hcc⟩
       have hol : ((List.range cs.length).map rv).length = cap * i.size := by rw [hsz]; simp; omega
       have hold : ∀ j v, ((List.range cs.length).map rv)[j]? = some v -> w.drew.cell? (ad.add j) = some v := by
        intro j v hj
        obtain ⟨h1, h2⟩ := List.getElem?_eq_some_iff.1 hj
        simp at h1 h2
        have hm0 : cap ≠ 0 := by
         intro e
         subst e
         simp at hcl
         rw [hcl] at h1
         simp at h1
        obtain ⟨hsp, _⟩ := had.resolve_left hm0
        obtain ⟨ab, ao, asp⟩ := ad
        simp only at hsp; subst hsp
        rw [add_none, <- h2]
        exact a.im _ _ _ (him j h1)
       have hrun := run_append_grow_src (P := P) w t tx ty e i z ht hi hz (some ad) cap cap _ (run_firstCells_some w.drew i.size cap ad cap cap _ hol hold) rx n news hS (by omega) h63 hfit
       have hge := grownCap_ge w (cap + n) cap e
       have hsr : ((((List.range cs.length).map rv) ++ news).toArray ++ Builtin.zeroCells z.cells (grownCap w (cap + n) cap e - (cap + n))).size = grownCap w (cap + n) cap e * (sz + 1) := by
        have h2 : (cap + n) * (sz + 1) + (grownCap w (cap + n) cap e - (cap + n)) * (sz + 1) = grownCap w (cap + n) cap e * (sz + 1) := by
         rw [<- Nat.add_mul]; congr 1; omega
        simp only [Array.size_append, List.size_toArray, List.length_append, hol, hsz, hnl, hzero]
        omega
       have hap := hcr.append hc
       obtain ⟨M', r1, r2, r3⟩ := newRow_ok a way (fz := (0, 0)) (cs := cs ++ xs) (len := cap + n) (sz := sz + 1) (cut_drew w _) (.inl (Nat.le_refl _)) (by simp; omega) hge (by rw [hsr]; exact Nat.le_refl _) (by
        have e1 : (cs ++ xs).length = (((List.range cs.length).map rv) ++ news).length := hap.len
        rw [Array.toList_append, List.take_append_of_le_length (by simpa using Nat.le_of_eq e1), List.take_of_length_le (by simpa using Nat.le_of_eq e1.symm)]
        exact hap)
       rw [happ] at r1 r2 r3
       exact ⟨_, _, M', hrun, r3, r1, r2⟩
    ·
     rename_i id e' len z' cs
     split at happ
     case h_2 => simp at happ
     rename_i m hg
     split at happ
     case isFalse => simp at happ
     rename_i hcond
     obtain ⟨rfl, rfl, hb⟩ := hcond
     simp only [Option.some.injEq, Prod.mk.injEq] at happ
     obtain ⟨rfl, rfl⟩ := happ
     obtain ⟨t0, b, pos, rc, t1, t2, t3, t4⟩ := a.tips id m hg
     cases hs with
     | @vslice _ _ _ _ cap _ ad rv hcl hlen had him hv hcc htp hfl =>
       obtain ⟨p1, p0, p2, p3⟩ := htp id rfl
       have hmul : (len + n) * (sz + 1) = len * (sz + 1) + n * (sz + 1) := Nat.add_mul _ _ _
       have hk0 : 0 < n * (sz + 1) := Nat.mul_pos hn (by omega)
       by_cases hroom : len + n <= cap
       ·obtain ⟨hsp, n0, hb0, hb1⟩ := had.resolve_left (by omega)
        have hcur := (p3 t0.symm).resolve_left (by omega)
        obtain ⟨ab, ao, asp⟩ := ad
        simp only at hsp hb0 hb1 hcur him; subst hsp
        rw [t1] at hcur; simp at hcur; obtain ⟨rfl, rfl⟩ := hcur
        rw [t2.bsz] at hb0; simp at hb0; subst hb0
        have hcm : (len + n) * (sz + 1) <= cap * (sz + 1) := Nat.mul_le_mul_right _ hroom
        obtain ⟨el, fz, hbk⟩ := t2.at_
        have hrun := run_append_room_src (P := P) w t tx ty e i ht hi b ao len cap rx n news hS hroom
         (by
          intro j hj
          rw [hnl] at hj
          rw [hsz]
          simp [World.cell?, hbk, show ao + len * (sz + 1) + j < rc.size by omega])
         (by
          intro j hj
          rw [hnl] at hj
          rw [hsz]
          exact t2.free _ (by omega))
        rw [hsz] at hrun
        obtain ⟨rc', s1, s2⟩ := setCells_heap b news (ao + len * (sz + 1)) w rc el fz hbk (by rw [hnl]; omega)
        have hsize : rc'.size = rc.size := by
         have := congrArg List.length s2
         rw [splV_length _ _ _ (by rw [hnl]; simp; omega)] at this
         simpa using this
        have hfrz : ∀ j, (w.setCells b (ao + len * (sz + 1)) news).frozen? ⟨b, j, none⟩ = w.frozen? ⟨b, j, none⟩ := fun j => World.frozen?_setCells b _ _ _ _
        obtain ⟨M', q1, q2, q3, q4, q5, q6, q7⟩ := tip_here a (k := n * (sz + 1)) hg t1 t2 ⟨el, fz, s1⟩ (fun j hj => by rw [hfrz]; exact t2.free j (by omega)) hsize (by rw [hcl]; omega)
         (fun j hj => by
          rw [<- Array.getElem?_toList, <- Array.getElem?_toList, s2]
          unfold splV
          rw [List.getElem?_append_left (by simp; omega), List.getElem?_append_left (by simp; omega), List.getElem?_take, if_pos (by omega)]) hk0
         (fun k hk => setCells_other b _ _ _ k hk) (setCells_size b _ _ _) (setCells_rest b _ _ _)
        refine ⟨_, _, M', hrun, ?_, q1, q2⟩
        have hE := q2.ext
        refine .vslice ⟨b, ao, none⟩ (fun j => if j < cs.length then rv j else news.getD (j - cs.length) undef) (by simp; omega) hroom (.inr ⟨rfl, rc.size, by rw [q6]; exact t2.bsz, hb1⟩) ?_ ?_ ?_ ?_ (by simp)
        ·intro j hj
         simp only [List.length_append] at hj
         by_cases hlt : j < cs.length
         ·simp only [hlt, if_true]
          exact hE.im _ _ _ (him j hlt)
         ·simp only [hlt, if_false]
          have hq := q7 (j - cs.length) (by omega)
          rw [show ao + cs.length + (j - cs.length) = ao + j by omega] at hq
          rw [hq, <- Array.getElem?_toList, s2]
          unfold splV
          rw [List.getElem?_append_left (by simp; omega), List.getElem?_append_right (by simp; omega)]
          simp only [List.length_take, Array.length_toList]
          rw [show ao + j - min (ao + len * (sz + 1)) rc.size = j - cs.length by omega]
          rw [List.getElem?_eq_getElem (by omega)]
          simp [show j - cs.length < news.length by omega]
        ·intro j hj
         simp only [List.length_append] at hj
         by_cases hlt : j < cs.length
         ·rw [List.getElem_append_left hlt]
          simp only [hlt, if_true]
          exact (hv j hlt).mono hE
         ·rw [List.getElem_append_right (by omega)]
          simp only [hlt, if_false]
          have := (hc.1.2 (j - cs.length) (by omega) (by omega)).mono hE
          simpa [show j - cs.length < news.length by omega] using this
        ·intro j hj
         rw [List.getElem_append]
         split
         ·exact hcc _ _
         ·exact hc.2 _ _
        ·intro k ek
         simp at ek; subst ek
         refine ⟨by rw [q5]; exact p1, by simp; omega, by rw [q3]; exact Nat.le_refl _, fun _ => .inr ?_⟩
         rw [q4]
         simp
         omega
       ·
        have hfit : Builtin.nextslicecap (len + n) cap * i.bytes <= 281474976710656 := growslice_fits (by omega) (by rw [hby]; exact hb)
        have h63 : ((len + n : Nat) : Int) <= 9223372036854775807 := by
         have : (len + n) * 1 <= (len + n) * (bytes + 1) := Nat.mul_le_mul_left _ (by omega)
         omega
        have hcr : CRs M cs ((List.range cs.length).map rv) := ⟨⟨by simp, fun i p q => by simpa using hv i p⟩, hcc⟩
        have hol : ((List.range cs.length).map rv).length = len * i.size := by rw [hsz]; simp; omega
        have hold : ∀ j v, ((List.range cs.length).map rv)[j]? = some v -> w.drew.cell? (ad.add j) = some v := by
         intro j v hj
         obtain ⟨h1, h2⟩ := List.getElem?_eq_some_iff.1 hj
         simp at h1 h2
         have hm0 : cap ≠ 0 := by
          intro e
          have : len = 0 := by omega
          subst this
          simp at hcl
          rw [hcl] at h1
          simp at h1
         obtain ⟨hsp, _⟩ := had.resolve_left hm0
         obtain ⟨ab, ao, asp⟩ := ad
         simp only at hsp; subst hsp
         rw [add_none, <- h2]
         exact a.im _ _ _ (him j h1)
        have hrun := run_append_grow_src (P := P) w t tx ty e i z ht hi hz (some ad) len cap _ (run_firstCells_some w.drew i.size len ad len cap _ hol hold) rx n news hS (by omega) h63 hfit
        have hge := grownCap_ge w (len + n) cap e
        have hsr : ((((List.range cs.length).map rv) ++ news).toArray ++ Builtin.zeroCells z.cells (grownCap w (len + n) cap e - (len + n))).size = grownCap w (len + n) cap e * (sz + 1) := by
         have h2 : (len + n) * (sz + 1) + (grownCap w (len + n) cap e - (len + n)) * (sz + 1) = grownCap w (len + n) cap e * (sz + 1) := by
          rw [<- Nat.add_mul]; congr 1; omega
         simp only [Array.size_append, List.size_toArray, List.length_append, hol, hsz, hnl, hzero]
         omega
        have hgem : (len + n) * (sz + 1) <= grownCap w (len + n) cap e * (sz + 1) := Nat.mul_le_mul_right _ hge
        obtain ⟨M', q1, q2, q3, q4, q5, q6, q7⟩ := tip_new a (fz := (0, 0)) (k := n * (sz + 1)) (n := (len + n) * (sz + 1)) hg (cut_drew w _) (.inl (Nat.le_refl _)) (by rw [hsr]; exact hgem) hk0
        refine ⟨_, _, M', hrun, ?_, q1, q2⟩
        have hE := q2.ext
        have hap := (hcr.append hc).mono hE
        refine .vslice ⟨w.heap.size, 0, none⟩ (fun j => (((List.range cs.length).map rv) ++ news).getD j undef) (by simp; omega) hge (.inr ⟨rfl, _, q6, by rw [hsr]; simp⟩) ?_ ?_ hap.2 ?_ (by simp)
        ·intro j hj
         have hj' := hj
         simp only [List.length_append] at hj'
         have hlt : j < (((List.range cs.length).map rv) ++ news).length := by rw [<- hap.len]; exact hj
         simp only [Nat.zero_add]
         rw [q7 j (by omega), Array.getElem?_append_left (by simpa using hlt)]
         rw [List.getElem?_toArray, List.getElem?_eq_getElem hlt]
         simp only [List.getD_eq_getElem?_getD]
         rw [List.getElem?_eq_getElem hlt]
         rfl
        ·intro j hj
         have hlt : j < (((List.range cs.length).map rv) ++ news).length := by rw [<- hap.len]; exact hj
         have := hap.1.2 j hj hlt
         simp only [List.getD_eq_getElem?_getD]
         rw [List.getElem?_eq_getElem hlt]
         exact this
        ·intro k ek
         simp at ek; subst ek
         refine ⟨by rw [q5]; exact p1, by simp; omega, by rw [q3]; exact Nat.le_refl _, fun _ => .inr ?_⟩
         rw [q4]
         simp
         omega
    ·
     rename_i id off len z'
     split at happ
     case h_2 => simp at happ
     rename_i cs hg
     split at happ
     case isFalse => simp at happ
     rename_i hcond
     obtain ⟨rfl, rfl, hcl, hb⟩ := hcond
     simp only [Option.some.injEq, Prod.mk.injEq] at happ
     obtain ⟨rfl, rfl⟩ := happ
     obtain ⟨b', rc, l1, l2, l3, l4, l5⟩ := a.row hg
     have hmul : (len + n) * (sz + 1) = len * (sz + 1) + n * (sz + 1) := Nat.add_mul _ _ _
     have hlen' : (cs.take (len * (sz + 1)) ++ xs).length = (len + n) * (sz + 1) := by simp; omega
     have l4' : CRs M (cs.take (len * (sz + 1))) (rc.toList.take (len * (sz + 1))) := by
      have := l4.take (len * (sz + 1))
      rwa [List.take_take, Nat.min_eq_left hcl] at this
     cases hs with
     | @hslice _ _ _ _ cap b ad hl had hlen =>
       rw [hl] at l1; simp at l1; subst l1
       by_cases hroom : len + n <= cap
       ·obtain ⟨rfl, n0, hb0, hb1⟩ := had.resolve_left (by omega)
        rw [l2.bsz] at hb0; simp at hb0; subst hb0
        have hcm : (len + n) * (sz + 1) <= cap * (sz + 1) := Nat.mul_le_mul_right _ hroom
        obtain ⟨el, fz, hbk⟩ := l2.at_
        have hrun := run_append_room_src (P := P) w t tx ty e i ht hi b 0 len cap rx n news hS hroom
         (by
          intro j hj
          rw [hnl] at hj
          rw [hsz]
          simp [World.cell?, hbk, show len * (sz + 1) + j < rc.size by omega])
         (by
          intro j hj
          rw [hnl] at hj
          rw [hsz]
          exact l2.free _ (by omega))
        rw [hsz] at hrun
        obtain ⟨rc', s1, s2⟩ := setCells_heap b news (0 + len * (sz + 1)) w rc el fz hbk (by rw [hnl]; omega)
        have hsize : rc'.size = rc.size := by
         have := congrArg List.length s2
         rw [splV_length _ _ _ (by rw [hnl]; simp; omega)] at this
         simpa using this
        have hfrz : ∀ j, (w.setCells b (0 + len * (sz + 1)) news).frozen? ⟨b, j, none⟩ = w.frozen? ⟨b, j, none⟩ := fun j => World.frozen?_setCells b _ _ _ _
        obtain ⟨M', q1, q2, q3, q4⟩ := cells_here a (cs' := cs.take (len * (sz + 1)) ++ xs) hg hl (fun k hk => setCells_other b _ _ _ k hk) (setCells_size b _ _ _) (setCells_rest b _ _ _)
         ⟨⟨el, fz, s1⟩, fun j hj => by rw [hfrz]; exact l2.free j (by omega), by rw [hsize]; exact l2.bsz⟩ (by omega) (by
          rw [s2, hlen', splV_end _ _ _ _ (by rw [hnl]; omega) (by simp; omega)]
          rw [Nat.zero_add]
          exact l4'.append hc)
        exact ⟨_, _, M', hrun, .hslice _ q3 (.inr ⟨rfl, _, q4, by rw [hsize]; omega⟩) hroom, q1, q2⟩
       ·have hfit : Builtin.nextslicecap (len + n) cap * i.bytes <= 281474976710656 := growslice_fits (by omega) (by rw [hby]; exact hb)
        have h63 : ((len + n : Nat) : Int) <= 9223372036854775807 := by
         have : (len + n) * 1 <= (len + n) * (bytes + 1) := Nat.mul_le_mul_left _ (by omega)
         omega
        have hol : (rc.toList.take (len * (sz + 1))).length = len * i.size := by rw [hsz]; simp; omega
        have hold : ∀ j v, (rc.toList.take (len * (sz + 1)))[j]? = some v -> w.drew.cell? (ad.add j) = some v := by
         intro j v hj
         obtain ⟨h1, h2⟩ := List.getElem?_eq_some_iff.1 hj
         have hm0 : cap ≠ 0 := by
          intro e
          have : len = 0 := by omega
          subst this
          rw [hol] at h1
          simp at h1
         obtain ⟨rfl, _⟩ := had.resolve_left hm0
         rw [add_none]
         have h1' : j < (rc.toList.take cs.length).length := by simp at h1 ⊢; omega
         have := l5 j h1'
         rw [<- h2]
         simpa using this
        have hrun := run_append_grow_src (P := P) w t tx ty e i z ht hi hz (some ad) len cap _ (run_firstCells_some w.drew i.size len ad len cap _ hol hold) rx n news hS (by omega) h63 hfit
        have hge := grownCap_ge w (len + n) cap e
        have hsr : (((rc.toList.take (len * (sz + 1))) ++ news).toArray ++ Builtin.zeroCells z.cells (grownCap w (len + n) cap e - (len + n))).size = grownCap w (len + n) cap e * (sz + 1) := by
         have h2 : (len + n) * (sz + 1) + (grownCap w (len + n) cap e - (len + n)) * (sz + 1) = grownCap w (len + n) cap e * (sz + 1) := by
          rw [<- Nat.add_mul]; congr 1; omega
         simp only [Array.size_append, List.size_toArray, List.length_append, hol, hsz, hnl, hzero]
         omega
        have hgem : (len + n) * (sz + 1) <= grownCap w (len + n) cap e * (sz + 1) := Nat.mul_le_mul_right _ hge
        have hap := l4'.append hc
        obtain ⟨M', q1, q2, q3, q4⟩ := cells_new a (fz := (0, 0)) (cs' := cs.take (len * (sz + 1)) ++ xs) hg (cut_drew w _) (.inl (Nat.le_refl _)) (by rw [hsr, hlen']; exact hgem) (by
         have e1 : (cs.take (len * (sz + 1)) ++ xs).length = ((rc.toList.take (len * (sz + 1))) ++ news).length := hap.len
         have e3 : ∀ X : List Value, X.toArray.toList.take X.length = X := fun X => by simp
         rw [Array.toList_append, List.take_append_of_le_length (Nat.le_of_eq e1), e1, e3]
         exact hap)
        exact ⟨_, _, M', hrun, .hslice _ q3 (.inr ⟨rfl, _, q4, by rw [hsr]; simp⟩) hge, q1, q2⟩
    ·simp at happ
end
end Go.Pv
