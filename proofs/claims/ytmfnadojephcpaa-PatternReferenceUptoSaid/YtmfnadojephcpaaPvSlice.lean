import Derived.Test.YtmfnadojephcpaaPvOne
namespace Go.Pv
section
variable {P : Program} {M : Meta} (w : World)
theorem szOf_info {t : TypeId} {n : Nat} (h : szOf P t = some n) : ∃ i, P.info? t = some i /\ i.size = n := by
 unfold szOf at h
 obtain ⟨i, h1, h2⟩ := Option.map_eq_some_iff.1 h
 exact ⟨i, h1, h2⟩
theorem bytesOf_info {t : TypeId} {n : Nat} (h : bytesOf P t = some n) : ∃ i, P.info? t = some i /\ i.bytes = n := by
 unfold bytesOf at h
 obtain ⟨i, h1, h2⟩ := Option.map_eq_some_iff.1 h
 exact ⟨i, h1, h2⟩
theorem zeroIV_info {t : TypeId} {z : IV} (h : zeroIV P t = some z) : ∃ i r, P.info? t = some i /\ i.zero = some r /\ VR M z r /\ notTup z = true := by
 unfold zeroIV at h
 obtain ⟨r, h1, h2⟩ := Option.bind_eq_some_iff.1 h
 obtain ⟨i, h3, h4⟩ := Option.bind_eq_some_iff.1 h1
 exact ⟨i, r, h3, h4, (ofValue_ok (M := M) h2).1, (ofValue_ok (M := M) h2).2⟩
theorem vr_vslice_cut {id : Option Nat} {e len sz l h cap : Nat} {cs : List IV} {a : Option Addr} (hx : VR M (.vslice id e len sz cs) (.slice a len cap)) (hlh : l <= h) (hh : h <= len) :
  VR M (.vslice id (e - (len - h) * sz) (h - l) sz ((cs.drop (l * sz)).take ((h - l) * sz))) (.slice (if cap = l then a else a.map (·.add (l * sz))) (h - l) (cap - l)) := by
 cases hx with
 | vnil =>
   obtain rfl : h = 0 := by omega
   obtain rfl : l = 0 := by omega
   simpa using VR.vnil
 | vslice a rv hn hlen ha him hv hc ht hf =>
   have hmul : l * sz + (h - l) * sz = h * sz := by rw [<- Nat.add_mul]; congr 1; omega
   have hmul2 : h * sz + (len - h) * sz = len * sz := by rw [<- Nat.add_mul]; congr 1; omega
   have hcl : ((cs.drop (l * sz)).take ((h - l) * sz)).length = (h - l) * sz := by simp; omega
   have hcut : id = none -> e - (len - h) * sz = 0 \/ (e - (len - h) * sz = 1 /\ cap - l = h - l /\ 0 < sz) := by
    intro hid
    rcases hf hid with rfl | ⟨rfl, rfl, h0⟩
    ·exact .inl (by omega)
    ·by_cases hhl : h = cap
     ·exact .inr ⟨by subst hhl; simp, by omega, h0⟩
     ·have : 1 * 1 <= (cap - h) * sz := Nat.mul_le_mul (by omega) h0
      exact .inl (by omega)
   by_cases hcap : cap = l
   ·have hl0 : h - l = 0 := by omega
    rw [if_pos hcap]
    refine .vslice a (fun _ => undef) hcl (by omega) (.inl (by omega)) ?_ ?_ ?_ ?_ hcut
    ·intro i hi; rw [hcl, hl0] at hi; omega
    ·intro i hi; rw [hcl, hl0] at hi; omega
    ·intro i hi; rw [hcl, hl0] at hi; omega
    ·intro i hi
     obtain ⟨h1, h0, h2, h3⟩ := ht i hi
     rw [hcl, hl0]
     exact ⟨h1, by omega, by omega, fun _ => .inl (by omega)⟩
   ·rw [if_neg hcap]
    have hsp : a.spot = none /\ ∃ n, M.bsz a.block = some n /\ a.off + cap * sz <= n := ha.resolve_left (by omega)
    obtain ⟨ab, ao, asp⟩ := a
    obtain ⟨hs, n, hb, hle⟩ := hsp
    simp only at hs; subst hs
    simp only [Option.map_some, add_none]
    have hmul3 : l * sz + (cap - l) * sz = cap * sz := by rw [<- Nat.add_mul]; congr 1; omega
    refine .vslice ⟨ab, ao + l * sz, none⟩ (fun i => rv (l * sz + i)) hcl (by omega) (.inr ⟨rfl, n, hb, by simp only at hle ⊢; omega⟩) ?_ ?_ ?_ ?_ hcut
    ·intro i hi
     rw [hcl] at hi
     have := him (l * sz + i) (by omega)
     simpa [Nat.add_assoc] using this
    ·intro i hi
     rw [hcl] at hi
     simp only [List.getElem_take, List.getElem_drop]
     exact hv _ _
    ·intro i hi
     simp only [List.getElem_take, List.getElem_drop]
     exact hc _ _
    ·intro i hi
     obtain ⟨h1, h0, h2, h3⟩ := ht i hi
     refine ⟨h1, by rw [hcl]; omega, by omega, fun he => ?_⟩
     have he' : e = M.tip i := by omega
     rcases h3 he' with h3 | h3
     ·have : cap = l := by omega
      exact absurd this hcap
     ·refine .inr ?_
      rw [h3, hcl]
      simp only [Prod.mk.injEq, true_and]
      omega
theorem vr_hslice_cut {id off len sz l h cap : Nat} {a : Addr} (hx : VR M (.hslice id off len sz) (.slice (some a) len cap)) (hlh : l <= h) (hh : h <= len) :
  VR M (.hslice id (off + l * sz) (h - l) sz) (.slice (if cap = l then some a else (some a).map (·.add (l * sz))) (h - l) (cap - l)) := by
 cases hx with
 | @hslice _ _ _ _ _ b _ hl ha hlen =>
   by_cases hcap : cap = l
   ·rw [if_pos hcap]
    exact .hslice a hl (.inl (by omega)) (by omega)
   ·rw [if_neg hcap]
    obtain ⟨rfl, n, hb, hle⟩ := ha.resolve_left (by omega)
    simp only [Option.map_some, add_none]
    have hmul3 : l * sz + (cap - l) * sz = cap * sz := by rw [<- Nat.add_mul]; congr 1; omega
    exact .hslice _ hl (.inr ⟨rfl, n, hb, by omega⟩) (by omega)
theorem vslice_shape {id : Option Nat} {e len sz : Nat} {cs : List IV} {r : Value} (hx : VR M (.vslice id e len sz cs) r) : ∃ a cap, r = .slice a len cap /\ len <= cap /\ cs.length = len * sz := by
 cases hx with
 | vslice a rv hn hlen => exact ⟨some a, _, rfl, hlen, hn⟩
 | vnil => exact ⟨none, 0, rfl, Nat.le_refl _, by simp⟩
theorem hslice_shape {id off len sz : Nat} {r : Value} (hx : VR M (.hslice id off len sz) r) : ∃ a cap, r = .slice (some a) len cap /\ len <= cap := by
 cases hx with
 | hslice a hl ha hlen => exact ⟨a, _, rfl, hlen⟩
theorem sliceIV_ok {t : TypeId} {x v : IV} {a : Value} {lo hi : Option (Option TV)} {rlo rhi : Option Value} (hx : VR M x a) (blo : BR M lo rlo) (bhi : BR M hi rhi) (h : sliceIV P t x lo hi = some v) :
  ∃ r, (Instr.sliceAt t a rlo rhi none).run P w = .ok r w /\ VR M v r := by
 unfold sliceIV at h
 cases hu : P.underlying t with
 | none => simp [hu] at h
 | some d =>
   simp only [hu] at h
   cases d <;> simp only at h <;> first | (simp at h; done) | skip
   case string =>
    split at h
    case h_2 => simp at h
    obtain ⟨⟨l, k⟩, h1, h2⟩ := Option.map_eq_some_iff.1 h
    subst h2
    cases hx with | str s =>
    obtain ⟨c1, c2, c3⟩ := cutBounds_ok (P := P) (isSlice := false) w (Nat.le_refl _) blo bhi h1
    simp only [Array.length_toList] at c2 c3
    refine ⟨.string (s.extract l k), ?_, ?_⟩
    ·simp only [Instr.sliceAt, Sem.run_bind, run_underlying hu, Result.andThen_ok, Instr.slice]
     have c3' : (Instr.sliceBounds false s.size s.size rlo rhi none).run P w = .ok (l, k, s.size) w := c3
     simp [c3']
    ·have := VR.str (M := M) (s.extract l k)
     rwa [show (s.extract l k).data.toList = (s.data.toList.drop l).take (k - l) from by simp [ByteArray.data_extract, List.extract_eq_take_drop]] at this
   case slice e =>
    cases hz : szOf P e with
    | none => simp [hz] at h
    | some sz =>
      obtain ⟨i, hi1, hi2⟩ := szOf_info hz
      simp only [hz] at h
      split at h
      ·obtain ⟨⟨l, k⟩, h1, h2⟩ := Option.map_eq_some_iff.1 h
       subst h2
       cases hx
       obtain ⟨c1, c2, c3⟩ := cutBounds_ok (P := P) (isSlice := true) w (Nat.le_refl _) blo bhi h1
       have hl : l = 0 := by omega
       have hk : k = 0 := by omega
       subst hl; subst hk
       exact ⟨.slice none 0 0, by simp [Instr.sliceAt, Instr.slice, run_underlying hu, c3, run_sizeOf hi1], .nilslice⟩
      ·split at h
       case isFalse => simp at h
       rename_i hzz
       subst hzz
       obtain ⟨⟨l, k⟩, h1, h2⟩ := Option.map_eq_some_iff.1 h
       subst h2
       obtain ⟨ad, cap, rfl, hle⟩ := hslice_shape hx
       obtain ⟨c1, c2, c3⟩ := cutBounds_ok (P := P) (isSlice := true) w hle blo bhi h1
       exact ⟨_, by simp only [Instr.sliceAt, Instr.slice, Sem.run_bind, run_underlying hu, Result.andThen_ok, c3, run_sizeOf hi1, hi2, Sem.run_pure], vr_hslice_cut hx c1 c2⟩
      ·split at h
       case isFalse => simp at h
       rename_i hzz
       subst hzz
       obtain ⟨⟨l, k⟩, h1, h2⟩ := Option.map_eq_some_iff.1 h
       subst h2
       obtain ⟨ad, cap, rfl, hle, hn⟩ := vslice_shape hx
       obtain ⟨c1, c2, c3⟩ := cutBounds_ok (P := P) (isSlice := true) w hle blo bhi h1
       exact ⟨_, by simp only [Instr.sliceAt, Instr.slice, Sem.run_bind, run_underlying hu, Result.andThen_ok, c3, run_sizeOf hi1, hi2, Sem.run_pure], vr_vslice_cut hx c1 c2⟩
      ·simp at h
def TR (M : Meta) (pb : Nat -> Nat) : TV -> Value -> Prop
 | .v x, r => VR M x r
 | .l s off, r => r = .pointer (some ⟨pb s, off, none⟩)
 | .u, r => r = undef
theorem addrPlus_ok {pb : Nat -> Nat} {n : Nat} {x y : TV} {r : Value} (h : addrPlus n x = some y) (hx : TR M pb x r) : ∃ a, r = .pointer (some a) /\ TR M pb y (.pointer (some (a.add n))) := by
 unfold addrPlus at h
 split at h
 ·simp at h; subst h
  exact ⟨_, hx, by simp [TR, add_none]⟩
 ·simp at h; subst h
  cases hx with | ptr hl => exact ⟨_, rfl, by simpa [TR, add_none] using VR.ptr hl⟩
 ·simp at h; subst h
  cases hx with | vref rv him hv hc => exact ⟨_, rfl, by simpa [TR, add_none, Nat.add_assoc] using VR.vref rv him hv hc⟩
 ·simp at h
end
end Go.Pv
