import Derived.Test.YtgfllfgdojiioaaGreatO13
namespace Go.M13
def memI (r : Int × Int) (n : Int) : Prop := r.1 <= n /\ n <= r.2
theorem mem_full (n : Int) (h : inR n) : memI (minW, maxW) n := h
theorem lin {a b s : Int} (k : Int) (h1 : a <= s) (h2 : s <= b) : min (a * k) (b * k) <= s * k /\ s * k <= max (a * k) (b * k) := by
 rcases Int.lt_or_le k 0 with hk | hk
 ·have := Int.mul_le_mul_of_nonpos_right h1 (show k <= 0 by omega)
  have := Int.mul_le_mul_of_nonpos_right h2 (show k <= 0 by omega)
  omega
 ·have := Int.mul_le_mul_of_nonneg_right h1 hk
  have := Int.mul_le_mul_of_nonneg_right h2 hk
  omega
theorem wrap_in {n : Int} (h : inR n) : IntKind.i64.wrap n = n := by
 unfold inR at h
 exact IntWalk.i64_in _ (by omega)
section
variable {a b c d s t : Int} (h1 : a <= s) (h2 : s <= b) (h3 : c <= t) (h4 : t <= d)
include h1 h2 h3 h4
theorem mul_in : memI (imul a b c d) (IntKind.i64.wrap (s * t)) := by
 unfold imul
 split
 ·rename_i h
  have l1 := lin c h1 h2
  have l2 := lin d h1 h2
  have l3 := lin s h3 h4
  rw [Int.mul_comm t s, Int.mul_comm c s, Int.mul_comm d s] at l3
  unfold inRb at h
  simp only [Bool.and_eq_true, decide_eq_true_eq] at h
  rw [wrap_in (by unfold inR; omega)]
  unfold memI min4 max4
  simp only
  omega
 ·exact mem_full _ (wrap_inR _)
theorem add_in : memI (bnd (a + c) (b + d)) (IntKind.i64.wrap (s + t)) := by
 unfold bnd
 split
 ·rename_i h
  unfold inRb at h
  simp only [Bool.and_eq_true, decide_eq_true_eq] at h
  rw [wrap_in (by unfold inR; omega)]
  unfold memI
  simp only
  omega
 ·exact mem_full _ (wrap_inR _)
theorem sub_in : memI (bnd (a - d) (b - c)) (IntKind.i64.wrap (s - t)) := by
 unfold bnd
 split
 ·rename_i h
  unfold inRb at h
  simp only [Bool.and_eq_true, decide_eq_true_eq] at h
  rw [wrap_in (by unfold inR; omega)]
  unfold memI
  simp only
  omega
 ·exact mem_full _ (wrap_inR _)
end
theorem div_anti {s t d : Int} (hs : 0 <= s) (ht : 0 < t) (htd : t <= d) : s.tdiv d <= s.tdiv t := by
 rw [Int.tdiv_eq_ediv_of_nonneg hs, Int.tdiv_eq_ediv_of_nonneg hs]
 apply Int.le_ediv_of_mul_le ht
 have h0 : 0 <= s / d := Int.ediv_nonneg hs (by omega)
 have h1 : s / d * t <= s / d * d := Int.mul_le_mul_of_nonneg_left htd h0
 have h2 : s / d * d <= s := Int.ediv_mul_le s (by omega)
 omega
theorem div_mono {s t d : Int} (hs : s <= 0) (ht : 0 < t) (htd : t <= d) : s.tdiv t <= s.tdiv d := by
 have h := div_anti (s := -s) (by omega) ht htd
 rw [Int.neg_tdiv, Int.neg_tdiv] at h
 omega
theorem quot_pos {s t : Int} (hs : inR s) (ht : 1 <= t) : quot s t = s.tdiv t := by
 unfold quot
 rw [if_neg (by omega), if_neg (by omega), tdiv_in hs (by omega) (by omega)]
theorem div_in {a b c d s t : Int} (h1 : a <= s) (h2 : s <= b) (h3 : c <= t) (h4 : t <= d) (hs : inR s) : memI (idiv a b c d) (quot s t) := by
 unfold idiv
 split
 ·refine mem_full _ ?_
  unfold quot
  split
  ·unfold inR; omega
  split <;> exact wrap_inR _
 ·rename_i hc
  rw [quot_pos hs (by omega)]
  have e1 : a.tdiv t <= s.tdiv t := Int.tdiv_le_tdiv (by omega) h1
  have e2 : s.tdiv t <= b.tdiv t := Int.tdiv_le_tdiv (by omega) h2
  have f1 : min (a.tdiv c) (a.tdiv d) <= a.tdiv t := by
   rcases Int.lt_or_le a 0 with q | q
   ·have := div_mono (s := a) (by omega) (show 0 < c by omega) h3
    omega
   ·have := div_anti (s := a) (by omega) (show 0 < t by omega) h4
    omega
  have f2 : b.tdiv t <= max (b.tdiv c) (b.tdiv d) := by
   rcases Int.lt_or_le b 0 with q | q
   ·have := div_mono (s := b) (by omega) (show 0 < t by omega) h4
    omega
   ·have := div_anti (s := b) (by omega) (show 0 < c by omega) h3
    omega
  unfold memI min4 max4
  simp only
  omega
theorem rem_word {s t : Int} (hs : inR s) (ht : 1 <= t) : IntKind.i64.wrap (s - IntKind.i64.wrap (quot s t * t)) = s.tmod t := by
 rw [quot_pos hs ht]
 have h := Int.mul_tdiv_add_tmod s t
 rw [Int.mul_comm] at h
 have hb : (s.tmod t).natAbs <= s.natAbs := by
  rw [Int.natAbs_tmod]
  exact Nat.mod_le _ _
 have hsg : (0 <= s -> 0 <= s.tmod t) /\ (s <= 0 -> s.tmod t <= 0) := by
  refine ⟨fun q => Int.tmod_nonneg _ q, fun q => ?_⟩
  have := Int.tmod_nonneg (a := -s) t (by omega)
  rw [Int.neg_tmod] at this
  omega
 unfold inR at hs
 have hq : IntKind.i64.wrap (s.tdiv t * t) = s.tdiv t * t := wrap_in (by unfold inR; omega)
 rw [hq]
 rw [wrap_in (by unfold inR; omega)]
 omega
theorem rem_in {a b c d s t : Int} (h1 : a <= s) (h2 : s <= b) (h3 : c <= t) (h4 : t <= d) (hs : inR s) :
  memI (irem a b c d) (if t = 0 then 0 else IntKind.i64.wrap (s - IntKind.i64.wrap (quot s t * t))) := by
 unfold irem
 split
 ·refine mem_full _ ?_
  split
  ·unfold inR; omega
  ·exact wrap_inR _
 ·rename_i hc
  rw [if_neg (show ¬ t = 0 by omega), rem_word hs (by omega)]
  have hb : (s.tmod t).natAbs <= s.natAbs := by
   rw [Int.natAbs_tmod]
   exact Nat.mod_le _ _
  have hl : (s.tmod t).natAbs < t.natAbs := by
   rw [Int.natAbs_tmod]
   exact Nat.mod_lt _ (by omega)
  have hsg : (0 <= s -> 0 <= s.tmod t) /\ (s <= 0 -> s.tmod t <= 0) := by
   refine ⟨fun q => Int.tmod_nonneg _ q, fun q => ?_⟩
   have := Int.tmod_nonneg (a := -s) t (by omega)
   rw [Int.neg_tmod] at this
   omega
  unfold memI
  refine ⟨?_, ?_⟩ <;> dsimp only <;> split <;> omega
theorem bv_nat {a : Int} (h0 : 0 <= a) (h1 : a <= 9223372036854775807) : (BitVec.ofInt 64 a).toNat = a.toNat := by
 rw [BitVec.toNat_ofInt]
 omega
theorem iand_left {s t : Int} (h0 : 0 <= s) (h1 : s <= 9223372036854775807) : 0 <= iand s t /\ iand s t <= s := by
 unfold iand
 have e : IntKind.i64.bits = 64 := rfl
 rw [e, BitVec.toNat_and, bv_nat h0 h1]
 have h := Nat.and_le_left (n := s.toNat) (m := (BitVec.ofInt 64 t).toNat)
 rw [wrap_in (by unfold inR; omega)]
 omega
theorem iand_right {s t : Int} (h0 : 0 <= t) (h1 : t <= 9223372036854775807) : 0 <= iand s t /\ iand s t <= t := by
 unfold iand
 have e : IntKind.i64.bits = 64 := rfl
 rw [e, BitVec.toNat_and, bv_nat h0 h1]
 have h := Nat.and_le_right (n := (BitVec.ofInt 64 s).toNat) (m := t.toNat)
 rw [wrap_in (by unfold inR; omega)]
 omega
theorem ones_bound {m x : Int} (h0 : 0 <= x) (h1 : x <= m) : x.toNat < 2 ^ bitl m.toNat := by
 have := lt_bitl m.toNat
 omega
theorem ones_le63 {m : Int} (h1 : m <= 9223372036854775807) : 2 ^ bitl m.toNat <= 9223372036854775808 := by
 have hb : bitl m.toNat <= 63 := bitl_le (show m.toNat < 2 ^ 63 by rw [show (2:Nat) ^ 63 = 9223372036854775808 by decide]; omega)
 have := Nat.pow_le_pow_right (show 0 < 2 by omega) hb
 rwa [show (2:Nat) ^ 63 = 9223372036854775808 by decide] at this
theorem ior_in {s t m : Int} (h0 : 0 <= s) (h1 : 0 <= t) (hs : s <= m) (ht : t <= m) (hm : m <= 9223372036854775807) : s <= ior s t /\ t <= ior s t /\ ior s t <= ones m := by
 unfold ior ones
 have e : IntKind.i64.bits = 64 := rfl
 rw [e, BitVec.toNat_or, bv_nat h0 (by omega), bv_nat h1 (by omega)]
 have l := Nat.or_lt_two_pow (ones_bound h0 hs) (ones_bound h1 ht)
 have p := Nat.left_le_or (n := s.toNat) (m := t.toNat)
 have q := Nat.right_le_or (n := s.toNat) (m := t.toNat)
 have k := ones_le63 hm
 generalize s.toNat ||| t.toNat = r at *
 generalize 2 ^ bitl m.toNat = z at *
 rw [wrap_in (by unfold inR; omega)]
 omega
theorem ixor_in {s t m : Int} (h0 : 0 <= s) (h1 : 0 <= t) (hs : s <= m) (ht : t <= m) (hm : m <= 9223372036854775807) : 0 <= ixor s t /\ ixor s t <= ones m := by
 unfold ixor ones
 have e : IntKind.i64.bits = 64 := rfl
 rw [e, BitVec.toNat_xor, bv_nat h0 (by omega), bv_nat h1 (by omega)]
 have l := Nat.xor_lt_two_pow (ones_bound h0 hs) (ones_bound h1 ht)
 have k := ones_le63 hm
 generalize s.toNat ^^^ t.toNat = r at *
 generalize 2 ^ bitl m.toNat = z at *
 rw [wrap_in (by unfold inR; omega)]
 omega
theorem iand_inR (s t : Int) : inR (iand s t) := wrap_inR _
theorem ior_inR (s t : Int) : inR (ior s t) := wrap_inR _
theorem ixor_inR (s t : Int) : inR (ixor s t) := wrap_inR _
theorem bit_in {o a b c d s t : Int} (ho : o = 9 \/ o = 10 \/ o = 11) (h1 : a <= s) (h2 : s <= b) (h3 : c <= t) (h4 : t <= d) (hb : b <= 9223372036854775807) (hd : d <= 9223372036854775807) :
  memI (ibit' o a b c d) (if o = 9 then iand s t else if o = 10 then ior s t else ixor s t) := by
 rcases ho with rfl | rfl | rfl
 ·rw [if_pos rfl]
  unfold ibit'
  rw [if_pos rfl]
  split
  ·have p := iand_left (s := s) (t := t) (by omega) (by omega)
   have q := iand_right (s := s) (t := t) (by omega) (by omega)
   unfold memI; simp only; omega
  split
  ·have p := iand_left (s := s) (t := t) (by omega) (by omega)
   unfold memI; simp only; omega
  split
  ·have q := iand_right (s := s) (t := t) (by omega) (by omega)
   unfold memI; simp only; omega
  ·exact mem_full _ (iand_inR _ _)
 ·rw [if_neg (by decide), if_pos rfl]
  unfold ibit'
  rw [if_neg (by decide)]
  split
  ·exact mem_full _ (ior_inR _ _)
  ·have := ior_in (s := s) (t := t) (m := max b d) (by omega) (by omega) (by omega) (by omega) (by omega)
   rw [if_pos rfl]
   unfold memI; simp only; omega
 ·rw [if_neg (by decide), if_neg (by decide)]
  unfold ibit'
  rw [if_neg (by decide)]
  split
  ·exact mem_full _ (ixor_inR _ _)
  ·have := ixor_in (s := s) (t := t) (m := max b d) (by omega) (by omega) (by omega) (by omega) (by omega)
   rw [if_neg (by decide)]
   unfold memI; simp only; omega
theorem fdiv_p (z : Int) {p : Int} (hp : 0 < p) : z.fdiv p = z / p := Int.fdiv_eq_ediv_of_nonneg _ (by omega)
theorem shlk_in {a p : Int} (hp : 0 < p) (hp' : p <= 9223372036854775808) (h : shlk a p = true) : shlw a p = a * p := by
 unfold shlk at h
 simp only [beq_iff_eq] at h
 rw [fdiv_p _ hp] at h
 have h1 := Int.mul_ediv_add_emod (shlw a p) p
 have h2 := Int.emod_nonneg (shlw a p) (show p ≠ 0 by omega)
 have h3 := Int.emod_lt_of_pos (shlw a p) hp
 rw [h, Int.mul_comm] at h1
 unfold shlw at *
 rw [w64] at *
 omega
theorem shl_in {a b s p : Int} (hp : 0 < p) (hp' : p <= 9223372036854775808) (h1 : a <= s) (h2 : s <= b) (ha : shlk a p = true) (hb : shlk b p = true) :
  memI (shlw a p, shlw b p) (IntKind.i64.wrap (s * p)) := by
 have ea := shlk_in hp hp' ha
 have eb := shlk_in hp hp' hb
 have i1 : inR (a * p) := ea ▸ wrap_inR _
 have i2 : inR (b * p) := eb ▸ wrap_inR _
 have m1 := Int.mul_le_mul_of_nonneg_right h1 (show 0 <= p by omega)
 have m2 := Int.mul_le_mul_of_nonneg_right h2 (show 0 <= p by omega)
 unfold inR at i1 i2
 rw [wrap_in (by unfold inR; omega)]
 exact ⟨by rw [ea]; exact m1, by rw [eb]; exact m2⟩
theorem div_p_mono {a s p : Int} (hp : 0 < p) (h : a <= s) : a / p <= s / p := Int.ediv_le_ediv hp h
theorem div_p_sign {s p : Int} (hp : 0 < p) : (0 <= s -> 0 <= s / p /\ s / p <= s) /\ (s < 0 -> s <= s / p /\ s / p <= -1) := by
 refine ⟨fun h => ⟨Int.ediv_nonneg h (by omega), Int.ediv_le_self p h⟩, fun h => ⟨?_, ?_⟩⟩
 ·apply Int.le_ediv_of_mul_le hp
  have h1 := Int.mul_le_mul_of_nonpos_left (show s <= 0 by omega) (show (1:Int) <= p by omega)
  omega
 ·have : s / p < 0 := Int.ediv_neg_of_neg_of_pos h hp
  omega
theorem pow_split {k : Nat} (hk : k <= 64) : (2:Int) ^ (64 - k) * 2 ^ k = 18446744073709551616 := by
 rw [<- Int.pow_add, show 64 - k + k = 64 by omega]
 decide
theorem pow_pos' (k : Nat) : (0:Int) < 2 ^ k := Int.pow_pos (by omega)
theorem pow_63 {k : Nat} (hk : k <= 63) : (2:Int) ^ k <= 9223372036854775808 := by
 have h := Nat.pow_le_pow_right (show 0 < 2 by omega) hk
 rw [show (2:Nat) ^ 63 = 9223372036854775808 by decide] at h
 have e2 : ((2:Int) ^ k) = ((2 ^ k : Nat) : Int) := by simp
 omega
theorem sh_in {o a b c d s t : Int} (ho : o = 12 \/ o = 13 \/ o = 14) (h1 : a <= s) (h2 : s <= b) (h3 : c <= t) (h4 : t <= d) (hs : inR s) (hb : b <= 9223372036854775807) (ha : -9223372036854775808 <= a) :
  memI (ishf o a b c d) (shcmp o s t) := by
 unfold shcmp
 have ht : min (shBy t).toNat IntKind.i64.bits = (t % 64).toNat := by
  rw [shBy_eq, bits64]; omega
 have ht' : min (shBy t).toNat IntKind.u64.bits = (t % 64).toNat := ht
 rw [ht, ht', u64w]
 have hk63 : (t % 64).toNat <= 63 := by omega
 generalize hk : (t % 64).toNat = k at *
 have hp := pow_pos' k
 have hp' := pow_63 hk63
 have hsp := pow_split (k := k) (by omega)
 unfold inR at hs
 rw [fdiv_p _ hp, fdiv_p _ hp]
 rcases ho with rfl | rfl | rfl
 ·rw [if_pos rfl]
  unfold ishf
  rw [if_pos rfl]
  split
  ·rename_i hcd
   obtain rfl : t = c := by omega
   rw [hk]
   split
   ·rename_i hsh
    exact shl_in hp hp' h1 h2 hsh.1 hsh.2
   ·exact mem_full _ (wrap_inR _)
  ·exact mem_full _ (wrap_inR _)
 ·rw [if_neg (by decide), if_pos rfl]
  unfold ishf
  rw [if_neg (by decide), if_neg (by decide)]
  split
  ·rename_i hcd
   obtain rfl : t = c := by omega
   split
   ·rename_i hz
    have hk0 : k = 0 := by omega
    subst hk0
    rw [Int.pow_zero, Int.ediv_one, w64]
    unfold memI; simp only; omega
   ·rename_i hz
    split
    ·rw [hk, fdiv_p _ hp, fdiv_p _ hp]
     have e : s % 18446744073709551616 = s := by omega
     rw [e]
     have q := (div_p_sign (s := s) hp).1 (by omega)
     rw [wrap_in (by unfold inR; omega)]
     exact ⟨div_p_mono hp h1, div_p_mono hp h2⟩
    ·have e64 : (64 - t % 64).toNat = 64 - k := by omega
     rw [e64]
     have hq := pow_pos' (64 - k)
     have hq' := pow_63 (k := 64 - k) (by omega)
     have hu : s % 18446744073709551616 / 2 ^ k < 2 ^ (64 - k) := Int.ediv_lt_of_lt_mul hp (by rw [hsp]; omega)
     have hu0 : 0 <= s % 18446744073709551616 / 2 ^ k := Int.ediv_nonneg (by omega) (by omega)
     generalize s % 18446744073709551616 / 2 ^ k = u at *
     generalize (2:Int) ^ (64 - k) = v at *
     rw [w64, w64, w64]
     unfold memI; simp only; omega
  ·split
   ·have e : s % 18446744073709551616 = s := by omega
    rw [e]
    have q := (div_p_sign (s := s) hp).1 (by omega)
    rw [wrap_in (by unfold inR; omega)]
    unfold memI; simp only; omega
   ·exact mem_full _ (wrap_inR _)
 ·rw [if_neg (by decide), if_neg (by decide), if_pos rfl]
  unfold ishf
  rw [if_neg (by decide), if_pos rfl]
  split
  ·rename_i hcd
   obtain rfl : t = c := by omega
   rw [hk, fdiv_p _ hp, fdiv_p _ hp]
   exact ⟨div_p_mono hp h1, div_p_mono hp h2⟩
  ·have q := div_p_sign (s := s) hp
   unfold memI; simp only
   rcases Int.lt_or_le s 0 with z | z
   ·have := q.2 z; omega
   ·have := q.1 z; omega
theorem cmp_in {o a b c d s t : Int} (ho : 15 <= o /\ o <= 19) (h1 : a <= s) (h2 : s <= b) (h3 : c <= t) (h4 : t <= d) (hs : inR s) (ht : inR t) :
  memI (icmp o a b c d) (shcmp o s t) := by
 have ho' : o = 15 \/ o = 16 \/ o = 17 \/ o = 18 \/ o = 19 := by omega
 unfold inR at hs ht
 unfold shcmp icmp tri memI meets truth
 rw [u64w, u64w]
 rcases ho' with rfl | rfl | rfl | rfl | rfl <;> simp only [Int.reduceEq, if_false, if_true, beq_iff_eq, bne_iff_ne, decide_eq_true_eq] <;> grind
theorem bin_in {o a b c d s t : Int} (ho : 4 <= o /\ o <= 19) (h1 : a <= s) (h2 : s <= b) (h3 : c <= t) (h4 : t <= d) (ha : inR a) (hb : inR b) (hc : inR c) (hd : inR d) :
  memI (ibin o a b c d) (wbin o s t) := by
 have hs : inR s := by unfold inR at *; omega
 have ht : inR t := by unfold inR at *; omega
 unfold ibin
 rw [if_neg (by omega)]
 split
 ·rename_i h
  obtain rfl : s = a := by omega
  obtain rfl : t = c := by omega
  exact ⟨Int.le_refl _, Int.le_refl _⟩
 ·have ho' : o = 4 \/ o = 5 \/ o = 6 \/ o = 7 \/ o = 8 \/ (o = 9 \/ o = 10 \/ o = 11) \/ (o = 12 \/ o = 13 \/ o = 14) \/ 15 <= o := by omega
  rcases ho' with rfl | rfl | rfl | rfl | rfl | h | h | h
  ·rw [if_pos rfl]; exact add_in h1 h2 h3 h4
  ·rw [if_neg (by decide), if_pos rfl]; exact sub_in h1 h2 h3 h4
  ·rw [if_neg (by decide), if_neg (by decide), if_pos rfl]; exact mul_in h1 h2 h3 h4
  ·rw [if_neg (by decide), if_neg (by decide), if_neg (by decide), if_pos rfl]; exact div_in h1 h2 h3 h4 hs
  ·rw [if_neg (by decide), if_neg (by decide), if_neg (by decide), if_neg (by decide), if_pos rfl]; exact rem_in h1 h2 h3 h4 hs
  ·rw [if_neg (by omega), if_neg (by omega), if_neg (by omega), if_neg (by omega), if_neg (by omega), if_pos h]
   have := bit_in h h1 h2 h3 h4 hb.2 hd.2
   unfold wbin
   rw [if_neg (by omega), if_neg (by omega), if_neg (by omega), if_neg (by omega), if_neg (by omega)]
   rcases h with rfl | rfl | rfl <;> exact this
  ·rw [if_neg (by omega), if_neg (by omega), if_neg (by omega), if_neg (by omega), if_neg (by omega), if_neg (by omega), if_pos h]
   unfold wbin
   rw [if_neg (by omega), if_neg (by omega), if_neg (by omega), if_neg (by omega), if_neg (by omega), if_neg (by omega), if_neg (by omega), if_neg (by omega)]
   exact sh_in h h1 h2 h3 h4 hs hb.2 ha.1
  ·rw [if_neg (by omega), if_neg (by omega), if_neg (by omega), if_neg (by omega), if_neg (by omega), if_neg (by omega), if_neg (by omega)]
   unfold wbin
   rw [if_neg (by omega), if_neg (by omega), if_neg (by omega), if_neg (by omega), if_neg (by omega), if_neg (by omega), if_neg (by omega), if_neg (by omega)]
   exact cmp_in ⟨h, ho.2⟩ h1 h2 h3 h4 hs ht
theorem inot_eq {a : Int} (h : inR a) : inot a = -1 - a := by
 unfold inR at h
 unfold inot
 have e : IntKind.i64.bits = 64 := rfl
 have e1 : (if IntKind.i64.signed = true then (-1 : Int) else IntKind.i64.max) = -1 := rfl
 rw [e1, e]
 have : (BitVec.ofInt 64 (-1) ^^^ BitVec.ofInt 64 a) = BitVec.ofInt 64 (-1 - a) := by
  have h1 : BitVec.ofInt 64 (-1) = BitVec.allOnes 64 := by decide
  rw [h1, BitVec.allOnes_xor]
  apply BitVec.eq_of_toNat_eq
  rw [BitVec.toNat_not, BitVec.toNat_ofInt, BitVec.toNat_ofInt]
  omega
 rw [this, BitVec.toNat_ofInt, w64]
 omega
theorem un_in {o a b s : Int} (ho : o = 20 \/ o = 21) (h1 : a <= s) (h2 : s <= b) (ha : inR a) (hb : inR b) : memI (iun o a b) (wun o s) := by
 have hs : inR s := by unfold inR at *; omega
 unfold iun
 rw [if_neg (by omega)]
 split
 ·obtain rfl : s = a := by omega
  exact ⟨Int.le_refl _, Int.le_refl _⟩
 ·rcases ho with rfl | rfl
  ·rw [if_neg (by decide)]
   unfold wun
   rw [if_pos rfl]
   split
   ·exact mem_full _ (wrap_inR _)
   ·unfold inR minW at *
    rw [w64, w64, w64]
    unfold memI; simp only; omega
  ·rw [if_pos rfl]
   unfold wun
   rw [if_neg (by decide), if_pos rfl, inot_eq hs, inot_eq ha, inot_eq hb]
   unfold memI; simp only; omega
theorem sel_in {a b c d s t : Int} (h1 : a <= s) (h2 : s <= b) (h3 : c <= t) (h4 : t <= d) : memI (isel a b c d a b) (if s = 0 then s else t) := by
 unfold isel
 rw [if_neg (by omega)]
 unfold contains
 split
 ·rw [if_pos (by omega)]
  exact ⟨h1, h2⟩
 ·simp only [Bool.and_eq_true, decide_eq_true_eq]
  split
  ·split <;> (unfold memI; simp only; omega)
  ·rw [if_neg (by omega)]
   exact ⟨h3, h4⟩
theorem mem_contains {r : Int × Int} {n : Int} (h : memI r n) : contains r.1 r.2 n = true := by
 unfold contains
 unfold memI at h
 simp [h.1, h.2]
def inI (a b n r : Int) : Int :=
 if n % 4 = 0 then a else if n % 4 = 1 then b else if n % 4 = 2 then min (max (word (n.tdiv 4) r) a) b else min (max r a) b
theorem inI_in {a b n r : Int} (h : a <= b) : a <= inI a b n r /\ inI a b n r <= b := by
 unfold inI
 split
 ·omega
 split
 ·omega
 split <;> omega
theorem word_inR {n r : Int} (h : inR r) : inR (word n r) := by
 unfold word
 split
 ·have hl : (n % 24).toNat < 10 := by omega
  unfold edges inR
  generalize (n % 24).toNat = k at *
  have : k = 0 \/ k = 1 \/ k = 2 \/ k = 3 \/ k = 4 \/ k = 5 \/ k = 6 \/ k = 7 \/ k = 8 \/ k = 9 := by omega
  rcases this with rfl | rfl | rfl | rfl | rfl | rfl | rfl | rfl | rfl | rfl <;> decide
 split
 ·unfold inR; omega
 ·exact h
theorem ival_inR {a b p q : Int} (hp : inR p) (hq : inR q) : inR (ival a b p q).1 /\ inR (ival a b p q).2 := by
 unfold ival
 split
 ·exact ⟨word_inR hq, word_inR hp⟩
 ·exact ⟨word_inR hp, word_inR hq⟩
end Go.M13
