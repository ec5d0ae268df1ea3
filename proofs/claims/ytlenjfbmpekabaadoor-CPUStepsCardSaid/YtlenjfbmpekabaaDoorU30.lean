import Derived.Test.YtlenjfbmpekabaaDoorN29
import Derived.Test.YtlenjfbmpekabaaDoorPvDef
section
namespace Go.M30
open Go.Pv Go.M29
theorem u32w (n : Int) : IntKind.u32.wrap n = n % 4294967296 := by
 unfold IntKind.wrap
 simp [IntKind.bits, IntKind.signed]
theorem u64w (n : Int) : IntKind.u64.wrap n = n % 18446744073709551616 := by
 unfold IntKind.wrap
 simp [IntKind.bits, IntKind.signed]
theorem i64w (n : Int) : IntKind.i64.wrap n = (n + 9223372036854775808) % 18446744073709551616 - 9223372036854775808 := IntKind.wrap_i64 n
theorem bv32 {a : Int} (h0 : 0 <= a) (h1 : a < 4294967296) : (BitVec.ofInt IntKind.u32.bits a).toNat = a.toNat := by
 have e : IntKind.u32.bits = 32 := rfl
 rw [e, BitVec.toNat_ofInt]
 omega
theorem bvOr_add {x y m : Int} (k : Nat) (p : Int) (hp : ((2 ^ k : Nat) : Int) = p) (hx : 0 <= x) (hx' : x < p) (hx2 : x < 4294967296) (hy : y = p * m) (hm : 0 <= m) (hy' : y < 4294967296) : bvOr .u32 x y = x + y := by
 have hpp : 0 < 2 ^ k := Nat.pow_pos (by omega)
 have hy0 : 0 <= y := by rw [hy]; exact Int.mul_nonneg (by omega) hm
 unfold bvOr
 have e : (BitVec.ofInt IntKind.u32.bits x ||| BitVec.ofInt IntKind.u32.bits y).toNat = x.toNat + y.toNat := by
  rw [BitVec.toNat_or, bv32 hx hx2, bv32 hy0 hy', Nat.or_comm]
  have e1 : y.toNat = 2 ^ k * m.toNat := by
   apply Int.ofNat.inj
   show ((y.toNat : Nat) : Int) = ((2 ^ k * m.toNat : Nat) : Int)
   rw [Int.natCast_mul, hp]
   rw [show ((m.toNat : Nat) : Int) = m by omega]
   omega
  rw [e1, <- Nat.two_pow_add_eq_or_of_lt (by omega) m.toNat]
  omega
 have hl := (BitVec.ofInt IntKind.u32.bits x ||| BitVec.ofInt IntKind.u32.bits y).isLt
 rw [e] at hl ⊢
 have e2 : (2 : Nat) ^ IntKind.u32.bits = 4294967296 := by decide
 rw [e2] at hl
 rw [u32w]
 omega
theorem bvOr_zero {x : Int} (hx : 0 <= x) (hx2 : x < 4294967296) : bvOr .u32 x 0 = x := by
 have := bvOr_add (x := x) (y := 0) (m := 0) 32 4294967296 (by decide) hx hx2 hx2 (by omega) (by omega) (by omega)
 omega
def hdr (op a b c : Int) : Int := op + 64 * a + 512 * b + 4096 * c
theorem hdr_ok {op a b c : Int} (ho : 0 <= op /\ op <= 63) (ha : 0 <= a /\ a <= 7) (hb : 0 <= b /\ b <= 7) (hc : 0 <= c /\ c <= 7) :
  bvOr .u32 (bvOr .u32 (bvOr .u32 (IntKind.u32.wrap op) (IntKind.u32.wrap (IntKind.u32.wrap a * 64))) (IntKind.u32.wrap (IntKind.u32.wrap b * 512))) (IntKind.u32.wrap (IntKind.u32.wrap c * 4096)) = hdr op a b c := by
 simp only [u32w]
 have h1 : op % 4294967296 = op := by omega
 have h2 : a % 4294967296 * 64 % 4294967296 = 64 * a := by omega
 have h3 : b % 4294967296 * 512 % 4294967296 = 512 * b := by omega
 have h4 : c % 4294967296 * 4096 % 4294967296 = 4096 * c := by omega
 rw [h1, h2, h3, h4, bvOr_add (x := op) 6 64 (by decide) (by omega) (by omega) (by omega) rfl (by omega) (by omega),
  bvOr_add (x := op + 64 * a) 9 512 (by decide) (by omega) (by omega) (by omega) rfl (by omega) (by omega),
  bvOr_add (x := op + 64 * a + 512 * b) 12 4096 (by decide) (by omega) (by omega) (by omega) rfl (by omega) (by omega)]
 rfl
def immW (op n : Int) : Int := if fmI op = 8 then n % 67108864 * 64 else if fmI op = 5 then n % 8388608 * 512 else if fmI op = 7 then n % 1048576 * 4096 else 0
def word1 (x : In) : Int := hdr x.op x.a x.b x.c + immW x.op x.n
def encW (x : In) : List Int := if fmI x.op = 6 then [word1 x, x.n % 4294967296, x.n % 18446744073709551616 / 4294967296] else [word1 x]
def shI (f : Int) : Int := if f = 8 then 6 else if f = 5 then 9 else if f = 7 then 12 else 32
def okIn (x : In) : Bool := validI x.op x.a x.b x.c x.n
theorem ok_fields {op a b c n : Int} (h : validI op a b c n = true) :
  (1 <= op /\ op <= 37) /\ (0 <= a /\ a <= 7) /\ (0 <= b /\ b <= 7) /\ (0 <= c /\ c <= 7) /\ (fmI op = 8 -> a = 0 /\ b = 0 /\ c = 0) /\ (fmI op = 5 -> b = 0 /\ c = 0) /\ (fmI op = 7 -> c = 0) /\
  (fmI op ≠ 5 -> fmI op ≠ 6 -> fmI op ≠ 7 -> fmI op ≠ 8 -> n = 0) := by
 have ho : 1 <= op /\ op <= 37 := by
  by_cases q : 1 <= op /\ op <= 37
  ·exact q
  ·unfold validI at h
   rw [okI_out q] at h
   simp at h
 have hf := fm_range ho
 unfold validI fA fB fC fN at h
 simp only [Bool.and_eq_true, Bool.or_eq_true, decide_eq_true_eq, beq_iff_eq, Bool.not_eq_true', Bool.or_eq_false_iff, beq_eq_false_iff_ne] at h
 obtain ⟨⟨⟨⟨⟨⟨⟨⟨h1, h2⟩, h3⟩, h4⟩, h5⟩, h6⟩, h7⟩, h8⟩, h9⟩ := h
 have h6' : a <= 7 := by have := h6.2; split at this <;> omega
 refine ⟨ho, ⟨h6.1, h6'⟩, h7, h8, fun e => ?_, fun e => ?_, fun e => ?_, fun e1 e2 e3 e4 => ?_⟩ <;> omega
theorem word_prog {op a b c n : Int} (h : validI op a b c n = true) (hf6 : fmI op ≠ 6) :
  bvOr .u32 (hdr op a b c) (IntKind.u32.wrap (IntKind.u32.wrap n * 2 ^ (min (shI (fmI op)).toNat 32))) = word1 ⟨op, a, b, c, n⟩ := by
 obtain ⟨ho, ha, hb, hc, h8, h5, h7, hz⟩ := ok_fields h
 unfold word1 immW shI hdr
 simp only [u32w]
 by_cases f8 : fmI op = 8
 ·obtain ⟨rfl, rfl, rfl⟩ := h8 f8
  rw [if_pos f8, if_pos f8]
  have e : (2 : Int) ^ min (Int.toNat 6) 32 = 64 := by decide
  rw [e, bvOr_add (m := n % 67108864) 6 64 (by decide) (by omega) (by omega) (by omega) (by omega) (by omega) (by omega)]
  omega
 by_cases f5 : fmI op = 5
 ·obtain ⟨rfl, rfl⟩ := h5 f5
  rw [if_neg f8, if_pos f5, if_neg f8, if_pos f5]
  have e : (2 : Int) ^ min (Int.toNat 9) 32 = 512 := by decide
  rw [e, bvOr_add (m := n % 8388608) 9 512 (by decide) (by omega) (by omega) (by omega) (by omega) (by omega) (by omega)]
  omega
 by_cases f7 : fmI op = 7
 ·obtain rfl := h7 f7
  rw [if_neg f8, if_neg f5, if_pos f7, if_neg f8, if_neg f5, if_pos f7]
  have e : (2 : Int) ^ min (Int.toNat 12) 32 = 4096 := by decide
  rw [e, bvOr_add (m := n % 1048576) 12 4096 (by decide) (by omega) (by omega) (by omega) (by omega) (by omega) (by omega)]
  omega
 ·rw [if_neg f8, if_neg f5, if_neg f7, if_neg f8, if_neg f5, if_neg f7]
  have hn := hz f5 hf6 f7 f8
  subst hn
  rw [show (0 : Int) % 4294967296 * 2 ^ (min (Int.toNat 32) 32) % 4294967296 = 0 by simp]
  exact (bvOr_zero (by omega) (by omega)).trans (by omega)
def atI (f : Int) : Int := if f = 8 then 6 else if f = 5 then 9 else if f = 7 then 12 else 0
def nbI (f : Int) : Int := if f = 8 then 26 else if f = 5 then 23 else if f = 7 then 20 else 0
theorem bvAnd_mask {x : Int} (k : Nat) (p : Int) (hp : ((2 ^ k : Nat) : Int) = p) (hk : k < 64) : bvAnd .u64 x (p - 1) = x % p := by
 unfold bvAnd
 have hpp : 0 < 2 ^ k := Nat.pow_pos (by omega)
 have hp64 : 2 ^ k <= 2 ^ 63 := Nat.pow_le_pow_right (by omega) (by omega)
 rw [show (2 : Nat) ^ 63 = 9223372036854775808 by decide] at hp64
 have e : IntKind.u64.bits = 64 := rfl
 have h : (BitVec.ofInt IntKind.u64.bits x &&& BitVec.ofInt IntKind.u64.bits (p - 1)).toNat = (x % p).toNat := by
  rw [e, BitVec.toNat_and, BitVec.toNat_ofInt, BitVec.toNat_ofInt]
  have h63 : ((p - 1) % ((2 ^ 64 : Nat) : Int)).toNat = 2 ^ k - 1 := by
   rw [show ((2 ^ 64 : Nat) : Int) = 18446744073709551616 by decide]
   omega
  rw [h63, Nat.and_two_pow_sub_one_eq_mod]
  have hd : (p : Int) ∣ ((2 ^ 64 : Nat) : Int) := by
   rw [<- hp]
   exact Int.natCast_dvd_natCast.2 (Nat.pow_dvd_pow 2 (by omega))
  have h1 : (x % ((2 ^ 64 : Nat) : Int)) % p = x % p := Int.emod_emod_of_dvd x hd
  have h2 : 0 <= x % ((2 ^ 64 : Nat) : Int) := Int.emod_nonneg _ (by rw [show ((2 ^ 64 : Nat) : Int) = 18446744073709551616 by decide]; omega)
  apply Int.ofNat.inj
  show (((x % ((2 ^ 64 : Nat) : Int)).toNat % 2 ^ k : Nat) : Int) = (((x % p).toNat : Nat) : Int)
  rw [Int.natCast_emod, hp, Int.toNat_of_nonneg h2, h1, Int.toNat_of_nonneg (Int.emod_nonneg _ (by omega))]
 rw [h, u64w]
 have h3 := Int.emod_nonneg x (show p ≠ 0 by omega)
 have h4 := Int.emod_lt_of_pos x (show 0 < p by omega)
 omega
theorem word_ref {op a b c n : Int} (h : validI op a b c n = true) (hf : 0 < nbI (fmI op)) :
  bvOr .u32 (hdr op a b c) (IntKind.u32.wrap (IntKind.u32.wrap (bvAnd .u64 (IntKind.u64.wrap n) (IntKind.u64.wrap (IntKind.u64.wrap (1 * 2 ^ min (nbI (fmI op)).toNat 64) - 1))) * 2 ^ (min (atI (fmI op)).toNat 32))) = word1 ⟨op, a, b, c, n⟩ := by
 obtain ⟨ho, ha, hb, hc, h8, h5, h7, hz⟩ := ok_fields h
 unfold word1 immW hdr
 by_cases f8 : fmI op = 8
 ·obtain ⟨rfl, rfl, rfl⟩ := h8 f8
  rw [if_pos f8, show nbI (fmI op) = 26 by unfold nbI; rw [if_pos f8], show atI (fmI op) = 6 by unfold atI; rw [if_pos f8]]
  have e : (2 : Int) ^ min (Int.toNat 6) 32 = 64 := by decide
  have e2 : IntKind.u64.wrap (IntKind.u64.wrap (1 * 2 ^ min (Int.toNat 26) 64) - 1) = 67108864 - 1 := by decide
  rw [e, e2, bvAnd_mask 26 67108864 (by decide) (by omega), u64w]
  simp only [u32w]
  rw [bvOr_add (m := n % 67108864) 6 64 (by decide) (by omega) (by omega) (by omega) (by omega) (by omega) (by omega)]
  omega
 by_cases f5 : fmI op = 5
 ·obtain ⟨rfl, rfl⟩ := h5 f5
  rw [if_neg f8, if_pos f5, show nbI (fmI op) = 23 by unfold nbI; rw [if_neg f8, if_pos f5], show atI (fmI op) = 9 by unfold atI; rw [if_neg f8, if_pos f5]]
  have e : (2 : Int) ^ min (Int.toNat 9) 32 = 512 := by decide
  have e2 : IntKind.u64.wrap (IntKind.u64.wrap (1 * 2 ^ min (Int.toNat 23) 64) - 1) = 8388608 - 1 := by decide
  rw [e, e2, bvAnd_mask 23 8388608 (by decide) (by omega), u64w]
  simp only [u32w]
  rw [bvOr_add (m := n % 8388608) 9 512 (by decide) (by omega) (by omega) (by omega) (by omega) (by omega) (by omega)]
  omega
 by_cases f7 : fmI op = 7
 ·obtain rfl := h7 f7
  rw [if_neg f8, if_neg f5, if_pos f7, show nbI (fmI op) = 20 by unfold nbI; rw [if_neg f8, if_neg f5, if_pos f7], show atI (fmI op) = 12 by unfold atI; rw [if_neg f8, if_neg f5, if_pos f7]]
  have e : (2 : Int) ^ min (Int.toNat 12) 32 = 4096 := by decide
  have e2 : IntKind.u64.wrap (IntKind.u64.wrap (1 * 2 ^ min (Int.toNat 20) 64) - 1) = 1048576 - 1 := by decide
  rw [e, e2, bvAnd_mask 20 1048576 (by decide) (by omega), u64w]
  simp only [u32w]
  rw [bvOr_add (m := n % 1048576) 12 4096 (by decide) (by omega) (by omega) (by omega) (by omega) (by omega) (by omega)]
  omega
 ·unfold nbI at hf
  rw [if_neg f8, if_neg f5, if_neg f7] at hf
  omega
theorem word_ref0 {op a b c n : Int} (hf : ¬ 0 < nbI (fmI op)) : hdr op a b c = word1 ⟨op, a, b, c, n⟩ := by
 unfold word1 immW
 unfold nbI at hf
 by_cases f8 : fmI op = 8
 ·rw [if_pos f8] at hf; omega
 by_cases f5 : fmI op = 5
 ·rw [if_neg f8, if_pos f5] at hf; omega
 by_cases f7 : fmI op = 7
 ·rw [if_neg f8, if_neg f5, if_pos f7] at hf; omega
 rw [if_neg f8, if_neg f5, if_neg f7]
 simp
theorem word_wide {op a b c n : Int} (hf : fmI op = 6) : hdr op a b c = word1 ⟨op, a, b, c, n⟩ := by
 refine word_ref0 ?_
 unfold nbI
 rw [hf]
 decide
end Go.M30
namespace Go.M30
open Go.Pv Go.M29
theorem fm6_iff (op : Int) : fmI op = 6 ↔ op = 14 := by
 unfold fmI
 repeat' (first | omega | split)
def encR (l : List In) : List Int × Int := if l.all okIn then (l.flatMap encW, 0) else ([], 204)
def encT (l : List In) (i : Nat) : List Int := (l.take i).flatMap encW
theorem encW_pos (x : In) : 1 <= (encW x).length /\ (encW x).length <= 3 := by
 unfold encW
 split <;> simp
theorem encT_succ {l : List In} {i : Nat} (h : i < l.length) : encT l (i + 1) = encT l i ++ encW l[i] := by
 unfold encT
 rw [<- List.take_append_getElem h, List.flatMap_append]
 simp
theorem encT_le (l : List In) (i : Nat) : (encT l i).length <= 3 * i := by
 induction i with
 | zero => simp [encT]
 | succ i ih =>
   rcases Nat.lt_or_ge i l.length with h | h
   ·rw [encT_succ h, List.length_append]
    have := (encW_pos l[i]).2
    omega
   ·have : encT l (i + 1) = encT l i := by
     unfold encT
     rw [List.take_of_length_le (by omega), List.take_of_length_le (by omega)]
    rw [this]
    omega
theorem encT_all (l : List In) : encT l l.length = l.flatMap encW := by
 unfold encT
 rw [List.take_length]
theorem all_of {l : List In} (h : ∀ j (q : j < l.length), okIn l[j] = true) : l.all okIn = true := by
 rw [List.all_eq_true]
 intro x hx
 obtain ⟨j, hj, rfl⟩ := List.getElem_of_mem hx
 exact h j hj
theorem not_all {l : List In} {i : Nat} (q : i < l.length) (h : okIn l[i] = false) : l.all okIn = false := by
 rw [List.all_eq_false]
 exact ⟨l[i], List.getElem_mem q, by simp [h]⟩
end Go.M30
namespace Go.M30
open Go.Pv Go.M29
theorem renc_words {op a b c n : Int} (hv : validI op a b c n = true) :
  (0 < nbI (fmI op) -> op ≠ 14 /\ encW ⟨op, a, b, c, n⟩ = [bvOr .u32 (bvOr .u32 (bvOr .u32 (bvOr .u32 (IntKind.u32.wrap op) (IntKind.u32.wrap (IntKind.u32.wrap a * 64))) (IntKind.u32.wrap (IntKind.u32.wrap b * 512))) (IntKind.u32.wrap (IntKind.u32.wrap c * 4096)))
   (IntKind.u32.wrap (IntKind.u32.wrap (bvAnd .u64 (IntKind.u64.wrap n) (IntKind.u64.wrap (IntKind.u64.wrap (1 * 2 ^ min (nbI (fmI op)).toNat 64) - 1))) * 2 ^ (min (atI (fmI op)).toNat 32)))]) /\
  (¬ 0 < nbI (fmI op) ->
   (op = 14 -> encW ⟨op, a, b, c, n⟩ = [bvOr .u32 (bvOr .u32 (bvOr .u32 (IntKind.u32.wrap op) (IntKind.u32.wrap (IntKind.u32.wrap a * 64))) (IntKind.u32.wrap (IntKind.u32.wrap b * 512))) (IntKind.u32.wrap (IntKind.u32.wrap c * 4096)),
    IntKind.u32.wrap (IntKind.u64.wrap n), IntKind.u32.wrap (Int.fdiv (IntKind.u64.wrap n) 4294967296)]) /\
   (op ≠ 14 -> encW ⟨op, a, b, c, n⟩ = [bvOr .u32 (bvOr .u32 (bvOr .u32 (IntKind.u32.wrap op) (IntKind.u32.wrap (IntKind.u32.wrap a * 64))) (IntKind.u32.wrap (IntKind.u32.wrap b * 512))) (IntKind.u32.wrap (IntKind.u32.wrap c * 4096))])) := by
 obtain ⟨ho, ha, hb, hc, _⟩ := ok_fields hv
 rw [hdr_ok (by omega) ha hb hc]
 have h6 := fm6_iff op
 refine ⟨fun hn => ?_, fun hn => ⟨fun h14 => ?_, fun h14 => ?_⟩⟩
 ·have hne : fmI op ≠ 6 := fun e => by
   unfold nbI at hn
   rw [e] at hn
   simp at hn
  refine ⟨fun e => hne (h6.2 e), ?_⟩
  rw [word_ref hv hn]
  exact if_neg hne
 ·have e6 := h6.2 h14
  have e2 : IntKind.u32.wrap (Int.fdiv (IntKind.u64.wrap n) 4294967296) = n % 18446744073709551616 / 4294967296 := by
   rw [u64w, u32w, Int.fdiv_eq_ediv_of_nonneg _ (by omega)]
   omega
  have e3 : IntKind.u32.wrap (IntKind.u64.wrap n) = n % 4294967296 := by
   rw [u64w, u32w]
   omega
  rw [word_wide (n := n) e6, e2, e3]
  exact if_pos e6
 ·have hne : fmI op ≠ 6 := fun e => h14 (h6.1 e)
  rw [word_ref0 (n := n) hn]
  exact if_neg hne
theorem nb_nonneg (f : Int) : 0 <= nbI f /\ 0 <= atI f := by
 unfold nbI atI
 constructor <;> repeat' (first | omega | split)
end Go.M30
end
section
namespace Go.M30
open Go.Pv Go.M29
theorem bvAnd32 {x : Int} (k : Nat) (p : Int) (hp : ((2 ^ k : Nat) : Int) = p) (hk : k < 32) : bvAnd .u32 x (p - 1) = x % p := by
 unfold bvAnd
 have hpp : 0 < 2 ^ k := Nat.pow_pos (by omega)
 have hp64 : 2 ^ k <= 2 ^ 31 := Nat.pow_le_pow_right (by omega) (by omega)
 rw [show (2 : Nat) ^ 31 = 2147483648 by decide] at hp64
 have e : IntKind.u32.bits = 32 := rfl
 have h : (BitVec.ofInt IntKind.u32.bits x &&& BitVec.ofInt IntKind.u32.bits (p - 1)).toNat = (x % p).toNat := by
  rw [e, BitVec.toNat_and, BitVec.toNat_ofInt, BitVec.toNat_ofInt]
  have h63 : ((p - 1) % ((2 ^ 32 : Nat) : Int)).toNat = 2 ^ k - 1 := by
   rw [show ((2 ^ 32 : Nat) : Int) = 4294967296 by decide]
   omega
  rw [h63, Nat.and_two_pow_sub_one_eq_mod]
  have hd : (p : Int) ∣ ((2 ^ 32 : Nat) : Int) := by
   rw [<- hp]
   exact Int.natCast_dvd_natCast.2 (Nat.pow_dvd_pow 2 (by omega))
  have h1 : (x % ((2 ^ 32 : Nat) : Int)) % p = x % p := Int.emod_emod_of_dvd x hd
  have h2 : 0 <= x % ((2 ^ 32 : Nat) : Int) := Int.emod_nonneg _ (by rw [show ((2 ^ 32 : Nat) : Int) = 4294967296 by decide]; omega)
  apply Int.ofNat.inj
  show (((x % ((2 ^ 32 : Nat) : Int)).toNat % 2 ^ k : Nat) : Int) = (((x % p).toNat : Nat) : Int)
  rw [Int.natCast_emod, hp, Int.toNat_of_nonneg h2, h1, Int.toNat_of_nonneg (Int.emod_nonneg _ (by omega))]
 rw [h, u32w]
 have h3 := Int.emod_nonneg x (show p ≠ 0 by omega)
 have h4 := Int.emod_lt_of_pos x (show 0 < p by omega)
 omega
theorem op_of {x : Int} : IntKind.i64.wrap (bvAnd .u32 x 63) = x % 64 := by
 rw [show (63 : Int) = 64 - 1 by decide, bvAnd32 6 64 (by decide) (by omega), i64w]
 omega
theorem reg_of {x : Int} : IntKind.i64.wrap (bvAnd .u32 x 7) = x % 8 := by
 rw [show (7 : Int) = 8 - 1 by decide, bvAnd32 3 8 (by decide) (by omega), i64w]
 omega
theorem bvOr64 {x y m : Int} (k : Nat) (p : Int) (hp : ((2 ^ k : Nat) : Int) = p) (hx : 0 <= x) (hx' : x < p) (hx2 : x < 18446744073709551616) (hy : y = p * m) (hm : 0 <= m) (hy' : y < 18446744073709551616) : bvOr .u64 x y = x + y := by
 have hpp : 0 < 2 ^ k := Nat.pow_pos (by omega)
 have hy0 : 0 <= y := by rw [hy]; exact Int.mul_nonneg (by omega) hm
 have bv : ∀ {a : Int}, 0 <= a -> a < 18446744073709551616 -> (BitVec.ofInt IntKind.u64.bits a).toNat = a.toNat := fun {a} h0 h1 => by
  have e : IntKind.u64.bits = 64 := rfl
  rw [e, BitVec.toNat_ofInt]
  omega
 unfold bvOr
 have e : (BitVec.ofInt IntKind.u64.bits x ||| BitVec.ofInt IntKind.u64.bits y).toNat = x.toNat + y.toNat := by
  rw [BitVec.toNat_or, bv hx hx2, bv hy0 hy', Nat.or_comm]
  have e1 : y.toNat = 2 ^ k * m.toNat := by
   apply Int.ofNat.inj
   show ((y.toNat : Nat) : Int) = ((2 ^ k * m.toNat : Nat) : Int)
   rw [Int.natCast_mul, hp]
   rw [show ((m.toNat : Nat) : Int) = m by omega]
   omega
  rw [e1, <- Nat.two_pow_add_eq_or_of_lt (by omega) m.toNat]
  omega
 have hl := (BitVec.ofInt IntKind.u64.bits x ||| BitVec.ofInt IntKind.u64.bits y).isLt
 rw [e] at hl ⊢
 have e2 : (2 : Nat) ^ IntKind.u64.bits = 18446744073709551616 := by decide
 rw [e2] at hl
 rw [u64w]
 omega
def decN (x f : Int) : Int :=
 if f = 8 then (if x / 64 < 33554432 then x / 64 else x / 64 - 67108864)
 else if f = 5 then (if x / 512 < 4194304 then x / 512 else x / 512 - 8388608)
 else if f = 7 then (if x / 4096 < 524288 then x / 4096 else x / 4096 - 1048576)
 else 0
def u32b (x : Int) : Prop := 0 <= x /\ x < 4294967296
theorem i32w (n : Int) : IntKind.i32.wrap n = (n + 2147483648) % 4294967296 - 2147483648 := by
 unfold IntKind.wrap
 simp [IntKind.bits, IntKind.signed]
 omega
theorem fdiv_eq (z p : Int) (hp : 0 <= p) : z.fdiv p = z / p := Int.fdiv_eq_ediv_of_nonneg _ hp
theorem dec_prog {x f : Int} (hx : u32b x) (hf : f = 8 \/ f = 5 \/ f = 7) : IntKind.i64.wrap ((IntKind.i32.wrap x).fdiv (2 ^ min (shI f).toNat 32)) = decN x f := by
 unfold u32b at hx
 rcases hf with rfl | rfl | rfl
 ·rw [show (2 : Int) ^ min (shI 8).toNat 32 = 64 by decide, fdiv_eq _ _ (by omega), i32w, i64w]
  unfold decN
  rw [if_pos rfl]
  split <;> omega
 ·rw [show (2 : Int) ^ min (shI 5).toNat 32 = 512 by decide, fdiv_eq _ _ (by omega), i32w, i64w]
  unfold decN
  rw [if_neg (by decide), if_pos rfl]
  split <;> omega
 ·rw [show (2 : Int) ^ min (shI 7).toNat 32 = 4096 by decide, fdiv_eq _ _ (by omega), i32w, i64w]
  unfold decN
  rw [if_neg (by decide), if_neg (by decide), if_pos rfl]
  split <;> omega
def wide (w1 w2 : Int) : Int := IntKind.i64.wrap (w1 + w2 * 4294967296)
theorem wide_prog {w1 w2 : Int} (h1 : u32b w1) (h2 : u32b w2) : IntKind.i64.wrap (bvOr .u64 (IntKind.u64.wrap w1) (IntKind.u64.wrap (IntKind.u64.wrap w2 * 4294967296))) = wide w1 w2 := by
 unfold u32b at h1 h2
 rw [u64w, u64w, u64w]
 rw [show w1 % 18446744073709551616 = w1 by omega, show w2 % 18446744073709551616 * 4294967296 % 18446744073709551616 = 4294967296 * w2 by omega]
 rw [bvOr64 (m := w2) 32 4294967296 (by decide) (by omega) (by omega) (by omega) rfl (by omega) (by omega)]
 unfold wide
 congr 1
 omega
def decI (x w1 w2 : Int) : In :=
 ⟨x % 64, if fA (fmI (x % 64)) then x / 64 % 8 else 0, if fB (fmI (x % 64)) then x / 512 % 8 else 0, if fmI (x % 64) = 4 then x / 4096 % 8 else 0, if fmI (x % 64) = 6 then wide w1 w2 else decN x (fmI (x % 64))⟩
def err : In × Int × Int := (⟨0, 0, 0, 0, 0⟩, 0, 204)
def dI (w : List Int) (k : Int) : In := decI (w.getD k.toNat 0) (w.getD (k.toNat + 1) 0) (w.getD (k.toNat + 2) 0)
theorem dI_def (w : List Int) (k : Int) : dI w k = decI (w.getD k.toNat 0) (w.getD (k.toNat + 1) 0) (w.getD (k.toNat + 2) 0) := rfl
def decR (w : List Int) (k : Int) : In × Int × Int :=
 if k < 0 \/ (w.length : Int) <= k then err
 else if okI (w.getD k.toNat 0 % 64) = false \/ (fmI (w.getD k.toNat 0 % 64) = 6 /\ w.length < k.toNat + 3) then err
 else if okIn (dI w k) = true /\ word1 (dI w k) = w.getD k.toNat 0 then (dI w k, if fmI (w.getD k.toNat 0 % 64) = 6 then 3 else 1, 0)
 else err
theorem wide_back {w1 w2 : Int} (h1 : u32b w1) (h2 : u32b w2) : wide w1 w2 % 4294967296 = w1 /\ wide w1 w2 % 18446744073709551616 / 4294967296 = w2 := by
 unfold u32b at h1 h2
 unfold wide
 rw [i64w]
 omega
theorem encW_decI {x w1 w2 : Int} (h1 : u32b w1) (h2 : u32b w2) : encW (decI x w1 w2) = if fmI (x % 64) = 6 then [word1 (decI x w1 w2), w1, w2] else [word1 (decI x w1 w2)] := by
 unfold encW
 show (if fmI (x % 64) = 6 then _ else _) = _
 by_cases h : fmI (x % 64) = 6
 ·rw [if_pos h, if_pos h]
  have e : (decI x w1 w2).n = wide w1 w2 := if_pos h
  rw [e, (wide_back h1 h2).1, (wide_back h1 h2).2]
 ·rw [if_neg h, if_neg h]
theorem wd_at : ∀ k : Fin 37, (rowOf ((k : Nat) + 1)).wd = if fmI ((k : Nat) + 1) = 6 then 3 else 1 := by decide +kernel
theorem wd_eq {op : Int} (h : okI op = true) : (rowOf op).wd = if fmI op = 6 then 3 else 1 := by
 unfold okI at h
 simp only [Bool.and_eq_true, decide_eq_true_eq] at h
 have e := wd_at ⟨(op - 1).toNat, by omega⟩
 have e2 : (((op - 1).toNat : Nat) : Int) + 1 = op := by omega
 simp only [e2] at e
 exact e
end Go.M30
namespace Go.M30
open Go.Pv Go.M29
theorem nb_pos (f : Int) : 0 < nbI f ↔ f = 8 \/ f = 5 \/ f = 7 := by
 unfold nbI
 repeat' (first | omega | split)
theorem decN_zero {x f : Int} (h : ¬ 0 < nbI f) : decN x f = 0 := by
 rw [nb_pos] at h
 unfold decN
 rw [if_neg (by omega), if_neg (by omega), if_neg (by omega)]
theorem dec_ref {x f : Int} (hx : u32b x) (hf : 0 < nbI f) : decN x f =
  if IntKind.i64.wrap (x.fdiv (2 ^ min (atI f).toNat 32)) >= IntKind.i64.wrap (1 * 2 ^ min (IntKind.u64.wrap (nbI f - 1)).toNat 64) then
   IntKind.i64.wrap (IntKind.i64.wrap (x.fdiv (2 ^ min (atI f).toNat 32)) - IntKind.i64.wrap (1 * 2 ^ min (nbI f).toNat 64))
  else IntKind.i64.wrap (x.fdiv (2 ^ min (atI f).toNat 32)) := by
 rw [nb_pos] at hf
 unfold u32b at hx
 rcases hf with rfl | rfl | rfl
 ·rw [show (2 : Int) ^ min (atI 8).toNat 32 = 64 by decide, show IntKind.i64.wrap (1 * 2 ^ min (IntKind.u64.wrap (nbI 8 - 1)).toNat 64) = 33554432 by decide, show IntKind.i64.wrap (1 * 2 ^ min (nbI 8).toNat 64) = 67108864 by decide, fdiv_eq _ _ (by omega)]
  simp only [i64w]
  unfold decN
  rw [if_pos rfl]
  split <;> split <;> omega
 ·rw [show (2 : Int) ^ min (atI 5).toNat 32 = 512 by decide, show IntKind.i64.wrap (1 * 2 ^ min (IntKind.u64.wrap (nbI 5 - 1)).toNat 64) = 4194304 by decide, show IntKind.i64.wrap (1 * 2 ^ min (nbI 5).toNat 64) = 8388608 by decide, fdiv_eq _ _ (by omega)]
  simp only [i64w]
  unfold decN
  rw [if_neg (by decide), if_pos rfl]
  split <;> split <;> omega
 ·rw [show (2 : Int) ^ min (atI 7).toNat 32 = 4096 by decide, show IntKind.i64.wrap (1 * 2 ^ min (IntKind.u64.wrap (nbI 7 - 1)).toNat 64) = 524288 by decide, show IntKind.i64.wrap (1 * 2 ^ min (nbI 7).toNat 64) = 1048576 by decide, fdiv_eq _ _ (by omega)]
  simp only [i64w]
  unfold decN
  rw [if_neg (by decide), if_neg (by decide), if_pos rfl]
  split <;> split <;> omega
theorem f_zero {op : Int} : fmI op = 0 ↔ okI op = false := by
 unfold fmI okI
 rw [Bool.and_eq_false_iff, decide_eq_false_iff_not, decide_eq_false_iff_not]
 repeat' (first | omega | split)
theorem f_range {op : Int} (h : okI op = true) : 1 <= fmI op /\ fmI op <= 8 := by
 unfold okI at h
 simp only [Bool.and_eq_true, decide_eq_true_eq] at h
 exact fm_range h
theorem encR_one (i : In) : encR [i] = if okIn i then (encW i, 0) else ([], 204) := by
 unfold encR
 simp
theorem encW_head (i : In) : (encW i)[0]? = some (word1 i) := by
 unfold encW
 split <;> rfl
end Go.M30
end
section
namespace Go.M30
open Go.Pv Go.M29
def flipW (w : List Int) (at' bit : Int) : List Int :=
 if w = [] then [] else w.set (at' % w.length).toNat (bvXor .u32 (w.getD (at' % w.length).toNat 0) (IntKind.u32.wrap (1 * 2 ^ min (IntKind.u64.wrap (bit % 32)).toNat 32)))
def insK (l : List Int) (m : Int) : List In := (l.take m.toNat).map kin
theorem u32xor_ne {x b : Int} (hx : u32b x) (hb : 0 <= b /\ b < 32) : bvXor .u32 x (IntKind.u32.wrap (1 * 2 ^ min (IntKind.u64.wrap b).toNat 32)) ≠ x := by
 have hbn : min (IntKind.u64.wrap b).toNat 32 = b.toNat := by rw [u64w]; omega
 rw [hbn]
 have hlt : 2 ^ b.toNat < 2 ^ 32 := Nat.pow_lt_pow_right (by omega) (by omega)
 have hp : ((2 : Int) ^ b.toNat) = ((2 ^ b.toNat : Nat) : Int) := by simp
 have h32 : (2 : Nat) ^ 32 = 4294967296 := by decide
 have hpos : 0 < 2 ^ b.toNat := Nat.pow_pos (by omega)
 rw [hp, Int.one_mul, u32w]
 generalize hq : 2 ^ b.toNat = q at *
 rw [show ((q : Int) % 4294967296) = q by omega]
 unfold u32b at hx
 intro h
 unfold bvXor at h
 have e : IntKind.u32.bits = 32 := rfl
 rw [e, BitVec.toNat_xor, BitVec.toNat_ofInt, BitVec.toNat_ofInt, u32w] at h
 have e1 : (x % ((2 ^ 32 : Nat) : Int)).toNat = x.toNat := by rw [h32]; omega
 have e2 : ((q : Int) % ((2 ^ 32 : Nat) : Int)).toNat = q := by rw [h32]; omega
 rw [e1, e2] at h
 have hl : x.toNat ^^^ q < 2 ^ 32 := Nat.xor_lt_two_pow (by omega) (by omega)
 have h3 : x.toNat ^^^ q = x.toNat := by omega
 have h4 : x.toNat ^^^ (x.toNat ^^^ q) = x.toNat ^^^ x.toNat := by rw [h3]
 rw [<- Nat.xor_assoc, Nat.xor_self, Nat.zero_xor] at h4
 omega
theorem hdr_b {op a b c : Int} (ho : 1 <= op /\ op <= 37) (ha : 0 <= a /\ a <= 7) (hb : 0 <= b /\ b <= 7) (hc : 0 <= c /\ c <= 7) : 0 <= hdr op a b c /\ hdr op a b c <= 32767 := by
 unfold hdr
 omega
theorem encW_b {i : In} (h : okIn i = true) : ∀ x ∈ encW i, u32b x := by
 obtain ⟨ho, ha, hb, hc, h8, h5, h7, hz⟩ := ok_fields h
 have h1 : u32b (word1 i) := by
  unfold word1 immW hdr u32b
  by_cases f8 : fmI i.op = 8
  ·obtain ⟨ea, eb, ec⟩ := h8 f8
   rw [if_pos f8, ea, eb, ec]; omega
  by_cases f5 : fmI i.op = 5
  ·obtain ⟨eb, ec⟩ := h5 f5
   rw [if_neg f8, if_pos f5, eb, ec]; omega
  by_cases f7 : fmI i.op = 7
  ·rw [if_neg f8, if_neg f5, if_pos f7, h7 f7]; omega
  rw [if_neg f8, if_neg f5, if_neg f7]; omega
 unfold encW
 split
 ·intro x hx
  simp only [List.mem_cons, List.not_mem_nil, or_false] at hx
  rcases hx with rfl | rfl | rfl
  ·exact h1
  ·unfold u32b; omega
  ·unfold u32b; omega
 ·intro x hx
  simp only [List.mem_cons, List.not_mem_nil, or_false] at hx
  rw [hx]
  exact h1
theorem dec_words {w : List Int} {k : Int} (hw : ∀ x ∈ w, u32b x) (h : (decR w k).2.2 = 0) :
  (0 <= k /\ k < w.length) /\ okIn (decR w k).1 = true /\ (decR w k).2.1 = (encW (decR w k).1).length /\ k.toNat + (encW (decR w k).1).length <= w.length /\ ∀ j, j < (encW (decR w k).1).length -> w[k.toNat + j]? = (encW (decR w k).1)[j]? := by
 unfold decR at h ⊢
 by_cases c1 : k < 0 \/ (w.length : Int) <= k
 ·rw [if_pos c1] at h; simp [err] at h
 rw [if_neg c1] at h ⊢
 by_cases c2 : okI (w.getD k.toNat 0 % 64) = false \/ (fmI (w.getD k.toNat 0 % 64) = 6 /\ w.length < k.toNat + 3)
 ·rw [if_pos c2] at h; simp [err] at h
 rw [if_neg c2] at h ⊢
 by_cases c3 : okIn (dI w k) = true /\ word1 (dI w k) = w.getD k.toNat 0
 ·rw [if_pos c3] at h ⊢
  have hb : ∀ i, u32b (w.getD i 0) := fun i => by
   rw [List.getD_eq_getElem?_getD]
   rcases Nat.lt_or_ge i w.length with q | q
   ·rw [List.getElem?_eq_getElem q]
    exact hw _ (List.getElem_mem q)
   ·rw [List.getElem?_eq_none q]
    exact ⟨by decide, by decide⟩
  have hE : encW (dI w k) = if fmI (w.getD k.toNat 0 % 64) = 6 then [word1 (dI w k), w.getD (k.toNat + 1) 0, w.getD (k.toNat + 2) 0] else [word1 (dI w k)] := encW_decI (hb _) (hb _)
  have gd : ∀ i, i < w.length -> w[i]? = some (w.getD i 0) := fun i q => by rw [List.getD_eq_getElem?_getD, List.getElem?_eq_getElem q]; rfl
  simp only
  refine ⟨by omega, c3.1, ?_, ?_, ?_⟩
  ·rw [hE]; split <;> rfl
  ·rw [hE]
   split
   ·rename_i q
    have : ¬ (w.length < k.toNat + 3) := fun z => c2 (.inr ⟨q, z⟩)
    simp; omega
   ·simp; omega
  ·rw [hE, c3.2]
   split
   ·rename_i q
    have : ¬ (w.length < k.toNat + 3) := fun z => c2 (.inr ⟨q, z⟩)
    intro j hj
    simp at hj
    have hj3 : j = 0 \/ j = 1 \/ j = 2 := by omega
    rcases hj3 with rfl | rfl | rfl
    ·exact gd _ (by omega)
    ·exact gd _ (by omega)
    ·exact gd _ (by omega)
   ·intro j hj
    simp at hj
    subst hj
    exact gd _ (by omega)
 ·rw [if_neg c3] at h; simp [err] at h
end Go.M30
namespace Go.M30
open Go.Pv Go.M29
theorem flipW_b {w : List Int} {a b : Int} (hw : ∀ x ∈ w, u32b x) : ∀ x ∈ flipW w a b, u32b x := by
 unfold flipW
 split
 ·intro x hx; cases hx
 ·intro x hx
  rcases List.mem_or_eq_of_mem_set hx with h | rfl
  ·exact hw x h
  ·unfold bvXor u32b
   rw [u32w]
   omega
theorem flip_ne {i : In} (h : okIn i = true) (a b : Int) : (decR (flipW (encW i) a b) 0).2.2 = 0 -> i = (decR (flipW (encW i) a b) 0).1 -> False := by
 intro h1 h2
 have hb := encW_b h
 have hpos := (encW_pos i).1
 have hne : encW i ≠ [] := fun e => by rw [e] at hpos; simp at hpos
 obtain ⟨_, _, _, _, hall⟩ := dec_words (flipW_b (a := a) (b := b) hb) h1
 rw [<- h2] at hall
 have hk0 : 0 <= a % (encW i).length := Int.emod_nonneg _ (by omega)
 have hk1 : a % (encW i).length < (encW i).length := Int.emod_lt_of_pos _ (by omega)
 have hlt : (a % (encW i).length).toNat < (encW i).length := by omega
 have h3 := hall (a % (encW i).length).toNat hlt
 unfold flipW at h3
 rw [if_neg hne] at h3
 simp only [Int.toNat_zero, Nat.zero_add, List.getElem?_set_self hlt] at h3
 rw [List.getElem?_eq_getElem hlt] at h3
 have h4 := Option.some.inj h3
 rw [List.getD_eq_getElem?_getD, List.getElem?_eq_getElem hlt] at h4
 exact u32xor_ne (hb _ (List.getElem_mem hlt)) ⟨by omega, by omega⟩ h4
end Go.M30
namespace Go.M30
open Go.Pv Go.M29
theorem flipW_len (w : List Int) (a b : Int) : (flipW w a b).length = w.length := by
 unfold flipW
 split
 ·rename_i h; rw [h]
 ·simp
theorem in_eq {x y : In} (h : (x.op == y.op && (x.a == y.a && (x.b == y.b && (x.c == y.c && (x.n == y.n && true))))) = true) : x = y := by
 simp only [Bool.and_eq_true, beq_iff_eq, and_true] at h
 obtain ⟨h1, h2, h3, h4, h5⟩ := h
 cases x; cases y
 simp_all
end Go.M30
namespace Go.M30
open Go.Pv Go.M29
theorem bvOr_b (a b : Int) : u32b (bvOr .u32 a b) := by
 unfold bvOr u32b
 rw [u32w]
 omega
theorem wrap_b (a : Int) : u32b (IntKind.u32.wrap a) := by
 unfold u32b
 rw [u32w]
 omega
theorem tmod_b {a : Int} (h : u32b a) : u32b (a.tmod 38) := by
 unfold u32b at *
 rw [Int.tmod_eq_emod_of_nonneg h.1]
 omega
def wordsC (c : IV) : Prop := ∃ (id : Option Nat) (e : Nat) (ws : List Int), c = .vslice id e ws.length 1 (ws.map (IV.int .u32)) /\ (∀ x ∈ ws, u32b x) /\ (ws.length : Int) <= 9223372036854775807
theorem dec_take {w : List Int} (hw : ∀ x ∈ w, u32b x) (h : (decR w 0).2.2 = 0) : w.take (encW (decR w 0).1).length = encW (decR w 0).1 := by
 obtain ⟨_, _, _, h4, h5⟩ := dec_words hw h
 apply List.ext_getElem?
 intro j
 rcases Nat.lt_or_ge j (encW (decR w 0).1).length with q | q
 ·rw [List.getElem?_take_of_lt q]
  have := h5 j q
  simpa using this
 ·rw [List.getElem?_eq_none (by simp; omega), List.getElem?_eq_none q]
end Go.M30
end
section
namespace Go.M30
open Go.Pv Go.M29
theorem n_range {op a b c n : Int} (h : validI op a b c n = true) :
  (fmI op = 8 -> -33554432 <= n /\ n < 33554432) /\ (fmI op = 5 -> -4194304 <= n /\ n < 4194304) /\ (fmI op = 7 -> -524288 <= n /\ n < 524288) /\ (fmI op = 6 -> -9223372036854775808 <= n /\ n <= 9223372036854775807) := by
 have ho := (ok_fields h).1
 unfold validI at h
 simp only [Bool.and_eq_true, Bool.or_eq_true, decide_eq_true_eq, Bool.not_eq_true'] at h
 have hN := h.2
 have h6 := fm6_iff op
 have hb : fN (fmI op) = true -> loI op <= n /\ n <= hiI op := fun e => by
  rcases hN with q | q
  ·rw [e] at q; cases q
  ·exact q
 have key : ∀ op : Int, (fmI op = 8 -> -33554432 <= loI op /\ hiI op < 33554432) /\ (fmI op = 5 -> -4194304 <= loI op /\ hiI op < 4194304) /\ (fmI op = 7 -> -524288 <= loI op /\ hiI op < 524288) /\ (fmI op = 6 -> -9223372036854775808 <= loI op /\ hiI op <= 9223372036854775807) := by
  intro op
  unfold fmI loI hiI
  refine ⟨fun e => ?_, fun e => ?_, fun e => ?_, fun e => ?_⟩ <;> (constructor <;> (repeat' (first | omega | split)) <;> (repeat' (first | omega | split at e)))
 obtain ⟨k1, k2, k3, k4⟩ := key op
 refine ⟨fun e => ?_, fun e => ?_, fun e => ?_, fun e => ?_⟩
 ·have := hb (by rw [e]; rfl); have := k1 e; omega
 ·have := hb (by rw [e]; rfl); have := k2 e; omega
 ·have := hb (by rw [e]; rfl); have := k3 e; omega
 ·have := hb (by rw [e]; rfl); have := k4 e; omega
end Go.M30
namespace Go.M30
open Go.Pv Go.M29
theorem word_op {op a b c n : Int} (h : validI op a b c n = true) : word1 ⟨op, a, b, c, n⟩ % 64 = op := by
 obtain ⟨ho, ha, hb, hc, h8, h5, h7, hz⟩ := ok_fields h
 unfold word1 immW hdr
 simp only
 split
 ·omega
 split
 ·omega
 split <;> omega
theorem f_cases {f : Int} (h : 1 <= f /\ f <= 8) : f = 1 \/ f = 2 \/ f = 3 \/ f = 4 \/ f = 5 \/ f = 6 \/ f = 7 \/ f = 8 := by omega
theorem zero_fields {op a b c n : Int} (h : validI op a b c n = true) : (fA (fmI op) = false -> a = 0) /\ (fB (fmI op) = false -> b = 0) /\ (fC (fmI op) = false -> c = 0) /\ (fN (fmI op) = false -> n = 0) := by
 unfold validI at h
 simp only [Bool.and_eq_true, Bool.or_eq_true, decide_eq_true_eq, beq_iff_eq, Bool.not_eq_true'] at h
 obtain ⟨⟨⟨⟨⟨⟨⟨⟨h1, h2⟩, h3⟩, h4⟩, h5⟩, h6⟩, h7⟩, h8⟩, h9⟩ := h
 refine ⟨fun e => ?_, fun e => ?_, fun e => ?_, fun e => ?_⟩
 ·rw [e] at h2; simpa using h2
 ·rw [e] at h3; simpa using h3
 ·rw [e] at h4; simpa using h4
 ·rw [e] at h5; simpa using h5
theorem decI_word {op a b c n w1 w2 : Int} (h : validI op a b c n = true) (hw : fmI op = 6 -> w1 = n % 4294967296 /\ w2 = n % 18446744073709551616 / 4294967296) : decI (word1 ⟨op, a, b, c, n⟩) w1 w2 = ⟨op, a, b, c, n⟩ := by
 have hx := word_op h
 obtain ⟨ho, ha, hb, hc, h8, h5, h7, hz⟩ := ok_fields h
 obtain ⟨n8, n5, n7, n6⟩ := n_range h
 obtain ⟨za, zb, zc, zn⟩ := zero_fields h
 unfold decI
 rw [hx]
 have hwd : word1 ⟨op, a, b, c, n⟩ = op + 64 * a + 512 * b + 4096 * c + (if fmI op = 8 then n % 67108864 * 64 else if fmI op = 5 then n % 8388608 * 512 else if fmI op = 7 then n % 1048576 * 4096 else 0) := rfl
 rw [hwd]
 have hf := f_cases (fm_range ho)
 unfold decN
 rcases hf with hf | hf | hf | hf | hf | hf | hf | hf
 all_goals simp only [hf] at *
 all_goals simp [fA, fB, fC, fN] at za zb zc zn ⊢
 ·subst za zb zc zn; simp
 ·subst zb zc zn; omega
 ·subst zc zn; omega
 ·subst zn; omega
 ·subst zb zc
  have q : (op + 64 * a + 512 * 0 + 4096 * 0 + n % 8388608 * 512) / 512 = n % 8388608 := by
   rw [show op + 64 * a + 512 * 0 + 4096 * 0 + n % 8388608 * 512 = (op + 64 * a) + n % 8388608 * 512 by omega, Int.add_mul_ediv_right _ _ (by decide), Int.ediv_eq_zero_of_lt (by omega) (by omega)]
   omega
  have q2 : (op + 64 * a + 512 * 0 + 4096 * 0 + n % 8388608 * 512) / 64 = a + n % 8388608 * 8 := by
   rw [show op + 64 * a + 512 * 0 + 4096 * 0 + n % 8388608 * 512 = op + (a + n % 8388608 * 8) * 64 by omega, Int.add_mul_ediv_right _ _ (by decide), Int.ediv_eq_zero_of_lt (by omega) (by omega)]
   omega
  have n5' := n5 trivial
  clear hwd hx
  refine ⟨by omega, ?_⟩
  rw [q]
  split <;> omega
 ·subst zb zc
  obtain ⟨e1, e2⟩ := hw trivial
  have n6' := n6 trivial
  clear hwd hx
  refine ⟨by omega, ?_⟩
  subst e1 e2
  unfold wide
  rw [i64w]
  omega
 ·subst zc
  have q : (op + 64 * a + 512 * b + 4096 * 0 + n % 1048576 * 4096) / 4096 = n % 1048576 := by
   rw [show op + 64 * a + 512 * b + 4096 * 0 + n % 1048576 * 4096 = (op + 64 * a + 512 * b) + n % 1048576 * 4096 by omega, Int.add_mul_ediv_right _ _ (by decide), Int.ediv_eq_zero_of_lt (by omega) (by omega)]
   omega
  have q1 : (op + 64 * a + 512 * b + 4096 * 0 + n % 1048576 * 4096) / 512 = b + n % 1048576 * 8 := by
   rw [show op + 64 * a + 512 * b + 4096 * 0 + n % 1048576 * 4096 = (op + 64 * a) + (b + n % 1048576 * 8) * 512 by omega, Int.add_mul_ediv_right _ _ (by decide), Int.ediv_eq_zero_of_lt (by omega) (by omega)]
   omega
  have q2 : (op + 64 * a + 512 * b + 4096 * 0 + n % 1048576 * 4096) / 64 = a + (b + n % 1048576 * 8) * 8 := by
   rw [show op + 64 * a + 512 * b + 4096 * 0 + n % 1048576 * 4096 = op + (a + (b + n % 1048576 * 8) * 8) * 64 by omega, Int.add_mul_ediv_right _ _ (by decide), Int.ediv_eq_zero_of_lt (by omega) (by omega)]
   omega
  have n7' := n7 trivial
  clear hwd hx
  refine ⟨by omega, by omega, ?_⟩
  rw [q]
  split <;> omega
 ·subst za zb zc
  have q : (op + 64 * 0 + 512 * 0 + 4096 * 0 + n % 67108864 * 64) / 64 = n % 67108864 := by
   rw [show op + 64 * 0 + 512 * 0 + 4096 * 0 + n % 67108864 * 64 = op + n % 67108864 * 64 by omega, Int.add_mul_ediv_right _ _ (by decide), Int.ediv_eq_zero_of_lt (by omega) (by omega)]
   omega
  have n8' := n8 trivial
  clear hwd hx
  rw [q]
  split <;> omega
end Go.M30
namespace Go.M30
open Go.Pv Go.M29
def insT (l : List Int) (i : Nat) : List In := (l.take i).map kin
theorem insT_len {l : List Int} {i : Nat} (h : i <= l.length) : (insT l i).length = i := by
 unfold insT
 simp
 omega
theorem insT_succ {l : List Int} {i : Nat} (h : i < l.length) : insT l (i + 1) = insT l i ++ [kin l[i]] := by
 unfold insT
 rw [<- List.take_append_getElem h, List.map_append]
 rfl
theorem insK_end {l : List Int} {m : Int} {i : Nat} (h : i <= l.length) (hm : (i : Int) <= m) (he : i = l.length \/ ¬ (i : Int) < m) : insK l m = insT l i := by
 unfold insK insT
 rcases he with rfl | he
 ·rw [List.take_of_length_le (by omega), List.take_length]
 ·rw [show m.toNat = i by omega]
theorem insK_nil {l : List Int} {m : Int} (h : l.length = 0 \/ m <= 0) : insK l m = [] := by
 unfold insK
 rcases h with h | h
 ·rw [List.eq_nil_of_length_eq_zero h]; simp
 ·rw [show m.toNat = 0 by omega]; rfl
end Go.M30
namespace Go.M30
open Go.Pv Go.M29
theorem insK_len (l : List Int) (m : Int) : (insK l m).length <= m.toNat := by
 unfold insK
 simp
 omega
theorem encR_len (l : List In) : (encR l).1.length <= 3 * l.length := by
 unfold encR
 split
 ·have := encT_le l l.length
  rwa [encT_all] at this
 ·simp
end Go.M30
end
section
namespace Go.M30
open Go.Pv Go.M29
def decAcc (w : List Int) : Nat -> Int -> List In -> List Int -> List In × List Int × Int
 | 0, _, _, _ => ([], [], 204)
 | n + 1, k, acc, pl => if k < w.length then (if (decR w k).2.2 = 0 then decAcc w n (k + (decR w k).2.1) (acc ++ [(decR w k).1]) (pl ++ [k]) else ([], [], (decR w k).2.2)) else (acc, pl, 0)
theorem decAcc_succ (w : List Int) (n : Nat) (k : Int) (acc : List In) (pl : List Int) : decAcc w (n + 1) k acc pl = if k < w.length then (if (decR w k).2.2 = 0 then decAcc w n (k + (decR w k).2.1) (acc ++ [(decR w k).1]) (pl ++ [k]) else ([], [], (decR w k).2.2)) else (acc, pl, 0) := rfl
def decA (w : List Int) : List In × List Int × Int := decAcc w (w.length + 1) 0 [] []
theorem dec_pos {w : List Int} {k : Int} (hw : ∀ x ∈ w, u32b x) (h : (decR w k).2.2 = 0) : 1 <= (decR w k).2.1 /\ (decR w k).2.1 <= 3 /\ k + (decR w k).2.1 <= w.length := by
 obtain ⟨h1, h2, h3, h4, _⟩ := dec_words hw h
 have := encW_pos (decR w k).1
 omega
theorem dec_at {w : List Int} {k : Int} {i : In} (hi : okIn i = true) (h0 : 0 <= k) (hl : k.toNat + (encW i).length <= w.length) (hk : ∀ j, j < (encW i).length -> w[k.toNat + j]? = (encW i)[j]?) : decR w k = (i, ((encW i).length : Int), 0) := by
 obtain ⟨op, a, b, c, n⟩ := i
 have hv : validI op a b c n = true := hi
 obtain ⟨ho, _⟩ := ok_fields hv
 have hpos := encW_pos ⟨op, a, b, c, n⟩
 have gd : ∀ j, w.getD j 0 = (w[j]?).getD 0 := fun j => List.getD_eq_getElem?_getD ..
 have e0 : w.getD k.toNat 0 = word1 ⟨op, a, b, c, n⟩ := by
  have := hk 0 (by omega)
  rw [Nat.add_zero] at this
  rw [gd, this, encW_head]
  rfl
 have hop := word_op hv
 have hok : okI op = true := by
  unfold okI
  simp only [Bool.and_eq_true, decide_eq_true_eq]
  exact ho
 have hD : dI w k = ⟨op, a, b, c, n⟩ := by
  rw [dI_def, e0]
  refine decI_word hv fun h6 => ?_
  have he : encW ⟨op, a, b, c, n⟩ = [word1 ⟨op, a, b, c, n⟩, n % 4294967296, n % 18446744073709551616 / 4294967296] := if_pos h6
  rw [he] at hk
  have h1 := hk 1 (by simp)
  have h2 := hk 2 (by simp)
  rw [gd, gd, h1, h2]
  exact ⟨rfl, rfl⟩
 unfold decR
 rw [if_neg (by omega), e0, hop]
 rw [if_neg (by
  rw [hok]
  simp only [Bool.true_eq_false, false_or, not_and, Nat.not_lt]
  intro h6
  have he : encW ⟨op, a, b, c, n⟩ = [word1 ⟨op, a, b, c, n⟩, n % 4294967296, n % 18446744073709551616 / 4294967296] := if_pos h6
  rw [he] at hl
  simpa using hl)]
 rw [hD, if_pos ⟨hi, rfl⟩]
 congr 2
 unfold encW
 show _ = (((if fmI op = 6 then _ else _ : List Int)).length : Int)
 split <;> rfl
def places : Int -> List In -> List Int
 | _, [] => []
 | k, i :: r => k :: places (k + (encW i).length) r
theorem dec_all : ∀ {l : List In} {pre : List Int} {n : Nat} {acc : List In} {pl : List Int}, (∀ i ∈ l, okIn i = true) -> l.length < n ->
  decAcc (pre ++ l.flatMap encW) n pre.length acc pl = (acc ++ l, pl ++ places pre.length l, 0)
 | [], pre, n + 1, acc, pl, _, _ => by
   unfold decAcc
   rw [if_neg (by simp)]
   simp [places]
 | i :: r, pre, n + 1, acc, pl, h, hn => by
   have hi := h i List.mem_cons_self
   have hd : decR (pre ++ (i :: r).flatMap encW) pre.length = (i, ((encW i).length : Int), 0) := by
    refine dec_at hi (by omega) ?_ fun j hj => ?_
    ·simp
    ·rw [show ((pre.length : Int)).toNat = pre.length from rfl, List.getElem?_append_right (by omega), List.flatMap_cons, List.getElem?_append_left (by omega)]
     congr 1
     omega
   unfold decAcc
   have hpos := (encW_pos i).1
   rw [hd, if_pos (by simp; omega), if_pos rfl]
   have ih := dec_all (l := r) (pre := pre ++ encW i) (n := n) (acc := acc ++ [i]) (pl := pl ++ [(pre.length : Int)]) (fun x hx => h x (List.mem_cons_of_mem _ hx)) (by simp at hn; omega)
   rw [List.append_assoc, <- List.flatMap_cons] at ih
   rw [show ((pre ++ encW i).length : Int) = pre.length + (encW i).length by simp] at ih
   rw [ih]
   simp [places, List.append_assoc]
theorem flat_len (l : List In) : l.length <= (l.flatMap encW).length := by
 induction l with
 | nil => simp
 | cons i r ih =>
   rw [List.flatMap_cons, List.length_append, List.length_cons]
   have := (encW_pos i).1
   omega
theorem decA_enc {l : List In} (h : ∀ i ∈ l, okIn i = true) : decA (l.flatMap encW) = (l, places 0 l, 0) := by
 have := dec_all (l := l) (pre := []) (n := (l.flatMap encW).length + 1) (acc := []) (pl := []) h (by have := flat_len l; omega)
 exact this
theorem places_len : ∀ (k : Int) (l : List In), (places k l).length = l.length
 | _, [] => rfl
 | k, i :: r => by simp [places, places_len]
theorem places_up : ∀ {l : List In} {k : Int} {j : Nat} (h : j + 1 < (places k l).length), (places k l)[j]'(by omega) < (places k l)[j + 1]
 | i :: i' :: r, k, 0, _ => by
   have := (encW_pos i).1
   simp only [places, List.getElem_cons_zero, List.getElem_cons_succ]
   omega
 | i :: r, k, j + 1, h => by
   simp only [places, List.getElem_cons_succ]
   exact places_up (l := r) (k := k + (encW i).length) (by simpa [places] using h)
theorem places_head {l : List In} {k : Int} (h : 0 < (places k l).length) : (places k l)[0] = k := by
 cases l with
 | nil => simp [places] at h
 | cons i r => rfl
end Go.M30
end
section
set_option linter.unusedVariables false
namespace Go.M30
open Go.Pv Go.M29
theorem decAcc_ok {w : List Int} (hw : ∀ x ∈ w, u32b x) : ∀ (n : Nat) (k : Int) (acc : List In) (pl : List Int), (decAcc w n k acc pl).2.2 = 0 ->
  (∀ i ∈ acc, okIn i = true) -> (∀ p ∈ pl, 0 <= p /\ p < w.length) -> acc.length = pl.length ->
  (∀ i ∈ (decAcc w n k acc pl).1, okIn i = true) /\ (∀ p ∈ (decAcc w n k acc pl).2.1, 0 <= p /\ p < w.length) /\ (decAcc w n k acc pl).1.length = (decAcc w n k acc pl).2.1.length /\ (acc ≠ [] \/ k < w.length -> (decAcc w n k acc pl).1 ≠ [])
 | 0, k, acc, pl, h, _, _, _ => by simp [decAcc] at h
 | n + 1, k, acc, pl, h, ha, hp, hl => by
   rw [decAcc_succ] at h ⊢
   by_cases c1 : k < w.length
   ·rw [if_pos c1] at h ⊢
    by_cases c2 : (decR w k).2.2 = 0
    ·rw [if_pos c2] at h ⊢
     obtain ⟨q1, q2, _⟩ := dec_words hw c2
     have ih := decAcc_ok hw n _ _ _ h (fun i hi => by
       rcases List.mem_append.1 hi with z | z
       ·exact ha i z
       ·rw [List.mem_singleton] at z; rw [z]; exact q2)
      (fun p hp' => by
       rcases List.mem_append.1 hp' with z | z
       ·exact hp p z
       ·rw [List.mem_singleton] at z; rw [z]; exact q1)
      (by simp [hl])
     exact ⟨ih.1, ih.2.1, ih.2.2.1, fun _ => ih.2.2.2 (.inl (by simp))⟩
    ·rw [if_neg c2] at h
     exact absurd h c2
   ·rw [if_neg c1]
    exact ⟨ha, hp, hl, fun z => z.elim id fun z => absurd z c1⟩
theorem decA_ok {w : List Int} (hw : ∀ x ∈ w, u32b x) (h : (decA w).2.2 = 0) :
  (∀ i ∈ (decA w).1, okIn i = true) /\ (∀ p ∈ (decA w).2.1, 0 <= p /\ p < w.length) /\ (decA w).1.length = (decA w).2.1.length /\ (w ≠ [] -> (decA w).1 ≠ []) := by
 obtain ⟨h1, h2, h3, h4⟩ := decAcc_ok hw (w.length + 1) 0 [] [] h (by simp) (by simp) rfl
 refine ⟨h1, h2, h3, fun hne => h4 (.inr ?_)⟩
 have := List.length_pos_iff.2 hne
 omega
structure Bi where
 w : List Int
 e : List Int
 p : List Int
 s : List Int
 a : List Int
def St (w : List Int) (n : Int) : Prop := n ∈ (decA w).2.1
def bools (w pl : List Int) : List Bool := (List.range w.length).map fun (j : Nat) => decide ((j : Int) ∈ pl)
theorem bools_len (w pl : List Int) : (bools w pl).length = w.length := by simp [bools]
theorem bools_at {w pl : List Int} {j : Nat} (h : j < (bools w pl).length) : (bools w pl)[j] = decide ((j : Int) ∈ pl) := by simp [bools]
theorem bools_snoc {w l : List Int} {p : Int} (h0 : 0 <= p) (h1 : p < w.length) : bools w (l ++ [p]) = (bools w l).set p.toNat true := by
 apply List.ext_getElem
 ·simp [bools]
 ·intro j q1 q2
  rw [bools_at, List.getElem_set, bools_at]
  by_cases hj : p.toNat = j
  ·rw [if_pos hj]
   have : (j : Int) = p := by omega
   simp [this]
  ·rw [if_neg hj]
   have hne : ¬ (j : Int) = p := by omega
   simp [hne]
theorem bools_take {w pl : List Int} {x : Nat} (hx : x < pl.length) (h0 : 0 <= pl[x]) (h1 : pl[x] < w.length) :
  (bools w (pl.take x)).map IV.bool |>.take pl[x].toNat |> (· ++ [IV.bool true] ++ ((bools w (pl.take x)).map IV.bool).drop (pl[x].toNat + 1)) |> (· = (bools w (pl.take (x + 1))).map IV.bool) := by
 have hl : pl[x].toNat < ((bools w (pl.take x)).map IV.bool).length := by simp [bools]; omega
 rw [List.take_succ_eq_append_getElem hx, bools_snoc h0 h1, List.map_set, List.set_eq_take_append_cons_drop, if_pos hl]
 simp
theorem bools_nil (w : List Int) : (bools w []).map IV.bool = List.replicate w.length (IV.bool false) := by
 apply List.ext_getElem
 ·simp [bools]
 ·intro j q1 q2
  simp [bools]
def okE (b : Bi) (k : Nat) : Prop := ∃ x y z, b.e[k]? = some x /\ b.p[k]? = some y /\ b.s[k]? = some z /\ St b.w x /\ (0 <= y /\ y <= 6) /\ (0 <= z /\ z <= 3000)
def okA (b : Bi) (k : Nat) : Prop := ∃ x, b.a[k]? = some x /\ 1 <= x /\ x <= 16
def okJ (b : Bi) (i : In) (pl : Int) : Prop := ((i.op = 5 \/ i.op = 7 \/ i.op = 8) -> St b.w (IntKind.i64.wrap (pl + i.n))) /\ (i.op = 6 -> i.n < b.e.length /\ b.p[i.n.toNat]? = some i.a) /\ ((i.op = 34 \/ i.op = 35) -> i.n < b.a.length)
def okK (b : Bi) (k : Nat) : Prop := ∃ i q, (decA b.w).1[k]? = some i /\ (decA b.w).2.1[k]? = some q /\ okJ b i q
def VB (b : Bi) : Prop := (1 <= b.w.length /\ b.w.length <= 60000) /\ (1 <= b.e.length /\ b.e.length <= 8) /\ b.p.length = b.e.length /\ b.s.length = b.e.length /\ b.a.length <= 4 /\ (decA b.w).2.2 = 0 /\
 (∀ i, (decA b.w).1.getLast? = some i -> (cfl i.op i.a i.b i.c i.n).1 = false) /\ (∀ k, k < b.e.length -> okE b k) /\ (∀ k, k < b.a.length -> okA b k) /\ (∀ k, k < (decA b.w).1.length -> okK b k)
end Go.M30
end
