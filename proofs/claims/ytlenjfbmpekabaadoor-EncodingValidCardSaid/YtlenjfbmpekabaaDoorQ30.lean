/-
  Machine words: flipped bits, instructions of seeds, in plain Lean.
  Conditions: none.
-/
import Derived.Test.YtlenjfbmpekabaaDoorP30
namespace Go.M30
open Go.Pv Go.M29
def flipW (w : List Int) (at' bit : Int) : List Int :=
  if w = [] then [] else w.set (at' % w.length).toNat (bvXor .u32 (w.getD (at' % w.length).toNat 0) (IntKind.u32.wrap (1 * 2 ^ min (IntKind.u64.wrap (bit % 32)).toNat 32)))
def insK (l : List Int) (m : Int) : List In := (l.take m.toNat).map kin
theorem u32xor_ne {x b : Int} (hx : u32b x) (hb : 0 ≤ b ∧ b < 32) : bvXor .u32 x (IntKind.u32.wrap (1 * 2 ^ min (IntKind.u64.wrap b).toNat 32)) ≠ x := by
  have hbn : min (IntKind.u64.wrap b).toNat 32 = b.toNat := by rw [u64w]; omega
  rw [hbn]
  have hlt : 2 ^ b.toNat < 2 ^ 32 := Nat.pow_lt_pow_right (by omega) (by omega)
  have hp : ((2 : Int) ^ b.toNat) = ((2 ^ b.toNat : Nat) : Int) := by simp
  have h32 : (2 : Nat) ^ 32 = 4294967296 := by decide
  have hpos : 0 < 2 ^ b.toNat := Nat.pow_pos (by omega)
  rw [hp, Int.one_mul, u32w]
  generalize hq : 2 ^ b.toNat = q at *
  rw [show ((q : Int) % 4294967296) = q by omega]
  unfold u32b at hx
  intro h
  unfold bvXor at h
  have e : IntKind.u32.bits = 32 := rfl
  rw [e, BitVec.toNat_xor, BitVec.toNat_ofInt, BitVec.toNat_ofInt, u32w] at h
  have e1 : (x % ((2 ^ 32 : Nat) : Int)).toNat = x.toNat := by rw [h32]; omega
  have e2 : ((q : Int) % ((2 ^ 32 : Nat) : Int)).toNat = q := by rw [h32]; omega
  rw [e1, e2] at h
  have hl : x.toNat ^^^ q < 2 ^ 32 := Nat.xor_lt_two_pow (by omega) (by omega)
  have h3 : x.toNat ^^^ q = x.toNat := by omega
  have h4 : x.toNat ^^^ (x.toNat ^^^ q) = x.toNat ^^^ x.toNat := by rw [h3]
  rw [← Nat.xor_assoc, Nat.xor_self, Nat.zero_xor] at h4
  omega
theorem hdr_b {op a b c : Int} (ho : 1 ≤ op ∧ op ≤ 37) (ha : 0 ≤ a ∧ a ≤ 7) (hb : 0 ≤ b ∧ b ≤ 7) (hc : 0 ≤ c ∧ c ≤ 7) : 0 ≤ hdr op a b c ∧ hdr op a b c ≤ 32767 := by
  unfold hdr
  omega
/-- the words of a valid instruction are words -/
theorem encW_b {i : In} (h : okIn i = true) : ∀ x ∈ encW i, u32b x := by
  obtain ⟨ho, ha, hb, hc, h8, h5, h7, hz⟩ := ok_fields h
  have h1 : u32b (word1 i) := by
    unfold word1 immW hdr u32b
    by_cases f8 : fmI i.op = 8
    · obtain ⟨ea, eb, ec⟩ := h8 f8
      rw [if_pos f8, ea, eb, ec]; omega
    by_cases f5 : fmI i.op = 5
    · obtain ⟨eb, ec⟩ := h5 f5
      rw [if_neg f8, if_pos f5, eb, ec]; omega
    by_cases f7 : fmI i.op = 7
    · rw [if_neg f8, if_neg f5, if_pos f7, h7 f7]; omega
    rw [if_neg f8, if_neg f5, if_neg f7]; omega
  unfold encW
  split
  · intro x hx
    simp only [List.mem_cons, List.not_mem_nil, or_false] at hx
    rcases hx with rfl | rfl | rfl
    · exact h1
    · unfold u32b; omega
    · unfold u32b; omega
  · intro x hx
    simp only [List.mem_cons, List.not_mem_nil, or_false] at hx
    rw [hx]
    exact h1
/-- what decodes is the encoding of what it decodes to -/
theorem dec_words {w : List Int} {k : Int} (hw : ∀ x ∈ w, u32b x) (h : (decR w k).2.2 = 0) :
    (0 ≤ k ∧ k < w.length) ∧ okIn (decR w k).1 = true ∧ (decR w k).2.1 = (encW (decR w k).1).length ∧ k.toNat + (encW (decR w k).1).length ≤ w.length ∧ ∀ j, j < (encW (decR w k).1).length → w[k.toNat + j]? = (encW (decR w k).1)[j]? := by
  unfold decR at h ⊢
  by_cases c1 : k < 0 ∨ (w.length : Int) ≤ k
  · rw [if_pos c1] at h; simp [err] at h
  rw [if_neg c1] at h ⊢
  by_cases c2 : okI (w.getD k.toNat 0 % 64) = false ∨ (fmI (w.getD k.toNat 0 % 64) = 6 ∧ w.length < k.toNat + 3)
  · rw [if_pos c2] at h; simp [err] at h
  rw [if_neg c2] at h ⊢
  by_cases c3 : okIn (dI w k) = true ∧ word1 (dI w k) = w.getD k.toNat 0
  · rw [if_pos c3] at h ⊢
    have hb : ∀ i, u32b (w.getD i 0) := fun i => by
      rw [List.getD_eq_getElem?_getD]
      rcases Nat.lt_or_ge i w.length with q | q
      · rw [List.getElem?_eq_getElem q]
        exact hw _ (List.getElem_mem q)
      · rw [List.getElem?_eq_none q]
        exact ⟨by decide, by decide⟩
    have hE : encW (dI w k) = if fmI (w.getD k.toNat 0 % 64) = 6 then [word1 (dI w k), w.getD (k.toNat + 1) 0, w.getD (k.toNat + 2) 0] else [word1 (dI w k)] := encW_decI (hb _) (hb _)
    have gd : ∀ i, i < w.length → w[i]? = some (w.getD i 0) := fun i q => by rw [List.getD_eq_getElem?_getD, List.getElem?_eq_getElem q]; rfl
    simp only
    refine ⟨by omega, c3.1, ?_, ?_, ?_⟩
    · rw [hE]; split <;> rfl
    · rw [hE]
      split
      · rename_i q
        have : ¬ (w.length < k.toNat + 3) := fun z => c2 (.inr ⟨q, z⟩)
        simp; omega
      · simp; omega
    · rw [hE, c3.2]
      split
      · rename_i q
        have : ¬ (w.length < k.toNat + 3) := fun z => c2 (.inr ⟨q, z⟩)
        intro j hj
        simp at hj
        have hj3 : j = 0 ∨ j = 1 ∨ j = 2 := by omega
        rcases hj3 with rfl | rfl | rfl
        · exact gd _ (by omega)
        · exact gd _ (by omega)
        · exact gd _ (by omega)
      · intro j hj
        simp at hj
        subst hj
        exact gd _ (by omega)
  · rw [if_neg c3] at h; simp [err] at h
end Go.M30
namespace Go.M30
open Go.Pv Go.M29
theorem flipW_b {w : List Int} {a b : Int} (hw : ∀ x ∈ w, u32b x) : ∀ x ∈ flipW w a b, u32b x := by
  unfold flipW
  split
  · intro x hx; cases hx
  · intro x hx
    rcases List.mem_or_eq_of_mem_set hx with h | rfl
    · exact hw x h
    · unfold bvXor u32b
      rw [u32w]
      omega
/-- a flipped bit makes another word -/
theorem flip_ne {i : In} (h : okIn i = true) (a b : Int) : (decR (flipW (encW i) a b) 0).2.2 = 0 → i = (decR (flipW (encW i) a b) 0).1 → False := by
  intro h1 h2
  have hb := encW_b h
  have hpos := (encW_pos i).1
  have hne : encW i ≠ [] := fun e => by rw [e] at hpos; simp at hpos
  obtain ⟨_, _, _, _, hall⟩ := dec_words (flipW_b (a := a) (b := b) hb) h1
  rw [← h2] at hall
  have hk0 : 0 ≤ a % (encW i).length := Int.emod_nonneg _ (by omega)
  have hk1 : a % (encW i).length < (encW i).length := Int.emod_lt_of_pos _ (by omega)
  have hlt : (a % (encW i).length).toNat < (encW i).length := by omega
  have h3 := hall (a % (encW i).length).toNat hlt
  unfold flipW at h3
  rw [if_neg hne] at h3
  simp only [Int.toNat_zero, Nat.zero_add, List.getElem?_set_self hlt] at h3
  rw [List.getElem?_eq_getElem hlt] at h3
  have h4 := Option.some.inj h3
  rw [List.getD_eq_getElem?_getD, List.getElem?_eq_getElem hlt] at h4
  exact u32xor_ne (hb _ (List.getElem_mem hlt)) ⟨by omega, by omega⟩ h4
end Go.M30
namespace Go.M30
open Go.Pv Go.M29
theorem flipW_len (w : List Int) (a b : Int) : (flipW w a b).length = w.length := by
  unfold flipW
  split
  · rename_i h; rw [h]
  · simp
theorem in_eq {x y : In} (h : (x.op == y.op && (x.a == y.a && (x.b == y.b && (x.c == y.c && (x.n == y.n && true))))) = true) : x = y := by
  simp only [Bool.and_eq_true, beq_iff_eq, and_true] at h
  obtain ⟨h1, h2, h3, h4, h5⟩ := h
  cases x; cases y
  simp_all
end Go.M30
namespace Go.M30
open Go.Pv Go.M29
theorem bvOr_b (a b : Int) : u32b (bvOr .u32 a b) := by
  unfold bvOr u32b
  rw [u32w]
  omega
theorem wrap_b (a : Int) : u32b (IntKind.u32.wrap a) := by
  unfold u32b
  rw [u32w]
  omega
theorem tmod_b {a : Int} (h : u32b a) : u32b (a.tmod 38) := by
  unfold u32b at *
  rw [Int.tmod_eq_emod_of_nonneg h.1]
  omega
/-- cells that are words -/
def wordsC (c : IV) : Prop := ∃ (id : Option Nat) (e : Nat) (ws : List Int), c = .vslice id e ws.length 1 (ws.map (IV.int .u32)) ∧ (∀ x ∈ ws, u32b x) ∧ (ws.length : Int) ≤ 9223372036854775807
theorem dec_take {w : List Int} (hw : ∀ x ∈ w, u32b x) (h : (decR w 0).2.2 = 0) : w.take (encW (decR w 0).1).length = encW (decR w 0).1 := by
  obtain ⟨_, _, _, h4, h5⟩ := dec_words hw h
  apply List.ext_getElem?
  intro j
  rcases Nat.lt_or_ge j (encW (decR w 0).1).length with q | q
  · rw [List.getElem?_take_of_lt q]
    have := h5 j q
    simpa using this
  · rw [List.getElem?_eq_none (by simp; omega), List.getElem?_eq_none q]
end Go.M30
