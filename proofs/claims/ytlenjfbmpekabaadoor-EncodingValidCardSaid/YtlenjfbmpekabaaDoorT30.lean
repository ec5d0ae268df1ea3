/-
  Machine words: all instructions decoded, in plain Lean.
  Conditions: none.
-/
import Derived.Test.YtlenjfbmpekabaaDoorR30
namespace Go.M30
open Go.Pv Go.M29
def decAcc (w : List Int) : Nat → Int → List In → List Int → List In × List Int × Int
  | 0, _, _, _ => ([], [], 204)
  | n + 1, k, acc, pl => if k < w.length then (if (decR w k).2.2 = 0 then decAcc w n (k + (decR w k).2.1) (acc ++ [(decR w k).1]) (pl ++ [k]) else ([], [], (decR w k).2.2)) else (acc, pl, 0)
theorem decAcc_succ (w : List Int) (n : Nat) (k : Int) (acc : List In) (pl : List Int) : decAcc w (n + 1) k acc pl = if k < w.length then (if (decR w k).2.2 = 0 then decAcc w n (k + (decR w k).2.1) (acc ++ [(decR w k).1]) (pl ++ [k]) else ([], [], (decR w k).2.2)) else (acc, pl, 0) := rfl
def decA (w : List Int) : List In × List Int × Int := decAcc w (w.length + 1) 0 [] []
theorem dec_pos {w : List Int} {k : Int} (hw : ∀ x ∈ w, u32b x) (h : (decR w k).2.2 = 0) : 1 ≤ (decR w k).2.1 ∧ (decR w k).2.1 ≤ 3 ∧ k + (decR w k).2.1 ≤ w.length := by
  obtain ⟨h1, h2, h3, h4, _⟩ := dec_words hw h
  have := encW_pos (decR w k).1
  omega
/-- an instruction's words at a place decode to it -/
theorem dec_at {w : List Int} {k : Int} {i : In} (hi : okIn i = true) (h0 : 0 ≤ k) (hl : k.toNat + (encW i).length ≤ w.length) (hk : ∀ j, j < (encW i).length → w[k.toNat + j]? = (encW i)[j]?) : decR w k = (i, ((encW i).length : Int), 0) := by
  obtain ⟨op, a, b, c, n⟩ := i
  have hv : validI op a b c n = true := hi
  obtain ⟨ho, _⟩ := ok_fields hv
  have hpos := encW_pos ⟨op, a, b, c, n⟩
  have gd : ∀ j, w.getD j 0 = (w[j]?).getD 0 := fun j => List.getD_eq_getElem?_getD ..
  have e0 : w.getD k.toNat 0 = word1 ⟨op, a, b, c, n⟩ := by
    have := hk 0 (by omega)
    rw [Nat.add_zero] at this
    rw [gd, this, encW_head]
    rfl
  have hop := word_op hv
  have hok : okI op = true := by
    unfold okI
    simp only [Bool.and_eq_true, decide_eq_true_eq]
    exact ho
  have hD : dI w k = ⟨op, a, b, c, n⟩ := by
    rw [dI_def, e0]
    refine decI_word hv fun h6 => ?_
    have he : encW ⟨op, a, b, c, n⟩ = [word1 ⟨op, a, b, c, n⟩, n % 4294967296, n % 18446744073709551616 / 4294967296] := if_pos h6
    rw [he] at hk
    have h1 := hk 1 (by simp)
    have h2 := hk 2 (by simp)
    rw [gd, gd, h1, h2]
    exact ⟨rfl, rfl⟩
  unfold decR
  rw [if_neg (by omega), e0, hop]
  rw [if_neg (by
    rw [hok]
    simp only [Bool.true_eq_false, false_or, not_and, Nat.not_lt]
    intro h6
    have he : encW ⟨op, a, b, c, n⟩ = [word1 ⟨op, a, b, c, n⟩, n % 4294967296, n % 18446744073709551616 / 4294967296] := if_pos h6
    rw [he] at hl
    simpa using hl)]
  rw [hD, if_pos ⟨hi, rfl⟩]
  congr 2
  unfold encW
  show _ = (((if fmI op = 6 then _ else _ : List Int)).length : Int)
  split <;> rfl
/-- the places of instructions, one after the other -/
def places : Int → List In → List Int
  | _, [] => []
  | k, i :: r => k :: places (k + (encW i).length) r
theorem dec_all : ∀ {l : List In} {pre : List Int} {n : Nat} {acc : List In} {pl : List Int}, (∀ i ∈ l, okIn i = true) → l.length < n →
    decAcc (pre ++ l.flatMap encW) n pre.length acc pl = (acc ++ l, pl ++ places pre.length l, 0)
  | [], pre, n + 1, acc, pl, _, _ => by
    unfold decAcc
    rw [if_neg (by simp)]
    simp [places]
  | i :: r, pre, n + 1, acc, pl, h, hn => by
    have hi := h i List.mem_cons_self
    have hd : decR (pre ++ (i :: r).flatMap encW) pre.length = (i, ((encW i).length : Int), 0) := by
      refine dec_at hi (by omega) ?_ fun j hj => ?_
      · simp
      · rw [show ((pre.length : Int)).toNat = pre.length from rfl, List.getElem?_append_right (by omega), List.flatMap_cons, List.getElem?_append_left (by omega)]
        congr 1
        omega
    unfold decAcc
    have hpos := (encW_pos i).1
    rw [hd, if_pos (by simp; omega), if_pos rfl]
    have ih := dec_all (l := r) (pre := pre ++ encW i) (n := n) (acc := acc ++ [i]) (pl := pl ++ [(pre.length : Int)]) (fun x hx => h x (List.mem_cons_of_mem _ hx)) (by simp at hn; omega)
    rw [List.append_assoc, ← List.flatMap_cons] at ih
    rw [show ((pre ++ encW i).length : Int) = pre.length + (encW i).length by simp] at ih
    rw [ih]
    simp [places, List.append_assoc]
theorem flat_len (l : List In) : l.length ≤ (l.flatMap encW).length := by
  induction l with
  | nil => simp
  | cons i r ih =>
    rw [List.flatMap_cons, List.length_append, List.length_cons]
    have := (encW_pos i).1
    omega
theorem decA_enc {l : List In} (h : ∀ i ∈ l, okIn i = true) : decA (l.flatMap encW) = (l, places 0 l, 0) := by
  have := dec_all (l := l) (pre := []) (n := (l.flatMap encW).length + 1) (acc := []) (pl := []) h (by have := flat_len l; omega)
  exact this
theorem places_len : ∀ (k : Int) (l : List In), (places k l).length = l.length
  | _, [] => rfl
  | k, i :: r => by simp [places, places_len]
/-- the places ascend -/
theorem places_up : ∀ {l : List In} {k : Int} {j : Nat} (h : j + 1 < (places k l).length), (places k l)[j]'(by omega) < (places k l)[j + 1]
  | i :: i' :: r, k, 0, _ => by
    have := (encW_pos i).1
    simp only [places, List.getElem_cons_zero, List.getElem_cons_succ]
    omega
  | i :: r, k, j + 1, h => by
    simp only [places, List.getElem_cons_succ]
    exact places_up (l := r) (k := k + (encW i).length) (by simpa [places] using h)
theorem places_head {l : List In} {k : Int} (h : 0 < (places k l).length) : (places k l)[0] = k := by
  cases l with
  | nil => simp [places] at h
  | cons i r => rfl
end Go.M30
