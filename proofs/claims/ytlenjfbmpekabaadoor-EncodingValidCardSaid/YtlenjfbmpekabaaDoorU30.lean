/-
  Machine words: valid binaries, in plain Lean.
  Conditions: none.
-/
import Derived.Test.YtlenjfbmpekabaaDoorT30
set_option linter.unusedVariables false
namespace Go.M30
open Go.Pv Go.M29
/-- what decodes is made of valid instructions, their places lie among the words -/
theorem decAcc_ok {w : List Int} (hw : ∀ x ∈ w, u32b x) : ∀ (n : Nat) (k : Int) (acc : List In) (pl : List Int), (decAcc w n k acc pl).2.2 = 0 →
    (∀ i ∈ acc, okIn i = true) → (∀ p ∈ pl, 0 ≤ p ∧ p < w.length) → acc.length = pl.length →
    (∀ i ∈ (decAcc w n k acc pl).1, okIn i = true) ∧ (∀ p ∈ (decAcc w n k acc pl).2.1, 0 ≤ p ∧ p < w.length) ∧ (decAcc w n k acc pl).1.length = (decAcc w n k acc pl).2.1.length ∧ (acc ≠ [] ∨ k < w.length → (decAcc w n k acc pl).1 ≠ [])
  | 0, k, acc, pl, h, _, _, _ => by simp [decAcc] at h
  | n + 1, k, acc, pl, h, ha, hp, hl => by
    rw [decAcc_succ] at h ⊢
    by_cases c1 : k < w.length
    · rw [if_pos c1] at h ⊢
      by_cases c2 : (decR w k).2.2 = 0
      · rw [if_pos c2] at h ⊢
        obtain ⟨q1, q2, _⟩ := dec_words hw c2
        have ih := decAcc_ok hw n _ _ _ h (fun i hi => by
            rcases List.mem_append.1 hi with z | z
            · exact ha i z
            · rw [List.mem_singleton] at z; rw [z]; exact q2)
          (fun p hp' => by
            rcases List.mem_append.1 hp' with z | z
            · exact hp p z
            · rw [List.mem_singleton] at z; rw [z]; exact q1)
          (by simp [hl])
        exact ⟨ih.1, ih.2.1, ih.2.2.1, fun _ => ih.2.2.2 (.inl (by simp))⟩
      · rw [if_neg c2] at h
        exact absurd h c2
    · rw [if_neg c1]
      exact ⟨ha, hp, hl, fun z => z.elim id fun z => absurd z c1⟩
theorem decA_ok {w : List Int} (hw : ∀ x ∈ w, u32b x) (h : (decA w).2.2 = 0) :
    (∀ i ∈ (decA w).1, okIn i = true) ∧ (∀ p ∈ (decA w).2.1, 0 ≤ p ∧ p < w.length) ∧ (decA w).1.length = (decA w).2.1.length ∧ (w ≠ [] → (decA w).1 ≠ []) := by
  obtain ⟨h1, h2, h3, h4⟩ := decAcc_ok hw (w.length + 1) 0 [] [] h (by simp) (by simp) rfl
  refine ⟨h1, h2, h3, fun hne => h4 (.inr ?_)⟩
  have := List.length_pos_iff.2 hne
  omega
/-- a binary -/
structure Bi where
  w : List Int
  e : List Int
  p : List Int
  s : List Int
  a : List Int
def St (w : List Int) (n : Int) : Prop := n ∈ (decA w).2.1
/-- where instructions start, word by word -/
def bools (w pl : List Int) : List Bool := (List.range w.length).map fun (j : Nat) => decide ((j : Int) ∈ pl)
theorem bools_len (w pl : List Int) : (bools w pl).length = w.length := by simp [bools]
theorem bools_at {w pl : List Int} {j : Nat} (h : j < (bools w pl).length) : (bools w pl)[j] = decide ((j : Int) ∈ pl) := by simp [bools]
theorem bools_snoc {w l : List Int} {p : Int} (h0 : 0 ≤ p) (h1 : p < w.length) : bools w (l ++ [p]) = (bools w l).set p.toNat true := by
  apply List.ext_getElem
  · simp [bools]
  · intro j q1 q2
    rw [bools_at, List.getElem_set, bools_at]
    by_cases hj : p.toNat = j
    · rw [if_pos hj]
      have : (j : Int) = p := by omega
      simp [this]
    · rw [if_neg hj]
      have hne : ¬ (j : Int) = p := by omega
      simp [hne]
theorem bools_take {w pl : List Int} {x : Nat} (hx : x < pl.length) (h0 : 0 ≤ pl[x]) (h1 : pl[x] < w.length) :
    (bools w (pl.take x)).map IV.bool |>.take pl[x].toNat |> (· ++ [IV.bool true] ++ ((bools w (pl.take x)).map IV.bool).drop (pl[x].toNat + 1)) |> (· = (bools w (pl.take (x + 1))).map IV.bool) := by
  have hl : pl[x].toNat < ((bools w (pl.take x)).map IV.bool).length := by simp [bools]; omega
  rw [List.take_succ_eq_append_getElem hx, bools_snoc h0 h1, List.map_set, List.set_eq_take_append_cons_drop, if_pos hl]
  simp
theorem bools_nil (w : List Int) : (bools w []).map IV.bool = List.replicate w.length (IV.bool false) := by
  apply List.ext_getElem
  · simp [bools]
  · intro j q1 q2
    simp [bools]
def okE (b : Bi) (k : Nat) : Prop := ∃ x y z, b.e[k]? = some x ∧ b.p[k]? = some y ∧ b.s[k]? = some z ∧ St b.w x ∧ (0 ≤ y ∧ y ≤ 6) ∧ (0 ≤ z ∧ z ≤ 3000)
def okA (b : Bi) (k : Nat) : Prop := ∃ x, b.a[k]? = some x ∧ 1 ≤ x ∧ x ≤ 16
def okJ (b : Bi) (i : In) (pl : Int) : Prop := ((i.op = 5 ∨ i.op = 7 ∨ i.op = 8) → St b.w (IntKind.i64.wrap (pl + i.n))) ∧ (i.op = 6 → i.n < b.e.length ∧ b.p[i.n.toNat]? = some i.a) ∧ ((i.op = 34 ∨ i.op = 35) → i.n < b.a.length)
def okK (b : Bi) (k : Nat) : Prop := ∃ i q, (decA b.w).1[k]? = some i ∧ (decA b.w).2.1[k]? = some q ∧ okJ b i q
/-- a valid binary -/
def VB (b : Bi) : Prop := (1 ≤ b.w.length ∧ b.w.length ≤ 60000) ∧ (1 ≤ b.e.length ∧ b.e.length ≤ 8) ∧ b.p.length = b.e.length ∧ b.s.length = b.e.length ∧ b.a.length ≤ 4 ∧ (decA b.w).2.2 = 0 ∧
  (∀ i, (decA b.w).1.getLast? = some i → (cfl i.op i.a i.b i.c i.n).1 = false) ∧ (∀ k, k < b.e.length → okE b k) ∧ (∀ k, k < b.a.length → okA b k) ∧ (∀ k, k < (decA b.w).1.length → okK b k)
end Go.M30
