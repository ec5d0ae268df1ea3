/-
  The conditions of rules over intervals, in plain Lean.
  Conditions: none.
-/
import Derived.Test.YtebalpbbpkkplaaGreatPvVS
import Derived.Test.YtebalpbbpkkplaaGreatM13
set_option linter.unusedVariables false
namespace Go.M14
open Go.Pv Go.M13
abbrev IvL := List (Int × Int)
def cR (r : Int × Int) : List IV := [.int .i64 r.1, .int .i64 r.2]
theorem cH_at : ∀ {H : List (Int × Int)} {j : Nat} (h : j < H.length), (H.flatMap cR)[j * 2]? = some (.int .i64 H[j].1) ∧ (H.flatMap cR)[j * 2 + 1]? = some (.int .i64 H[j].2)
  | r :: H, 0, _ => ⟨rfl, rfl⟩
  | r :: H, j + 1, h => by
    have q := cH_at (H := H) (j := j) (by simpa using h)
    have e : ∀ k, ((r :: H).flatMap cR)[k + 2]? = (H.flatMap cR)[k]? := fun k => by
      show (cR r ++ H.flatMap cR)[k + 2]? = _
      rw [List.getElem?_append_right (by simp [cR])]
      simp [cR]
    rw [show (j + 1) * 2 = j * 2 + 2 by omega, show j * 2 + 2 + 1 = (j * 2 + 1) + 2 by omega, e, e]
    exact q
theorem pureL_cH : ∀ H : List (Int × Int), pureL (H.flatMap cR) = true
  | [] => rfl
  | r :: H => by
    have := pureL_cH H
    simp only [List.flatMap_cons, cR, List.cons_append, List.nil_append, pureL, pureB, this, Bool.and_true]
def vok (H : List (Int × Int)) (n : Int) : Bool := !(decide (n < 1) || decide (n > H.length))
def vr (H : List (Int × Int)) (n : Int) : Int × Int := if vok H n then H.getD (n - 1).toNat (0, 0) else (0, 0)
/-- does a condition hold for all words in the intervals -/
def holds (k a b n : Int) (H : List (Int × Int)) (L : List Int) : Bool :=
  if vok H a = false then false
  else if k = 1 then !contains (vr H a).1 (vr H a).2 0
  else if k = 2 then decide (n ≤ (vr H a).1)
  else if k = 3 then decide ((vr H a).2 ≤ n)
  else if k = 4 then vok H b && !meets (vr H a).1 (vr H a).2 (vr H b).1 (vr H b).2
  else if k = 5 then decide (1 ≤ b) && (decide (b ≤ L.length) && (decide (0 ≤ (vr H a).1) && decide ((vr H a).2 < L.getD (b - 1).toNat 0)))
  else false
theorem vok_t {H : List (Int × Int)} {n : Int} (h1 : 1 ≤ n) (h2 : n ≤ H.length) : vok H n = true := by
  unfold vok; simp; omega
theorem vok_f {H : List (Int × Int)} {n : Int} (h : n < 1 ∨ n > H.length) : vok H n = false := by
  unfold vok; simp; omega
theorem vr_no {H : List (Int × Int)} {n : Int} (h : vok H n = false) : vr H n = (0, 0) := by
  unfold vr; rw [h]; rfl
theorem ldH {H : List (Int × Int)} {n : Int} {K : Int → Int → Prop} (h1 : 1 ≤ n) (h2 : n ≤ H.length) (hb : H.length ≤ 9223372036854775807) (hk : K (vr H n).1 (vr H n).2) :
    needS (decide (0 ≤ IntKind.i64.wrap (n - 1)) && decide (IntKind.i64.wrap (n - 1) < (H.length : Int))) (ldIS .i64 (H.flatMap cR) ((IntKind.i64.wrap (n - 1)).toNat * 2) fun n0 => ldIS .i64 (H.flatMap cR) ((IntKind.i64.wrap (n - 1)).toNat * 2 + 1) fun n1 => K n0 n1) := by
  rw [IntWalk.i64_in _ (by omega)]
  have hl : (n - 1).toNat < H.length := by omega
  obtain ⟨q1, q2⟩ := cH_at hl
  have e : vr H n = H[(n - 1).toNat] := by
    unfold vr
    rw [vok_t h1 h2, List.getD_eq_getElem?_getD, List.getElem?_eq_getElem hl]
    rfl
  rw [e] at hk
  refine needS_intro (by simp; omega) ?_
  unfold ldIS
  rw [q1, q2]
  simp only [if_true]
  exact hk
end Go.M14
