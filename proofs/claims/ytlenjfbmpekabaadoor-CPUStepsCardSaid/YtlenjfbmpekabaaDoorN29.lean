import Derived.Test.YtlenjfbmpekabaaDoorM29
import Derived.Test.YtlenjfbmpekabaaDoorM13
namespace Go.M29
def fmI (op : Int) : Int :=
 if op < 1 \/ 37 < op then 0 else if op <= 3 then 1 else if op <= 5 then 8 else if op <= 8 then 5 else if op = 9 then 2 else if op = 10 then 3 else if op <= 12 then 4 else if op = 13 then 5
 else if op = 14 then 6 else if op <= 16 then 2 else if op <= 32 then 3 else if op = 33 then 5 else if op <= 35 then 7 else 5
theorem fm_at : ∀ k : Fin 37, (rowOf ((k : Nat) + 1)).fm = fmI ((k : Nat) + 1) := by decide +kernel
theorem fm_eq (op : Int) : (rowOf op).fm = fmI op := by
 by_cases h : 1 <= op /\ op <= 37
 ·have e := fm_at ⟨(op - 1).toNat, by omega⟩
  have e2 : (((op - 1).toNat : Nat) : Int) + 1 = op := by omega
  simp only [e2] at e
  exact e
 ·rw [rowOf_out h]
  unfold fmI
  rw [if_pos (by omega)]
  rfl
def fA (f : Int) : Bool := f == 2 || f == 3 || f == 4 || f == 5 || f == 6 || f == 7
def fB (f : Int) : Bool := f == 3 || f == 4 || f == 7
def fC (f : Int) : Bool := f == 4
def fN (f : Int) : Bool := f == 5 || f == 6 || f == 7 || f == 8
def loI (op : Int) : Int := if op = 14 then -9223372036854775808 else if op = 4 then 1 else if op = 5 then -33554432 else if op = 6 then 0 else if op = 34 \/ op = 35 then 0 else if op = 36 \/ op = 37 then 0 else -4194304
def hiI (op : Int) : Int := if op = 14 then 9223372036854775807 else if op = 4 then 33554431 else if op = 5 then 33554431 else if op = 6 then 7 else if op = 34 \/ op = 35 then 3 else if op = 36 \/ op = 37 then 2999 else 4194303
structure In where
 op : Int
 a : Int
 b : Int
 c : Int
 n : Int
 deriving DecidableEq
def validI (op a b c n : Int) : Bool :=
 okI op && (fA (fmI op) || a == 0) && (fB (fmI op) || b == 0) && (fC (fmI op) || c == 0) && (fN (fmI op) || n == 0)
  && (decide (0 <= a) && decide (a <= if op = 6 then 6 else 7)) && (decide (0 <= b) && decide (b <= 7)) && (decide (0 <= c) && decide (c <= 7)) && (!fN (fmI op) || (decide (loI op <= n) && decide (n <= hiI op)))
def rlo (op : Int) : Int := if op = 4 then 1 else if op = 5 then -33554432 else if op = 6 then 0 else if op = 34 \/ op = 35 then 0 else if op = 36 \/ op = 37 then 0 else if op = 14 then -9223372036854775808 else if op = 7 \/ op = 8 \/ op = 13 \/ op = 33 then -4194304 else 0
def rhi (op : Int) : Int := if op = 4 then 33554431 else if op = 5 then 33554431 else if op = 6 then 7 else if op = 34 \/ op = 35 then 3 else if op = 36 \/ op = 37 then 2999 else if op = 14 then 9223372036854775807 else if op = 7 \/ op = 8 \/ op = 13 \/ op = 33 then 4194303 else 0
def nx (n m : Int) : Int := IntKind.i64.wrap ((IntKind.i64.wrap (n - n % m)).tdiv m)
def kop (n : Int) : Int := 1 + n % 37
def kn1 (n : Int) : Int := nx n 37
def kn2 (n : Int) : Int := if fA (fmI (kop n)) then nx (kn1 n) 8 else kn1 n
def kn3 (n : Int) : Int := if fB (fmI (kop n)) then nx (kn2 n) 8 else kn2 n
def kn4 (n : Int) : Int := if fmI (kop n) = 4 then nx (kn3 n) 8 else kn3 n
def ka (n : Int) : Int := if fA (fmI (kop n)) then kn1 n % 8 else 0
def kb (n : Int) : Int := if fB (fmI (kop n)) then kn2 n % 8 else 0
def kc (n : Int) : Int := if fmI (kop n) = 4 then kn3 n % 8 else 0
def kin (n : Int) : In :=
 if kop n = 4 then ⟨kop n, ka n, kb n, kc n, 1 + kn4 n % 40⟩
 else if kop n = 6 then ⟨kop n, kn4 n % 3, kb n, kc n, nx (kn4 n) 3 % 2⟩
 else if kop n = 34 \/ kop n = 35 then ⟨kop n, ka n, kb n, kc n, kn4 n % 2⟩
 else if kop n = 36 \/ kop n = 37 then ⟨kop n, ka n, kb n, kc n, kn4 n % 6⟩
 else if kop n = 14 then ⟨kop n, ka n, kb n, kc n, Go.M13.word (kn4 n % 500) n⟩
 else if kop n = 13 \/ kop n = 33 \/ kop n = 5 \/ kop n = 7 \/ kop n = 8 then ⟨kop n, ka n, kb n, kc n, kn4 n % 15 - 6⟩
 else ⟨kop n, ka n, kb n, kc n, 0⟩
def edgeN : List Int := [4194304, 4194303, -4194304, -4194305, 33554432, 33554431, -33554432, -33554433, 3000, 2999, 4, 8]
def muI (x : In) (how by' : Int) : In :=
 if how % 7 = 0 then { x with op := by' % 40 - 4 }
 else if how % 7 = 1 then { x with a := by' % 40 - 4 }
 else if how % 7 = 2 then { x with b := by' % 40 - 4 }
 else if how % 7 = 3 then { x with c := by' % 40 - 4 }
 else if how % 7 = 4 then { x with n := Go.M13.word by' how }
 else if how % 7 = 5 then { x with n := edgeN.getD (by' % 12).toNat 0 }
 else x
def rvalidI (op a b c n : Int) : Bool :=
 !(fmI op == 0) && decide (rlo op <= n) && decide (n <= rhi op) && ((!(fmI op == 1) && !(fmI op == 8)) || a == 0) && (fB (fmI op) || b == 0) && (fmI op == 4 || c == 0)
   && (if op = 6 then decide (0 <= a) && decide (a <= 6) else (decide (0 <= a) && decide (a <= 7)) && (decide (0 <= b) && decide (b <= 7)) && (decide (0 <= c) && decide (c <= 7)))
theorem rvalid_eq (op a b c n : Int) : rvalidI op a b c n = validI op a b c n := by
 by_cases h : 1 <= op /\ op <= 37
 ·have h2 : op = 1 \/ op = 2 \/ op = 3 \/ op = 4 \/ op = 5 \/ op = 6 \/ op = 7 \/ op = 8 \/ op = 9 \/ op = 10 \/ op = 11 \/ op = 12 \/ op = 13 \/ op = 14 \/ op = 15 \/ op = 16 \/ op = 17 \/ op = 18 \/ op = 19 \/ op = 20 \/ op = 21 \/ op = 22 \/ op = 23 \/ op = 24 \/ op = 25 \/ op = 26 \/ op = 27 \/ op = 28 \/ op = 29 \/ op = 30 \/ op = 31 \/ op = 32 \/ op = 33 \/ op = 34 \/ op = 35 \/ op = 36 \/ op = 37 := by omega
  rw [Bool.eq_iff_iff]
  rcases h2 with rfl | rfl | rfl | rfl | rfl | rfl | rfl | rfl | rfl | rfl | rfl | rfl | rfl | rfl | rfl | rfl | rfl | rfl | rfl | rfl | rfl | rfl | rfl | rfl | rfl | rfl | rfl | rfl | rfl | rfl | rfl | rfl | rfl | rfl | rfl | rfl | rfl
  all_goals (simp [rvalidI, validI, fmI, rlo, rhi, loI, hiI, fA, fB, fC, fN, okI]; try omega)
 ·unfold rvalidI validI
  rw [okI_out h]
  have : fmI op = 0 := by unfold fmI; rw [if_pos (by omega)]
  rw [this]
  rfl
def cfl (op a b c n : Int) : Bool × Bool :=
 if validI op a b c n then (decide (op ≠ 2 /\ op ≠ 4 /\ op ≠ 5), decide (op = 5 \/ op = 7 \/ op = 8)) else (false, false)
def wrI (op a b c n : Int) : List Int :=
 if validI op a b c n then if op = 6 then [0] else if (rowOf op).wa then [a] else [] else []
theorem fm_range {op : Int} (h : 1 <= op /\ op <= 37) : 1 <= fmI op /\ fmI op <= 8 := by
 unfold fmI
 repeat' (first | omega | split)
theorem fA_iff {f : Int} (h : 1 <= f /\ f <= 8) : fA f = true ↔ f ≠ 1 /\ f ≠ 8 := by
 unfold fA
 simp
 omega
theorem kop_range (n : Int) : 1 <= kop n /\ kop n <= 37 := by unfold kop; omega
theorem edgeN_at (k : Int) : ∃ e, edgeN[(k % 12).toNat]? = some e /\ edgeN.getD (k % 12).toNat 0 = e := by
 have hl : (k % 12).toNat < edgeN.length := by
  have : edgeN.length = 12 := rfl
  omega
 exact ⟨edgeN[(k % 12).toNat], List.getElem?_eq_getElem hl, by simp [List.getD_eq_getElem?_getD, List.getElem?_eq_getElem hl]⟩
theorem word500 (k n : Int) (hn : -9223372036854775808 <= n /\ n <= 9223372036854775807) : -9223372036854775808 <= Go.M13.word k n /\ Go.M13.word k n <= 9223372036854775807 := by
 unfold Go.M13.word
 split
 ·have hl : (k % 24).toNat < 10 := by omega
  unfold Go.M13.edges
  generalize (k % 24).toNat = j at *
  have : j = 0 \/ j = 1 \/ j = 2 \/ j = 3 \/ j = 4 \/ j = 5 \/ j = 6 \/ j = 7 \/ j = 8 \/ j = 9 := by omega
  rcases this with rfl | rfl | rfl | rfl | rfl | rfl | rfl | rfl | rfl | rfl <;> decide
 split
 ·omega
 ·exact hn
theorem kin_valid (n : Int) (hn : -9223372036854775808 <= n /\ n <= 9223372036854775807) : validI (kin n).op (kin n).a (kin n).b (kin n).c (kin n).n = true := by
 have ho : 1 <= kop n /\ kop n <= 37 := by unfold kop; omega
 have hw := word500 (kn4 n % 500) n hn
 have ha : 0 <= ka n /\ ka n <= 7 /\ (fA (fmI (kop n)) = false -> ka n = 0) := by unfold ka; split <;> simp_all <;> omega
 have hb : 0 <= kb n /\ kb n <= 7 /\ (fB (fmI (kop n)) = false -> kb n = 0) := by unfold kb; split <;> simp_all <;> omega
 have hc : 0 <= kc n /\ kc n <= 7 /\ (fmI (kop n) ≠ 4 -> kc n = 0) := by unfold kc; split <;> simp_all <;> omega
 unfold kin
 generalize Go.M13.word (kn4 n % 500) n = w at *
 generalize nx (kn4 n) 3 = m3
 generalize ka n = a, kb n = b, kc n = c, kn4 n = m at *
 generalize kop n = op at *
 have h2 : op = 1 \/ op = 2 \/ op = 3 \/ op = 4 \/ op = 5 \/ op = 6 \/ op = 7 \/ op = 8 \/ op = 9 \/ op = 10 \/ op = 11 \/ op = 12 \/ op = 13 \/ op = 14 \/ op = 15 \/ op = 16 \/ op = 17 \/ op = 18 \/ op = 19 \/ op = 20 \/ op = 21 \/ op = 22 \/ op = 23 \/ op = 24 \/ op = 25 \/ op = 26 \/ op = 27 \/ op = 28 \/ op = 29 \/ op = 30 \/ op = 31 \/ op = 32 \/ op = 33 \/ op = 34 \/ op = 35 \/ op = 36 \/ op = 37 := by omega
 rcases h2 with rfl | rfl | rfl | rfl | rfl | rfl | rfl | rfl | rfl | rfl | rfl | rfl | rfl | rfl | rfl | rfl | rfl | rfl | rfl | rfl | rfl | rfl | rfl | rfl | rfl | rfl | rfl | rfl | rfl | rfl | rfl | rfl | rfl | rfl | rfl | rfl | rfl
 all_goals (simp [fmI, fA, fB] at ha hb hc; simp [validI, fmI, loI, hiI, fA, fB, fC, fN, okI]; try omega)
def lst8 (b0 b1 b2 b3 b4 b5 b6 b7 : Bool) : List Int :=
 (if b0 then [0] else []) ++ ((if b1 then [1] else []) ++ ((if b2 then [2] else []) ++ ((if b3 then [3] else []) ++ ((if b4 then [4] else []) ++ ((if b5 then [5] else []) ++ ((if b6 then [6] else []) ++ (if b7 then [7] else [])))))))
def lst (p : Int -> Bool) : List Int := lst8 (p 0) (p 1) (p 2) (p 3) (p 4) (p 5) (p 6) (p 7)
def rd1 (op a : Int) (k : Int) : Bool := (rowOf op).ra && k == a
def rd2 (op a b : Int) (k : Int) : Bool := rd1 op a k || ((rowOf op).rb && k == b)
def rd3 (op a b c : Int) (k : Int) : Bool := rd2 op a b k || (fmI op == 4 && k == c)
def rd4 (op a b c : Int) (k : Int) : Bool := rd3 op a b c k || (op == 6 && decide (k < a))
def rdB (op a b c : Int) (k : Int) : Bool := rd4 op a b c k || (op == 2 && k == 0)
def rdI (op a b c n : Int) : List Int := if validI op a b c n then lst (rdB op a b c) else []
theorem fm4_iff (op : Int) : (fmI op == 4) = (op == 11 || op == 12) := by
 rw [Bool.eq_iff_iff]
 simp only [beq_iff_eq, Bool.or_eq_true]
 unfold fmI
 repeat' (first | omega | split)
def insI : List Int -> Int -> List Int
 | [], n => [n]
 | x :: r, n => if x < n then x :: insI r n else if x = n then x :: r else n :: x :: r
theorem ins8 : ∀ (b0 b1 b2 b3 b4 b5 b6 b7 : Bool) (n : Fin 8), insI (lst8 b0 b1 b2 b3 b4 b5 b6 b7) ((n : Nat) : Int) =
  lst8 (b0 || (n : Nat) == 0) (b1 || (n : Nat) == 1) (b2 || (n : Nat) == 2) (b3 || (n : Nat) == 3) (b4 || (n : Nat) == 4) (b5 || (n : Nat) == 5) (b6 || (n : Nat) == 6) (b7 || (n : Nat) == 7) := by decide +kernel
theorem ins_lst {p : Int -> Bool} {n : Int} (h : 0 <= n /\ n <= 7) : insI (lst p) n = lst (fun k => p k || k == n) := by
 have := ins8 (p 0) (p 1) (p 2) (p 3) (p 4) (p 5) (p 6) (p 7) ⟨n.toNat, by omega⟩
 have e : ((n.toNat : Nat) : Int) = n := by omega
 simp only [e] at this
 unfold lst
 rw [this]
 have hb : ∀ k : Nat, (n.toNat == k) = ((k : Int) == n) := fun k => by
  rw [Bool.eq_iff_iff]
  simp only [beq_iff_eq]
  omega
 simp only [hb]
 rfl
theorem lst_congr {p q : Int -> Bool} (h : ∀ k, 0 <= k -> k <= 7 -> p k = q k) : lst p = lst q := by
 unfold lst
 rw [h 0 (by omega) (by omega), h 1 (by omega) (by omega), h 2 (by omega) (by omega), h 3 (by omega) (by omega), h 4 (by omega) (by omega), h 5 (by omega) (by omega), h 6 (by omega) (by omega), h 7 (by omega) (by omega)]
theorem insI_at : ∀ {l : List Int} {n : Int} {i : Nat}, i <= l.length -> (∀ j (h : j < l.length), j < i -> l[j] < n) -> (∀ h : i < l.length, n < l[i]) -> insI l n = l.take i ++ n :: l.drop i
 | [], n, i, h1, _, _ => by
   obtain rfl : i = 0 := by simpa using h1
   rfl
 | x :: r, n, 0, _, _, h3 => by
   have := h3 (by simp)
   simp only [List.getElem_cons_zero] at this
   unfold insI
   rw [if_neg (by omega), if_neg (by omega)]
   rfl
 | x :: r, n, i + 1, h1, h2, h3 => by
   have := h2 0 (by simp) (by omega)
   simp only [List.getElem_cons_zero] at this
   unfold insI
   rw [if_pos this, insI_at (l := r) (i := i) (by simpa using h1) (fun j hj hji => by have := h2 (j + 1) (by simp; omega) (by omega); rwa [List.getElem_cons_succ] at this) (fun h => by have := h3 (by simp; omega); rwa [List.getElem_cons_succ] at this)]
   rfl
theorem insI_mem : ∀ {l : List Int} {n : Int} {i : Nat} (h : i < l.length), (∀ j (h : j < l.length), j < i -> l[j] < n) -> l[i] = n -> insI l n = l
 | x :: r, n, 0, _, _, h3 => by
   simp only [List.getElem_cons_zero] at h3
   unfold insI
   rw [if_neg (by omega), if_pos h3]
 | x :: r, n, i + 1, h1, h2, h3 => by
   have := h2 0 (by simp) (by omega)
   simp only [List.getElem_cons_zero] at this
   unfold insI
   rw [if_pos this, insI_mem (l := r) (i := i) (by simpa using h1) (fun j hj hji => by have := h2 (j + 1) (by simp; omega) (by omega); rwa [List.getElem_cons_succ] at this) (by rwa [List.getElem_cons_succ] at h3)]
theorem lst8_len : ∀ b0 b1 b2 b3 b4 b5 b6 b7 : Bool, (lst8 b0 b1 b2 b3 b4 b5 b6 b7).length <= 8 := by decide +kernel
theorem lst_len (p : Int -> Bool) : (lst p).length <= 100 := Nat.le_trans (lst8_len ..) (by omega)
def rdk (op a b c k : Int) (j : Int) : Bool := rd3 op a b c j || (op == 6 && decide (j < k))
theorem lst_none {p : Int -> Bool} (h : ∀ k, 0 <= k -> k <= 7 -> p k = false) : lst p = [] := by
 rw [lst_congr (q := fun _ => false) h]
 rfl
end Go.M29
