/-
  The target machine: the statement MachineRoundTrip.
  Conditions: none.
-/
import Derived.Test.YtfmcdageaananaaDoorJ29
import Derived.KernelRfl
set_option linter.unusedVariables false
set_option linter.unusedSimpArgs false
namespace Go.Proofs.YtfmcdageaananaaDoor
open Go.Pv Go.M29
theorem fmt_len {i : In} (h : vIn i = true) : (fmtS i).length ≤ 1000 := by
  obtain ⟨ha, hb, hc, hn⟩ := vIn_rng h
  have la := txt_len (n := i.a) (by omega)
  have lb := txt_len (n := i.b) (by omega)
  have lc := txt_len (n := i.c) (by omega)
  have ln := txt_len (n := i.n) (by omega)
  have l0 := nm6 i.op
  rw [fmtS_v h]
  unfold fmtV opsS
  generalize (rowOf i.op).nm = nm at *
  cases fA (fmI i.op) <;> cases fB (fmI i.op) <;> cases fC (fmI i.op) <;> cases fN (fmI i.op) <;> (by_cases h6 : i.op = 6 <;> simp [h6, joinO, joinR] <;> omega)
theorem in_same (i : In) : (i.op == i.op && (i.a == i.a && (i.b == i.b && (i.c == i.c && (i.n == i.n && true))))) = true := by simp
def kExK (xs : List IV) (h : Heap) (K : IV → Heap → Prop) : Prop := match xs with
  | [] => K (.bool true) h
  | _ => False
theorem sExK : ∀ xs h Q, kExK xs h Q → CallW env 3 xs h Q := by
  intro xs h Q hk
  unfold kExK at hk
  split at hk
  · exact ⟨200, .bool true, h, by kernel_rfl, hk⟩
  · exact hk.elim
def cExK := addC 3 kExK cParse
theorem okExK : Sound env cExK := sound_add sExK (okParse)

def kRTripL (xs : List IV) (h : Heap) (K : IV → Heap → Prop) : Prop := match xs with
  | [.int .i64 n, .str s] => ((-9223372036854775808 ≤ n ∧ n ≤ 9223372036854775807) ∧ s.length ≤ 1048576) ∧ K (.bool true) h
  | _ => False
set_option maxRecDepth 100000 in
theorem vRTripL (n : Int) (s : List UInt8) (h : Heap) (Q : IV → Heap → Prop) : dF (stdS cExK) env 6 noU noI noI [.int .i64 n, .str s] h Q = (
  List.length (fmtS (In.mk (In.op (kin n)) (In.a (kin n)) (In.b (kin n)) (In.c (kin n)) (In.n (kin n)))) ≤ (1000000000000 : Nat) ∧
 ∀ (r : In × Bool),
 Rs (fmtS (In.mk (In.op (kin n)) (In.a (kin n)) (In.b (kin n)) (In.c (kin n)) (In.n (kin n)))) r →
 List.length s ≤ (1000000000000 : Nat) ∧
 ∀ (r_1 : In × Bool),
 Rs s r_1 →
 brS (Prod.snd r)
 (brS (In.op (kin n) == In.op (Prod.fst r) && (In.a (kin n) == In.a (Prod.fst r) && (In.b (kin n) == In.b (Prod.fst r) && (In.c (kin n) == In.c (Prod.fst r) && (In.n (kin n) == In.n (Prod.fst r) && true)))))
 (brS (!Prod.snd r_1) (Q (IV.bool true) h)
 (brS (validI (In.op (Prod.fst r_1)) (In.a (Prod.fst r_1)) (In.b (Prod.fst r_1)) (In.c (Prod.fst r_1)) (In.n (Prod.fst r_1)))
 (brS (fmtS (In.mk (In.op (Prod.fst r_1)) (In.a (Prod.fst r_1)) (In.b (Prod.fst r_1)) (In.c (Prod.fst r_1)) (In.n (Prod.fst r_1))) == s) (Q (IV.bool true) h) (Q (IV.bool false) h)) (Q (IV.bool false) h)))
 (Q (IV.bool false) h))
 (Q (IV.bool false) h)) := by kernel_rfl
set_option maxHeartbeats 4000000 in
theorem sRTripL : ∀ xs h Q, kRTripL xs h Q → CallW env 6 xs h Q := by
  intro xs h Q hk
  unfold kRTripL at hk
  split at hk
  · rename_i n s
    refine dF_sound (okExK) (mp_eq (vRTripL n s h Q) ?_)
    obtain ⟨⟨hn, hs⟩, hk⟩ := hk
    have vn : vIn (kin n) = true := kin_valid n hn
    have hl : (fmtS (kin n)).length ≤ 1000 := fmt_len vn
    refine ⟨(show (fmtS (kin n)).length ≤ 1000000000000 by omega), fun r hr => ⟨by omega, fun q hq => ?_⟩⟩
    obtain rfl : r = (kin n, true) := Rs_det hr (.inl ⟨rfl, vn, rfl⟩)
    refine brS_intro (fun _ => brS_intro (fun _ => brS_intro (fun _ => hk) (fun c1 => ?_)) (fun c1 => ?_)) (fun c1 => by cases c1)
    · have hq2 : q.2 = true := by simpa using c1
      rcases hq with ⟨_, h1, h2⟩ | ⟨e, _⟩
      · refine brS_intro (fun _ => brS_intro (fun _ => hk) (fun c2 => ?_)) (fun c2 => ?_)
        · replace c2 : (fmtS q.1 == s) = false := c2
          rw [h2, beq_self_eq_true] at c2
          cases c2
        · replace c2 : vIn q.1 = false := c2
          rw [h1] at c2
          cases c2
      · rw [e] at hq2; cases hq2
    · simp only [in_same] at c1
      cases c1
  · exact hk.elim
def cRTripL := addC 6 kRTripL cExK
theorem okRTripL : Sound env cRTripL := sound_add sRTripL (okExK)

end Go.Proofs.YtfmcdageaananaaDoor
