/-
  The target machine: the statement MachineDistinct.
  Conditions: none.
-/
import Derived.Test.YtfmcdageaananaaDoorG29
import Derived.KernelRfl
set_option linter.unusedVariables false
set_option linter.unusedSimpArgs false
namespace Go.Proofs.YtfmcdageaananaaDoor
open Go.Pv Go.M29
theorem fmt_same {i j : In} (hi : vIn i = true) (hj : vIn j = true) : (fmtS i == fmtS j) = (i.op == j.op && (i.a == j.a && (i.b == j.b && (i.c == j.c && (i.n == j.n && true))))) := by
  rw [Bool.eq_iff_iff]
  simp only [beq_iff_eq, Bool.and_eq_true, and_true]
  constructor
  · intro h
    rw [fmtS_inj hi hj h]
    exact ⟨rfl, rfl, rfl, rfl, rfl⟩
  · obtain ⟨o, a, b, c, n⟩ := i
    obtain ⟨o', a', b', c', n'⟩ := j
    rintro ⟨h1, h2, h3, h4, h5⟩
    simp only at h1 h2 h3 h4 h5
    rw [h1, h2, h3, h4, h5]
def kExI (xs : List IV) (h : Heap) (K : IV → Heap → Prop) : Prop := match xs with
  | [] => K (.bool true) h
  | _ => False
theorem sExI : ∀ xs h Q, kExI xs h Q → CallW env 3 xs h Q := by
  intro xs h Q hk
  unfold kExI at hk
  split at hk
  · exact ⟨200, .bool true, h, by kernel_rfl, hk⟩
  · exact hk.elim
def cExI := addC 3 kExI cFormat
theorem okExI : Sound env cExI := sound_add sExI (okFormat)

def kDistL (xs : List IV) (h : Heap) (K : IV → Heap → Prop) : Prop := match xs with
  | [.int .i64 n, .int .i64 m, .int .i64 how, .int .i64 by'] => ((-9223372036854775808 ≤ n ∧ n ≤ 9223372036854775807) ∧ (-9223372036854775808 ≤ m ∧ m ≤ 9223372036854775807)) ∧ K (.bool true) h
  | _ => False
set_option maxRecDepth 100000 in
theorem vDistL (n m how by' : Int) (h : Heap) (Q : IV → Heap → Prop) : dF (stdS cExI) env 7 noU noI noI [.int .i64 n, .int .i64 m, .int .i64 how, .int .i64 by'] h Q = (
  brS
    (!(fmtS (In.mk (In.op (kin n)) (In.a (kin n)) (In.b (kin n)) (In.c (kin n)) (In.n (kin n))) == fmtS (In.mk (In.op (kin m)) (In.a (kin m)) (In.b (kin m)) (In.c (kin m)) (In.n (kin m)))) ==
        (In.op (kin n) == In.op (kin m) && (In.a (kin n) == In.a (kin m) && (In.b (kin n) == In.b (kin m) && (In.c (kin n) == In.c (kin m) && (In.n (kin n) == In.n (kin m) && true))))))
    (Q (IV.bool false) h)
    (brS (fmtS (In.mk (In.op (kin n)) (In.a (kin n)) (In.b (kin n)) (In.c (kin n)) (In.n (kin n))) == []) (Q (IV.bool false) h)
      (brS
        (!validI (In.op (muI (In.mk (In.op (kin n)) (In.a (kin n)) (In.b (kin n)) (In.c (kin n)) (In.n (kin n))) how by')) (In.a (muI (In.mk (In.op (kin n)) (In.a (kin n)) (In.b (kin n)) (In.c (kin n)) (In.n (kin n))) how by'))
            (In.b (muI (In.mk (In.op (kin n)) (In.a (kin n)) (In.b (kin n)) (In.c (kin n)) (In.n (kin n))) how by')) (In.c (muI (In.mk (In.op (kin n)) (In.a (kin n)) (In.b (kin n)) (In.c (kin n)) (In.n (kin n))) how by'))
            (In.n (muI (In.mk (In.op (kin n)) (In.a (kin n)) (In.b (kin n)) (In.c (kin n)) (In.n (kin n))) how by')))
        (Q (IV.bool true) h)
        (brS
          ((fmtS (In.mk (In.op (kin n)) (In.a (kin n)) (In.b (kin n)) (In.c (kin n)) (In.n (kin n))) ==
              fmtS
                (In.mk (In.op (muI (In.mk (In.op (kin n)) (In.a (kin n)) (In.b (kin n)) (In.c (kin n)) (In.n (kin n))) how by')) (In.a (muI (In.mk (In.op (kin n)) (In.a (kin n)) (In.b (kin n)) (In.c (kin n)) (In.n (kin n))) how by'))
                  (In.b (muI (In.mk (In.op (kin n)) (In.a (kin n)) (In.b (kin n)) (In.c (kin n)) (In.n (kin n))) how by')) (In.c (muI (In.mk (In.op (kin n)) (In.a (kin n)) (In.b (kin n)) (In.c (kin n)) (In.n (kin n))) how by'))
                  (In.n (muI (In.mk (In.op (kin n)) (In.a (kin n)) (In.b (kin n)) (In.c (kin n)) (In.n (kin n))) how by')))) ==
            (In.op (kin n) == In.op (muI (In.mk (In.op (kin n)) (In.a (kin n)) (In.b (kin n)) (In.c (kin n)) (In.n (kin n))) how by') &&
              (In.a (kin n) == In.a (muI (In.mk (In.op (kin n)) (In.a (kin n)) (In.b (kin n)) (In.c (kin n)) (In.n (kin n))) how by') &&
                (In.b (kin n) == In.b (muI (In.mk (In.op (kin n)) (In.a (kin n)) (In.b (kin n)) (In.c (kin n)) (In.n (kin n))) how by') &&
                  (In.c (kin n) == In.c (muI (In.mk (In.op (kin n)) (In.a (kin n)) (In.b (kin n)) (In.c (kin n)) (In.n (kin n))) how by') &&
                    (In.n (kin n) == In.n (muI (In.mk (In.op (kin n)) (In.a (kin n)) (In.b (kin n)) (In.c (kin n)) (In.n (kin n))) how by') && true))))))
          (Q (IV.bool true) h) (Q (IV.bool false) h))))) := by kernel_rfl
set_option maxHeartbeats 4000000 in
theorem sDistL : ∀ xs h Q, kDistL xs h Q → CallW env 7 xs h Q := by
  intro xs h Q hk
  unfold kDistL at hk
  split at hk
  · rename_i n m how by'
    refine dF_sound (okExI) (mp_eq (vDistL n m how by' h Q) ?_)
    obtain ⟨⟨hn, hm⟩, hk⟩ := hk
    have vn : vIn (kin n) = true := kin_valid n hn
    have vm : vIn (kin m) = true := kin_valid m hm
    refine brS_intro (fun cc => ?_) (fun _ => brS_intro (fun cc => ?_) (fun _ => brS_intro (fun _ => hk) (fun cv => brS_intro (fun _ => hk) (fun cc => ?_))))
    · exfalso
      have e := fmt_same vn vm
      replace cc : (!(fmtS (kin n) == fmtS (kin m)) == ((kin n).op == (kin m).op && ((kin n).a == (kin m).a && ((kin n).b == (kin m).b && ((kin n).c == (kin m).c && ((kin n).n == (kin m).n && true)))))) = true := cc
      rw [← e] at cc
      revert cc
      cases (fmtS (kin n) == fmtS (kin m)) <;> decide
    · replace cc : (fmtS (kin n) == []) = true := cc
      rw [beq_iff_eq] at cc
      exact (fmtS_ne vn cc).elim
    · exfalso
      rw [Bool.not_eq_false'] at cv
      replace cv : vIn (muI (kin n) how by') = true := cv
      have e := fmt_same vn cv
      generalize muI (kin n) how by' = u at *
      replace cc : ((fmtS (kin n) == fmtS u) == ((kin n).op == u.op && ((kin n).a == u.a && ((kin n).b == u.b && ((kin n).c == u.c && ((kin n).n == u.n && true)))))) = false := cc
      rw [← e, beq_self_eq_true] at cc
      cases cc
  · exact hk.elim
def cDistL := addC 7 kDistL cExI
theorem okDistL : Sound env cDistL := sound_add sDistL (okExI)

end Go.Proofs.YtfmcdageaananaaDoor
