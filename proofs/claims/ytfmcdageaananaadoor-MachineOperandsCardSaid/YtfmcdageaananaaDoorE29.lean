/-
  The target machine: the statement MachineOperands.
  Conditions: none.
-/
import Derived.Test.YtfmcdageaananaaDoorD29
import Derived.KernelRfl
set_option linter.unusedVariables false
set_option linter.unusedSimpArgs false
namespace Go.Proofs.YtfmcdageaananaaDoor
open Go.Pv Go.M29
theorem same_step {A B : Prop} {l0 : List Int} (hl : l0.length ≤ 100) (hB : B) : ∃ l m : List Int, (l0.length = l.length ∧ l0.map (IV.int .i64) = l.map (IV.int .i64)) ∧ (l0.length = m.length ∧ l0.map (IV.int .i64) = m.map (IV.int .i64)) ∧
    l.length < 4611686018427387904 ∧ brS (!l == m) A B := ⟨l0, l0, ⟨rfl, rfl⟩, ⟨rfl, rfl⟩, by omega, by rw [beq_self_eq_true]; exact hB⟩
theorem eq_step {x : Bool} {A B : Prop} (hB : B) : brS (!x == x) A B := by
  rw [show (!x == x) = false by cases x <;> rfl]
  exact hB
theorem rd_len (op a b c n : Int) : (rdI op a b c n).length ≤ 100 := by
  unfold rdI
  split
  · exact lst_len _
  · simp
theorem wr_len (op a b c n : Int) : (wrI op a b c n).length ≤ 100 := by
  unfold wrI
  split
  · split
    · simp
    · split <;> simp
  · simp
def kExE (xs : List IV) (h : Heap) (K : IV → Heap → Prop) : Prop := match xs with
  | [] => K (.bool true) h
  | _ => False
theorem sExE : ∀ xs h Q, kExE xs h Q → CallW env 3 xs h Q := by
  intro xs h Q hk
  unfold kExE at hk
  split at hk
  · exact ⟨200, .bool true, h, by kernel_rfl, hk⟩
  · exact hk.elim
def cExE := addC 3 kExE cRReads
theorem okExE : Sound env cExE := sound_add sExE (okRReads)

def kOperL (xs : List IV) (h : Heap) (K : IV → Heap → Prop) : Prop := match xs with
  | [.agg [.int .i64 op, .int .i64 a, .int .i64 b, .int .i64 c, .int .i64 n], .int .i64 i, .int .i64 how, .int .i64 by'] => (-9223372036854775808 ≤ i ∧ i ≤ 9223372036854775807) ∧ K (.bool true) h
  | _ => False
set_option maxRecDepth 100000 in
theorem vOperL (op a b c n i how by' : Int) (h : Heap) (Q : IV → Heap → Prop) : dF (stdS cExE) env 8 (fun k => match Nat.beq k 3 with | true => 4 | false => 0) noI noI [.agg [.int .i64 op, .int .i64 a, .int .i64 b, .int .i64 c, .int .i64 n], .int .i64 i, .int .i64 how, .int .i64 by'] h Q = (
  brS (!validI op a b c n == validI op a b c n) (Q (IV.bool false) h)
    (brS (!Prod.fst (cfl op a b c n) == Prod.fst (cfl op a b c n)) (Q (IV.bool false) h)
      (brS (!Prod.snd (cfl op a b c n) == Prod.snd (cfl op a b c n)) (Q (IV.bool false) h)
        (∃ (l : List Int),
          ∃ (m : List Int),
            (List.length (rdI op a b c n) = List.length l ∧ List.map (IV.int IntKind.i64) (rdI op a b c n) = List.map (IV.int IntKind.i64) l) ∧
              (List.length (rdI op a b c n) = List.length m ∧ List.map (IV.int IntKind.i64) (rdI op a b c n) = List.map (IV.int IntKind.i64) m) ∧
                List.length l < (4611686018427387904 : Nat) ∧
                  brS (!l == m) (Q (IV.bool false) h)
                    (∃ (l : List Int),
                      ∃ (m : List Int),
                        (List.length (wrI op a b c n) = List.length l ∧ List.map (IV.int IntKind.i64) (wrI op a b c n) = List.map (IV.int IntKind.i64) l) ∧
                          (List.length (wrI op a b c n) = List.length m ∧ List.map (IV.int IntKind.i64) (wrI op a b c n) = List.map (IV.int IntKind.i64) m) ∧
                            List.length l < (4611686018427387904 : Nat) ∧
                              brS (!l == m) (Q (IV.bool false) h)
                                (brS (!validI (In.op (kin i)) (In.a (kin i)) (In.b (kin i)) (In.c (kin i)) (In.n (kin i)) == validI (In.op (kin i)) (In.a (kin i)) (In.b (kin i)) (In.c (kin i)) (In.n (kin i))) (Q (IV.bool false) h)
                                  (brS (!Prod.fst (cfl (In.op (kin i)) (In.a (kin i)) (In.b (kin i)) (In.c (kin i)) (In.n (kin i))) == Prod.fst (cfl (In.op (kin i)) (In.a (kin i)) (In.b (kin i)) (In.c (kin i)) (In.n (kin i))))
                                    (Q (IV.bool false) h)
                                    (brS (!Prod.snd (cfl (In.op (kin i)) (In.a (kin i)) (In.b (kin i)) (In.c (kin i)) (In.n (kin i))) == Prod.snd (cfl (In.op (kin i)) (In.a (kin i)) (In.b (kin i)) (In.c (kin i)) (In.n (kin i))))
                                      (Q (IV.bool false) h)
                                      (∃ (l : List Int),
                                        ∃ (m : List Int),
                                          (List.length (rdI (In.op (kin i)) (In.a (kin i)) (In.b (kin i)) (In.c (kin i)) (In.n (kin i))) = List.length l ∧
                                              List.map (IV.int IntKind.i64) (rdI (In.op (kin i)) (In.a (kin i)) (In.b (kin i)) (In.c (kin i)) (In.n (kin i))) = List.map (IV.int IntKind.i64) l) ∧
                                            (List.length (rdI (In.op (kin i)) (In.a (kin i)) (In.b (kin i)) (In.c (kin i)) (In.n (kin i))) = List.length m ∧
                                                List.map (IV.int IntKind.i64) (rdI (In.op (kin i)) (In.a (kin i)) (In.b (kin i)) (In.c (kin i)) (In.n (kin i))) = List.map (IV.int IntKind.i64) m) ∧
                                              List.length l < (4611686018427387904 : Nat) ∧
                                                brS (!l == m) (Q (IV.bool false) h)
                                                  (∃ (l : List Int),
                                                    ∃ (m : List Int),
                                                      (List.length (wrI (In.op (kin i)) (In.a (kin i)) (In.b (kin i)) (In.c (kin i)) (In.n (kin i))) = List.length l ∧
                                                          List.map (IV.int IntKind.i64) (wrI (In.op (kin i)) (In.a (kin i)) (In.b (kin i)) (In.c (kin i)) (In.n (kin i))) = List.map (IV.int IntKind.i64) l) ∧
                                                        (List.length (wrI (In.op (kin i)) (In.a (kin i)) (In.b (kin i)) (In.c (kin i)) (In.n (kin i))) = List.length m ∧
                                                            List.map (IV.int IntKind.i64) (wrI (In.op (kin i)) (In.a (kin i)) (In.b (kin i)) (In.c (kin i)) (In.n (kin i))) = List.map (IV.int IntKind.i64) m) ∧
                                                          List.length l < (4611686018427387904 : Nat) ∧
                                                            brS (!l == m) (Q (IV.bool false) h)
                                                              (brS
                                                                (!validI (In.op (muI (In.mk (In.op (kin i)) (In.a (kin i)) (In.b (kin i)) (In.c (kin i)) (In.n (kin i))) how by'))
                                                                      (In.a (muI (In.mk (In.op (kin i)) (In.a (kin i)) (In.b (kin i)) (In.c (kin i)) (In.n (kin i))) how by'))
                                                                      (In.b (muI (In.mk (In.op (kin i)) (In.a (kin i)) (In.b (kin i)) (In.c (kin i)) (In.n (kin i))) how by'))
                                                                      (In.c (muI (In.mk (In.op (kin i)) (In.a (kin i)) (In.b (kin i)) (In.c (kin i)) (In.n (kin i))) how by'))
                                                                      (In.n (muI (In.mk (In.op (kin i)) (In.a (kin i)) (In.b (kin i)) (In.c (kin i)) (In.n (kin i))) how by')) ==
                                                                    validI (In.op (muI (In.mk (In.op (kin i)) (In.a (kin i)) (In.b (kin i)) (In.c (kin i)) (In.n (kin i))) how by'))
                                                                      (In.a (muI (In.mk (In.op (kin i)) (In.a (kin i)) (In.b (kin i)) (In.c (kin i)) (In.n (kin i))) how by'))
                                                                      (In.b (muI (In.mk (In.op (kin i)) (In.a (kin i)) (In.b (kin i)) (In.c (kin i)) (In.n (kin i))) how by'))
                                                                      (In.c (muI (In.mk (In.op (kin i)) (In.a (kin i)) (In.b (kin i)) (In.c (kin i)) (In.n (kin i))) how by'))
                                                                      (In.n (muI (In.mk (In.op (kin i)) (In.a (kin i)) (In.b (kin i)) (In.c (kin i)) (In.n (kin i))) how by')))
                                                                (Q (IV.bool false) h)
                                                                (brS
                                                                  (!Prod.fst
                                                                        (cfl (In.op (muI (In.mk (In.op (kin i)) (In.a (kin i)) (In.b (kin i)) (In.c (kin i)) (In.n (kin i))) how by'))
                                                                          (In.a (muI (In.mk (In.op (kin i)) (In.a (kin i)) (In.b (kin i)) (In.c (kin i)) (In.n (kin i))) how by'))
                                                                          (In.b (muI (In.mk (In.op (kin i)) (In.a (kin i)) (In.b (kin i)) (In.c (kin i)) (In.n (kin i))) how by'))
                                                                          (In.c (muI (In.mk (In.op (kin i)) (In.a (kin i)) (In.b (kin i)) (In.c (kin i)) (In.n (kin i))) how by'))
                                                                          (In.n (muI (In.mk (In.op (kin i)) (In.a (kin i)) (In.b (kin i)) (In.c (kin i)) (In.n (kin i))) how by'))) ==
                                                                      Prod.fst
                                                                        (cfl (In.op (muI (In.mk (In.op (kin i)) (In.a (kin i)) (In.b (kin i)) (In.c (kin i)) (In.n (kin i))) how by'))
                                                                          (In.a (muI (In.mk (In.op (kin i)) (In.a (kin i)) (In.b (kin i)) (In.c (kin i)) (In.n (kin i))) how by'))
                                                                          (In.b (muI (In.mk (In.op (kin i)) (In.a (kin i)) (In.b (kin i)) (In.c (kin i)) (In.n (kin i))) how by'))
                                                                          (In.c (muI (In.mk (In.op (kin i)) (In.a (kin i)) (In.b (kin i)) (In.c (kin i)) (In.n (kin i))) how by'))
                                                                          (In.n (muI (In.mk (In.op (kin i)) (In.a (kin i)) (In.b (kin i)) (In.c (kin i)) (In.n (kin i))) how by'))))
                                                                  (Q (IV.bool false) h)
                                                                  (brS
                                                                    (!Prod.snd
                                                                          (cfl (In.op (muI (In.mk (In.op (kin i)) (In.a (kin i)) (In.b (kin i)) (In.c (kin i)) (In.n (kin i))) how by'))
                                                                            (In.a (muI (In.mk (In.op (kin i)) (In.a (kin i)) (In.b (kin i)) (In.c (kin i)) (In.n (kin i))) how by'))
                                                                            (In.b (muI (In.mk (In.op (kin i)) (In.a (kin i)) (In.b (kin i)) (In.c (kin i)) (In.n (kin i))) how by'))
                                                                            (In.c (muI (In.mk (In.op (kin i)) (In.a (kin i)) (In.b (kin i)) (In.c (kin i)) (In.n (kin i))) how by'))
                                                                            (In.n (muI (In.mk (In.op (kin i)) (In.a (kin i)) (In.b (kin i)) (In.c (kin i)) (In.n (kin i))) how by'))) ==
                                                                        Prod.snd
                                                                          (cfl (In.op (muI (In.mk (In.op (kin i)) (In.a (kin i)) (In.b (kin i)) (In.c (kin i)) (In.n (kin i))) how by'))
                                                                            (In.a (muI (In.mk (In.op (kin i)) (In.a (kin i)) (In.b (kin i)) (In.c (kin i)) (In.n (kin i))) how by'))
                                                                            (In.b (muI (In.mk (In.op (kin i)) (In.a (kin i)) (In.b (kin i)) (In.c (kin i)) (In.n (kin i))) how by'))
                                                                            (In.c (muI (In.mk (In.op (kin i)) (In.a (kin i)) (In.b (kin i)) (In.c (kin i)) (In.n (kin i))) how by'))
                                                                            (In.n (muI (In.mk (In.op (kin i)) (In.a (kin i)) (In.b (kin i)) (In.c (kin i)) (In.n (kin i))) how by'))))
                                                                    (Q (IV.bool false) h)
                                                                    (∃ (l : List Int),
                                                                      ∃ (m : List Int),
                                                                        (List.length
                                                                                (rdI (In.op (muI (In.mk (In.op (kin i)) (In.a (kin i)) (In.b (kin i)) (In.c (kin i)) (In.n (kin i))) how by'))
                                                                                  (In.a (muI (In.mk (In.op (kin i)) (In.a (kin i)) (In.b (kin i)) (In.c (kin i)) (In.n (kin i))) how by'))
                                                                                  (In.b (muI (In.mk (In.op (kin i)) (In.a (kin i)) (In.b (kin i)) (In.c (kin i)) (In.n (kin i))) how by'))
                                                                                  (In.c (muI (In.mk (In.op (kin i)) (In.a (kin i)) (In.b (kin i)) (In.c (kin i)) (In.n (kin i))) how by'))
                                                                                  (In.n (muI (In.mk (In.op (kin i)) (In.a (kin i)) (In.b (kin i)) (In.c (kin i)) (In.n (kin i))) how by'))) =
                                                                              List.length l ∧
                                                                            List.map (IV.int IntKind.i64)
                                                                                (rdI (In.op (muI (In.mk (In.op (kin i)) (In.a (kin i)) (In.b (kin i)) (In.c (kin i)) (In.n (kin i))) how by'))
                                                                                  (In.a (muI (In.mk (In.op (kin i)) (In.a (kin i)) (In.b (kin i)) (In.c (kin i)) (In.n (kin i))) how by'))
                                                                                  (In.b (muI (In.mk (In.op (kin i)) (In.a (kin i)) (In.b (kin i)) (In.c (kin i)) (In.n (kin i))) how by'))
                                                                                  (In.c (muI (In.mk (In.op (kin i)) (In.a (kin i)) (In.b (kin i)) (In.c (kin i)) (In.n (kin i))) how by'))
                                                                                  (In.n (muI (In.mk (In.op (kin i)) (In.a (kin i)) (In.b (kin i)) (In.c (kin i)) (In.n (kin i))) how by'))) =
                                                                              List.map (IV.int IntKind.i64) l) ∧
                                                                          (List.length
                                                                                  (rdI (In.op (muI (In.mk (In.op (kin i)) (In.a (kin i)) (In.b (kin i)) (In.c (kin i)) (In.n (kin i))) how by'))
                                                                                    (In.a (muI (In.mk (In.op (kin i)) (In.a (kin i)) (In.b (kin i)) (In.c (kin i)) (In.n (kin i))) how by'))
                                                                                    (In.b (muI (In.mk (In.op (kin i)) (In.a (kin i)) (In.b (kin i)) (In.c (kin i)) (In.n (kin i))) how by'))
                                                                                    (In.c (muI (In.mk (In.op (kin i)) (In.a (kin i)) (In.b (kin i)) (In.c (kin i)) (In.n (kin i))) how by'))
                                                                                    (In.n (muI (In.mk (In.op (kin i)) (In.a (kin i)) (In.b (kin i)) (In.c (kin i)) (In.n (kin i))) how by'))) =
                                                                                List.length m ∧
                                                                              List.map (IV.int IntKind.i64)
                                                                                  (rdI (In.op (muI (In.mk (In.op (kin i)) (In.a (kin i)) (In.b (kin i)) (In.c (kin i)) (In.n (kin i))) how by'))
                                                                                    (In.a (muI (In.mk (In.op (kin i)) (In.a (kin i)) (In.b (kin i)) (In.c (kin i)) (In.n (kin i))) how by'))
                                                                                    (In.b (muI (In.mk (In.op (kin i)) (In.a (kin i)) (In.b (kin i)) (In.c (kin i)) (In.n (kin i))) how by'))
                                                                                    (In.c (muI (In.mk (In.op (kin i)) (In.a (kin i)) (In.b (kin i)) (In.c (kin i)) (In.n (kin i))) how by'))
                                                                                    (In.n (muI (In.mk (In.op (kin i)) (In.a (kin i)) (In.b (kin i)) (In.c (kin i)) (In.n (kin i))) how by'))) =
                                                                                List.map (IV.int IntKind.i64) m) ∧
                                                                            List.length l < (4611686018427387904 : Nat) ∧
                                                                              brS (!l == m) (Q (IV.bool false) h)
                                                                                (∃ (l : List Int),
                                                                                  ∃ (m : List Int),
                                                                                    (List.length
                                                                                            (wrI (In.op (muI (In.mk (In.op (kin i)) (In.a (kin i)) (In.b (kin i)) (In.c (kin i)) (In.n (kin i))) how by'))
                                                                                              (In.a (muI (In.mk (In.op (kin i)) (In.a (kin i)) (In.b (kin i)) (In.c (kin i)) (In.n (kin i))) how by'))
                                                                                              (In.b (muI (In.mk (In.op (kin i)) (In.a (kin i)) (In.b (kin i)) (In.c (kin i)) (In.n (kin i))) how by'))
                                                                                              (In.c (muI (In.mk (In.op (kin i)) (In.a (kin i)) (In.b (kin i)) (In.c (kin i)) (In.n (kin i))) how by'))
                                                                                              (In.n (muI (In.mk (In.op (kin i)) (In.a (kin i)) (In.b (kin i)) (In.c (kin i)) (In.n (kin i))) how by'))) =
                                                                                          List.length l ∧
                                                                                        List.map (IV.int IntKind.i64)
                                                                                            (wrI (In.op (muI (In.mk (In.op (kin i)) (In.a (kin i)) (In.b (kin i)) (In.c (kin i)) (In.n (kin i))) how by'))
                                                                                              (In.a (muI (In.mk (In.op (kin i)) (In.a (kin i)) (In.b (kin i)) (In.c (kin i)) (In.n (kin i))) how by'))
                                                                                              (In.b (muI (In.mk (In.op (kin i)) (In.a (kin i)) (In.b (kin i)) (In.c (kin i)) (In.n (kin i))) how by'))
                                                                                              (In.c (muI (In.mk (In.op (kin i)) (In.a (kin i)) (In.b (kin i)) (In.c (kin i)) (In.n (kin i))) how by'))
                                                                                              (In.n (muI (In.mk (In.op (kin i)) (In.a (kin i)) (In.b (kin i)) (In.c (kin i)) (In.n (kin i))) how by'))) =
                                                                                          List.map (IV.int IntKind.i64) l) ∧
                                                                                      (List.length
                                                                                              (wrI (In.op (muI (In.mk (In.op (kin i)) (In.a (kin i)) (In.b (kin i)) (In.c (kin i)) (In.n (kin i))) how by'))
                                                                                                (In.a (muI (In.mk (In.op (kin i)) (In.a (kin i)) (In.b (kin i)) (In.c (kin i)) (In.n (kin i))) how by'))
                                                                                                (In.b (muI (In.mk (In.op (kin i)) (In.a (kin i)) (In.b (kin i)) (In.c (kin i)) (In.n (kin i))) how by'))
                                                                                                (In.c (muI (In.mk (In.op (kin i)) (In.a (kin i)) (In.b (kin i)) (In.c (kin i)) (In.n (kin i))) how by'))
                                                                                                (In.n (muI (In.mk (In.op (kin i)) (In.a (kin i)) (In.b (kin i)) (In.c (kin i)) (In.n (kin i))) how by'))) =
                                                                                            List.length m ∧
                                                                                          List.map (IV.int IntKind.i64)
                                                                                              (wrI (In.op (muI (In.mk (In.op (kin i)) (In.a (kin i)) (In.b (kin i)) (In.c (kin i)) (In.n (kin i))) how by'))
                                                                                                (In.a (muI (In.mk (In.op (kin i)) (In.a (kin i)) (In.b (kin i)) (In.c (kin i)) (In.n (kin i))) how by'))
                                                                                                (In.b (muI (In.mk (In.op (kin i)) (In.a (kin i)) (In.b (kin i)) (In.c (kin i)) (In.n (kin i))) how by'))
                                                                                                (In.c (muI (In.mk (In.op (kin i)) (In.a (kin i)) (In.b (kin i)) (In.c (kin i)) (In.n (kin i))) how by'))
                                                                                                (In.n (muI (In.mk (In.op (kin i)) (In.a (kin i)) (In.b (kin i)) (In.c (kin i)) (In.n (kin i))) how by'))) =
                                                                                            List.map (IV.int IntKind.i64) m) ∧
                                                                                        List.length l < (4611686018427387904 : Nat) ∧
                                                                                          brS (!l == m) (Q (IV.bool false) h)
                                                                                            (brS (validI (In.op (kin i)) (In.a (kin i)) (In.b (kin i)) (In.c (kin i)) (In.n (kin i))) (Q (IV.bool true) h) (Q (IV.bool false) h))))))))))))))))) := by kernel_rfl
set_option maxHeartbeats 4000000 in
theorem sOperL : ∀ xs h Q, kOperL xs h Q → CallW env 8 xs h Q := by
  intro xs h Q hk
  unfold kOperL at hk
  split at hk
  · rename_i op a b c n i how by'
    refine dF_sound (okExE) (mp_eq (vOperL op a b c n i how by' h Q) ?_)
    obtain ⟨hi, hk⟩ := hk
    repeat' (first | exact hk | refine eq_step ?_ | refine same_step (rd_len ..) ?_ | refine same_step (wr_len ..) ?_ | exact brS_intro (fun _ => hk) (fun h => absurd (kin_valid i hi) (by rw [h]; simp)))
  · exact hk.elim
def cOperL := addC 8 kOperL cExE
theorem okOperL : Sound env cOperL := sound_add sOperL (okExE)

end Go.Proofs.YtfmcdageaananaaDoor
