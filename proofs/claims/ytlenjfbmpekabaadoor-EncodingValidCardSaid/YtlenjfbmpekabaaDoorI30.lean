/-
  Machine words: instructions of seeds, in a row of the heap.
  Conditions: none.
-/
import Derived.Test.YtlenjfbmpekabaaDoorG30
import Derived.Test.YtlenjfbmpekabaaDoorR30
import Derived.KernelRfl
set_option linter.unusedVariables false
set_option linter.unusedSimpArgs false
namespace Go.Proofs.YtlenjfbmpekabaaDoor
open Go.Pv Go.M29 Go.M30
theorem flatMap_len5 : ∀ (l : List In), (l.flatMap cIns).length = l.length * 5
  | [] => rfl
  | x :: r => by rw [List.flatMap_cons, List.length_append, flatMap_len5 r, List.length_cons, Nat.succ_mul]; simp [cIns]; omega
theorem insK_end' {l : List Int} {i : Nat} {m : Int} (h2 : i ≤ l.length) (h3 : (i : Int) ≤ m) (hc : ¬ (i : Int) < l.length ∨ ¬ (i : Int) < m) : insK l m = insT l i := by
  unfold insK insT
  congr 1
  rcases hc with c | c
  · rw [List.take_of_length_le (by omega), List.take_of_length_le (by omega)]
  · rw [show m.toNat = i by omega]
def insInv3 (l : List Int) (e1 : Nat) (m : Int) (h : Heap) : Inv' := .or
  (atX Unit (fun _ => [(5, .v .nilslice), (0, .v (.vslice none e1 (l).length 1 ((l).map (IV.int .i64)))), (1, .v (.int .i64 m)), (6, .v (.int .i64 0))]) (fun _ => []) (fun _ => h) (fun _ => True) (fun _ => l.length))
  (atX (Nat × Heap × Nat) (fun x => [(5, .v (.hslice x.2.2 0 x.1 5)), (0, .v (.vslice none e1 (l).length 1 ((l).map (IV.int .i64)))), (1, .v (.int .i64 m)), (6, .v (.int .i64 x.1))]) (fun _ => []) (fun x => x.2.1) (fun x => ((1 ≤ x.1 ∧ x.1 ≤ l.length) ∧ (x.1 : Int) ≤ m) ∧ x.2.1.get x.2.2 = .cells ((insT l x.1).flatMap cIns) ∧ x.2.2 < x.2.1.next) (fun x => l.length - x.1))
def kInstrs (xs : List IV) (h : Heap) (K : IV → Heap → Prop) : Prop := match xs with
  | [.vslice none e1 n1 1 c1, .int .i64 m] => ∃ l : List Int, (n1 = l.length ∧ c1 = l.map (IV.int .i64)) ∧ (l.length < 4611686018427387904 ∧ m ≤ 1000000) ∧ (insK l m = [] → K .nilslice h) ∧ (insK l m ≠ [] → ∀ g h', h'.get g = .cells ((insK l m).flatMap cIns) → g < h'.next → K (.hslice g 0 (insK l m).length 5) h')
  | _ => False
set_option maxRecDepth 100000 in
theorem vInstrs (l : List Int) (e1 : Nat) (m : Int) (h : Heap) (Q : IV → Heap → Prop) : dF (stdS cExG) env 39 noU (ic1 4 (insInv3 l e1 m h)) noI [.vslice none e1 (l).length 1 ((l).map (IV.int .i64)), .int .i64 m] h Q = (
  ((∃ (x : Unit),
 some (TV.v IV.nilslice) = some (TV.v IV.nilslice) ∧
 some (TV.v (IV.vslice none e1 (List.length l) (1 : Nat) (List.map (IV.int IntKind.i64) l))) = some (TV.v (IV.vslice none e1 (List.length l) (1 : Nat) (List.map (IV.int IntKind.i64) l))) ∧
 some (TV.v (IV.int IntKind.i64 m)) = some (TV.v (IV.int IntKind.i64 m)) ∧ some (TV.v (IV.int IntKind.i64 (0 : Int))) = some (TV.v (IV.int IntKind.i64 (0 : Int))) ∧ h = h ∧ True ∧ True) ∨
 ∃ (x : Nat × Heap × Nat),
 some (TV.v IV.nilslice) = some (TV.v (IV.hslice (Prod.snd (Prod.snd x)) (0 : Nat) (Prod.fst x) (5 : Nat))) ∧
 some (TV.v (IV.vslice none e1 (List.length l) (1 : Nat) (List.map (IV.int IntKind.i64) l))) = some (TV.v (IV.vslice none e1 (List.length l) (1 : Nat) (List.map (IV.int IntKind.i64) l))) ∧
 some (TV.v (IV.int IntKind.i64 m)) = some (TV.v (IV.int IntKind.i64 m)) ∧
 some (TV.v (IV.int IntKind.i64 (0 : Int))) = some (TV.v (IV.int IntKind.i64 (↑(Prod.fst x) : Int))) ∧
 h = Prod.fst (Prod.snd x) ∧
 ((((1 : Nat) ≤ Prod.fst x ∧ Prod.fst x ≤ List.length l) ∧ (↑(Prod.fst x) : Int) ≤ m) ∧
 Heap.get (Prod.fst (Prod.snd x)) (Prod.snd (Prod.snd x)) = IObj.cells (List.flatMap cIns (insT l (Prod.fst x))) ∧ Prod.snd (Prod.snd x) < Heap.next (Prod.fst (Prod.snd x))) ∧
 True) ∧
 (∀ (x : Unit) (b : FF),
 True →
 brS (decide ((0 : Int) < (↑(List.length l) : Int)))
 (brS (decide ((0 : Int) < m))
 (needS (true && decide ((0 : Int) < (↑(List.length l) : Int)))
 (ldIS IntKind.i64 (List.map (IV.int IntKind.i64) l) (0 : Nat) fun (n0 : Int) =>
 (∃ (x : Unit),
 some (TV.v (IV.hslice (Heap.next h) (0 : Nat) (1 : Nat) (5 : Nat))) = some (TV.v IV.nilslice) ∧
 some (TV.v (IV.vslice none e1 (List.length l) (1 : Nat) (List.map (IV.int IntKind.i64) l))) = some (TV.v (IV.vslice none e1 (List.length l) (1 : Nat) (List.map (IV.int IntKind.i64) l))) ∧
 some (TV.v (IV.int IntKind.i64 m)) = some (TV.v (IV.int IntKind.i64 m)) ∧
 some (TV.v (IV.int IntKind.i64 (1 : Int))) = some (TV.v (IV.int IntKind.i64 (0 : Int))) ∧
 Heap.push h (IObj.cells [IV.int IntKind.i64 (In.op (kin n0)), IV.int IntKind.i64 (In.a (kin n0)), IV.int IntKind.i64 (In.b (kin n0)), IV.int IntKind.i64 (In.c (kin n0)), IV.int IntKind.i64 (In.n (kin n0))]) = h ∧
 True ∧ List.length l < List.length l) ∨
 ∃ (x : Nat × Heap × Nat),
 some (TV.v (IV.hslice (Heap.next h) (0 : Nat) (1 : Nat) (5 : Nat))) = some (TV.v (IV.hslice (Prod.snd (Prod.snd x)) (0 : Nat) (Prod.fst x) (5 : Nat))) ∧
 some (TV.v (IV.vslice none e1 (List.length l) (1 : Nat) (List.map (IV.int IntKind.i64) l))) = some (TV.v (IV.vslice none e1 (List.length l) (1 : Nat) (List.map (IV.int IntKind.i64) l))) ∧
 some (TV.v (IV.int IntKind.i64 m)) = some (TV.v (IV.int IntKind.i64 m)) ∧
 some (TV.v (IV.int IntKind.i64 (1 : Int))) = some (TV.v (IV.int IntKind.i64 (↑(Prod.fst x) : Int))) ∧
 Heap.push h (IObj.cells [IV.int IntKind.i64 (In.op (kin n0)), IV.int IntKind.i64 (In.a (kin n0)), IV.int IntKind.i64 (In.b (kin n0)), IV.int IntKind.i64 (In.c (kin n0)), IV.int IntKind.i64 (In.n (kin n0))]) =
 Prod.fst (Prod.snd x) ∧
 ((((1 : Nat) ≤ Prod.fst x ∧ Prod.fst x ≤ List.length l) ∧ (↑(Prod.fst x) : Int) ≤ m) ∧
 Heap.get (Prod.fst (Prod.snd x)) (Prod.snd (Prod.snd x)) = IObj.cells (List.flatMap cIns (insT l (Prod.fst x))) ∧ Prod.snd (Prod.snd x) < Heap.next (Prod.fst (Prod.snd x))) ∧
 List.length l - Prod.fst x < List.length l))
 (Q IV.nilslice h))
 (Q IV.nilslice h)) ∧
 ∀ (x : Nat × Heap × Nat) (b : FF),
 (((1 : Nat) ≤ Prod.fst x ∧ Prod.fst x ≤ List.length l) ∧ (↑(Prod.fst x) : Int) ≤ m) ∧
 Heap.get (Prod.fst (Prod.snd x)) (Prod.snd (Prod.snd x)) = IObj.cells (List.flatMap cIns (insT l (Prod.fst x))) ∧ Prod.snd (Prod.snd x) < Heap.next (Prod.fst (Prod.snd x)) →
 brS (decide ((↑(Prod.fst x) : Int) < (↑(List.length l) : Int)))
 (brS (decide ((↑(Prod.fst x) : Int) < m))
 (needS (decide ((0 : Int) ≤ (↑(Prod.fst x) : Int)) && decide ((↑(Prod.fst x) : Int) < (↑(List.length l) : Int)))
 (ldIS IntKind.i64 (List.map (IV.int IntKind.i64) l) (Int.toNat (↑(Prod.fst x) : Int) * (1 : Nat)) fun (n1 : Int) =>
 hgetS (Prod.fst (Prod.snd x)) (Prod.snd (Prod.snd x)) fun (r2 : List IV) =>
 needS (true && (Nat.ble (Prod.fst x * (5 : Nat)) (List.length r2) && Nat.ble ((Prod.fst x + (1 : Nat)) * (40 : Nat)) (140737488355328 : Nat)))
 ((∃ (x_1 : Unit),
 some (TV.v (IV.hslice (Heap.next (Prod.fst (Prod.snd x))) (0 : Nat) (Prod.fst x + (1 : Nat)) (5 : Nat))) = some (TV.v IV.nilslice) ∧
 some (TV.v (IV.vslice none e1 (List.length l) (1 : Nat) (List.map (IV.int IntKind.i64) l))) = some (TV.v (IV.vslice none e1 (List.length l) (1 : Nat) (List.map (IV.int IntKind.i64) l))) ∧
 some (TV.v (IV.int IntKind.i64 m)) = some (TV.v (IV.int IntKind.i64 m)) ∧
 some (TV.v (IV.int IntKind.i64 (IntKind.wrap IntKind.i64 ((↑(Prod.fst x) : Int) + (1 : Int))))) = some (TV.v (IV.int IntKind.i64 (0 : Int))) ∧
 Heap.push (Heap.set (Prod.fst (Prod.snd x)) (Prod.snd (Prod.snd x)) IObj.dead)
 (IObj.cells
 (List.take (Prod.fst x * (5 : Nat)) r2 ++
 [IV.int IntKind.i64 (In.op (kin n1)), IV.int IntKind.i64 (In.a (kin n1)), IV.int IntKind.i64 (In.b (kin n1)), IV.int IntKind.i64 (In.c (kin n1)), IV.int IntKind.i64 (In.n (kin n1))])) =
 h ∧
 True ∧ List.length l < List.length l - Prod.fst x) ∨
 ∃ (x_1 : Nat × Heap × Nat),
 some (TV.v (IV.hslice (Heap.next (Prod.fst (Prod.snd x))) (0 : Nat) (Prod.fst x + (1 : Nat)) (5 : Nat))) = some (TV.v (IV.hslice (Prod.snd (Prod.snd x_1)) (0 : Nat) (Prod.fst x_1) (5 : Nat))) ∧
 some (TV.v (IV.vslice none e1 (List.length l) (1 : Nat) (List.map (IV.int IntKind.i64) l))) = some (TV.v (IV.vslice none e1 (List.length l) (1 : Nat) (List.map (IV.int IntKind.i64) l))) ∧
 some (TV.v (IV.int IntKind.i64 m)) = some (TV.v (IV.int IntKind.i64 m)) ∧
 some (TV.v (IV.int IntKind.i64 (IntKind.wrap IntKind.i64 ((↑(Prod.fst x) : Int) + (1 : Int))))) = some (TV.v (IV.int IntKind.i64 (↑(Prod.fst x_1) : Int))) ∧
 Heap.push (Heap.set (Prod.fst (Prod.snd x)) (Prod.snd (Prod.snd x)) IObj.dead)
 (IObj.cells
 (List.take (Prod.fst x * (5 : Nat)) r2 ++
 [IV.int IntKind.i64 (In.op (kin n1)), IV.int IntKind.i64 (In.a (kin n1)), IV.int IntKind.i64 (In.b (kin n1)), IV.int IntKind.i64 (In.c (kin n1)), IV.int IntKind.i64 (In.n (kin n1))])) =
 Prod.fst (Prod.snd x_1) ∧
 ((((1 : Nat) ≤ Prod.fst x_1 ∧ Prod.fst x_1 ≤ List.length l) ∧ (↑(Prod.fst x_1) : Int) ≤ m) ∧
 Heap.get (Prod.fst (Prod.snd x_1)) (Prod.snd (Prod.snd x_1)) = IObj.cells (List.flatMap cIns (insT l (Prod.fst x_1))) ∧ Prod.snd (Prod.snd x_1) < Heap.next (Prod.fst (Prod.snd x_1))) ∧
 List.length l - Prod.fst x_1 < List.length l - Prod.fst x)))
 (Q (IV.hslice (Prod.snd (Prod.snd x)) (0 : Nat) (Prod.fst x) (5 : Nat)) (Prod.fst (Prod.snd x))))
 (Q (IV.hslice (Prod.snd (Prod.snd x)) (0 : Nat) (Prod.fst x) (5 : Nat)) (Prod.fst (Prod.snd x)))) := by kernel_rfl
set_option maxHeartbeats 2000000 in
theorem sInstrs : ∀ xs h Q, kInstrs xs h Q → CallW env 39 xs h Q := by
  intro xs h Q hk
  unfold kInstrs at hk
  split at hk
  · rename_i e1 n1 c1 m
    obtain ⟨l, ⟨rfl, rfl⟩, hb, hk⟩ := hk
    refine dF_run (okExG) (vInstrs l e1 m h Q) ?_
    obtain ⟨hl, hm⟩ := hb
    have tn : ∀ x : Nat, (x : Int).toNat = x := Int.toNat_natCast
    refine ⟨.inl ⟨(), rfl, rfl, rfl, rfl, rfl, trivial, trivial⟩, fun _ _ _ => ?_, fun x _ hx => ?_⟩
    · refine brS_intro (fun c1 => brS_intro (fun c2 => needS_intro (by simpa using c1) ?_) (fun c2 => ?_)) (fun c1 => ?_)
      · rw [decide_eq_true_eq] at c1 c2
        have h0 : 0 < l.length := by omega
        have e1 : insT l 1 = [kin l[0]] := by rw [insT_succ h0]; rfl
        refine ldIS_map (i := 0) h0 (.inr ⟨(1, h.push (.cells (cIns (kin l[0]))), h.next), rfl, rfl, rfl, rfl, rfl, ⟨⟨⟨by omega, by omega⟩, by simp only; omega⟩, ?_, ?_⟩, by simp only; omega⟩)
        · simp only [get_push, if_pos trivial]; rw [e1]; rfl
        · simp only [next_push]; omega
      · rw [decide_eq_false_iff_not] at c2
        rw [insK_nil (.inr (by omega))] at hk
        exact hk.1 rfl
      · rw [decide_eq_false_iff_not] at c1
        rw [insK_nil (.inl (by omega))] at hk
        exact hk.1 rfl
    · obtain ⟨i, hp, g⟩ := x
      obtain ⟨⟨⟨h1, h2⟩, h3⟩, hg, hgn⟩ := hx
      simp only at h1 h2 h3 hg hgn
      have hil := insT_len h2
      refine brS_intro (fun c1 => brS_intro (fun c2 => needS_intro (by simp at c1; simp; omega) ?_) (fun c2 => ?_)) (fun c1 => ?_)
      · rw [decide_eq_true_eq] at c1 c2
        have h0 : i < l.length := by simp only at c1; omega
        have hlen : ((insT l i).flatMap cIns).length = i * 5 := by
          rw [flatMap_len5, hil]
        rw [tn, Nat.mul_one]
        refine ldIS_map (i := i) h0 (hget_i hg (needS_intro (by simp [nbeq_t, hlen]; omega) (.inr ⟨(i + 1, (hp.set g .dead).push (.cells ((insT l i).flatMap cIns ++ cIns (kin l[i]))), hp.next), rfl, rfl, rfl, ?_, ?_, ⟨⟨⟨by simp only; omega, by simp only; omega⟩, by simp only at c2 ⊢; omega⟩, ?_, ?_⟩, by simp only; omega⟩)))
        · simp only; rw [IntWalk.i64_in _ (by omega)]; rfl
        · simp only; rw [List.take_of_length_le (by rw [hlen]; exact Nat.le_refl _)]; rfl
        · simp only [get_push, next_set, if_pos trivial]; rw [insT_succ h0]; simp
        · simp only [next_push, next_set]; omega
      · rw [decide_eq_false_iff_not] at c2
        have e := insK_end' h2 h3 (.inr c2)
        rw [e] at hk
        have hk2 := hk.2 (fun z => by rw [z] at hil; simp at hil; omega) g hp hg hgn
        rw [hil] at hk2
        exact hk2
      · rw [decide_eq_false_iff_not] at c1
        have e := insK_end' h2 h3 (.inl (by simp only at c1; omega))
        rw [e] at hk
        have hk2 := hk.2 (fun z => by rw [z] at hil; simp at hil; omega) g hp hg hgn
        rw [hil] at hk2
        exact hk2
  · exact hk.elim
def cInstrs := addC 39 kInstrs cExG
theorem okInstrs : Sound env cInstrs := sound_add sInstrs (okExG)

end Go.Proofs.YtlenjfbmpekabaaDoor
