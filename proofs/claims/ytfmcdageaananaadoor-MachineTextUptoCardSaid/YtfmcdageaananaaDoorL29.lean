/-
  The target machine: the reference's parser.
  Conditions: none.
-/
import Derived.Test.YtfmcdageaananaaDoorH29
import Derived.Test.YtfmcdageaananaaDoorY29
import Derived.KernelRfl
set_option linter.unusedVariables false
set_option linter.unusedSimpArgs false
namespace Go.Proofs.YtfmcdageaananaaDoor
open Go.Pv Go.M29
theorem ldSS_at {l : List (List UInt8)} {k o : Nat} {K : List UInt8 → Prop} (h : k < l.length) (ho : o = k) (hk : K l[k]) : ldSS (l.map IV.str) o K := by
  subst ho
  unfold ldSS
  rw [List.getElem?_map, List.getElem?_eq_getElem h]
  exact hk
theorem hd_at {x : List UInt8} (h : 0 < x.length) (c : (x[0].toNat : Int) = 114) : x.head? = some 114 := by
  cases x with
  | nil => simp at h
  | cons b r =>
    have e : b = 114 := b_eq (c := 114) (by show b.toNat = 114; simp at c; omega)
    rw [e]; rfl
theorem hd_of {x : List UInt8} (h : 0 < x.length) (c : x.head? = some 114) : (x[0].toNat : Int) = 114 := by
  cases x with
  | nil => simp at h
  | cons b r =>
    rw [List.head?_cons, Option.some.injEq] at c
    subst c; rfl
abbrev OPs (s : List UInt8) : Int := Prod.fst (lkp rows (1 : Int) (nameS s))
abbrev z5 : List IV := [IV.int IntKind.i64 (0 : Int), IV.int IntKind.i64 (0 : Int), IV.int IntKind.i64 (0 : Int), IV.int IntKind.i64 (0 : Int), IV.int IntKind.i64 (0 : Int)]
abbrev NOq (Q : IV → Heap → Prop) (h : Heap) : Prop := Q (IV.tuple [IV.agg z5, IV.bool false]) h
abbrev Ss (s : List UInt8) : Prop := some (TV.v (IV.str s)) = some (TV.v (IV.str s))
abbrev Sl : Prop := some (TV.l (2 : Nat) (0 : Nat)) = some (TV.l (2 : Nat) (0 : Nat))
abbrev So (s : List UInt8) : Prop := some (TV.v (IV.int IntKind.i64 (OPs s))) = some (TV.v (IV.int IntKind.i64 (OPs s)))
abbrev Vp (s : List UInt8) : Option TV := some (TV.v (IV.vslice none (0 : Nat) (List.length (pcsS s)) (1 : Nat) (List.map IV.str (pcsS s))))
abbrev Sz : Prop := some z5 = some z5
def rpInv1 (s : List UInt8) : Inv' := atX Nat (fun i => [(0, .v (.str s)), (2, .l 2 0), (4, .v (.int .i64 i))]) (fun _ => [(2, [.int .i64 0, .int .i64 0, .int .i64 0, .int .i64 0, .int .i64 0])]) (fun _ => Heap.empty) (fun i => i ≤ s.length ∧ ∀ b ∈ s.take i, b ≠ 32) (fun i => s.length - i)
def rpA (s : List UInt8) : Inv' := atC [(0, .v (.str s)), (2, .l 2 0), (4, .v (.int .i64 (nameS s).length))] [(2, [.int .i64 0, .int .i64 0, .int .i64 0, .int .i64 0, .int .i64 0])] Heap.empty
def rpB (s : List UInt8) (op : Int) : Inv' := .or
  (atP ((lkp rows 1 (nameS s)).2 = true ∧ pcsS s = []) [(0, .v (.str s)), (2, .l 2 0), (5, .v (.int .i64 op)), (7, .v .nilslice)] [(2, [.int .i64 0, .int .i64 0, .int .i64 0, .int .i64 0, .int .i64 0])] Heap.empty)
  (atP ((lkp rows 1 (nameS s)).2 = true) [(0, .v (.str s)), (2, .l 2 0), (5, .v (.int .i64 op)), (7, .v (.vslice none 0 (pcsS s).length 1 ((pcsS s).map IV.str)))] [(2, [.int .i64 0, .int .i64 0, .int .i64 0, .int .i64 0, .int .i64 0])] Heap.empty)
def rpInv2 (s : List UInt8) (op : Int) : Inv' := .or
  (atP (pcsS s = []) [(0, .v (.str s)), (2, .l 2 0), (5, .v (.int .i64 op)), (7, .v .nilslice), (8, .v .nilslice), (9, .v (.int .i64 0))] [(2, [.int .i64 0, .int .i64 0, .int .i64 0, .int .i64 0, .int .i64 0])] Heap.empty)
  (.or
  (atX Unit (fun _ => [(0, .v (.str s)), (2, .l 2 0), (5, .v (.int .i64 op)), (7, .v (.vslice none 0 (pcsS s).length 1 ((pcsS s).map IV.str))), (8, .v .nilslice), (9, .v (.int .i64 0))]) (fun _ => [(2, [.int .i64 0, .int .i64 0, .int .i64 0, .int .i64 0, .int .i64 0])]) (fun _ => Heap.empty) (fun _ => True) (fun _ => (pcsS s).length + 1))
  (atX (Nat × List Int) (fun x => [(0, .v (.str s)), (2, .l 2 0), (5, .v (.int .i64 op)), (7, .v (.vslice none 0 (pcsS s).length 1 ((pcsS s).map IV.str))), (8, .v (.vslice (some 0) (x.2).length (x.2).length 1 ((x.2).map (IV.int .i64)))), (9, .v (.int .i64 x.1))]) (fun _ => [(2, [.int .i64 0, .int .i64 0, .int .i64 0, .int .i64 0, .int .i64 0])]) (fun x => ⟨.node .nil (some (.tip (x.2).length)) .nil, 1⟩)
    (fun x => (x.1 ≤ (pcsS s).length ∧ x.2.length = x.1) ∧ VL s op x.1 x.2) (fun x => (pcsS s).length - x.1)))
def rpInv3 (s : List UInt8) (op : Int) : Inv' := .or
  (atX Unit (fun _ => [(0, .v (.str s)), (2, .l 2 0), (5, .v (.int .i64 op)), (8, .v .nilslice)]) (fun _ => [(2, [.int .i64 0, .int .i64 0, .int .i64 0, .int .i64 0, .int .i64 0])]) (fun _ => Heap.empty) (fun _ => VP s op []) (fun _ => 5))
  (atX (List Int) (fun x => [(0, .v (.str s)), (2, .l 2 0), (5, .v (.int .i64 op)), (8, .v (.vslice (some 0) (x).length (x).length 1 ((x).map (IV.int .i64))))]) (fun _ => [(2, [.int .i64 0, .int .i64 0, .int .i64 0, .int .i64 0, .int .i64 0])]) (fun x => ⟨.node .nil (some (.tip (x).length)) .nil, 1⟩) (fun x => VP s op x ∧ x.length ≤ s.length + 10) (fun x => 4 - x.length))
def rpC (s : List UInt8) (op : Int) : Inv' := atX (Int × Int × Int × Int × List Int) (fun x => [(0, .v (.str s)), (2, .l 2 0), (5, .v (.int .i64 op)), (8, .v (.vslice (some 0) (x.2.2.2.2.length + 4) (x.2.2.2.2.length + 4) 1 (.int .i64 x.1 :: .int .i64 x.2.1 :: .int .i64 x.2.2.1 :: .int .i64 x.2.2.2.1 :: x.2.2.2.2.map (IV.int .i64))))]) (fun _ => [(2, [.int .i64 0, .int .i64 0, .int .i64 0, .int .i64 0, .int .i64 0])]) (fun x => ⟨.node .nil (some (.tip (x.2.2.2.2.length + 4))) .nil, 1⟩) (fun x => VP s op (x.1 :: x.2.1 :: x.2.2.1 :: x.2.2.2.1 :: x.2.2.2.2)) (fun _ => 0)
def rpD (s : List UInt8) (op : Int) : Inv' := atX (Int × Int × Int × Int × Heap) (fun x => [(0, .v (.str s)), (2, .l 2 0), (13, .l 13 0)]) (fun x => (13, [.int .i64 op, .int .i64 x.1, .int .i64 x.2.1, .int .i64 x.2.2.1, .int .i64 x.2.2.2.1]) :: [(2, [.int .i64 0, .int .i64 0, .int .i64 0, .int .i64 0, .int .i64 0])]) (fun x => x.2.2.2.2) (fun x => PD s op x.1 x.2.1 x.2.2.1 x.2.2.2.1) (fun _ => 0)
def kRParse (xs : List IV) (h : Heap) (K : IV → Heap → Prop) : Prop := match xs with
  | [.str s] => s.length ≤ 10000000 ∧ ∀ r : In × Bool, Rs s r → K (.tuple [.agg [.int .i64 r.1.op, .int .i64 r.1.a, .int .i64 r.1.b, .int .i64 r.1.c, .int .i64 r.1.n], .bool r.2]) h
  | _ => False
set_option maxRecDepth 100000 in
theorem vRParse (s : List UInt8) (h : Heap) (Q : IV → Heap → Prop) : dF (stdS cRFormat) env 22 noU (icA 3 (rpInv1 s) (icA 13 (rpInv2 s (lkp rows 1 (nameS s)).1) (ic1 22 (rpInv3 s (lkp rows 1 (nameS s)).1)))) (icS (icA 5 (rpA s) (icA 11 (rpB s (lkp rows 1 (nameS s)).1) (icA 22 (rpInv3 s (lkp rows 1 (nameS s)).1) (icA 24 (rpC s (lkp rows 1 (nameS s)).1) (ic1 39 (rpD s (lkp rows 1 (nameS s)).1))))))) [.str s] h Q = (
  ((∃ (x : Nat),
 Ss s ∧
 Sl ∧
 some (TV.v (IV.int IntKind.i64 (0 : Int))) = some (TV.v (IV.int IntKind.i64 (↑x : Int))) ∧
 Sz ∧
 Heap.empty = Heap.empty ∧ (x ≤ List.length s ∧ ∀ (b : UInt8), b ∈ List.take x s → b ≠ (32 : UInt8)) ∧ True) ∧
 ∀ (x : Nat) (b : FF),
 (x ≤ List.length s ∧ ∀ (b : UInt8), b ∈ List.take x s → b ≠ (32 : UInt8)) →
 brS (decide ((↑x : Int) < (↑(List.length s) : Int)))
 (chrS s (Int.toNat (↑x : Int)) fun (c0 : Int) =>
 brS (c0 != (32 : Int))
 (∃ (x_1 : Nat),
 Ss s ∧
 Sl ∧
 some (TV.v (IV.int IntKind.i64 (IntKind.wrap IntKind.i64 ((↑x : Int) + (1 : Int))))) = some (TV.v (IV.int IntKind.i64 (↑x_1 : Int))) ∧
 Sz ∧
 Heap.empty = Heap.empty ∧ (x_1 ≤ List.length s ∧ ∀ (b : UInt8), b ∈ List.take x_1 s → b ≠ (32 : UInt8)) ∧ List.length s - x_1 < List.length s - x)
 (Ss s ∧
 Sl ∧
 some (TV.v (IV.int IntKind.i64 (↑x : Int))) = some (TV.v (IV.int IntKind.i64 (↑(List.length (nameS s)) : Int))) ∧
 Sz ∧
 Heap.empty = Heap.empty ∧ True ∧ True))
 (Ss s ∧
 Sl ∧
 some (TV.v (IV.int IntKind.i64 (↑x : Int))) = some (TV.v (IV.int IntKind.i64 (↑(List.length (nameS s)) : Int))) ∧
 Sz ∧
 Heap.empty = Heap.empty ∧ True ∧ True)) ∧
 (∀ (x : Unit) (b : FF),
 True →
 needS (true && (decide ((0 : Int) ≤ (↑(List.length (nameS s)) : Int)) && decide ((↑(List.length (nameS s)) : Int) ≤ (↑(List.length s) : Int))))
 (brS (!Prod.snd (lkp rows (1 : Int) (List.take (Int.toNat (↑(List.length (nameS s)) : Int) - (0 : Nat)) s)))
 (NOq Q h)
 (brS (decide ((↑(List.length (nameS s)) : Int) < (↑(List.length s) : Int)))
 (needS
 (decide ((0 : Int) ≤ IntKind.wrap IntKind.i64 ((↑(List.length (nameS s)) : Int) + (1 : Int))) &&
 (decide (IntKind.wrap IntKind.i64 ((↑(List.length (nameS s)) : Int) + (1 : Int)) ≤ (↑(List.length s) : Int)) && decide ((↑(List.length s) : Int) ≤ (↑(List.length s) : Int))))
 (List.length
 (List.take (Int.toNat (↑(List.length s) : Int) - Int.toNat (IntKind.wrap IntKind.i64 ((↑(List.length (nameS s)) : Int) + (1 : Int))))
 (List.drop (Int.toNat (IntKind.wrap IntKind.i64 ((↑(List.length (nameS s)) : Int) + (1 : Int)))) s)) ≤
 (1000000000000 : Nat) ∧
 (Ss s ∧
 Sl ∧
 some (TV.v (IV.int IntKind.i64 (Prod.fst (lkp rows (1 : Int) (List.take (Int.toNat (↑(List.length (nameS s)) : Int) - (0 : Nat)) s))))) = some (TV.v (IV.int IntKind.i64 (OPs s))) ∧
 some
 (TV.v
 (IV.vslice none (0 : Nat)
 (List.length
 (cpl []
 (List.take (Int.toNat (↑(List.length s) : Int) - Int.toNat (IntKind.wrap IntKind.i64 ((↑(List.length (nameS s)) : Int) + (1 : Int))))
 (List.drop (Int.toNat (IntKind.wrap IntKind.i64 ((↑(List.length (nameS s)) : Int) + (1 : Int)))) s))))
 (1 : Nat)
 (List.map IV.str
 (cpl []
 (List.take (Int.toNat (↑(List.length s) : Int) - Int.toNat (IntKind.wrap IntKind.i64 ((↑(List.length (nameS s)) : Int) + (1 : Int))))
 (List.drop (Int.toNat (IntKind.wrap IntKind.i64 ((↑(List.length (nameS s)) : Int) + (1 : Int)))) s)))))) =
 some (TV.v IV.nilslice) ∧
 Sz ∧
 Heap.empty = Heap.empty ∧ (Prod.snd (lkp rows (1 : Int) (nameS s)) = true ∧ pcsS s = []) ∧ True ∨
 Ss s ∧
 Sl ∧
 some (TV.v (IV.int IntKind.i64 (Prod.fst (lkp rows (1 : Int) (List.take (Int.toNat (↑(List.length (nameS s)) : Int) - (0 : Nat)) s))))) = some (TV.v (IV.int IntKind.i64 (OPs s))) ∧
 some
 (TV.v
 (IV.vslice none (0 : Nat)
 (List.length
 (cpl []
 (List.take (Int.toNat (↑(List.length s) : Int) - Int.toNat (IntKind.wrap IntKind.i64 ((↑(List.length (nameS s)) : Int) + (1 : Int))))
 (List.drop (Int.toNat (IntKind.wrap IntKind.i64 ((↑(List.length (nameS s)) : Int) + (1 : Int)))) s))))
 (1 : Nat)
 (List.map IV.str
 (cpl []
 (List.take (Int.toNat (↑(List.length s) : Int) - Int.toNat (IntKind.wrap IntKind.i64 ((↑(List.length (nameS s)) : Int) + (1 : Int))))
 (List.drop (Int.toNat (IntKind.wrap IntKind.i64 ((↑(List.length (nameS s)) : Int) + (1 : Int)))) s)))))) =
 Vp s ∧
 Sz ∧
 Heap.empty = Heap.empty ∧ Prod.snd (lkp rows (1 : Int) (nameS s)) = true ∧ True)))
 (Ss s ∧
 Sl ∧
 some (TV.v (IV.int IntKind.i64 (Prod.fst (lkp rows (1 : Int) (List.take (Int.toNat (↑(List.length (nameS s)) : Int) - (0 : Nat)) s))))) = some (TV.v (IV.int IntKind.i64 (OPs s))) ∧
 some (TV.v IV.nilslice) = some (TV.v IV.nilslice) ∧
 Sz ∧
 Heap.empty = Heap.empty ∧ (Prod.snd (lkp rows (1 : Int) (nameS s)) = true ∧ pcsS s = []) ∧ True ∨
 Ss s ∧
 Sl ∧
 some (TV.v (IV.int IntKind.i64 (Prod.fst (lkp rows (1 : Int) (List.take (Int.toNat (↑(List.length (nameS s)) : Int) - (0 : Nat)) s))))) = some (TV.v (IV.int IntKind.i64 (OPs s))) ∧
 some (TV.v IV.nilslice) = Vp s ∧
 Sz ∧
 Heap.empty = Heap.empty ∧ Prod.snd (lkp rows (1 : Int) (nameS s)) = true ∧ True)))) ∧
 ((∀ (x : Unit) (b : FF),
 Prod.snd (lkp rows (1 : Int) (nameS s)) = true ∧ pcsS s = [] →
 (Ss s ∧
 Sl ∧
 So s ∧
 some (TV.v IV.nilslice) = some (TV.v IV.nilslice) ∧
 some (TV.v IV.nilslice) = some (TV.v IV.nilslice) ∧
 some (TV.v (IV.int IntKind.i64 (0 : Int))) = some (TV.v (IV.int IntKind.i64 (0 : Int))) ∧
 Sz ∧
 Heap.empty = Heap.empty ∧ pcsS s = [] ∧ True ∨
 (∃ (x : Unit),
 Ss s ∧
 Sl ∧
 So s ∧
 some (TV.v IV.nilslice) = Vp s ∧
 some (TV.v IV.nilslice) = some (TV.v IV.nilslice) ∧
 some (TV.v (IV.int IntKind.i64 (0 : Int))) = some (TV.v (IV.int IntKind.i64 (0 : Int))) ∧
 Sz ∧
 Heap.empty = Heap.empty ∧ True ∧ True) ∨
 ∃ (x : Nat × List Int),
 Ss s ∧
 Sl ∧
 So s ∧
 some (TV.v IV.nilslice) = Vp s ∧
 some (TV.v IV.nilslice) = some (TV.v (IV.vslice (some (0 : Nat)) (List.length (Prod.snd x)) (List.length (Prod.snd x)) (1 : Nat) (List.map (IV.int IntKind.i64) (Prod.snd x)))) ∧
 some (TV.v (IV.int IntKind.i64 (0 : Int))) = some (TV.v (IV.int IntKind.i64 (↑(Prod.fst x) : Int))) ∧
 Sz ∧
 Heap.mk PT.nil (0 : Nat) = Heap.mk (PT.node PT.nil (some (IObj.tip (List.length (Prod.snd x)))) PT.nil) (1 : Nat) ∧
 ((Prod.fst x ≤ List.length (pcsS s) ∧ List.length (Prod.snd x) = Prod.fst x) ∧ VL s (OPs s) (Prod.fst x) (Prod.snd x)) ∧ True) ∧
 (∀ (x : Unit) (b : FF),
 pcsS s = [] →
 (∃ (x : Unit),
 Ss s ∧
 Sl ∧
 So s ∧
 some (TV.v IV.nilslice) = some (TV.v IV.nilslice) ∧
 Sz ∧
 Heap.empty = Heap.empty ∧
 (∀ (i : In), vIn i = true → fmtS i = s → OPs s = In.op i ∧ ∃ (m : Nat), [] = valsOf i ++ List.replicate m (0 : Int)) ∧ True) ∨
 ∃ (x : List Int),
 Ss s ∧
 Sl ∧
 So s ∧
 some (TV.v IV.nilslice) = some (TV.v (IV.vslice (some (0 : Nat)) (List.length x) (List.length x) (1 : Nat) (List.map (IV.int IntKind.i64) x))) ∧
 Sz ∧
 Heap.mk PT.nil (0 : Nat) = Heap.mk (PT.node PT.nil (some (IObj.tip (List.length x))) PT.nil) (1 : Nat) ∧
 (VP s (OPs s) x ∧ List.length x ≤ List.length s + (10 : Nat)) ∧ True) ∧
 (∀ (x : Unit) (b : FF),
 True →
 brS (decide ((0 : Int) < (↑(List.length (pcsS s)) : Int)))
 (needS (true && decide ((0 : Int) < (↑(List.length (pcsS s)) : Int)))
 (ldSS (List.map IV.str (pcsS s)) (0 : Nat) fun (s1 : List UInt8) =>
 brS (decide ((↑(List.length s1) : Int) > (1 : Int)))
 (chrS s1 (0 : Nat) fun (c2 : Int) =>
 brS (c2 == (114 : Int))
 (needS (true && (decide ((1 : Int) ≤ (↑(List.length s1) : Int)) && decide ((↑(List.length s1) : Int) ≤ (↑(List.length s1) : Int))))
 (∀ (v : Int) (b : Bool),
 (-9223372036854775808 : Int) ≤ v ∧ v ≤ (9223372036854775807 : Int) →
 (∀ (n : Int),
 (-9223372036854775808 : Int) ≤ n ∧ n ≤ (9223372036854775807 : Int) →
 List.take (Int.toNat (↑(List.length s1) : Int) - Int.toNat (1 : Int)) (List.drop (Int.toNat (1 : Int)) s1) = txt n → v = n ∧ b = true) →
 brS (!b)
 (NOq Q h)
 (brS (decide (v < (-4611686018427387904 : Int)))
 (brS (OPs s != (14 : Int))
 (NOq Q h)
 (brS (decide (v > (4611686018427387904 : Int)))
 (brS (OPs s != (14 : Int))
 (NOq Q h)
 (Ss s ∧
 Sl ∧
 So s ∧
 Vp s = some (TV.v IV.nilslice) ∧
 some (TV.v (IV.vslice (some (0 : Nat)) (1 : Nat) (1 : Nat) (1 : Nat) [IV.int IntKind.i64 v])) = some (TV.v IV.nilslice) ∧
 some (TV.v (IV.int IntKind.i64 (1 : Int))) = some (TV.v (IV.int IntKind.i64 (0 : Int))) ∧
 Sz ∧
 Heap.mk (PT.node PT.nil (some (IObj.tip (1 : Nat))) PT.nil) ((0 : Nat) + (1 : Nat)) = Heap.mk PT.nil (0 : Nat) ∧
 pcsS s = [] ∧ (0 : Nat) < List.length (pcsS s) + (1 : Nat) ∨
 (∃ (x : Unit),
 Ss s ∧
 Sl ∧
 So s ∧
 Vp s =
 Vp s ∧
 some (TV.v (IV.vslice (some (0 : Nat)) (1 : Nat) (1 : Nat) (1 : Nat) [IV.int IntKind.i64 v])) = some (TV.v IV.nilslice) ∧
 some (TV.v (IV.int IntKind.i64 (1 : Int))) = some (TV.v (IV.int IntKind.i64 (0 : Int))) ∧
 Sz ∧
 Heap.mk (PT.node PT.nil (some (IObj.tip (1 : Nat))) PT.nil) ((0 : Nat) + (1 : Nat)) = Heap.mk PT.nil (0 : Nat) ∧
 True ∧ List.length (pcsS s) + (1 : Nat) < List.length (pcsS s) + (1 : Nat)) ∨
 ∃ (x : Nat × List Int),
 Ss s ∧
 Sl ∧
 So s ∧
 Vp s =
 Vp s ∧
 some (TV.v (IV.vslice (some (0 : Nat)) (1 : Nat) (1 : Nat) (1 : Nat) [IV.int IntKind.i64 v])) =
 some (TV.v (IV.vslice (some (0 : Nat)) (List.length (Prod.snd x)) (List.length (Prod.snd x)) (1 : Nat) (List.map (IV.int IntKind.i64) (Prod.snd x)))) ∧
 some (TV.v (IV.int IntKind.i64 (1 : Int))) = some (TV.v (IV.int IntKind.i64 (↑(Prod.fst x) : Int))) ∧
 Sz ∧
 Heap.mk (PT.node PT.nil (some (IObj.tip (1 : Nat))) PT.nil) ((0 : Nat) + (1 : Nat)) =
 Heap.mk (PT.node PT.nil (some (IObj.tip (List.length (Prod.snd x)))) PT.nil) (1 : Nat) ∧
 ((Prod.fst x ≤ List.length (pcsS s) ∧ List.length (Prod.snd x) = Prod.fst x) ∧ VL s (OPs s) (Prod.fst x) (Prod.snd x)) ∧
 List.length (pcsS s) - Prod.fst x < List.length (pcsS s) + (1 : Nat)))
 (Ss s ∧
 Sl ∧
 So s ∧
 Vp s = some (TV.v IV.nilslice) ∧
 some (TV.v (IV.vslice (some (0 : Nat)) (1 : Nat) (1 : Nat) (1 : Nat) [IV.int IntKind.i64 v])) = some (TV.v IV.nilslice) ∧
 some (TV.v (IV.int IntKind.i64 (1 : Int))) = some (TV.v (IV.int IntKind.i64 (0 : Int))) ∧
 Sz ∧
 Heap.mk (PT.node PT.nil (some (IObj.tip (1 : Nat))) PT.nil) ((0 : Nat) + (1 : Nat)) = Heap.mk PT.nil (0 : Nat) ∧ pcsS s = [] ∧ (0 : Nat) < List.length (pcsS s) + (1 : Nat) ∨
 (∃ (x : Unit),
 Ss s ∧
 Sl ∧
 So s ∧
 Vp s =
 Vp s ∧
 some (TV.v (IV.vslice (some (0 : Nat)) (1 : Nat) (1 : Nat) (1 : Nat) [IV.int IntKind.i64 v])) = some (TV.v IV.nilslice) ∧
 some (TV.v (IV.int IntKind.i64 (1 : Int))) = some (TV.v (IV.int IntKind.i64 (0 : Int))) ∧
 Sz ∧
 Heap.mk (PT.node PT.nil (some (IObj.tip (1 : Nat))) PT.nil) ((0 : Nat) + (1 : Nat)) = Heap.mk PT.nil (0 : Nat) ∧
 True ∧ List.length (pcsS s) + (1 : Nat) < List.length (pcsS s) + (1 : Nat)) ∨
 ∃ (x : Nat × List Int),
 Ss s ∧
 Sl ∧
 So s ∧
 Vp s =
 Vp s ∧
 some (TV.v (IV.vslice (some (0 : Nat)) (1 : Nat) (1 : Nat) (1 : Nat) [IV.int IntKind.i64 v])) =
 some (TV.v (IV.vslice (some (0 : Nat)) (List.length (Prod.snd x)) (List.length (Prod.snd x)) (1 : Nat) (List.map (IV.int IntKind.i64) (Prod.snd x)))) ∧
 some (TV.v (IV.int IntKind.i64 (1 : Int))) = some (TV.v (IV.int IntKind.i64 (↑(Prod.fst x) : Int))) ∧
 Sz ∧
 Heap.mk (PT.node PT.nil (some (IObj.tip (1 : Nat))) PT.nil) ((0 : Nat) + (1 : Nat)) =
 Heap.mk (PT.node PT.nil (some (IObj.tip (List.length (Prod.snd x)))) PT.nil) (1 : Nat) ∧
 ((Prod.fst x ≤ List.length (pcsS s) ∧ List.length (Prod.snd x) = Prod.fst x) ∧ VL s (OPs s) (Prod.fst x) (Prod.snd x)) ∧
 List.length (pcsS s) - Prod.fst x < List.length (pcsS s) + (1 : Nat))))
 (brS (decide (v > (4611686018427387904 : Int)))
 (brS (OPs s != (14 : Int))
 (NOq Q h)
 (Ss s ∧
 Sl ∧
 So s ∧
 Vp s = some (TV.v IV.nilslice) ∧
 some (TV.v (IV.vslice (some (0 : Nat)) (1 : Nat) (1 : Nat) (1 : Nat) [IV.int IntKind.i64 v])) = some (TV.v IV.nilslice) ∧
 some (TV.v (IV.int IntKind.i64 (1 : Int))) = some (TV.v (IV.int IntKind.i64 (0 : Int))) ∧
 Sz ∧
 Heap.mk (PT.node PT.nil (some (IObj.tip (1 : Nat))) PT.nil) ((0 : Nat) + (1 : Nat)) = Heap.mk PT.nil (0 : Nat) ∧ pcsS s = [] ∧ (0 : Nat) < List.length (pcsS s) + (1 : Nat) ∨
 (∃ (x : Unit),
 Ss s ∧
 Sl ∧
 So s ∧
 Vp s =
 Vp s ∧
 some (TV.v (IV.vslice (some (0 : Nat)) (1 : Nat) (1 : Nat) (1 : Nat) [IV.int IntKind.i64 v])) = some (TV.v IV.nilslice) ∧
 some (TV.v (IV.int IntKind.i64 (1 : Int))) = some (TV.v (IV.int IntKind.i64 (0 : Int))) ∧
 Sz ∧
 Heap.mk (PT.node PT.nil (some (IObj.tip (1 : Nat))) PT.nil) ((0 : Nat) + (1 : Nat)) = Heap.mk PT.nil (0 : Nat) ∧
 True ∧ List.length (pcsS s) + (1 : Nat) < List.length (pcsS s) + (1 : Nat)) ∨
 ∃ (x : Nat × List Int),
 Ss s ∧
 Sl ∧
 So s ∧
 Vp s =
 Vp s ∧
 some (TV.v (IV.vslice (some (0 : Nat)) (1 : Nat) (1 : Nat) (1 : Nat) [IV.int IntKind.i64 v])) =
 some (TV.v (IV.vslice (some (0 : Nat)) (List.length (Prod.snd x)) (List.length (Prod.snd x)) (1 : Nat) (List.map (IV.int IntKind.i64) (Prod.snd x)))) ∧
 some (TV.v (IV.int IntKind.i64 (1 : Int))) = some (TV.v (IV.int IntKind.i64 (↑(Prod.fst x) : Int))) ∧
 Sz ∧
 Heap.mk (PT.node PT.nil (some (IObj.tip (1 : Nat))) PT.nil) ((0 : Nat) + (1 : Nat)) =
 Heap.mk (PT.node PT.nil (some (IObj.tip (List.length (Prod.snd x)))) PT.nil) (1 : Nat) ∧
 ((Prod.fst x ≤ List.length (pcsS s) ∧ List.length (Prod.snd x) = Prod.fst x) ∧ VL s (OPs s) (Prod.fst x) (Prod.snd x)) ∧
 List.length (pcsS s) - Prod.fst x < List.length (pcsS s) + (1 : Nat)))
 (Ss s ∧
 Sl ∧
 So s ∧
 Vp s = some (TV.v IV.nilslice) ∧
 some (TV.v (IV.vslice (some (0 : Nat)) (1 : Nat) (1 : Nat) (1 : Nat) [IV.int IntKind.i64 v])) = some (TV.v IV.nilslice) ∧
 some (TV.v (IV.int IntKind.i64 (1 : Int))) = some (TV.v (IV.int IntKind.i64 (0 : Int))) ∧
 Sz ∧
 Heap.mk (PT.node PT.nil (some (IObj.tip (1 : Nat))) PT.nil) ((0 : Nat) + (1 : Nat)) = Heap.mk PT.nil (0 : Nat) ∧ pcsS s = [] ∧ (0 : Nat) < List.length (pcsS s) + (1 : Nat) ∨
 (∃ (x : Unit),
 Ss s ∧
 Sl ∧
 So s ∧
 Vp s =
 Vp s ∧
 some (TV.v (IV.vslice (some (0 : Nat)) (1 : Nat) (1 : Nat) (1 : Nat) [IV.int IntKind.i64 v])) = some (TV.v IV.nilslice) ∧
 some (TV.v (IV.int IntKind.i64 (1 : Int))) = some (TV.v (IV.int IntKind.i64 (0 : Int))) ∧
 Sz ∧
 Heap.mk (PT.node PT.nil (some (IObj.tip (1 : Nat))) PT.nil) ((0 : Nat) + (1 : Nat)) = Heap.mk PT.nil (0 : Nat) ∧
 True ∧ List.length (pcsS s) + (1 : Nat) < List.length (pcsS s) + (1 : Nat)) ∨
 ∃ (x : Nat × List Int),
 Ss s ∧
 Sl ∧
 So s ∧
 Vp s =
 Vp s ∧
 some (TV.v (IV.vslice (some (0 : Nat)) (1 : Nat) (1 : Nat) (1 : Nat) [IV.int IntKind.i64 v])) =
 some (TV.v (IV.vslice (some (0 : Nat)) (List.length (Prod.snd x)) (List.length (Prod.snd x)) (1 : Nat) (List.map (IV.int IntKind.i64) (Prod.snd x)))) ∧
 some (TV.v (IV.int IntKind.i64 (1 : Int))) = some (TV.v (IV.int IntKind.i64 (↑(Prod.fst x) : Int))) ∧
 Sz ∧
 Heap.mk (PT.node PT.nil (some (IObj.tip (1 : Nat))) PT.nil) ((0 : Nat) + (1 : Nat)) =
 Heap.mk (PT.node PT.nil (some (IObj.tip (List.length (Prod.snd x)))) PT.nil) (1 : Nat) ∧
 ((Prod.fst x ≤ List.length (pcsS s) ∧ List.length (Prod.snd x) = Prod.fst x) ∧ VL s (OPs s) (Prod.fst x) (Prod.snd x)) ∧
 List.length (pcsS s) - Prod.fst x < List.length (pcsS s) + (1 : Nat))))))
 (∀ (v : Int) (b : Bool),
 (-9223372036854775808 : Int) ≤ v ∧ v ≤ (9223372036854775807 : Int) →
 (∀ (n : Int), (-9223372036854775808 : Int) ≤ n ∧ n ≤ (9223372036854775807 : Int) → s1 = txt n → v = n ∧ b = true) →
 brS (!b) (NOq Q h)
 (brS (decide (v < (-4611686018427387904 : Int)))
 (brS (OPs s != (14 : Int))
 (NOq Q h)
 (brS (decide (v > (4611686018427387904 : Int)))
 (brS (OPs s != (14 : Int))
 (NOq Q h)
 (Ss s ∧
 Sl ∧
 So s ∧
 Vp s = some (TV.v IV.nilslice) ∧
 some (TV.v (IV.vslice (some (0 : Nat)) (1 : Nat) (1 : Nat) (1 : Nat) [IV.int IntKind.i64 v])) = some (TV.v IV.nilslice) ∧
 some (TV.v (IV.int IntKind.i64 (1 : Int))) = some (TV.v (IV.int IntKind.i64 (0 : Int))) ∧
 Sz ∧
 Heap.mk (PT.node PT.nil (some (IObj.tip (1 : Nat))) PT.nil) ((0 : Nat) + (1 : Nat)) = Heap.mk PT.nil (0 : Nat) ∧ pcsS s = [] ∧ (0 : Nat) < List.length (pcsS s) + (1 : Nat) ∨
 (∃ (x : Unit),
 Ss s ∧
 Sl ∧
 So s ∧
 Vp s =
 Vp s ∧
 some (TV.v (IV.vslice (some (0 : Nat)) (1 : Nat) (1 : Nat) (1 : Nat) [IV.int IntKind.i64 v])) = some (TV.v IV.nilslice) ∧
 some (TV.v (IV.int IntKind.i64 (1 : Int))) = some (TV.v (IV.int IntKind.i64 (0 : Int))) ∧
 Sz ∧
 Heap.mk (PT.node PT.nil (some (IObj.tip (1 : Nat))) PT.nil) ((0 : Nat) + (1 : Nat)) = Heap.mk PT.nil (0 : Nat) ∧
 True ∧ List.length (pcsS s) + (1 : Nat) < List.length (pcsS s) + (1 : Nat)) ∨
 ∃ (x : Nat × List Int),
 Ss s ∧
 Sl ∧
 So s ∧
 Vp s =
 Vp s ∧
 some (TV.v (IV.vslice (some (0 : Nat)) (1 : Nat) (1 : Nat) (1 : Nat) [IV.int IntKind.i64 v])) =
 some (TV.v (IV.vslice (some (0 : Nat)) (List.length (Prod.snd x)) (List.length (Prod.snd x)) (1 : Nat) (List.map (IV.int IntKind.i64) (Prod.snd x)))) ∧
 some (TV.v (IV.int IntKind.i64 (1 : Int))) = some (TV.v (IV.int IntKind.i64 (↑(Prod.fst x) : Int))) ∧
 Sz ∧
 Heap.mk (PT.node PT.nil (some (IObj.tip (1 : Nat))) PT.nil) ((0 : Nat) + (1 : Nat)) =
 Heap.mk (PT.node PT.nil (some (IObj.tip (List.length (Prod.snd x)))) PT.nil) (1 : Nat) ∧
 ((Prod.fst x ≤ List.length (pcsS s) ∧ List.length (Prod.snd x) = Prod.fst x) ∧ VL s (OPs s) (Prod.fst x) (Prod.snd x)) ∧
 List.length (pcsS s) - Prod.fst x < List.length (pcsS s) + (1 : Nat)))
 (Ss s ∧
 Sl ∧
 So s ∧
 Vp s = some (TV.v IV.nilslice) ∧
 some (TV.v (IV.vslice (some (0 : Nat)) (1 : Nat) (1 : Nat) (1 : Nat) [IV.int IntKind.i64 v])) = some (TV.v IV.nilslice) ∧
 some (TV.v (IV.int IntKind.i64 (1 : Int))) = some (TV.v (IV.int IntKind.i64 (0 : Int))) ∧
 Sz ∧
 Heap.mk (PT.node PT.nil (some (IObj.tip (1 : Nat))) PT.nil) ((0 : Nat) + (1 : Nat)) = Heap.mk PT.nil (0 : Nat) ∧ pcsS s = [] ∧ (0 : Nat) < List.length (pcsS s) + (1 : Nat) ∨
 (∃ (x : Unit),
 Ss s ∧
 Sl ∧
 So s ∧
 Vp s =
 Vp s ∧
 some (TV.v (IV.vslice (some (0 : Nat)) (1 : Nat) (1 : Nat) (1 : Nat) [IV.int IntKind.i64 v])) = some (TV.v IV.nilslice) ∧
 some (TV.v (IV.int IntKind.i64 (1 : Int))) = some (TV.v (IV.int IntKind.i64 (0 : Int))) ∧
 Sz ∧
 Heap.mk (PT.node PT.nil (some (IObj.tip (1 : Nat))) PT.nil) ((0 : Nat) + (1 : Nat)) = Heap.mk PT.nil (0 : Nat) ∧
 True ∧ List.length (pcsS s) + (1 : Nat) < List.length (pcsS s) + (1 : Nat)) ∨
 ∃ (x : Nat × List Int),
 Ss s ∧
 Sl ∧
 So s ∧
 Vp s =
 Vp s ∧
 some (TV.v (IV.vslice (some (0 : Nat)) (1 : Nat) (1 : Nat) (1 : Nat) [IV.int IntKind.i64 v])) =
 some (TV.v (IV.vslice (some (0 : Nat)) (List.length (Prod.snd x)) (List.length (Prod.snd x)) (1 : Nat) (List.map (IV.int IntKind.i64) (Prod.snd x)))) ∧
 some (TV.v (IV.int IntKind.i64 (1 : Int))) = some (TV.v (IV.int IntKind.i64 (↑(Prod.fst x) : Int))) ∧
 Sz ∧
 Heap.mk (PT.node PT.nil (some (IObj.tip (1 : Nat))) PT.nil) ((0 : Nat) + (1 : Nat)) =
 Heap.mk (PT.node PT.nil (some (IObj.tip (List.length (Prod.snd x)))) PT.nil) (1 : Nat) ∧
 ((Prod.fst x ≤ List.length (pcsS s) ∧ List.length (Prod.snd x) = Prod.fst x) ∧ VL s (OPs s) (Prod.fst x) (Prod.snd x)) ∧
 List.length (pcsS s) - Prod.fst x < List.length (pcsS s) + (1 : Nat))))
 (brS (decide (v > (4611686018427387904 : Int)))
 (brS (OPs s != (14 : Int))
 (NOq Q h)
 (Ss s ∧
 Sl ∧
 So s ∧
 Vp s = some (TV.v IV.nilslice) ∧
 some (TV.v (IV.vslice (some (0 : Nat)) (1 : Nat) (1 : Nat) (1 : Nat) [IV.int IntKind.i64 v])) = some (TV.v IV.nilslice) ∧
 some (TV.v (IV.int IntKind.i64 (1 : Int))) = some (TV.v (IV.int IntKind.i64 (0 : Int))) ∧
 Sz ∧
 Heap.mk (PT.node PT.nil (some (IObj.tip (1 : Nat))) PT.nil) ((0 : Nat) + (1 : Nat)) = Heap.mk PT.nil (0 : Nat) ∧ pcsS s = [] ∧ (0 : Nat) < List.length (pcsS s) + (1 : Nat) ∨
 (∃ (x : Unit),
 Ss s ∧
 Sl ∧
 So s ∧
 Vp s =
 Vp s ∧
 some (TV.v (IV.vslice (some (0 : Nat)) (1 : Nat) (1 : Nat) (1 : Nat) [IV.int IntKind.i64 v])) = some (TV.v IV.nilslice) ∧
 some (TV.v (IV.int IntKind.i64 (1 : Int))) = some (TV.v (IV.int IntKind.i64 (0 : Int))) ∧
 Sz ∧
 Heap.mk (PT.node PT.nil (some (IObj.tip (1 : Nat))) PT.nil) ((0 : Nat) + (1 : Nat)) = Heap.mk PT.nil (0 : Nat) ∧
 True ∧ List.length (pcsS s) + (1 : Nat) < List.length (pcsS s) + (1 : Nat)) ∨
 ∃ (x : Nat × List Int),
 Ss s ∧
 Sl ∧
 So s ∧
 Vp s =
 Vp s ∧
 some (TV.v (IV.vslice (some (0 : Nat)) (1 : Nat) (1 : Nat) (1 : Nat) [IV.int IntKind.i64 v])) =
 some (TV.v (IV.vslice (some (0 : Nat)) (List.length (Prod.snd x)) (List.length (Prod.snd x)) (1 : Nat) (List.map (IV.int IntKind.i64) (Prod.snd x)))) ∧
 some (TV.v (IV.int IntKind.i64 (1 : Int))) = some (TV.v (IV.int IntKind.i64 (↑(Prod.fst x) : Int))) ∧
 Sz ∧
 Heap.mk (PT.node PT.nil (some (IObj.tip (1 : Nat))) PT.nil) ((0 : Nat) + (1 : Nat)) =
 Heap.mk (PT.node PT.nil (some (IObj.tip (List.length (Prod.snd x)))) PT.nil) (1 : Nat) ∧
 ((Prod.fst x ≤ List.length (pcsS s) ∧ List.length (Prod.snd x) = Prod.fst x) ∧ VL s (OPs s) (Prod.fst x) (Prod.snd x)) ∧
 List.length (pcsS s) - Prod.fst x < List.length (pcsS s) + (1 : Nat)))
 (Ss s ∧
 Sl ∧
 So s ∧
 Vp s = some (TV.v IV.nilslice) ∧
 some (TV.v (IV.vslice (some (0 : Nat)) (1 : Nat) (1 : Nat) (1 : Nat) [IV.int IntKind.i64 v])) = some (TV.v IV.nilslice) ∧
 some (TV.v (IV.int IntKind.i64 (1 : Int))) = some (TV.v (IV.int IntKind.i64 (0 : Int))) ∧
 Sz ∧
 Heap.mk (PT.node PT.nil (some (IObj.tip (1 : Nat))) PT.nil) ((0 : Nat) + (1 : Nat)) = Heap.mk PT.nil (0 : Nat) ∧ pcsS s = [] ∧ (0 : Nat) < List.length (pcsS s) + (1 : Nat) ∨
 (∃ (x : Unit),
 Ss s ∧
 Sl ∧
 So s ∧
 Vp s =
 Vp s ∧
 some (TV.v (IV.vslice (some (0 : Nat)) (1 : Nat) (1 : Nat) (1 : Nat) [IV.int IntKind.i64 v])) = some (TV.v IV.nilslice) ∧
 some (TV.v (IV.int IntKind.i64 (1 : Int))) = some (TV.v (IV.int IntKind.i64 (0 : Int))) ∧
 Sz ∧
 Heap.mk (PT.node PT.nil (some (IObj.tip (1 : Nat))) PT.nil) ((0 : Nat) + (1 : Nat)) = Heap.mk PT.nil (0 : Nat) ∧
 True ∧ List.length (pcsS s) + (1 : Nat) < List.length (pcsS s) + (1 : Nat)) ∨
 ∃ (x : Nat × List Int),
 Ss s ∧
 Sl ∧
 So s ∧
 Vp s =
 Vp s ∧
 some (TV.v (IV.vslice (some (0 : Nat)) (1 : Nat) (1 : Nat) (1 : Nat) [IV.int IntKind.i64 v])) =
 some (TV.v (IV.vslice (some (0 : Nat)) (List.length (Prod.snd x)) (List.length (Prod.snd x)) (1 : Nat) (List.map (IV.int IntKind.i64) (Prod.snd x)))) ∧
 some (TV.v (IV.int IntKind.i64 (1 : Int))) = some (TV.v (IV.int IntKind.i64 (↑(Prod.fst x) : Int))) ∧
 Sz ∧
 Heap.mk (PT.node PT.nil (some (IObj.tip (1 : Nat))) PT.nil) ((0 : Nat) + (1 : Nat)) = Heap.mk (PT.node PT.nil (some (IObj.tip (List.length (Prod.snd x)))) PT.nil) (1 : Nat) ∧
 ((Prod.fst x ≤ List.length (pcsS s) ∧ List.length (Prod.snd x) = Prod.fst x) ∧ VL s (OPs s) (Prod.fst x) (Prod.snd x)) ∧
 List.length (pcsS s) - Prod.fst x < List.length (pcsS s) + (1 : Nat))))))
 (∀ (v : Int) (b : Bool),
 (-9223372036854775808 : Int) ≤ v ∧ v ≤ (9223372036854775807 : Int) →
 (∀ (n : Int), (-9223372036854775808 : Int) ≤ n ∧ n ≤ (9223372036854775807 : Int) → s1 = txt n → v = n ∧ b = true) →
 brS (!b) (NOq Q h)
 (brS (decide (v < (-4611686018427387904 : Int)))
 (brS (OPs s != (14 : Int))
 (NOq Q h)
 (brS (decide (v > (4611686018427387904 : Int)))
 (brS (OPs s != (14 : Int))
 (NOq Q h)
 (Ss s ∧
 Sl ∧
 So s ∧
 Vp s = some (TV.v IV.nilslice) ∧
 some (TV.v (IV.vslice (some (0 : Nat)) (1 : Nat) (1 : Nat) (1 : Nat) [IV.int IntKind.i64 v])) = some (TV.v IV.nilslice) ∧
 some (TV.v (IV.int IntKind.i64 (1 : Int))) = some (TV.v (IV.int IntKind.i64 (0 : Int))) ∧
 Sz ∧
 Heap.mk (PT.node PT.nil (some (IObj.tip (1 : Nat))) PT.nil) ((0 : Nat) + (1 : Nat)) = Heap.mk PT.nil (0 : Nat) ∧ pcsS s = [] ∧ (0 : Nat) < List.length (pcsS s) + (1 : Nat) ∨
 (∃ (x : Unit),
 Ss s ∧
 Sl ∧
 So s ∧
 Vp s =
 Vp s ∧
 some (TV.v (IV.vslice (some (0 : Nat)) (1 : Nat) (1 : Nat) (1 : Nat) [IV.int IntKind.i64 v])) = some (TV.v IV.nilslice) ∧
 some (TV.v (IV.int IntKind.i64 (1 : Int))) = some (TV.v (IV.int IntKind.i64 (0 : Int))) ∧
 Sz ∧
 Heap.mk (PT.node PT.nil (some (IObj.tip (1 : Nat))) PT.nil) ((0 : Nat) + (1 : Nat)) = Heap.mk PT.nil (0 : Nat) ∧
 True ∧ List.length (pcsS s) + (1 : Nat) < List.length (pcsS s) + (1 : Nat)) ∨
 ∃ (x : Nat × List Int),
 Ss s ∧
 Sl ∧
 So s ∧
 Vp s =
 Vp s ∧
 some (TV.v (IV.vslice (some (0 : Nat)) (1 : Nat) (1 : Nat) (1 : Nat) [IV.int IntKind.i64 v])) =
 some (TV.v (IV.vslice (some (0 : Nat)) (List.length (Prod.snd x)) (List.length (Prod.snd x)) (1 : Nat) (List.map (IV.int IntKind.i64) (Prod.snd x)))) ∧
 some (TV.v (IV.int IntKind.i64 (1 : Int))) = some (TV.v (IV.int IntKind.i64 (↑(Prod.fst x) : Int))) ∧
 Sz ∧
 Heap.mk (PT.node PT.nil (some (IObj.tip (1 : Nat))) PT.nil) ((0 : Nat) + (1 : Nat)) = Heap.mk (PT.node PT.nil (some (IObj.tip (List.length (Prod.snd x)))) PT.nil) (1 : Nat) ∧
 ((Prod.fst x ≤ List.length (pcsS s) ∧ List.length (Prod.snd x) = Prod.fst x) ∧ VL s (OPs s) (Prod.fst x) (Prod.snd x)) ∧
 List.length (pcsS s) - Prod.fst x < List.length (pcsS s) + (1 : Nat)))
 (Ss s ∧
 Sl ∧
 So s ∧
 Vp s = some (TV.v IV.nilslice) ∧
 some (TV.v (IV.vslice (some (0 : Nat)) (1 : Nat) (1 : Nat) (1 : Nat) [IV.int IntKind.i64 v])) = some (TV.v IV.nilslice) ∧
 some (TV.v (IV.int IntKind.i64 (1 : Int))) = some (TV.v (IV.int IntKind.i64 (0 : Int))) ∧
 Sz ∧
 Heap.mk (PT.node PT.nil (some (IObj.tip (1 : Nat))) PT.nil) ((0 : Nat) + (1 : Nat)) = Heap.mk PT.nil (0 : Nat) ∧ pcsS s = [] ∧ (0 : Nat) < List.length (pcsS s) + (1 : Nat) ∨
 (∃ (x : Unit),
 Ss s ∧
 Sl ∧
 So s ∧
 Vp s =
 Vp s ∧
 some (TV.v (IV.vslice (some (0 : Nat)) (1 : Nat) (1 : Nat) (1 : Nat) [IV.int IntKind.i64 v])) = some (TV.v IV.nilslice) ∧
 some (TV.v (IV.int IntKind.i64 (1 : Int))) = some (TV.v (IV.int IntKind.i64 (0 : Int))) ∧
 Sz ∧
 Heap.mk (PT.node PT.nil (some (IObj.tip (1 : Nat))) PT.nil) ((0 : Nat) + (1 : Nat)) = Heap.mk PT.nil (0 : Nat) ∧
 True ∧ List.length (pcsS s) + (1 : Nat) < List.length (pcsS s) + (1 : Nat)) ∨
 ∃ (x : Nat × List Int),
 Ss s ∧
 Sl ∧
 So s ∧
 Vp s =
 Vp s ∧
 some (TV.v (IV.vslice (some (0 : Nat)) (1 : Nat) (1 : Nat) (1 : Nat) [IV.int IntKind.i64 v])) =
 some (TV.v (IV.vslice (some (0 : Nat)) (List.length (Prod.snd x)) (List.length (Prod.snd x)) (1 : Nat) (List.map (IV.int IntKind.i64) (Prod.snd x)))) ∧
 some (TV.v (IV.int IntKind.i64 (1 : Int))) = some (TV.v (IV.int IntKind.i64 (↑(Prod.fst x) : Int))) ∧
 Sz ∧
 Heap.mk (PT.node PT.nil (some (IObj.tip (1 : Nat))) PT.nil) ((0 : Nat) + (1 : Nat)) = Heap.mk (PT.node PT.nil (some (IObj.tip (List.length (Prod.snd x)))) PT.nil) (1 : Nat) ∧
 ((Prod.fst x ≤ List.length (pcsS s) ∧ List.length (Prod.snd x) = Prod.fst x) ∧ VL s (OPs s) (Prod.fst x) (Prod.snd x)) ∧
 List.length (pcsS s) - Prod.fst x < List.length (pcsS s) + (1 : Nat))))
 (brS (decide (v > (4611686018427387904 : Int)))
 (brS (OPs s != (14 : Int))
 (NOq Q h)
 (Ss s ∧
 Sl ∧
 So s ∧
 Vp s = some (TV.v IV.nilslice) ∧
 some (TV.v (IV.vslice (some (0 : Nat)) (1 : Nat) (1 : Nat) (1 : Nat) [IV.int IntKind.i64 v])) = some (TV.v IV.nilslice) ∧
 some (TV.v (IV.int IntKind.i64 (1 : Int))) = some (TV.v (IV.int IntKind.i64 (0 : Int))) ∧
 Sz ∧
 Heap.mk (PT.node PT.nil (some (IObj.tip (1 : Nat))) PT.nil) ((0 : Nat) + (1 : Nat)) = Heap.mk PT.nil (0 : Nat) ∧ pcsS s = [] ∧ (0 : Nat) < List.length (pcsS s) + (1 : Nat) ∨
 (∃ (x : Unit),
 Ss s ∧
 Sl ∧
 So s ∧
 Vp s =
 Vp s ∧
 some (TV.v (IV.vslice (some (0 : Nat)) (1 : Nat) (1 : Nat) (1 : Nat) [IV.int IntKind.i64 v])) = some (TV.v IV.nilslice) ∧
 some (TV.v (IV.int IntKind.i64 (1 : Int))) = some (TV.v (IV.int IntKind.i64 (0 : Int))) ∧
 Sz ∧
 Heap.mk (PT.node PT.nil (some (IObj.tip (1 : Nat))) PT.nil) ((0 : Nat) + (1 : Nat)) = Heap.mk PT.nil (0 : Nat) ∧
 True ∧ List.length (pcsS s) + (1 : Nat) < List.length (pcsS s) + (1 : Nat)) ∨
 ∃ (x : Nat × List Int),
 Ss s ∧
 Sl ∧
 So s ∧
 Vp s =
 Vp s ∧
 some (TV.v (IV.vslice (some (0 : Nat)) (1 : Nat) (1 : Nat) (1 : Nat) [IV.int IntKind.i64 v])) =
 some (TV.v (IV.vslice (some (0 : Nat)) (List.length (Prod.snd x)) (List.length (Prod.snd x)) (1 : Nat) (List.map (IV.int IntKind.i64) (Prod.snd x)))) ∧
 some (TV.v (IV.int IntKind.i64 (1 : Int))) = some (TV.v (IV.int IntKind.i64 (↑(Prod.fst x) : Int))) ∧
 Sz ∧
 Heap.mk (PT.node PT.nil (some (IObj.tip (1 : Nat))) PT.nil) ((0 : Nat) + (1 : Nat)) = Heap.mk (PT.node PT.nil (some (IObj.tip (List.length (Prod.snd x)))) PT.nil) (1 : Nat) ∧
 ((Prod.fst x ≤ List.length (pcsS s) ∧ List.length (Prod.snd x) = Prod.fst x) ∧ VL s (OPs s) (Prod.fst x) (Prod.snd x)) ∧
 List.length (pcsS s) - Prod.fst x < List.length (pcsS s) + (1 : Nat)))
 (Ss s ∧
 Sl ∧
 So s ∧
 Vp s = some (TV.v IV.nilslice) ∧
 some (TV.v (IV.vslice (some (0 : Nat)) (1 : Nat) (1 : Nat) (1 : Nat) [IV.int IntKind.i64 v])) = some (TV.v IV.nilslice) ∧
 some (TV.v (IV.int IntKind.i64 (1 : Int))) = some (TV.v (IV.int IntKind.i64 (0 : Int))) ∧
 Sz ∧
 Heap.mk (PT.node PT.nil (some (IObj.tip (1 : Nat))) PT.nil) ((0 : Nat) + (1 : Nat)) = Heap.mk PT.nil (0 : Nat) ∧ pcsS s = [] ∧ (0 : Nat) < List.length (pcsS s) + (1 : Nat) ∨
 (∃ (x : Unit),
 Ss s ∧
 Sl ∧
 So s ∧
 Vp s =
 Vp s ∧
 some (TV.v (IV.vslice (some (0 : Nat)) (1 : Nat) (1 : Nat) (1 : Nat) [IV.int IntKind.i64 v])) = some (TV.v IV.nilslice) ∧
 some (TV.v (IV.int IntKind.i64 (1 : Int))) = some (TV.v (IV.int IntKind.i64 (0 : Int))) ∧
 Sz ∧
 Heap.mk (PT.node PT.nil (some (IObj.tip (1 : Nat))) PT.nil) ((0 : Nat) + (1 : Nat)) = Heap.mk PT.nil (0 : Nat) ∧
 True ∧ List.length (pcsS s) + (1 : Nat) < List.length (pcsS s) + (1 : Nat)) ∨
 ∃ (x : Nat × List Int),
 Ss s ∧
 Sl ∧
 So s ∧
 Vp s =
 Vp s ∧
 some (TV.v (IV.vslice (some (0 : Nat)) (1 : Nat) (1 : Nat) (1 : Nat) [IV.int IntKind.i64 v])) =
 some (TV.v (IV.vslice (some (0 : Nat)) (List.length (Prod.snd x)) (List.length (Prod.snd x)) (1 : Nat) (List.map (IV.int IntKind.i64) (Prod.snd x)))) ∧
 some (TV.v (IV.int IntKind.i64 (1 : Int))) = some (TV.v (IV.int IntKind.i64 (↑(Prod.fst x) : Int))) ∧
 Sz ∧
 Heap.mk (PT.node PT.nil (some (IObj.tip (1 : Nat))) PT.nil) ((0 : Nat) + (1 : Nat)) = Heap.mk (PT.node PT.nil (some (IObj.tip (List.length (Prod.snd x)))) PT.nil) (1 : Nat) ∧
 ((Prod.fst x ≤ List.length (pcsS s) ∧ List.length (Prod.snd x) = Prod.fst x) ∧ VL s (OPs s) (Prod.fst x) (Prod.snd x)) ∧
 List.length (pcsS s) - Prod.fst x < List.length (pcsS s) + (1 : Nat)))))))
 ((∃ (x : Unit),
 Ss s ∧
 Sl ∧
 So s ∧
 some (TV.v IV.nilslice) = some (TV.v IV.nilslice) ∧
 Sz ∧
 Heap.empty = Heap.empty ∧
 (∀ (i : In), vIn i = true → fmtS i = s → OPs s = In.op i ∧ ∃ (m : Nat), [] = valsOf i ++ List.replicate m (0 : Int)) ∧ True) ∨
 ∃ (x : List Int),
 Ss s ∧
 Sl ∧
 So s ∧
 some (TV.v IV.nilslice) = some (TV.v (IV.vslice (some (0 : Nat)) (List.length x) (List.length x) (1 : Nat) (List.map (IV.int IntKind.i64) x))) ∧
 Sz ∧
 Heap.mk PT.nil (0 : Nat) = Heap.mk (PT.node PT.nil (some (IObj.tip (List.length x))) PT.nil) (1 : Nat) ∧
 (VP s (OPs s) x ∧ List.length x ≤ List.length s + (10 : Nat)) ∧ True)) ∧
 ∀ (x : Nat × List Int) (b : FF),
 (Prod.fst x ≤ List.length (pcsS s) ∧ List.length (Prod.snd x) = Prod.fst x) ∧ VL s (OPs s) (Prod.fst x) (Prod.snd x) →
 brS (decide ((↑(Prod.fst x) : Int) < (↑(List.length (pcsS s)) : Int)))
 (needS (decide ((0 : Int) ≤ (↑(Prod.fst x) : Int)) && decide ((↑(Prod.fst x) : Int) < (↑(List.length (pcsS s)) : Int)))
 (ldSS (List.map IV.str (pcsS s)) (Int.toNat (↑(Prod.fst x) : Int) * (1 : Nat)) fun (s3 : List UInt8) =>
 brS (decide ((↑(List.length s3) : Int) > (1 : Int)))
 (chrS s3 (0 : Nat) fun (c4 : Int) =>
 brS (c4 == (114 : Int))
 (needS (true && (decide ((1 : Int) ≤ (↑(List.length s3) : Int)) && decide ((↑(List.length s3) : Int) ≤ (↑(List.length s3) : Int))))
 (∀ (v : Int) (b : Bool),
 (-9223372036854775808 : Int) ≤ v ∧ v ≤ (9223372036854775807 : Int) →
 (∀ (n : Int),
 (-9223372036854775808 : Int) ≤ n ∧ n ≤ (9223372036854775807 : Int) →
 List.take (Int.toNat (↑(List.length s3) : Int) - Int.toNat (1 : Int)) (List.drop (Int.toNat (1 : Int)) s3) = txt n → v = n ∧ b = true) →
 brS (!b)
 (NOq Q h)
 (brS (decide (v < (-4611686018427387904 : Int)))
 (brS (OPs s != (14 : Int))
 (NOq Q h)
 (brS (decide (v > (4611686018427387904 : Int)))
 (brS (OPs s != (14 : Int))
 (NOq Q h)
 (needS (Nat.beq (List.length (Prod.snd x)) (List.length (Prod.snd x)) && Nat.ble ((List.length (Prod.snd x) + (1 : Nat)) * (8 : Nat)) (140737488355328 : Nat))
 (Ss s ∧
 Sl ∧
 So s ∧
 Vp s = some (TV.v IV.nilslice) ∧
 some
 (TV.v
 (IV.vslice (some (0 : Nat)) (List.length (Prod.snd x) + (1 : Nat)) (List.length (Prod.snd x) + (1 : Nat)) (1 : Nat)
 (List.map (IV.int IntKind.i64) (Prod.snd x) ++ [IV.int IntKind.i64 v]))) =
 some (TV.v IV.nilslice) ∧
 some (TV.v (IV.int IntKind.i64 (IntKind.wrap IntKind.i64 ((↑(Prod.fst x) : Int) + (1 : Int))))) = some (TV.v (IV.int IntKind.i64 (0 : Int))) ∧
 Sz ∧
 Heap.mk (PT.node PT.nil (some (IObj.tip (List.length (Prod.snd x) + (1 : Nat)))) PT.nil) (1 : Nat) = Heap.mk PT.nil (0 : Nat) ∧
 pcsS s = [] ∧ (0 : Nat) < List.length (pcsS s) - Prod.fst x ∨
 (∃ (x_1 : Unit),
 Ss s ∧
 Sl ∧
 So s ∧
 Vp s =
 Vp s ∧
 some
 (TV.v
 (IV.vslice (some (0 : Nat)) (List.length (Prod.snd x) + (1 : Nat)) (List.length (Prod.snd x) + (1 : Nat)) (1 : Nat)
 (List.map (IV.int IntKind.i64) (Prod.snd x) ++ [IV.int IntKind.i64 v]))) =
 some (TV.v IV.nilslice) ∧
 some (TV.v (IV.int IntKind.i64 (IntKind.wrap IntKind.i64 ((↑(Prod.fst x) : Int) + (1 : Int))))) = some (TV.v (IV.int IntKind.i64 (0 : Int))) ∧
 Sz ∧
 Heap.mk (PT.node PT.nil (some (IObj.tip (List.length (Prod.snd x) + (1 : Nat)))) PT.nil) (1 : Nat) = Heap.mk PT.nil (0 : Nat) ∧
 True ∧ List.length (pcsS s) + (1 : Nat) < List.length (pcsS s) - Prod.fst x) ∨
 ∃ (x_1 : Nat × List Int),
 Ss s ∧
 Sl ∧
 So s ∧
 Vp s =
 Vp s ∧
 some
 (TV.v
 (IV.vslice (some (0 : Nat)) (List.length (Prod.snd x) + (1 : Nat)) (List.length (Prod.snd x) + (1 : Nat)) (1 : Nat)
 (List.map (IV.int IntKind.i64) (Prod.snd x) ++ [IV.int IntKind.i64 v]))) =
 some (TV.v (IV.vslice (some (0 : Nat)) (List.length (Prod.snd x_1)) (List.length (Prod.snd x_1)) (1 : Nat) (List.map (IV.int IntKind.i64) (Prod.snd x_1)))) ∧
 some (TV.v (IV.int IntKind.i64 (IntKind.wrap IntKind.i64 ((↑(Prod.fst x) : Int) + (1 : Int))))) = some (TV.v (IV.int IntKind.i64 (↑(Prod.fst x_1) : Int))) ∧
 Sz ∧
 Heap.mk (PT.node PT.nil (some (IObj.tip (List.length (Prod.snd x) + (1 : Nat)))) PT.nil) (1 : Nat) =
 Heap.mk (PT.node PT.nil (some (IObj.tip (List.length (Prod.snd x_1)))) PT.nil) (1 : Nat) ∧
 ((Prod.fst x_1 ≤ List.length (pcsS s) ∧ List.length (Prod.snd x_1) = Prod.fst x_1) ∧ VL s (OPs s) (Prod.fst x_1) (Prod.snd x_1)) ∧
 List.length (pcsS s) - Prod.fst x_1 < List.length (pcsS s) - Prod.fst x)))
 (needS (Nat.beq (List.length (Prod.snd x)) (List.length (Prod.snd x)) && Nat.ble ((List.length (Prod.snd x) + (1 : Nat)) * (8 : Nat)) (140737488355328 : Nat))
 (Ss s ∧
 Sl ∧
 So s ∧
 Vp s = some (TV.v IV.nilslice) ∧
 some
 (TV.v
 (IV.vslice (some (0 : Nat)) (List.length (Prod.snd x) + (1 : Nat)) (List.length (Prod.snd x) + (1 : Nat)) (1 : Nat)
 (List.map (IV.int IntKind.i64) (Prod.snd x) ++ [IV.int IntKind.i64 v]))) =
 some (TV.v IV.nilslice) ∧
 some (TV.v (IV.int IntKind.i64 (IntKind.wrap IntKind.i64 ((↑(Prod.fst x) : Int) + (1 : Int))))) = some (TV.v (IV.int IntKind.i64 (0 : Int))) ∧
 Sz ∧
 Heap.mk (PT.node PT.nil (some (IObj.tip (List.length (Prod.snd x) + (1 : Nat)))) PT.nil) (1 : Nat) = Heap.mk PT.nil (0 : Nat) ∧
 pcsS s = [] ∧ (0 : Nat) < List.length (pcsS s) - Prod.fst x ∨
 (∃ (x_1 : Unit),
 Ss s ∧
 Sl ∧
 So s ∧
 Vp s =
 Vp s ∧
 some
 (TV.v
 (IV.vslice (some (0 : Nat)) (List.length (Prod.snd x) + (1 : Nat)) (List.length (Prod.snd x) + (1 : Nat)) (1 : Nat)
 (List.map (IV.int IntKind.i64) (Prod.snd x) ++ [IV.int IntKind.i64 v]))) =
 some (TV.v IV.nilslice) ∧
 some (TV.v (IV.int IntKind.i64 (IntKind.wrap IntKind.i64 ((↑(Prod.fst x) : Int) + (1 : Int))))) = some (TV.v (IV.int IntKind.i64 (0 : Int))) ∧
 Sz ∧
 Heap.mk (PT.node PT.nil (some (IObj.tip (List.length (Prod.snd x) + (1 : Nat)))) PT.nil) (1 : Nat) = Heap.mk PT.nil (0 : Nat) ∧
 True ∧ List.length (pcsS s) + (1 : Nat) < List.length (pcsS s) - Prod.fst x) ∨
 ∃ (x_1 : Nat × List Int),
 Ss s ∧
 Sl ∧
 So s ∧
 Vp s =
 Vp s ∧
 some
 (TV.v
 (IV.vslice (some (0 : Nat)) (List.length (Prod.snd x) + (1 : Nat)) (List.length (Prod.snd x) + (1 : Nat)) (1 : Nat)
 (List.map (IV.int IntKind.i64) (Prod.snd x) ++ [IV.int IntKind.i64 v]))) =
 some (TV.v (IV.vslice (some (0 : Nat)) (List.length (Prod.snd x_1)) (List.length (Prod.snd x_1)) (1 : Nat) (List.map (IV.int IntKind.i64) (Prod.snd x_1)))) ∧
 some (TV.v (IV.int IntKind.i64 (IntKind.wrap IntKind.i64 ((↑(Prod.fst x) : Int) + (1 : Int))))) = some (TV.v (IV.int IntKind.i64 (↑(Prod.fst x_1) : Int))) ∧
 Sz ∧
 Heap.mk (PT.node PT.nil (some (IObj.tip (List.length (Prod.snd x) + (1 : Nat)))) PT.nil) (1 : Nat) =
 Heap.mk (PT.node PT.nil (some (IObj.tip (List.length (Prod.snd x_1)))) PT.nil) (1 : Nat) ∧
 ((Prod.fst x_1 ≤ List.length (pcsS s) ∧ List.length (Prod.snd x_1) = Prod.fst x_1) ∧ VL s (OPs s) (Prod.fst x_1) (Prod.snd x_1)) ∧
 List.length (pcsS s) - Prod.fst x_1 < List.length (pcsS s) - Prod.fst x))))
 (brS (decide (v > (4611686018427387904 : Int)))
 (brS (OPs s != (14 : Int))
 (NOq Q h)
 (needS (Nat.beq (List.length (Prod.snd x)) (List.length (Prod.snd x)) && Nat.ble ((List.length (Prod.snd x) + (1 : Nat)) * (8 : Nat)) (140737488355328 : Nat))
 (Ss s ∧
 Sl ∧
 So s ∧
 Vp s = some (TV.v IV.nilslice) ∧
 some
 (TV.v
 (IV.vslice (some (0 : Nat)) (List.length (Prod.snd x) + (1 : Nat)) (List.length (Prod.snd x) + (1 : Nat)) (1 : Nat)
 (List.map (IV.int IntKind.i64) (Prod.snd x) ++ [IV.int IntKind.i64 v]))) =
 some (TV.v IV.nilslice) ∧
 some (TV.v (IV.int IntKind.i64 (IntKind.wrap IntKind.i64 ((↑(Prod.fst x) : Int) + (1 : Int))))) = some (TV.v (IV.int IntKind.i64 (0 : Int))) ∧
 Sz ∧
 Heap.mk (PT.node PT.nil (some (IObj.tip (List.length (Prod.snd x) + (1 : Nat)))) PT.nil) (1 : Nat) = Heap.mk PT.nil (0 : Nat) ∧
 pcsS s = [] ∧ (0 : Nat) < List.length (pcsS s) - Prod.fst x ∨
 (∃ (x_1 : Unit),
 Ss s ∧
 Sl ∧
 So s ∧
 Vp s =
 Vp s ∧
 some
 (TV.v
 (IV.vslice (some (0 : Nat)) (List.length (Prod.snd x) + (1 : Nat)) (List.length (Prod.snd x) + (1 : Nat)) (1 : Nat)
 (List.map (IV.int IntKind.i64) (Prod.snd x) ++ [IV.int IntKind.i64 v]))) =
 some (TV.v IV.nilslice) ∧
 some (TV.v (IV.int IntKind.i64 (IntKind.wrap IntKind.i64 ((↑(Prod.fst x) : Int) + (1 : Int))))) = some (TV.v (IV.int IntKind.i64 (0 : Int))) ∧
 Sz ∧
 Heap.mk (PT.node PT.nil (some (IObj.tip (List.length (Prod.snd x) + (1 : Nat)))) PT.nil) (1 : Nat) = Heap.mk PT.nil (0 : Nat) ∧
 True ∧ List.length (pcsS s) + (1 : Nat) < List.length (pcsS s) - Prod.fst x) ∨
 ∃ (x_1 : Nat × List Int),
 Ss s ∧
 Sl ∧
 So s ∧
 Vp s =
 Vp s ∧
 some
 (TV.v
 (IV.vslice (some (0 : Nat)) (List.length (Prod.snd x) + (1 : Nat)) (List.length (Prod.snd x) + (1 : Nat)) (1 : Nat)
 (List.map (IV.int IntKind.i64) (Prod.snd x) ++ [IV.int IntKind.i64 v]))) =
 some (TV.v (IV.vslice (some (0 : Nat)) (List.length (Prod.snd x_1)) (List.length (Prod.snd x_1)) (1 : Nat) (List.map (IV.int IntKind.i64) (Prod.snd x_1)))) ∧
 some (TV.v (IV.int IntKind.i64 (IntKind.wrap IntKind.i64 ((↑(Prod.fst x) : Int) + (1 : Int))))) = some (TV.v (IV.int IntKind.i64 (↑(Prod.fst x_1) : Int))) ∧
 Sz ∧
 Heap.mk (PT.node PT.nil (some (IObj.tip (List.length (Prod.snd x) + (1 : Nat)))) PT.nil) (1 : Nat) =
 Heap.mk (PT.node PT.nil (some (IObj.tip (List.length (Prod.snd x_1)))) PT.nil) (1 : Nat) ∧
 ((Prod.fst x_1 ≤ List.length (pcsS s) ∧ List.length (Prod.snd x_1) = Prod.fst x_1) ∧ VL s (OPs s) (Prod.fst x_1) (Prod.snd x_1)) ∧
 List.length (pcsS s) - Prod.fst x_1 < List.length (pcsS s) - Prod.fst x)))
 (needS (Nat.beq (List.length (Prod.snd x)) (List.length (Prod.snd x)) && Nat.ble ((List.length (Prod.snd x) + (1 : Nat)) * (8 : Nat)) (140737488355328 : Nat))
 (Ss s ∧
 Sl ∧
 So s ∧
 Vp s = some (TV.v IV.nilslice) ∧
 some
 (TV.v
 (IV.vslice (some (0 : Nat)) (List.length (Prod.snd x) + (1 : Nat)) (List.length (Prod.snd x) + (1 : Nat)) (1 : Nat)
 (List.map (IV.int IntKind.i64) (Prod.snd x) ++ [IV.int IntKind.i64 v]))) =
 some (TV.v IV.nilslice) ∧
 some (TV.v (IV.int IntKind.i64 (IntKind.wrap IntKind.i64 ((↑(Prod.fst x) : Int) + (1 : Int))))) = some (TV.v (IV.int IntKind.i64 (0 : Int))) ∧
 Sz ∧
 Heap.mk (PT.node PT.nil (some (IObj.tip (List.length (Prod.snd x) + (1 : Nat)))) PT.nil) (1 : Nat) = Heap.mk PT.nil (0 : Nat) ∧
 pcsS s = [] ∧ (0 : Nat) < List.length (pcsS s) - Prod.fst x ∨
 (∃ (x_1 : Unit),
 Ss s ∧
 Sl ∧
 So s ∧
 Vp s =
 Vp s ∧
 some
 (TV.v
 (IV.vslice (some (0 : Nat)) (List.length (Prod.snd x) + (1 : Nat)) (List.length (Prod.snd x) + (1 : Nat)) (1 : Nat)
 (List.map (IV.int IntKind.i64) (Prod.snd x) ++ [IV.int IntKind.i64 v]))) =
 some (TV.v IV.nilslice) ∧
 some (TV.v (IV.int IntKind.i64 (IntKind.wrap IntKind.i64 ((↑(Prod.fst x) : Int) + (1 : Int))))) = some (TV.v (IV.int IntKind.i64 (0 : Int))) ∧
 Sz ∧
 Heap.mk (PT.node PT.nil (some (IObj.tip (List.length (Prod.snd x) + (1 : Nat)))) PT.nil) (1 : Nat) = Heap.mk PT.nil (0 : Nat) ∧
 True ∧ List.length (pcsS s) + (1 : Nat) < List.length (pcsS s) - Prod.fst x) ∨
 ∃ (x_1 : Nat × List Int),
 Ss s ∧
 Sl ∧
 So s ∧
 Vp s =
 Vp s ∧
 some
 (TV.v
 (IV.vslice (some (0 : Nat)) (List.length (Prod.snd x) + (1 : Nat)) (List.length (Prod.snd x) + (1 : Nat)) (1 : Nat)
 (List.map (IV.int IntKind.i64) (Prod.snd x) ++ [IV.int IntKind.i64 v]))) =
 some (TV.v (IV.vslice (some (0 : Nat)) (List.length (Prod.snd x_1)) (List.length (Prod.snd x_1)) (1 : Nat) (List.map (IV.int IntKind.i64) (Prod.snd x_1)))) ∧
 some (TV.v (IV.int IntKind.i64 (IntKind.wrap IntKind.i64 ((↑(Prod.fst x) : Int) + (1 : Int))))) = some (TV.v (IV.int IntKind.i64 (↑(Prod.fst x_1) : Int))) ∧
 Sz ∧
 Heap.mk (PT.node PT.nil (some (IObj.tip (List.length (Prod.snd x) + (1 : Nat)))) PT.nil) (1 : Nat) =
 Heap.mk (PT.node PT.nil (some (IObj.tip (List.length (Prod.snd x_1)))) PT.nil) (1 : Nat) ∧
 ((Prod.fst x_1 ≤ List.length (pcsS s) ∧ List.length (Prod.snd x_1) = Prod.fst x_1) ∧ VL s (OPs s) (Prod.fst x_1) (Prod.snd x_1)) ∧
 List.length (pcsS s) - Prod.fst x_1 < List.length (pcsS s) - Prod.fst x))))))
 (∀ (v : Int) (b : Bool),
 (-9223372036854775808 : Int) ≤ v ∧ v ≤ (9223372036854775807 : Int) →
 (∀ (n : Int), (-9223372036854775808 : Int) ≤ n ∧ n ≤ (9223372036854775807 : Int) → s3 = txt n → v = n ∧ b = true) →
 brS (!b) (NOq Q h)
 (brS (decide (v < (-4611686018427387904 : Int)))
 (brS (OPs s != (14 : Int))
 (NOq Q h)
 (brS (decide (v > (4611686018427387904 : Int)))
 (brS (OPs s != (14 : Int))
 (NOq Q h)
 (needS (Nat.beq (List.length (Prod.snd x)) (List.length (Prod.snd x)) && Nat.ble ((List.length (Prod.snd x) + (1 : Nat)) * (8 : Nat)) (140737488355328 : Nat))
 (Ss s ∧
 Sl ∧
 So s ∧
 Vp s = some (TV.v IV.nilslice) ∧
 some
 (TV.v
 (IV.vslice (some (0 : Nat)) (List.length (Prod.snd x) + (1 : Nat)) (List.length (Prod.snd x) + (1 : Nat)) (1 : Nat)
 (List.map (IV.int IntKind.i64) (Prod.snd x) ++ [IV.int IntKind.i64 v]))) =
 some (TV.v IV.nilslice) ∧
 some (TV.v (IV.int IntKind.i64 (IntKind.wrap IntKind.i64 ((↑(Prod.fst x) : Int) + (1 : Int))))) = some (TV.v (IV.int IntKind.i64 (0 : Int))) ∧
 Sz ∧
 Heap.mk (PT.node PT.nil (some (IObj.tip (List.length (Prod.snd x) + (1 : Nat)))) PT.nil) (1 : Nat) = Heap.mk PT.nil (0 : Nat) ∧
 pcsS s = [] ∧ (0 : Nat) < List.length (pcsS s) - Prod.fst x ∨
 (∃ (x_1 : Unit),
 Ss s ∧
 Sl ∧
 So s ∧
 Vp s =
 Vp s ∧
 some
 (TV.v
 (IV.vslice (some (0 : Nat)) (List.length (Prod.snd x) + (1 : Nat)) (List.length (Prod.snd x) + (1 : Nat)) (1 : Nat)
 (List.map (IV.int IntKind.i64) (Prod.snd x) ++ [IV.int IntKind.i64 v]))) =
 some (TV.v IV.nilslice) ∧
 some (TV.v (IV.int IntKind.i64 (IntKind.wrap IntKind.i64 ((↑(Prod.fst x) : Int) + (1 : Int))))) = some (TV.v (IV.int IntKind.i64 (0 : Int))) ∧
 Sz ∧
 Heap.mk (PT.node PT.nil (some (IObj.tip (List.length (Prod.snd x) + (1 : Nat)))) PT.nil) (1 : Nat) = Heap.mk PT.nil (0 : Nat) ∧
 True ∧ List.length (pcsS s) + (1 : Nat) < List.length (pcsS s) - Prod.fst x) ∨
 ∃ (x_1 : Nat × List Int),
 Ss s ∧
 Sl ∧
 So s ∧
 Vp s =
 Vp s ∧
 some
 (TV.v
 (IV.vslice (some (0 : Nat)) (List.length (Prod.snd x) + (1 : Nat)) (List.length (Prod.snd x) + (1 : Nat)) (1 : Nat)
 (List.map (IV.int IntKind.i64) (Prod.snd x) ++ [IV.int IntKind.i64 v]))) =
 some (TV.v (IV.vslice (some (0 : Nat)) (List.length (Prod.snd x_1)) (List.length (Prod.snd x_1)) (1 : Nat) (List.map (IV.int IntKind.i64) (Prod.snd x_1)))) ∧
 some (TV.v (IV.int IntKind.i64 (IntKind.wrap IntKind.i64 ((↑(Prod.fst x) : Int) + (1 : Int))))) = some (TV.v (IV.int IntKind.i64 (↑(Prod.fst x_1) : Int))) ∧
 Sz ∧
 Heap.mk (PT.node PT.nil (some (IObj.tip (List.length (Prod.snd x) + (1 : Nat)))) PT.nil) (1 : Nat) =
 Heap.mk (PT.node PT.nil (some (IObj.tip (List.length (Prod.snd x_1)))) PT.nil) (1 : Nat) ∧
 ((Prod.fst x_1 ≤ List.length (pcsS s) ∧ List.length (Prod.snd x_1) = Prod.fst x_1) ∧ VL s (OPs s) (Prod.fst x_1) (Prod.snd x_1)) ∧
 List.length (pcsS s) - Prod.fst x_1 < List.length (pcsS s) - Prod.fst x)))
 (needS (Nat.beq (List.length (Prod.snd x)) (List.length (Prod.snd x)) && Nat.ble ((List.length (Prod.snd x) + (1 : Nat)) * (8 : Nat)) (140737488355328 : Nat))
 (Ss s ∧
 Sl ∧
 So s ∧
 Vp s = some (TV.v IV.nilslice) ∧
 some
 (TV.v
 (IV.vslice (some (0 : Nat)) (List.length (Prod.snd x) + (1 : Nat)) (List.length (Prod.snd x) + (1 : Nat)) (1 : Nat)
 (List.map (IV.int IntKind.i64) (Prod.snd x) ++ [IV.int IntKind.i64 v]))) =
 some (TV.v IV.nilslice) ∧
 some (TV.v (IV.int IntKind.i64 (IntKind.wrap IntKind.i64 ((↑(Prod.fst x) : Int) + (1 : Int))))) = some (TV.v (IV.int IntKind.i64 (0 : Int))) ∧
 Sz ∧
 Heap.mk (PT.node PT.nil (some (IObj.tip (List.length (Prod.snd x) + (1 : Nat)))) PT.nil) (1 : Nat) = Heap.mk PT.nil (0 : Nat) ∧
 pcsS s = [] ∧ (0 : Nat) < List.length (pcsS s) - Prod.fst x ∨
 (∃ (x_1 : Unit),
 Ss s ∧
 Sl ∧
 So s ∧
 Vp s =
 Vp s ∧
 some
 (TV.v
 (IV.vslice (some (0 : Nat)) (List.length (Prod.snd x) + (1 : Nat)) (List.length (Prod.snd x) + (1 : Nat)) (1 : Nat)
 (List.map (IV.int IntKind.i64) (Prod.snd x) ++ [IV.int IntKind.i64 v]))) =
 some (TV.v IV.nilslice) ∧
 some (TV.v (IV.int IntKind.i64 (IntKind.wrap IntKind.i64 ((↑(Prod.fst x) : Int) + (1 : Int))))) = some (TV.v (IV.int IntKind.i64 (0 : Int))) ∧
 Sz ∧
 Heap.mk (PT.node PT.nil (some (IObj.tip (List.length (Prod.snd x) + (1 : Nat)))) PT.nil) (1 : Nat) = Heap.mk PT.nil (0 : Nat) ∧
 True ∧ List.length (pcsS s) + (1 : Nat) < List.length (pcsS s) - Prod.fst x) ∨
 ∃ (x_1 : Nat × List Int),
 Ss s ∧
 Sl ∧
 So s ∧
 Vp s =
 Vp s ∧
 some
 (TV.v
 (IV.vslice (some (0 : Nat)) (List.length (Prod.snd x) + (1 : Nat)) (List.length (Prod.snd x) + (1 : Nat)) (1 : Nat)
 (List.map (IV.int IntKind.i64) (Prod.snd x) ++ [IV.int IntKind.i64 v]))) =
 some (TV.v (IV.vslice (some (0 : Nat)) (List.length (Prod.snd x_1)) (List.length (Prod.snd x_1)) (1 : Nat) (List.map (IV.int IntKind.i64) (Prod.snd x_1)))) ∧
 some (TV.v (IV.int IntKind.i64 (IntKind.wrap IntKind.i64 ((↑(Prod.fst x) : Int) + (1 : Int))))) = some (TV.v (IV.int IntKind.i64 (↑(Prod.fst x_1) : Int))) ∧
 Sz ∧
 Heap.mk (PT.node PT.nil (some (IObj.tip (List.length (Prod.snd x) + (1 : Nat)))) PT.nil) (1 : Nat) =
 Heap.mk (PT.node PT.nil (some (IObj.tip (List.length (Prod.snd x_1)))) PT.nil) (1 : Nat) ∧
 ((Prod.fst x_1 ≤ List.length (pcsS s) ∧ List.length (Prod.snd x_1) = Prod.fst x_1) ∧ VL s (OPs s) (Prod.fst x_1) (Prod.snd x_1)) ∧
 List.length (pcsS s) - Prod.fst x_1 < List.length (pcsS s) - Prod.fst x))))
 (brS (decide (v > (4611686018427387904 : Int)))
 (brS (OPs s != (14 : Int))
 (NOq Q h)
 (needS (Nat.beq (List.length (Prod.snd x)) (List.length (Prod.snd x)) && Nat.ble ((List.length (Prod.snd x) + (1 : Nat)) * (8 : Nat)) (140737488355328 : Nat))
 (Ss s ∧
 Sl ∧
 So s ∧
 Vp s = some (TV.v IV.nilslice) ∧
 some
 (TV.v
 (IV.vslice (some (0 : Nat)) (List.length (Prod.snd x) + (1 : Nat)) (List.length (Prod.snd x) + (1 : Nat)) (1 : Nat)
 (List.map (IV.int IntKind.i64) (Prod.snd x) ++ [IV.int IntKind.i64 v]))) =
 some (TV.v IV.nilslice) ∧
 some (TV.v (IV.int IntKind.i64 (IntKind.wrap IntKind.i64 ((↑(Prod.fst x) : Int) + (1 : Int))))) = some (TV.v (IV.int IntKind.i64 (0 : Int))) ∧
 Sz ∧
 Heap.mk (PT.node PT.nil (some (IObj.tip (List.length (Prod.snd x) + (1 : Nat)))) PT.nil) (1 : Nat) = Heap.mk PT.nil (0 : Nat) ∧
 pcsS s = [] ∧ (0 : Nat) < List.length (pcsS s) - Prod.fst x ∨
 (∃ (x_1 : Unit),
 Ss s ∧
 Sl ∧
 So s ∧
 Vp s =
 Vp s ∧
 some
 (TV.v
 (IV.vslice (some (0 : Nat)) (List.length (Prod.snd x) + (1 : Nat)) (List.length (Prod.snd x) + (1 : Nat)) (1 : Nat)
 (List.map (IV.int IntKind.i64) (Prod.snd x) ++ [IV.int IntKind.i64 v]))) =
 some (TV.v IV.nilslice) ∧
 some (TV.v (IV.int IntKind.i64 (IntKind.wrap IntKind.i64 ((↑(Prod.fst x) : Int) + (1 : Int))))) = some (TV.v (IV.int IntKind.i64 (0 : Int))) ∧
 Sz ∧
 Heap.mk (PT.node PT.nil (some (IObj.tip (List.length (Prod.snd x) + (1 : Nat)))) PT.nil) (1 : Nat) = Heap.mk PT.nil (0 : Nat) ∧
 True ∧ List.length (pcsS s) + (1 : Nat) < List.length (pcsS s) - Prod.fst x) ∨
 ∃ (x_1 : Nat × List Int),
 Ss s ∧
 Sl ∧
 So s ∧
 Vp s =
 Vp s ∧
 some
 (TV.v
 (IV.vslice (some (0 : Nat)) (List.length (Prod.snd x) + (1 : Nat)) (List.length (Prod.snd x) + (1 : Nat)) (1 : Nat)
 (List.map (IV.int IntKind.i64) (Prod.snd x) ++ [IV.int IntKind.i64 v]))) =
 some (TV.v (IV.vslice (some (0 : Nat)) (List.length (Prod.snd x_1)) (List.length (Prod.snd x_1)) (1 : Nat) (List.map (IV.int IntKind.i64) (Prod.snd x_1)))) ∧
 some (TV.v (IV.int IntKind.i64 (IntKind.wrap IntKind.i64 ((↑(Prod.fst x) : Int) + (1 : Int))))) = some (TV.v (IV.int IntKind.i64 (↑(Prod.fst x_1) : Int))) ∧
 Sz ∧
 Heap.mk (PT.node PT.nil (some (IObj.tip (List.length (Prod.snd x) + (1 : Nat)))) PT.nil) (1 : Nat) =
 Heap.mk (PT.node PT.nil (some (IObj.tip (List.length (Prod.snd x_1)))) PT.nil) (1 : Nat) ∧
 ((Prod.fst x_1 ≤ List.length (pcsS s) ∧ List.length (Prod.snd x_1) = Prod.fst x_1) ∧ VL s (OPs s) (Prod.fst x_1) (Prod.snd x_1)) ∧
 List.length (pcsS s) - Prod.fst x_1 < List.length (pcsS s) - Prod.fst x)))
 (needS (Nat.beq (List.length (Prod.snd x)) (List.length (Prod.snd x)) && Nat.ble ((List.length (Prod.snd x) + (1 : Nat)) * (8 : Nat)) (140737488355328 : Nat))
 (Ss s ∧
 Sl ∧
 So s ∧
 Vp s = some (TV.v IV.nilslice) ∧
 some
 (TV.v
 (IV.vslice (some (0 : Nat)) (List.length (Prod.snd x) + (1 : Nat)) (List.length (Prod.snd x) + (1 : Nat)) (1 : Nat)
 (List.map (IV.int IntKind.i64) (Prod.snd x) ++ [IV.int IntKind.i64 v]))) =
 some (TV.v IV.nilslice) ∧
 some (TV.v (IV.int IntKind.i64 (IntKind.wrap IntKind.i64 ((↑(Prod.fst x) : Int) + (1 : Int))))) = some (TV.v (IV.int IntKind.i64 (0 : Int))) ∧
 Sz ∧
 Heap.mk (PT.node PT.nil (some (IObj.tip (List.length (Prod.snd x) + (1 : Nat)))) PT.nil) (1 : Nat) = Heap.mk PT.nil (0 : Nat) ∧
 pcsS s = [] ∧ (0 : Nat) < List.length (pcsS s) - Prod.fst x ∨
 (∃ (x_1 : Unit),
 Ss s ∧
 Sl ∧
 So s ∧
 Vp s =
 Vp s ∧
 some
 (TV.v
 (IV.vslice (some (0 : Nat)) (List.length (Prod.snd x) + (1 : Nat)) (List.length (Prod.snd x) + (1 : Nat)) (1 : Nat)
 (List.map (IV.int IntKind.i64) (Prod.snd x) ++ [IV.int IntKind.i64 v]))) =
 some (TV.v IV.nilslice) ∧
 some (TV.v (IV.int IntKind.i64 (IntKind.wrap IntKind.i64 ((↑(Prod.fst x) : Int) + (1 : Int))))) = some (TV.v (IV.int IntKind.i64 (0 : Int))) ∧
 Sz ∧
 Heap.mk (PT.node PT.nil (some (IObj.tip (List.length (Prod.snd x) + (1 : Nat)))) PT.nil) (1 : Nat) = Heap.mk PT.nil (0 : Nat) ∧
 True ∧ List.length (pcsS s) + (1 : Nat) < List.length (pcsS s) - Prod.fst x) ∨
 ∃ (x_1 : Nat × List Int),
 Ss s ∧
 Sl ∧
 So s ∧
 Vp s =
 Vp s ∧
 some
 (TV.v
 (IV.vslice (some (0 : Nat)) (List.length (Prod.snd x) + (1 : Nat)) (List.length (Prod.snd x) + (1 : Nat)) (1 : Nat)
 (List.map (IV.int IntKind.i64) (Prod.snd x) ++ [IV.int IntKind.i64 v]))) =
 some (TV.v (IV.vslice (some (0 : Nat)) (List.length (Prod.snd x_1)) (List.length (Prod.snd x_1)) (1 : Nat) (List.map (IV.int IntKind.i64) (Prod.snd x_1)))) ∧
 some (TV.v (IV.int IntKind.i64 (IntKind.wrap IntKind.i64 ((↑(Prod.fst x) : Int) + (1 : Int))))) = some (TV.v (IV.int IntKind.i64 (↑(Prod.fst x_1) : Int))) ∧
 Sz ∧
 Heap.mk (PT.node PT.nil (some (IObj.tip (List.length (Prod.snd x) + (1 : Nat)))) PT.nil) (1 : Nat) =
 Heap.mk (PT.node PT.nil (some (IObj.tip (List.length (Prod.snd x_1)))) PT.nil) (1 : Nat) ∧
 ((Prod.fst x_1 ≤ List.length (pcsS s) ∧ List.length (Prod.snd x_1) = Prod.fst x_1) ∧ VL s (OPs s) (Prod.fst x_1) (Prod.snd x_1)) ∧
 List.length (pcsS s) - Prod.fst x_1 < List.length (pcsS s) - Prod.fst x))))))
 (∀ (v : Int) (b : Bool),
 (-9223372036854775808 : Int) ≤ v ∧ v ≤ (9223372036854775807 : Int) →
 (∀ (n : Int), (-9223372036854775808 : Int) ≤ n ∧ n ≤ (9223372036854775807 : Int) → s3 = txt n → v = n ∧ b = true) →
 brS (!b) (NOq Q h)
 (brS (decide (v < (-4611686018427387904 : Int)))
 (brS (OPs s != (14 : Int))
 (NOq Q h)
 (brS (decide (v > (4611686018427387904 : Int)))
 (brS (OPs s != (14 : Int))
 (NOq Q h)
 (needS (Nat.beq (List.length (Prod.snd x)) (List.length (Prod.snd x)) && Nat.ble ((List.length (Prod.snd x) + (1 : Nat)) * (8 : Nat)) (140737488355328 : Nat))
 (Ss s ∧
 Sl ∧
 So s ∧
 Vp s = some (TV.v IV.nilslice) ∧
 some
 (TV.v
 (IV.vslice (some (0 : Nat)) (List.length (Prod.snd x) + (1 : Nat)) (List.length (Prod.snd x) + (1 : Nat)) (1 : Nat)
 (List.map (IV.int IntKind.i64) (Prod.snd x) ++ [IV.int IntKind.i64 v]))) =
 some (TV.v IV.nilslice) ∧
 some (TV.v (IV.int IntKind.i64 (IntKind.wrap IntKind.i64 ((↑(Prod.fst x) : Int) + (1 : Int))))) = some (TV.v (IV.int IntKind.i64 (0 : Int))) ∧
 Sz ∧
 Heap.mk (PT.node PT.nil (some (IObj.tip (List.length (Prod.snd x) + (1 : Nat)))) PT.nil) (1 : Nat) = Heap.mk PT.nil (0 : Nat) ∧
 pcsS s = [] ∧ (0 : Nat) < List.length (pcsS s) - Prod.fst x ∨
 (∃ (x_1 : Unit),
 Ss s ∧
 Sl ∧
 So s ∧
 Vp s =
 Vp s ∧
 some
 (TV.v
 (IV.vslice (some (0 : Nat)) (List.length (Prod.snd x) + (1 : Nat)) (List.length (Prod.snd x) + (1 : Nat)) (1 : Nat)
 (List.map (IV.int IntKind.i64) (Prod.snd x) ++ [IV.int IntKind.i64 v]))) =
 some (TV.v IV.nilslice) ∧
 some (TV.v (IV.int IntKind.i64 (IntKind.wrap IntKind.i64 ((↑(Prod.fst x) : Int) + (1 : Int))))) = some (TV.v (IV.int IntKind.i64 (0 : Int))) ∧
 Sz ∧
 Heap.mk (PT.node PT.nil (some (IObj.tip (List.length (Prod.snd x) + (1 : Nat)))) PT.nil) (1 : Nat) = Heap.mk PT.nil (0 : Nat) ∧
 True ∧ List.length (pcsS s) + (1 : Nat) < List.length (pcsS s) - Prod.fst x) ∨
 ∃ (x_1 : Nat × List Int),
 Ss s ∧
 Sl ∧
 So s ∧
 Vp s =
 Vp s ∧
 some
 (TV.v
 (IV.vslice (some (0 : Nat)) (List.length (Prod.snd x) + (1 : Nat)) (List.length (Prod.snd x) + (1 : Nat)) (1 : Nat)
 (List.map (IV.int IntKind.i64) (Prod.snd x) ++ [IV.int IntKind.i64 v]))) =
 some (TV.v (IV.vslice (some (0 : Nat)) (List.length (Prod.snd x_1)) (List.length (Prod.snd x_1)) (1 : Nat) (List.map (IV.int IntKind.i64) (Prod.snd x_1)))) ∧
 some (TV.v (IV.int IntKind.i64 (IntKind.wrap IntKind.i64 ((↑(Prod.fst x) : Int) + (1 : Int))))) = some (TV.v (IV.int IntKind.i64 (↑(Prod.fst x_1) : Int))) ∧
 Sz ∧
 Heap.mk (PT.node PT.nil (some (IObj.tip (List.length (Prod.snd x) + (1 : Nat)))) PT.nil) (1 : Nat) =
 Heap.mk (PT.node PT.nil (some (IObj.tip (List.length (Prod.snd x_1)))) PT.nil) (1 : Nat) ∧
 ((Prod.fst x_1 ≤ List.length (pcsS s) ∧ List.length (Prod.snd x_1) = Prod.fst x_1) ∧ VL s (OPs s) (Prod.fst x_1) (Prod.snd x_1)) ∧
 List.length (pcsS s) - Prod.fst x_1 < List.length (pcsS s) - Prod.fst x)))
 (needS (Nat.beq (List.length (Prod.snd x)) (List.length (Prod.snd x)) && Nat.ble ((List.length (Prod.snd x) + (1 : Nat)) * (8 : Nat)) (140737488355328 : Nat))
 (Ss s ∧
 Sl ∧
 So s ∧
 Vp s = some (TV.v IV.nilslice) ∧
 some
 (TV.v
 (IV.vslice (some (0 : Nat)) (List.length (Prod.snd x) + (1 : Nat)) (List.length (Prod.snd x) + (1 : Nat)) (1 : Nat)
 (List.map (IV.int IntKind.i64) (Prod.snd x) ++ [IV.int IntKind.i64 v]))) =
 some (TV.v IV.nilslice) ∧
 some (TV.v (IV.int IntKind.i64 (IntKind.wrap IntKind.i64 ((↑(Prod.fst x) : Int) + (1 : Int))))) = some (TV.v (IV.int IntKind.i64 (0 : Int))) ∧
 Sz ∧
 Heap.mk (PT.node PT.nil (some (IObj.tip (List.length (Prod.snd x) + (1 : Nat)))) PT.nil) (1 : Nat) = Heap.mk PT.nil (0 : Nat) ∧
 pcsS s = [] ∧ (0 : Nat) < List.length (pcsS s) - Prod.fst x ∨
 (∃ (x_1 : Unit),
 Ss s ∧
 Sl ∧
 So s ∧
 Vp s =
 Vp s ∧
 some
 (TV.v
 (IV.vslice (some (0 : Nat)) (List.length (Prod.snd x) + (1 : Nat)) (List.length (Prod.snd x) + (1 : Nat)) (1 : Nat)
 (List.map (IV.int IntKind.i64) (Prod.snd x) ++ [IV.int IntKind.i64 v]))) =
 some (TV.v IV.nilslice) ∧
 some (TV.v (IV.int IntKind.i64 (IntKind.wrap IntKind.i64 ((↑(Prod.fst x) : Int) + (1 : Int))))) = some (TV.v (IV.int IntKind.i64 (0 : Int))) ∧
 Sz ∧
 Heap.mk (PT.node PT.nil (some (IObj.tip (List.length (Prod.snd x) + (1 : Nat)))) PT.nil) (1 : Nat) = Heap.mk PT.nil (0 : Nat) ∧
 True ∧ List.length (pcsS s) + (1 : Nat) < List.length (pcsS s) - Prod.fst x) ∨
 ∃ (x_1 : Nat × List Int),
 Ss s ∧
 Sl ∧
 So s ∧
 Vp s =
 Vp s ∧
 some
 (TV.v
 (IV.vslice (some (0 : Nat)) (List.length (Prod.snd x) + (1 : Nat)) (List.length (Prod.snd x) + (1 : Nat)) (1 : Nat)
 (List.map (IV.int IntKind.i64) (Prod.snd x) ++ [IV.int IntKind.i64 v]))) =
 some (TV.v (IV.vslice (some (0 : Nat)) (List.length (Prod.snd x_1)) (List.length (Prod.snd x_1)) (1 : Nat) (List.map (IV.int IntKind.i64) (Prod.snd x_1)))) ∧
 some (TV.v (IV.int IntKind.i64 (IntKind.wrap IntKind.i64 ((↑(Prod.fst x) : Int) + (1 : Int))))) = some (TV.v (IV.int IntKind.i64 (↑(Prod.fst x_1) : Int))) ∧
 Sz ∧
 Heap.mk (PT.node PT.nil (some (IObj.tip (List.length (Prod.snd x) + (1 : Nat)))) PT.nil) (1 : Nat) =
 Heap.mk (PT.node PT.nil (some (IObj.tip (List.length (Prod.snd x_1)))) PT.nil) (1 : Nat) ∧
 ((Prod.fst x_1 ≤ List.length (pcsS s) ∧ List.length (Prod.snd x_1) = Prod.fst x_1) ∧ VL s (OPs s) (Prod.fst x_1) (Prod.snd x_1)) ∧
 List.length (pcsS s) - Prod.fst x_1 < List.length (pcsS s) - Prod.fst x))))
 (brS (decide (v > (4611686018427387904 : Int)))
 (brS (OPs s != (14 : Int))
 (NOq Q h)
 (needS (Nat.beq (List.length (Prod.snd x)) (List.length (Prod.snd x)) && Nat.ble ((List.length (Prod.snd x) + (1 : Nat)) * (8 : Nat)) (140737488355328 : Nat))
 (Ss s ∧
 Sl ∧
 So s ∧
 Vp s = some (TV.v IV.nilslice) ∧
 some
 (TV.v
 (IV.vslice (some (0 : Nat)) (List.length (Prod.snd x) + (1 : Nat)) (List.length (Prod.snd x) + (1 : Nat)) (1 : Nat)
 (List.map (IV.int IntKind.i64) (Prod.snd x) ++ [IV.int IntKind.i64 v]))) =
 some (TV.v IV.nilslice) ∧
 some (TV.v (IV.int IntKind.i64 (IntKind.wrap IntKind.i64 ((↑(Prod.fst x) : Int) + (1 : Int))))) = some (TV.v (IV.int IntKind.i64 (0 : Int))) ∧
 Sz ∧
 Heap.mk (PT.node PT.nil (some (IObj.tip (List.length (Prod.snd x) + (1 : Nat)))) PT.nil) (1 : Nat) = Heap.mk PT.nil (0 : Nat) ∧
 pcsS s = [] ∧ (0 : Nat) < List.length (pcsS s) - Prod.fst x ∨
 (∃ (x_1 : Unit),
 Ss s ∧
 Sl ∧
 So s ∧
 Vp s =
 Vp s ∧
 some
 (TV.v
 (IV.vslice (some (0 : Nat)) (List.length (Prod.snd x) + (1 : Nat)) (List.length (Prod.snd x) + (1 : Nat)) (1 : Nat)
 (List.map (IV.int IntKind.i64) (Prod.snd x) ++ [IV.int IntKind.i64 v]))) =
 some (TV.v IV.nilslice) ∧
 some (TV.v (IV.int IntKind.i64 (IntKind.wrap IntKind.i64 ((↑(Prod.fst x) : Int) + (1 : Int))))) = some (TV.v (IV.int IntKind.i64 (0 : Int))) ∧
 Sz ∧
 Heap.mk (PT.node PT.nil (some (IObj.tip (List.length (Prod.snd x) + (1 : Nat)))) PT.nil) (1 : Nat) = Heap.mk PT.nil (0 : Nat) ∧
 True ∧ List.length (pcsS s) + (1 : Nat) < List.length (pcsS s) - Prod.fst x) ∨
 ∃ (x_1 : Nat × List Int),
 Ss s ∧
 Sl ∧
 So s ∧
 Vp s =
 Vp s ∧
 some
 (TV.v
 (IV.vslice (some (0 : Nat)) (List.length (Prod.snd x) + (1 : Nat)) (List.length (Prod.snd x) + (1 : Nat)) (1 : Nat)
 (List.map (IV.int IntKind.i64) (Prod.snd x) ++ [IV.int IntKind.i64 v]))) =
 some (TV.v (IV.vslice (some (0 : Nat)) (List.length (Prod.snd x_1)) (List.length (Prod.snd x_1)) (1 : Nat) (List.map (IV.int IntKind.i64) (Prod.snd x_1)))) ∧
 some (TV.v (IV.int IntKind.i64 (IntKind.wrap IntKind.i64 ((↑(Prod.fst x) : Int) + (1 : Int))))) = some (TV.v (IV.int IntKind.i64 (↑(Prod.fst x_1) : Int))) ∧
 Sz ∧
 Heap.mk (PT.node PT.nil (some (IObj.tip (List.length (Prod.snd x) + (1 : Nat)))) PT.nil) (1 : Nat) =
 Heap.mk (PT.node PT.nil (some (IObj.tip (List.length (Prod.snd x_1)))) PT.nil) (1 : Nat) ∧
 ((Prod.fst x_1 ≤ List.length (pcsS s) ∧ List.length (Prod.snd x_1) = Prod.fst x_1) ∧ VL s (OPs s) (Prod.fst x_1) (Prod.snd x_1)) ∧
 List.length (pcsS s) - Prod.fst x_1 < List.length (pcsS s) - Prod.fst x)))
 (needS (Nat.beq (List.length (Prod.snd x)) (List.length (Prod.snd x)) && Nat.ble ((List.length (Prod.snd x) + (1 : Nat)) * (8 : Nat)) (140737488355328 : Nat))
 (Ss s ∧
 Sl ∧
 So s ∧
 Vp s = some (TV.v IV.nilslice) ∧
 some
 (TV.v
 (IV.vslice (some (0 : Nat)) (List.length (Prod.snd x) + (1 : Nat)) (List.length (Prod.snd x) + (1 : Nat)) (1 : Nat)
 (List.map (IV.int IntKind.i64) (Prod.snd x) ++ [IV.int IntKind.i64 v]))) =
 some (TV.v IV.nilslice) ∧
 some (TV.v (IV.int IntKind.i64 (IntKind.wrap IntKind.i64 ((↑(Prod.fst x) : Int) + (1 : Int))))) = some (TV.v (IV.int IntKind.i64 (0 : Int))) ∧
 Sz ∧
 Heap.mk (PT.node PT.nil (some (IObj.tip (List.length (Prod.snd x) + (1 : Nat)))) PT.nil) (1 : Nat) = Heap.mk PT.nil (0 : Nat) ∧
 pcsS s = [] ∧ (0 : Nat) < List.length (pcsS s) - Prod.fst x ∨
 (∃ (x_1 : Unit),
 Ss s ∧
 Sl ∧
 So s ∧
 Vp s =
 Vp s ∧
 some
 (TV.v
 (IV.vslice (some (0 : Nat)) (List.length (Prod.snd x) + (1 : Nat)) (List.length (Prod.snd x) + (1 : Nat)) (1 : Nat)
 (List.map (IV.int IntKind.i64) (Prod.snd x) ++ [IV.int IntKind.i64 v]))) =
 some (TV.v IV.nilslice) ∧
 some (TV.v (IV.int IntKind.i64 (IntKind.wrap IntKind.i64 ((↑(Prod.fst x) : Int) + (1 : Int))))) = some (TV.v (IV.int IntKind.i64 (0 : Int))) ∧
 Sz ∧
 Heap.mk (PT.node PT.nil (some (IObj.tip (List.length (Prod.snd x) + (1 : Nat)))) PT.nil) (1 : Nat) = Heap.mk PT.nil (0 : Nat) ∧
 True ∧ List.length (pcsS s) + (1 : Nat) < List.length (pcsS s) - Prod.fst x) ∨
 ∃ (x_1 : Nat × List Int),
 Ss s ∧
 Sl ∧
 So s ∧
 Vp s =
 Vp s ∧
 some
 (TV.v
 (IV.vslice (some (0 : Nat)) (List.length (Prod.snd x) + (1 : Nat)) (List.length (Prod.snd x) + (1 : Nat)) (1 : Nat)
 (List.map (IV.int IntKind.i64) (Prod.snd x) ++ [IV.int IntKind.i64 v]))) =
 some (TV.v (IV.vslice (some (0 : Nat)) (List.length (Prod.snd x_1)) (List.length (Prod.snd x_1)) (1 : Nat) (List.map (IV.int IntKind.i64) (Prod.snd x_1)))) ∧
 some (TV.v (IV.int IntKind.i64 (IntKind.wrap IntKind.i64 ((↑(Prod.fst x) : Int) + (1 : Int))))) = some (TV.v (IV.int IntKind.i64 (↑(Prod.fst x_1) : Int))) ∧
 Sz ∧
 Heap.mk (PT.node PT.nil (some (IObj.tip (List.length (Prod.snd x) + (1 : Nat)))) PT.nil) (1 : Nat) =
 Heap.mk (PT.node PT.nil (some (IObj.tip (List.length (Prod.snd x_1)))) PT.nil) (1 : Nat) ∧
 ((Prod.fst x_1 ≤ List.length (pcsS s) ∧ List.length (Prod.snd x_1) = Prod.fst x_1) ∧ VL s (OPs s) (Prod.fst x_1) (Prod.snd x_1)) ∧
 List.length (pcsS s) - Prod.fst x_1 < List.length (pcsS s) - Prod.fst x)))))))
 ((∃ (x_1 : Unit),
 Ss s ∧
 Sl ∧
 So s ∧
 some (TV.v (IV.vslice (some (0 : Nat)) (List.length (Prod.snd x)) (List.length (Prod.snd x)) (1 : Nat) (List.map (IV.int IntKind.i64) (Prod.snd x)))) = some (TV.v IV.nilslice) ∧
 Sz ∧
 Heap.mk (PT.node PT.nil (some (IObj.tip (List.length (Prod.snd x)))) PT.nil) (1 : Nat) = Heap.mk PT.nil (0 : Nat) ∧
 (∀ (i : In), vIn i = true → fmtS i = s → OPs s = In.op i ∧ ∃ (m : Nat), [] = valsOf i ++ List.replicate m (0 : Int)) ∧ True) ∨
 ∃ (x_1 : List Int),
 Ss s ∧
 Sl ∧
 So s ∧
 some (TV.v (IV.vslice (some (0 : Nat)) (List.length (Prod.snd x)) (List.length (Prod.snd x)) (1 : Nat) (List.map (IV.int IntKind.i64) (Prod.snd x)))) =
 some (TV.v (IV.vslice (some (0 : Nat)) (List.length x_1) (List.length x_1) (1 : Nat) (List.map (IV.int IntKind.i64) x_1))) ∧
 Sz ∧
 Heap.mk (PT.node PT.nil (some (IObj.tip (List.length (Prod.snd x)))) PT.nil) (1 : Nat) = Heap.mk (PT.node PT.nil (some (IObj.tip (List.length x_1))) PT.nil) (1 : Nat) ∧
 (VP s (OPs s) x_1 ∧ List.length x_1 ≤ List.length s + (10 : Nat)) ∧ True)) ∧
 ∀ (x : Unit) (b : FF),
 Prod.snd (lkp rows (1 : Int) (nameS s)) = true →
 (Ss s ∧
 Sl ∧
 So s ∧
 Vp s = some (TV.v IV.nilslice) ∧
 some (TV.v IV.nilslice) = some (TV.v IV.nilslice) ∧
 some (TV.v (IV.int IntKind.i64 (0 : Int))) = some (TV.v (IV.int IntKind.i64 (0 : Int))) ∧
 Sz ∧
 Heap.empty = Heap.empty ∧ pcsS s = [] ∧ True ∨
 (∃ (x : Unit),
 Ss s ∧
 Sl ∧
 So s ∧
 Vp s = Vp s ∧
 some (TV.v IV.nilslice) = some (TV.v IV.nilslice) ∧
 some (TV.v (IV.int IntKind.i64 (0 : Int))) = some (TV.v (IV.int IntKind.i64 (0 : Int))) ∧
 Sz ∧
 Heap.empty = Heap.empty ∧ True ∧ True) ∨
 ∃ (x : Nat × List Int),
 Ss s ∧
 Sl ∧
 So s ∧
 Vp s = Vp s ∧
 some (TV.v IV.nilslice) = some (TV.v (IV.vslice (some (0 : Nat)) (List.length (Prod.snd x)) (List.length (Prod.snd x)) (1 : Nat) (List.map (IV.int IntKind.i64) (Prod.snd x)))) ∧
 some (TV.v (IV.int IntKind.i64 (0 : Int))) = some (TV.v (IV.int IntKind.i64 (↑(Prod.fst x) : Int))) ∧
 Sz ∧
 Heap.mk PT.nil (0 : Nat) = Heap.mk (PT.node PT.nil (some (IObj.tip (List.length (Prod.snd x)))) PT.nil) (1 : Nat) ∧
 ((Prod.fst x ≤ List.length (pcsS s) ∧ List.length (Prod.snd x) = Prod.fst x) ∧ VL s (OPs s) (Prod.fst x) (Prod.snd x)) ∧ True) ∧
 (∀ (x : Unit) (b : FF),
 pcsS s = [] →
 (∃ (x : Unit),
 Ss s ∧
 Sl ∧
 So s ∧
 some (TV.v IV.nilslice) = some (TV.v IV.nilslice) ∧
 Sz ∧
 Heap.empty = Heap.empty ∧
 (∀ (i : In), vIn i = true → fmtS i = s → OPs s = In.op i ∧ ∃ (m : Nat), [] = valsOf i ++ List.replicate m (0 : Int)) ∧ True) ∨
 ∃ (x : List Int),
 Ss s ∧
 Sl ∧
 So s ∧
 some (TV.v IV.nilslice) = some (TV.v (IV.vslice (some (0 : Nat)) (List.length x) (List.length x) (1 : Nat) (List.map (IV.int IntKind.i64) x))) ∧
 Sz ∧
 Heap.mk PT.nil (0 : Nat) = Heap.mk (PT.node PT.nil (some (IObj.tip (List.length x))) PT.nil) (1 : Nat) ∧
 (VP s (OPs s) x ∧ List.length x ≤ List.length s + (10 : Nat)) ∧ True) ∧
 (∀ (x : Unit) (b : FF),
 True →
 brS (decide ((0 : Int) < (↑(List.length (pcsS s)) : Int)))
 (needS (true && decide ((0 : Int) < (↑(List.length (pcsS s)) : Int)))
 (ldSS (List.map IV.str (pcsS s)) (0 : Nat) fun (s5 : List UInt8) =>
 brS (decide ((↑(List.length s5) : Int) > (1 : Int)))
 (chrS s5 (0 : Nat) fun (c6 : Int) =>
 brS (c6 == (114 : Int))
 (needS (true && (decide ((1 : Int) ≤ (↑(List.length s5) : Int)) && decide ((↑(List.length s5) : Int) ≤ (↑(List.length s5) : Int))))
 (∀ (v : Int) (b : Bool),
 (-9223372036854775808 : Int) ≤ v ∧ v ≤ (9223372036854775807 : Int) →
 (∀ (n : Int),
 (-9223372036854775808 : Int) ≤ n ∧ n ≤ (9223372036854775807 : Int) →
 List.take (Int.toNat (↑(List.length s5) : Int) - Int.toNat (1 : Int)) (List.drop (Int.toNat (1 : Int)) s5) = txt n → v = n ∧ b = true) →
 brS (!b)
 (NOq Q h)
 (brS (decide (v < (-4611686018427387904 : Int)))
 (brS (OPs s != (14 : Int))
 (NOq Q h)
 (brS (decide (v > (4611686018427387904 : Int)))
 (brS (OPs s != (14 : Int))
 (NOq Q h)
 (Ss s ∧
 Sl ∧
 So s ∧
 Vp s = some (TV.v IV.nilslice) ∧
 some (TV.v (IV.vslice (some (0 : Nat)) (1 : Nat) (1 : Nat) (1 : Nat) [IV.int IntKind.i64 v])) = some (TV.v IV.nilslice) ∧
 some (TV.v (IV.int IntKind.i64 (1 : Int))) = some (TV.v (IV.int IntKind.i64 (0 : Int))) ∧
 Sz ∧
 Heap.mk (PT.node PT.nil (some (IObj.tip (1 : Nat))) PT.nil) ((0 : Nat) + (1 : Nat)) = Heap.mk PT.nil (0 : Nat) ∧
 pcsS s = [] ∧ (0 : Nat) < List.length (pcsS s) + (1 : Nat) ∨
 (∃ (x : Unit),
 Ss s ∧
 Sl ∧
 So s ∧
 Vp s =
 Vp s ∧
 some (TV.v (IV.vslice (some (0 : Nat)) (1 : Nat) (1 : Nat) (1 : Nat) [IV.int IntKind.i64 v])) = some (TV.v IV.nilslice) ∧
 some (TV.v (IV.int IntKind.i64 (1 : Int))) = some (TV.v (IV.int IntKind.i64 (0 : Int))) ∧
 Sz ∧
 Heap.mk (PT.node PT.nil (some (IObj.tip (1 : Nat))) PT.nil) ((0 : Nat) + (1 : Nat)) = Heap.mk PT.nil (0 : Nat) ∧
 True ∧ List.length (pcsS s) + (1 : Nat) < List.length (pcsS s) + (1 : Nat)) ∨
 ∃ (x : Nat × List Int),
 Ss s ∧
 Sl ∧
 So s ∧
 Vp s =
 Vp s ∧
 some (TV.v (IV.vslice (some (0 : Nat)) (1 : Nat) (1 : Nat) (1 : Nat) [IV.int IntKind.i64 v])) =
 some (TV.v (IV.vslice (some (0 : Nat)) (List.length (Prod.snd x)) (List.length (Prod.snd x)) (1 : Nat) (List.map (IV.int IntKind.i64) (Prod.snd x)))) ∧
 some (TV.v (IV.int IntKind.i64 (1 : Int))) = some (TV.v (IV.int IntKind.i64 (↑(Prod.fst x) : Int))) ∧
 Sz ∧
 Heap.mk (PT.node PT.nil (some (IObj.tip (1 : Nat))) PT.nil) ((0 : Nat) + (1 : Nat)) =
 Heap.mk (PT.node PT.nil (some (IObj.tip (List.length (Prod.snd x)))) PT.nil) (1 : Nat) ∧
 ((Prod.fst x ≤ List.length (pcsS s) ∧ List.length (Prod.snd x) = Prod.fst x) ∧ VL s (OPs s) (Prod.fst x) (Prod.snd x)) ∧
 List.length (pcsS s) - Prod.fst x < List.length (pcsS s) + (1 : Nat)))
 (Ss s ∧
 Sl ∧
 So s ∧
 Vp s = some (TV.v IV.nilslice) ∧
 some (TV.v (IV.vslice (some (0 : Nat)) (1 : Nat) (1 : Nat) (1 : Nat) [IV.int IntKind.i64 v])) = some (TV.v IV.nilslice) ∧
 some (TV.v (IV.int IntKind.i64 (1 : Int))) = some (TV.v (IV.int IntKind.i64 (0 : Int))) ∧
 Sz ∧
 Heap.mk (PT.node PT.nil (some (IObj.tip (1 : Nat))) PT.nil) ((0 : Nat) + (1 : Nat)) = Heap.mk PT.nil (0 : Nat) ∧ pcsS s = [] ∧ (0 : Nat) < List.length (pcsS s) + (1 : Nat) ∨
 (∃ (x : Unit),
 Ss s ∧
 Sl ∧
 So s ∧
 Vp s =
 Vp s ∧
 some (TV.v (IV.vslice (some (0 : Nat)) (1 : Nat) (1 : Nat) (1 : Nat) [IV.int IntKind.i64 v])) = some (TV.v IV.nilslice) ∧
 some (TV.v (IV.int IntKind.i64 (1 : Int))) = some (TV.v (IV.int IntKind.i64 (0 : Int))) ∧
 Sz ∧
 Heap.mk (PT.node PT.nil (some (IObj.tip (1 : Nat))) PT.nil) ((0 : Nat) + (1 : Nat)) = Heap.mk PT.nil (0 : Nat) ∧
 True ∧ List.length (pcsS s) + (1 : Nat) < List.length (pcsS s) + (1 : Nat)) ∨
 ∃ (x : Nat × List Int),
 Ss s ∧
 Sl ∧
 So s ∧
 Vp s =
 Vp s ∧
 some (TV.v (IV.vslice (some (0 : Nat)) (1 : Nat) (1 : Nat) (1 : Nat) [IV.int IntKind.i64 v])) =
 some (TV.v (IV.vslice (some (0 : Nat)) (List.length (Prod.snd x)) (List.length (Prod.snd x)) (1 : Nat) (List.map (IV.int IntKind.i64) (Prod.snd x)))) ∧
 some (TV.v (IV.int IntKind.i64 (1 : Int))) = some (TV.v (IV.int IntKind.i64 (↑(Prod.fst x) : Int))) ∧
 Sz ∧
 Heap.mk (PT.node PT.nil (some (IObj.tip (1 : Nat))) PT.nil) ((0 : Nat) + (1 : Nat)) =
 Heap.mk (PT.node PT.nil (some (IObj.tip (List.length (Prod.snd x)))) PT.nil) (1 : Nat) ∧
 ((Prod.fst x ≤ List.length (pcsS s) ∧ List.length (Prod.snd x) = Prod.fst x) ∧ VL s (OPs s) (Prod.fst x) (Prod.snd x)) ∧
 List.length (pcsS s) - Prod.fst x < List.length (pcsS s) + (1 : Nat))))
 (brS (decide (v > (4611686018427387904 : Int)))
 (brS (OPs s != (14 : Int))
 (NOq Q h)
 (Ss s ∧
 Sl ∧
 So s ∧
 Vp s = some (TV.v IV.nilslice) ∧
 some (TV.v (IV.vslice (some (0 : Nat)) (1 : Nat) (1 : Nat) (1 : Nat) [IV.int IntKind.i64 v])) = some (TV.v IV.nilslice) ∧
 some (TV.v (IV.int IntKind.i64 (1 : Int))) = some (TV.v (IV.int IntKind.i64 (0 : Int))) ∧
 Sz ∧
 Heap.mk (PT.node PT.nil (some (IObj.tip (1 : Nat))) PT.nil) ((0 : Nat) + (1 : Nat)) = Heap.mk PT.nil (0 : Nat) ∧ pcsS s = [] ∧ (0 : Nat) < List.length (pcsS s) + (1 : Nat) ∨
 (∃ (x : Unit),
 Ss s ∧
 Sl ∧
 So s ∧
 Vp s =
 Vp s ∧
 some (TV.v (IV.vslice (some (0 : Nat)) (1 : Nat) (1 : Nat) (1 : Nat) [IV.int IntKind.i64 v])) = some (TV.v IV.nilslice) ∧
 some (TV.v (IV.int IntKind.i64 (1 : Int))) = some (TV.v (IV.int IntKind.i64 (0 : Int))) ∧
 Sz ∧
 Heap.mk (PT.node PT.nil (some (IObj.tip (1 : Nat))) PT.nil) ((0 : Nat) + (1 : Nat)) = Heap.mk PT.nil (0 : Nat) ∧
 True ∧ List.length (pcsS s) + (1 : Nat) < List.length (pcsS s) + (1 : Nat)) ∨
 ∃ (x : Nat × List Int),
 Ss s ∧
 Sl ∧
 So s ∧
 Vp s =
 Vp s ∧
 some (TV.v (IV.vslice (some (0 : Nat)) (1 : Nat) (1 : Nat) (1 : Nat) [IV.int IntKind.i64 v])) =
 some (TV.v (IV.vslice (some (0 : Nat)) (List.length (Prod.snd x)) (List.length (Prod.snd x)) (1 : Nat) (List.map (IV.int IntKind.i64) (Prod.snd x)))) ∧
 some (TV.v (IV.int IntKind.i64 (1 : Int))) = some (TV.v (IV.int IntKind.i64 (↑(Prod.fst x) : Int))) ∧
 Sz ∧
 Heap.mk (PT.node PT.nil (some (IObj.tip (1 : Nat))) PT.nil) ((0 : Nat) + (1 : Nat)) =
 Heap.mk (PT.node PT.nil (some (IObj.tip (List.length (Prod.snd x)))) PT.nil) (1 : Nat) ∧
 ((Prod.fst x ≤ List.length (pcsS s) ∧ List.length (Prod.snd x) = Prod.fst x) ∧ VL s (OPs s) (Prod.fst x) (Prod.snd x)) ∧
 List.length (pcsS s) - Prod.fst x < List.length (pcsS s) + (1 : Nat)))
 (Ss s ∧
 Sl ∧
 So s ∧
 Vp s = some (TV.v IV.nilslice) ∧
 some (TV.v (IV.vslice (some (0 : Nat)) (1 : Nat) (1 : Nat) (1 : Nat) [IV.int IntKind.i64 v])) = some (TV.v IV.nilslice) ∧
 some (TV.v (IV.int IntKind.i64 (1 : Int))) = some (TV.v (IV.int IntKind.i64 (0 : Int))) ∧
 Sz ∧
 Heap.mk (PT.node PT.nil (some (IObj.tip (1 : Nat))) PT.nil) ((0 : Nat) + (1 : Nat)) = Heap.mk PT.nil (0 : Nat) ∧ pcsS s = [] ∧ (0 : Nat) < List.length (pcsS s) + (1 : Nat) ∨
 (∃ (x : Unit),
 Ss s ∧
 Sl ∧
 So s ∧
 Vp s =
 Vp s ∧
 some (TV.v (IV.vslice (some (0 : Nat)) (1 : Nat) (1 : Nat) (1 : Nat) [IV.int IntKind.i64 v])) = some (TV.v IV.nilslice) ∧
 some (TV.v (IV.int IntKind.i64 (1 : Int))) = some (TV.v (IV.int IntKind.i64 (0 : Int))) ∧
 Sz ∧
 Heap.mk (PT.node PT.nil (some (IObj.tip (1 : Nat))) PT.nil) ((0 : Nat) + (1 : Nat)) = Heap.mk PT.nil (0 : Nat) ∧
 True ∧ List.length (pcsS s) + (1 : Nat) < List.length (pcsS s) + (1 : Nat)) ∨
 ∃ (x : Nat × List Int),
 Ss s ∧
 Sl ∧
 So s ∧
 Vp s =
 Vp s ∧
 some (TV.v (IV.vslice (some (0 : Nat)) (1 : Nat) (1 : Nat) (1 : Nat) [IV.int IntKind.i64 v])) =
 some (TV.v (IV.vslice (some (0 : Nat)) (List.length (Prod.snd x)) (List.length (Prod.snd x)) (1 : Nat) (List.map (IV.int IntKind.i64) (Prod.snd x)))) ∧
 some (TV.v (IV.int IntKind.i64 (1 : Int))) = some (TV.v (IV.int IntKind.i64 (↑(Prod.fst x) : Int))) ∧
 Sz ∧
 Heap.mk (PT.node PT.nil (some (IObj.tip (1 : Nat))) PT.nil) ((0 : Nat) + (1 : Nat)) =
 Heap.mk (PT.node PT.nil (some (IObj.tip (List.length (Prod.snd x)))) PT.nil) (1 : Nat) ∧
 ((Prod.fst x ≤ List.length (pcsS s) ∧ List.length (Prod.snd x) = Prod.fst x) ∧ VL s (OPs s) (Prod.fst x) (Prod.snd x)) ∧
 List.length (pcsS s) - Prod.fst x < List.length (pcsS s) + (1 : Nat))))))
 (∀ (v : Int) (b : Bool),
 (-9223372036854775808 : Int) ≤ v ∧ v ≤ (9223372036854775807 : Int) →
 (∀ (n : Int), (-9223372036854775808 : Int) ≤ n ∧ n ≤ (9223372036854775807 : Int) → s5 = txt n → v = n ∧ b = true) →
 brS (!b) (NOq Q h)
 (brS (decide (v < (-4611686018427387904 : Int)))
 (brS (OPs s != (14 : Int))
 (NOq Q h)
 (brS (decide (v > (4611686018427387904 : Int)))
 (brS (OPs s != (14 : Int))
 (NOq Q h)
 (Ss s ∧
 Sl ∧
 So s ∧
 Vp s = some (TV.v IV.nilslice) ∧
 some (TV.v (IV.vslice (some (0 : Nat)) (1 : Nat) (1 : Nat) (1 : Nat) [IV.int IntKind.i64 v])) = some (TV.v IV.nilslice) ∧
 some (TV.v (IV.int IntKind.i64 (1 : Int))) = some (TV.v (IV.int IntKind.i64 (0 : Int))) ∧
 Sz ∧
 Heap.mk (PT.node PT.nil (some (IObj.tip (1 : Nat))) PT.nil) ((0 : Nat) + (1 : Nat)) = Heap.mk PT.nil (0 : Nat) ∧ pcsS s = [] ∧ (0 : Nat) < List.length (pcsS s) + (1 : Nat) ∨
 (∃ (x : Unit),
 Ss s ∧
 Sl ∧
 So s ∧
 Vp s =
 Vp s ∧
 some (TV.v (IV.vslice (some (0 : Nat)) (1 : Nat) (1 : Nat) (1 : Nat) [IV.int IntKind.i64 v])) = some (TV.v IV.nilslice) ∧
 some (TV.v (IV.int IntKind.i64 (1 : Int))) = some (TV.v (IV.int IntKind.i64 (0 : Int))) ∧
 Sz ∧
 Heap.mk (PT.node PT.nil (some (IObj.tip (1 : Nat))) PT.nil) ((0 : Nat) + (1 : Nat)) = Heap.mk PT.nil (0 : Nat) ∧
 True ∧ List.length (pcsS s) + (1 : Nat) < List.length (pcsS s) + (1 : Nat)) ∨
 ∃ (x : Nat × List Int),
 Ss s ∧
 Sl ∧
 So s ∧
 Vp s =
 Vp s ∧
 some (TV.v (IV.vslice (some (0 : Nat)) (1 : Nat) (1 : Nat) (1 : Nat) [IV.int IntKind.i64 v])) =
 some (TV.v (IV.vslice (some (0 : Nat)) (List.length (Prod.snd x)) (List.length (Prod.snd x)) (1 : Nat) (List.map (IV.int IntKind.i64) (Prod.snd x)))) ∧
 some (TV.v (IV.int IntKind.i64 (1 : Int))) = some (TV.v (IV.int IntKind.i64 (↑(Prod.fst x) : Int))) ∧
 Sz ∧
 Heap.mk (PT.node PT.nil (some (IObj.tip (1 : Nat))) PT.nil) ((0 : Nat) + (1 : Nat)) =
 Heap.mk (PT.node PT.nil (some (IObj.tip (List.length (Prod.snd x)))) PT.nil) (1 : Nat) ∧
 ((Prod.fst x ≤ List.length (pcsS s) ∧ List.length (Prod.snd x) = Prod.fst x) ∧ VL s (OPs s) (Prod.fst x) (Prod.snd x)) ∧
 List.length (pcsS s) - Prod.fst x < List.length (pcsS s) + (1 : Nat)))
 (Ss s ∧
 Sl ∧
 So s ∧
 Vp s = some (TV.v IV.nilslice) ∧
 some (TV.v (IV.vslice (some (0 : Nat)) (1 : Nat) (1 : Nat) (1 : Nat) [IV.int IntKind.i64 v])) = some (TV.v IV.nilslice) ∧
 some (TV.v (IV.int IntKind.i64 (1 : Int))) = some (TV.v (IV.int IntKind.i64 (0 : Int))) ∧
 Sz ∧
 Heap.mk (PT.node PT.nil (some (IObj.tip (1 : Nat))) PT.nil) ((0 : Nat) + (1 : Nat)) = Heap.mk PT.nil (0 : Nat) ∧ pcsS s = [] ∧ (0 : Nat) < List.length (pcsS s) + (1 : Nat) ∨
 (∃ (x : Unit),
 Ss s ∧
 Sl ∧
 So s ∧
 Vp s =
 Vp s ∧
 some (TV.v (IV.vslice (some (0 : Nat)) (1 : Nat) (1 : Nat) (1 : Nat) [IV.int IntKind.i64 v])) = some (TV.v IV.nilslice) ∧
 some (TV.v (IV.int IntKind.i64 (1 : Int))) = some (TV.v (IV.int IntKind.i64 (0 : Int))) ∧
 Sz ∧
 Heap.mk (PT.node PT.nil (some (IObj.tip (1 : Nat))) PT.nil) ((0 : Nat) + (1 : Nat)) = Heap.mk PT.nil (0 : Nat) ∧
 True ∧ List.length (pcsS s) + (1 : Nat) < List.length (pcsS s) + (1 : Nat)) ∨
 ∃ (x : Nat × List Int),
 Ss s ∧
 Sl ∧
 So s ∧
 Vp s =
 Vp s ∧
 some (TV.v (IV.vslice (some (0 : Nat)) (1 : Nat) (1 : Nat) (1 : Nat) [IV.int IntKind.i64 v])) =
 some (TV.v (IV.vslice (some (0 : Nat)) (List.length (Prod.snd x)) (List.length (Prod.snd x)) (1 : Nat) (List.map (IV.int IntKind.i64) (Prod.snd x)))) ∧
 some (TV.v (IV.int IntKind.i64 (1 : Int))) = some (TV.v (IV.int IntKind.i64 (↑(Prod.fst x) : Int))) ∧
 Sz ∧
 Heap.mk (PT.node PT.nil (some (IObj.tip (1 : Nat))) PT.nil) ((0 : Nat) + (1 : Nat)) =
 Heap.mk (PT.node PT.nil (some (IObj.tip (List.length (Prod.snd x)))) PT.nil) (1 : Nat) ∧
 ((Prod.fst x ≤ List.length (pcsS s) ∧ List.length (Prod.snd x) = Prod.fst x) ∧ VL s (OPs s) (Prod.fst x) (Prod.snd x)) ∧
 List.length (pcsS s) - Prod.fst x < List.length (pcsS s) + (1 : Nat))))
 (brS (decide (v > (4611686018427387904 : Int)))
 (brS (OPs s != (14 : Int))
 (NOq Q h)
 (Ss s ∧
 Sl ∧
 So s ∧
 Vp s = some (TV.v IV.nilslice) ∧
 some (TV.v (IV.vslice (some (0 : Nat)) (1 : Nat) (1 : Nat) (1 : Nat) [IV.int IntKind.i64 v])) = some (TV.v IV.nilslice) ∧
 some (TV.v (IV.int IntKind.i64 (1 : Int))) = some (TV.v (IV.int IntKind.i64 (0 : Int))) ∧
 Sz ∧
 Heap.mk (PT.node PT.nil (some (IObj.tip (1 : Nat))) PT.nil) ((0 : Nat) + (1 : Nat)) = Heap.mk PT.nil (0 : Nat) ∧ pcsS s = [] ∧ (0 : Nat) < List.length (pcsS s) + (1 : Nat) ∨
 (∃ (x : Unit),
 Ss s ∧
 Sl ∧
 So s ∧
 Vp s =
 Vp s ∧
 some (TV.v (IV.vslice (some (0 : Nat)) (1 : Nat) (1 : Nat) (1 : Nat) [IV.int IntKind.i64 v])) = some (TV.v IV.nilslice) ∧
 some (TV.v (IV.int IntKind.i64 (1 : Int))) = some (TV.v (IV.int IntKind.i64 (0 : Int))) ∧
 Sz ∧
 Heap.mk (PT.node PT.nil (some (IObj.tip (1 : Nat))) PT.nil) ((0 : Nat) + (1 : Nat)) = Heap.mk PT.nil (0 : Nat) ∧
 True ∧ List.length (pcsS s) + (1 : Nat) < List.length (pcsS s) + (1 : Nat)) ∨
 ∃ (x : Nat × List Int),
 Ss s ∧
 Sl ∧
 So s ∧
 Vp s =
 Vp s ∧
 some (TV.v (IV.vslice (some (0 : Nat)) (1 : Nat) (1 : Nat) (1 : Nat) [IV.int IntKind.i64 v])) =
 some (TV.v (IV.vslice (some (0 : Nat)) (List.length (Prod.snd x)) (List.length (Prod.snd x)) (1 : Nat) (List.map (IV.int IntKind.i64) (Prod.snd x)))) ∧
 some (TV.v (IV.int IntKind.i64 (1 : Int))) = some (TV.v (IV.int IntKind.i64 (↑(Prod.fst x) : Int))) ∧
 Sz ∧
 Heap.mk (PT.node PT.nil (some (IObj.tip (1 : Nat))) PT.nil) ((0 : Nat) + (1 : Nat)) =
 Heap.mk (PT.node PT.nil (some (IObj.tip (List.length (Prod.snd x)))) PT.nil) (1 : Nat) ∧
 ((Prod.fst x ≤ List.length (pcsS s) ∧ List.length (Prod.snd x) = Prod.fst x) ∧ VL s (OPs s) (Prod.fst x) (Prod.snd x)) ∧
 List.length (pcsS s) - Prod.fst x < List.length (pcsS s) + (1 : Nat)))
 (Ss s ∧
 Sl ∧
 So s ∧
 Vp s = some (TV.v IV.nilslice) ∧
 some (TV.v (IV.vslice (some (0 : Nat)) (1 : Nat) (1 : Nat) (1 : Nat) [IV.int IntKind.i64 v])) = some (TV.v IV.nilslice) ∧
 some (TV.v (IV.int IntKind.i64 (1 : Int))) = some (TV.v (IV.int IntKind.i64 (0 : Int))) ∧
 Sz ∧
 Heap.mk (PT.node PT.nil (some (IObj.tip (1 : Nat))) PT.nil) ((0 : Nat) + (1 : Nat)) = Heap.mk PT.nil (0 : Nat) ∧ pcsS s = [] ∧ (0 : Nat) < List.length (pcsS s) + (1 : Nat) ∨
 (∃ (x : Unit),
 Ss s ∧
 Sl ∧
 So s ∧
 Vp s =
 Vp s ∧
 some (TV.v (IV.vslice (some (0 : Nat)) (1 : Nat) (1 : Nat) (1 : Nat) [IV.int IntKind.i64 v])) = some (TV.v IV.nilslice) ∧
 some (TV.v (IV.int IntKind.i64 (1 : Int))) = some (TV.v (IV.int IntKind.i64 (0 : Int))) ∧
 Sz ∧
 Heap.mk (PT.node PT.nil (some (IObj.tip (1 : Nat))) PT.nil) ((0 : Nat) + (1 : Nat)) = Heap.mk PT.nil (0 : Nat) ∧
 True ∧ List.length (pcsS s) + (1 : Nat) < List.length (pcsS s) + (1 : Nat)) ∨
 ∃ (x : Nat × List Int),
 Ss s ∧
 Sl ∧
 So s ∧
 Vp s =
 Vp s ∧
 some (TV.v (IV.vslice (some (0 : Nat)) (1 : Nat) (1 : Nat) (1 : Nat) [IV.int IntKind.i64 v])) =
 some (TV.v (IV.vslice (some (0 : Nat)) (List.length (Prod.snd x)) (List.length (Prod.snd x)) (1 : Nat) (List.map (IV.int IntKind.i64) (Prod.snd x)))) ∧
 some (TV.v (IV.int IntKind.i64 (1 : Int))) = some (TV.v (IV.int IntKind.i64 (↑(Prod.fst x) : Int))) ∧
 Sz ∧
 Heap.mk (PT.node PT.nil (some (IObj.tip (1 : Nat))) PT.nil) ((0 : Nat) + (1 : Nat)) = Heap.mk (PT.node PT.nil (some (IObj.tip (List.length (Prod.snd x)))) PT.nil) (1 : Nat) ∧
 ((Prod.fst x ≤ List.length (pcsS s) ∧ List.length (Prod.snd x) = Prod.fst x) ∧ VL s (OPs s) (Prod.fst x) (Prod.snd x)) ∧
 List.length (pcsS s) - Prod.fst x < List.length (pcsS s) + (1 : Nat))))))
 (∀ (v : Int) (b : Bool),
 (-9223372036854775808 : Int) ≤ v ∧ v ≤ (9223372036854775807 : Int) →
 (∀ (n : Int), (-9223372036854775808 : Int) ≤ n ∧ n ≤ (9223372036854775807 : Int) → s5 = txt n → v = n ∧ b = true) →
 brS (!b) (NOq Q h)
 (brS (decide (v < (-4611686018427387904 : Int)))
 (brS (OPs s != (14 : Int))
 (NOq Q h)
 (brS (decide (v > (4611686018427387904 : Int)))
 (brS (OPs s != (14 : Int))
 (NOq Q h)
 (Ss s ∧
 Sl ∧
 So s ∧
 Vp s = some (TV.v IV.nilslice) ∧
 some (TV.v (IV.vslice (some (0 : Nat)) (1 : Nat) (1 : Nat) (1 : Nat) [IV.int IntKind.i64 v])) = some (TV.v IV.nilslice) ∧
 some (TV.v (IV.int IntKind.i64 (1 : Int))) = some (TV.v (IV.int IntKind.i64 (0 : Int))) ∧
 Sz ∧
 Heap.mk (PT.node PT.nil (some (IObj.tip (1 : Nat))) PT.nil) ((0 : Nat) + (1 : Nat)) = Heap.mk PT.nil (0 : Nat) ∧ pcsS s = [] ∧ (0 : Nat) < List.length (pcsS s) + (1 : Nat) ∨
 (∃ (x : Unit),
 Ss s ∧
 Sl ∧
 So s ∧
 Vp s =
 Vp s ∧
 some (TV.v (IV.vslice (some (0 : Nat)) (1 : Nat) (1 : Nat) (1 : Nat) [IV.int IntKind.i64 v])) = some (TV.v IV.nilslice) ∧
 some (TV.v (IV.int IntKind.i64 (1 : Int))) = some (TV.v (IV.int IntKind.i64 (0 : Int))) ∧
 Sz ∧
 Heap.mk (PT.node PT.nil (some (IObj.tip (1 : Nat))) PT.nil) ((0 : Nat) + (1 : Nat)) = Heap.mk PT.nil (0 : Nat) ∧
 True ∧ List.length (pcsS s) + (1 : Nat) < List.length (pcsS s) + (1 : Nat)) ∨
 ∃ (x : Nat × List Int),
 Ss s ∧
 Sl ∧
 So s ∧
 Vp s =
 Vp s ∧
 some (TV.v (IV.vslice (some (0 : Nat)) (1 : Nat) (1 : Nat) (1 : Nat) [IV.int IntKind.i64 v])) =
 some (TV.v (IV.vslice (some (0 : Nat)) (List.length (Prod.snd x)) (List.length (Prod.snd x)) (1 : Nat) (List.map (IV.int IntKind.i64) (Prod.snd x)))) ∧
 some (TV.v (IV.int IntKind.i64 (1 : Int))) = some (TV.v (IV.int IntKind.i64 (↑(Prod.fst x) : Int))) ∧
 Sz ∧
 Heap.mk (PT.node PT.nil (some (IObj.tip (1 : Nat))) PT.nil) ((0 : Nat) + (1 : Nat)) = Heap.mk (PT.node PT.nil (some (IObj.tip (List.length (Prod.snd x)))) PT.nil) (1 : Nat) ∧
 ((Prod.fst x ≤ List.length (pcsS s) ∧ List.length (Prod.snd x) = Prod.fst x) ∧ VL s (OPs s) (Prod.fst x) (Prod.snd x)) ∧
 List.length (pcsS s) - Prod.fst x < List.length (pcsS s) + (1 : Nat)))
 (Ss s ∧
 Sl ∧
 So s ∧
 Vp s = some (TV.v IV.nilslice) ∧
 some (TV.v (IV.vslice (some (0 : Nat)) (1 : Nat) (1 : Nat) (1 : Nat) [IV.int IntKind.i64 v])) = some (TV.v IV.nilslice) ∧
 some (TV.v (IV.int IntKind.i64 (1 : Int))) = some (TV.v (IV.int IntKind.i64 (0 : Int))) ∧
 Sz ∧
 Heap.mk (PT.node PT.nil (some (IObj.tip (1 : Nat))) PT.nil) ((0 : Nat) + (1 : Nat)) = Heap.mk PT.nil (0 : Nat) ∧ pcsS s = [] ∧ (0 : Nat) < List.length (pcsS s) + (1 : Nat) ∨
 (∃ (x : Unit),
 Ss s ∧
 Sl ∧
 So s ∧
 Vp s =
 Vp s ∧
 some (TV.v (IV.vslice (some (0 : Nat)) (1 : Nat) (1 : Nat) (1 : Nat) [IV.int IntKind.i64 v])) = some (TV.v IV.nilslice) ∧
 some (TV.v (IV.int IntKind.i64 (1 : Int))) = some (TV.v (IV.int IntKind.i64 (0 : Int))) ∧
 Sz ∧
 Heap.mk (PT.node PT.nil (some (IObj.tip (1 : Nat))) PT.nil) ((0 : Nat) + (1 : Nat)) = Heap.mk PT.nil (0 : Nat) ∧
 True ∧ List.length (pcsS s) + (1 : Nat) < List.length (pcsS s) + (1 : Nat)) ∨
 ∃ (x : Nat × List Int),
 Ss s ∧
 Sl ∧
 So s ∧
 Vp s =
 Vp s ∧
 some (TV.v (IV.vslice (some (0 : Nat)) (1 : Nat) (1 : Nat) (1 : Nat) [IV.int IntKind.i64 v])) =
 some (TV.v (IV.vslice (some (0 : Nat)) (List.length (Prod.snd x)) (List.length (Prod.snd x)) (1 : Nat) (List.map (IV.int IntKind.i64) (Prod.snd x)))) ∧
 some (TV.v (IV.int IntKind.i64 (1 : Int))) = some (TV.v (IV.int IntKind.i64 (↑(Prod.fst x) : Int))) ∧
 Sz ∧
 Heap.mk (PT.node PT.nil (some (IObj.tip (1 : Nat))) PT.nil) ((0 : Nat) + (1 : Nat)) = Heap.mk (PT.node PT.nil (some (IObj.tip (List.length (Prod.snd x)))) PT.nil) (1 : Nat) ∧
 ((Prod.fst x ≤ List.length (pcsS s) ∧ List.length (Prod.snd x) = Prod.fst x) ∧ VL s (OPs s) (Prod.fst x) (Prod.snd x)) ∧
 List.length (pcsS s) - Prod.fst x < List.length (pcsS s) + (1 : Nat))))
 (brS (decide (v > (4611686018427387904 : Int)))
 (brS (OPs s != (14 : Int))
 (NOq Q h)
 (Ss s ∧
 Sl ∧
 So s ∧
 Vp s = some (TV.v IV.nilslice) ∧
 some (TV.v (IV.vslice (some (0 : Nat)) (1 : Nat) (1 : Nat) (1 : Nat) [IV.int IntKind.i64 v])) = some (TV.v IV.nilslice) ∧
 some (TV.v (IV.int IntKind.i64 (1 : Int))) = some (TV.v (IV.int IntKind.i64 (0 : Int))) ∧
 Sz ∧
 Heap.mk (PT.node PT.nil (some (IObj.tip (1 : Nat))) PT.nil) ((0 : Nat) + (1 : Nat)) = Heap.mk PT.nil (0 : Nat) ∧ pcsS s = [] ∧ (0 : Nat) < List.length (pcsS s) + (1 : Nat) ∨
 (∃ (x : Unit),
 Ss s ∧
 Sl ∧
 So s ∧
 Vp s =
 Vp s ∧
 some (TV.v (IV.vslice (some (0 : Nat)) (1 : Nat) (1 : Nat) (1 : Nat) [IV.int IntKind.i64 v])) = some (TV.v IV.nilslice) ∧
 some (TV.v (IV.int IntKind.i64 (1 : Int))) = some (TV.v (IV.int IntKind.i64 (0 : Int))) ∧
 Sz ∧
 Heap.mk (PT.node PT.nil (some (IObj.tip (1 : Nat))) PT.nil) ((0 : Nat) + (1 : Nat)) = Heap.mk PT.nil (0 : Nat) ∧
 True ∧ List.length (pcsS s) + (1 : Nat) < List.length (pcsS s) + (1 : Nat)) ∨
 ∃ (x : Nat × List Int),
 Ss s ∧
 Sl ∧
 So s ∧
 Vp s =
 Vp s ∧
 some (TV.v (IV.vslice (some (0 : Nat)) (1 : Nat) (1 : Nat) (1 : Nat) [IV.int IntKind.i64 v])) =
 some (TV.v (IV.vslice (some (0 : Nat)) (List.length (Prod.snd x)) (List.length (Prod.snd x)) (1 : Nat) (List.map (IV.int IntKind.i64) (Prod.snd x)))) ∧
 some (TV.v (IV.int IntKind.i64 (1 : Int))) = some (TV.v (IV.int IntKind.i64 (↑(Prod.fst x) : Int))) ∧
 Sz ∧
 Heap.mk (PT.node PT.nil (some (IObj.tip (1 : Nat))) PT.nil) ((0 : Nat) + (1 : Nat)) = Heap.mk (PT.node PT.nil (some (IObj.tip (List.length (Prod.snd x)))) PT.nil) (1 : Nat) ∧
 ((Prod.fst x ≤ List.length (pcsS s) ∧ List.length (Prod.snd x) = Prod.fst x) ∧ VL s (OPs s) (Prod.fst x) (Prod.snd x)) ∧
 List.length (pcsS s) - Prod.fst x < List.length (pcsS s) + (1 : Nat)))
 (Ss s ∧
 Sl ∧
 So s ∧
 Vp s = some (TV.v IV.nilslice) ∧
 some (TV.v (IV.vslice (some (0 : Nat)) (1 : Nat) (1 : Nat) (1 : Nat) [IV.int IntKind.i64 v])) = some (TV.v IV.nilslice) ∧
 some (TV.v (IV.int IntKind.i64 (1 : Int))) = some (TV.v (IV.int IntKind.i64 (0 : Int))) ∧
 Sz ∧
 Heap.mk (PT.node PT.nil (some (IObj.tip (1 : Nat))) PT.nil) ((0 : Nat) + (1 : Nat)) = Heap.mk PT.nil (0 : Nat) ∧ pcsS s = [] ∧ (0 : Nat) < List.length (pcsS s) + (1 : Nat) ∨
 (∃ (x : Unit),
 Ss s ∧
 Sl ∧
 So s ∧
 Vp s =
 Vp s ∧
 some (TV.v (IV.vslice (some (0 : Nat)) (1 : Nat) (1 : Nat) (1 : Nat) [IV.int IntKind.i64 v])) = some (TV.v IV.nilslice) ∧
 some (TV.v (IV.int IntKind.i64 (1 : Int))) = some (TV.v (IV.int IntKind.i64 (0 : Int))) ∧
 Sz ∧
 Heap.mk (PT.node PT.nil (some (IObj.tip (1 : Nat))) PT.nil) ((0 : Nat) + (1 : Nat)) = Heap.mk PT.nil (0 : Nat) ∧
 True ∧ List.length (pcsS s) + (1 : Nat) < List.length (pcsS s) + (1 : Nat)) ∨
 ∃ (x : Nat × List Int),
 Ss s ∧
 Sl ∧
 So s ∧
 Vp s =
 Vp s ∧
 some (TV.v (IV.vslice (some (0 : Nat)) (1 : Nat) (1 : Nat) (1 : Nat) [IV.int IntKind.i64 v])) =
 some (TV.v (IV.vslice (some (0 : Nat)) (List.length (Prod.snd x)) (List.length (Prod.snd x)) (1 : Nat) (List.map (IV.int IntKind.i64) (Prod.snd x)))) ∧
 some (TV.v (IV.int IntKind.i64 (1 : Int))) = some (TV.v (IV.int IntKind.i64 (↑(Prod.fst x) : Int))) ∧
 Sz ∧
 Heap.mk (PT.node PT.nil (some (IObj.tip (1 : Nat))) PT.nil) ((0 : Nat) + (1 : Nat)) = Heap.mk (PT.node PT.nil (some (IObj.tip (List.length (Prod.snd x)))) PT.nil) (1 : Nat) ∧
 ((Prod.fst x ≤ List.length (pcsS s) ∧ List.length (Prod.snd x) = Prod.fst x) ∧ VL s (OPs s) (Prod.fst x) (Prod.snd x)) ∧
 List.length (pcsS s) - Prod.fst x < List.length (pcsS s) + (1 : Nat)))))))
 ((∃ (x : Unit),
 Ss s ∧
 Sl ∧
 So s ∧
 some (TV.v IV.nilslice) = some (TV.v IV.nilslice) ∧
 Sz ∧
 Heap.empty = Heap.empty ∧
 (∀ (i : In), vIn i = true → fmtS i = s → OPs s = In.op i ∧ ∃ (m : Nat), [] = valsOf i ++ List.replicate m (0 : Int)) ∧ True) ∨
 ∃ (x : List Int),
 Ss s ∧
 Sl ∧
 So s ∧
 some (TV.v IV.nilslice) = some (TV.v (IV.vslice (some (0 : Nat)) (List.length x) (List.length x) (1 : Nat) (List.map (IV.int IntKind.i64) x))) ∧
 Sz ∧
 Heap.mk PT.nil (0 : Nat) = Heap.mk (PT.node PT.nil (some (IObj.tip (List.length x))) PT.nil) (1 : Nat) ∧
 (VP s (OPs s) x ∧ List.length x ≤ List.length s + (10 : Nat)) ∧ True)) ∧
 ∀ (x : Nat × List Int) (b : FF),
 (Prod.fst x ≤ List.length (pcsS s) ∧ List.length (Prod.snd x) = Prod.fst x) ∧ VL s (OPs s) (Prod.fst x) (Prod.snd x) →
 brS (decide ((↑(Prod.fst x) : Int) < (↑(List.length (pcsS s)) : Int)))
 (needS (decide ((0 : Int) ≤ (↑(Prod.fst x) : Int)) && decide ((↑(Prod.fst x) : Int) < (↑(List.length (pcsS s)) : Int)))
 (ldSS (List.map IV.str (pcsS s)) (Int.toNat (↑(Prod.fst x) : Int) * (1 : Nat)) fun (s7 : List UInt8) =>
 brS (decide ((↑(List.length s7) : Int) > (1 : Int)))
 (chrS s7 (0 : Nat) fun (c8 : Int) =>
 brS (c8 == (114 : Int))
 (needS (true && (decide ((1 : Int) ≤ (↑(List.length s7) : Int)) && decide ((↑(List.length s7) : Int) ≤ (↑(List.length s7) : Int))))
 (∀ (v : Int) (b : Bool),
 (-9223372036854775808 : Int) ≤ v ∧ v ≤ (9223372036854775807 : Int) →
 (∀ (n : Int),
 (-9223372036854775808 : Int) ≤ n ∧ n ≤ (9223372036854775807 : Int) →
 List.take (Int.toNat (↑(List.length s7) : Int) - Int.toNat (1 : Int)) (List.drop (Int.toNat (1 : Int)) s7) = txt n → v = n ∧ b = true) →
 brS (!b)
 (NOq Q h)
 (brS (decide (v < (-4611686018427387904 : Int)))
 (brS (OPs s != (14 : Int))
 (NOq Q h)
 (brS (decide (v > (4611686018427387904 : Int)))
 (brS (OPs s != (14 : Int))
 (NOq Q h)
 (needS (Nat.beq (List.length (Prod.snd x)) (List.length (Prod.snd x)) && Nat.ble ((List.length (Prod.snd x) + (1 : Nat)) * (8 : Nat)) (140737488355328 : Nat))
 (Ss s ∧
 Sl ∧
 So s ∧
 Vp s = some (TV.v IV.nilslice) ∧
 some
 (TV.v
 (IV.vslice (some (0 : Nat)) (List.length (Prod.snd x) + (1 : Nat)) (List.length (Prod.snd x) + (1 : Nat)) (1 : Nat)
 (List.map (IV.int IntKind.i64) (Prod.snd x) ++ [IV.int IntKind.i64 v]))) =
 some (TV.v IV.nilslice) ∧
 some (TV.v (IV.int IntKind.i64 (IntKind.wrap IntKind.i64 ((↑(Prod.fst x) : Int) + (1 : Int))))) = some (TV.v (IV.int IntKind.i64 (0 : Int))) ∧
 Sz ∧
 Heap.mk (PT.node PT.nil (some (IObj.tip (List.length (Prod.snd x) + (1 : Nat)))) PT.nil) (1 : Nat) = Heap.mk PT.nil (0 : Nat) ∧
 pcsS s = [] ∧ (0 : Nat) < List.length (pcsS s) - Prod.fst x ∨
 (∃ (x_1 : Unit),
 Ss s ∧
 Sl ∧
 So s ∧
 Vp s =
 Vp s ∧
 some
 (TV.v
 (IV.vslice (some (0 : Nat)) (List.length (Prod.snd x) + (1 : Nat)) (List.length (Prod.snd x) + (1 : Nat)) (1 : Nat)
 (List.map (IV.int IntKind.i64) (Prod.snd x) ++ [IV.int IntKind.i64 v]))) =
 some (TV.v IV.nilslice) ∧
 some (TV.v (IV.int IntKind.i64 (IntKind.wrap IntKind.i64 ((↑(Prod.fst x) : Int) + (1 : Int))))) = some (TV.v (IV.int IntKind.i64 (0 : Int))) ∧
 Sz ∧
 Heap.mk (PT.node PT.nil (some (IObj.tip (List.length (Prod.snd x) + (1 : Nat)))) PT.nil) (1 : Nat) = Heap.mk PT.nil (0 : Nat) ∧
 True ∧ List.length (pcsS s) + (1 : Nat) < List.length (pcsS s) - Prod.fst x) ∨
 ∃ (x_1 : Nat × List Int),
 Ss s ∧
 Sl ∧
 So s ∧
 Vp s =
 Vp s ∧
 some
 (TV.v
 (IV.vslice (some (0 : Nat)) (List.length (Prod.snd x) + (1 : Nat)) (List.length (Prod.snd x) + (1 : Nat)) (1 : Nat)
 (List.map (IV.int IntKind.i64) (Prod.snd x) ++ [IV.int IntKind.i64 v]))) =
 some (TV.v (IV.vslice (some (0 : Nat)) (List.length (Prod.snd x_1)) (List.length (Prod.snd x_1)) (1 : Nat) (List.map (IV.int IntKind.i64) (Prod.snd x_1)))) ∧
 some (TV.v (IV.int IntKind.i64 (IntKind.wrap IntKind.i64 ((↑(Prod.fst x) : Int) + (1 : Int))))) = some (TV.v (IV.int IntKind.i64 (↑(Prod.fst x_1) : Int))) ∧
 Sz ∧
 Heap.mk (PT.node PT.nil (some (IObj.tip (List.length (Prod.snd x) + (1 : Nat)))) PT.nil) (1 : Nat) =
 Heap.mk (PT.node PT.nil (some (IObj.tip (List.length (Prod.snd x_1)))) PT.nil) (1 : Nat) ∧
 ((Prod.fst x_1 ≤ List.length (pcsS s) ∧ List.length (Prod.snd x_1) = Prod.fst x_1) ∧ VL s (OPs s) (Prod.fst x_1) (Prod.snd x_1)) ∧
 List.length (pcsS s) - Prod.fst x_1 < List.length (pcsS s) - Prod.fst x)))
 (needS (Nat.beq (List.length (Prod.snd x)) (List.length (Prod.snd x)) && Nat.ble ((List.length (Prod.snd x) + (1 : Nat)) * (8 : Nat)) (140737488355328 : Nat))
 (Ss s ∧
 Sl ∧
 So s ∧
 Vp s = some (TV.v IV.nilslice) ∧
 some
 (TV.v
 (IV.vslice (some (0 : Nat)) (List.length (Prod.snd x) + (1 : Nat)) (List.length (Prod.snd x) + (1 : Nat)) (1 : Nat)
 (List.map (IV.int IntKind.i64) (Prod.snd x) ++ [IV.int IntKind.i64 v]))) =
 some (TV.v IV.nilslice) ∧
 some (TV.v (IV.int IntKind.i64 (IntKind.wrap IntKind.i64 ((↑(Prod.fst x) : Int) + (1 : Int))))) = some (TV.v (IV.int IntKind.i64 (0 : Int))) ∧
 Sz ∧
 Heap.mk (PT.node PT.nil (some (IObj.tip (List.length (Prod.snd x) + (1 : Nat)))) PT.nil) (1 : Nat) = Heap.mk PT.nil (0 : Nat) ∧
 pcsS s = [] ∧ (0 : Nat) < List.length (pcsS s) - Prod.fst x ∨
 (∃ (x_1 : Unit),
 Ss s ∧
 Sl ∧
 So s ∧
 Vp s =
 Vp s ∧
 some
 (TV.v
 (IV.vslice (some (0 : Nat)) (List.length (Prod.snd x) + (1 : Nat)) (List.length (Prod.snd x) + (1 : Nat)) (1 : Nat)
 (List.map (IV.int IntKind.i64) (Prod.snd x) ++ [IV.int IntKind.i64 v]))) =
 some (TV.v IV.nilslice) ∧
 some (TV.v (IV.int IntKind.i64 (IntKind.wrap IntKind.i64 ((↑(Prod.fst x) : Int) + (1 : Int))))) = some (TV.v (IV.int IntKind.i64 (0 : Int))) ∧
 Sz ∧
 Heap.mk (PT.node PT.nil (some (IObj.tip (List.length (Prod.snd x) + (1 : Nat)))) PT.nil) (1 : Nat) = Heap.mk PT.nil (0 : Nat) ∧
 True ∧ List.length (pcsS s) + (1 : Nat) < List.length (pcsS s) - Prod.fst x) ∨
 ∃ (x_1 : Nat × List Int),
 Ss s ∧
 Sl ∧
 So s ∧
 Vp s =
 Vp s ∧
 some
 (TV.v
 (IV.vslice (some (0 : Nat)) (List.length (Prod.snd x) + (1 : Nat)) (List.length (Prod.snd x) + (1 : Nat)) (1 : Nat)
 (List.map (IV.int IntKind.i64) (Prod.snd x) ++ [IV.int IntKind.i64 v]))) =
 some (TV.v (IV.vslice (some (0 : Nat)) (List.length (Prod.snd x_1)) (List.length (Prod.snd x_1)) (1 : Nat) (List.map (IV.int IntKind.i64) (Prod.snd x_1)))) ∧
 some (TV.v (IV.int IntKind.i64 (IntKind.wrap IntKind.i64 ((↑(Prod.fst x) : Int) + (1 : Int))))) = some (TV.v (IV.int IntKind.i64 (↑(Prod.fst x_1) : Int))) ∧
 Sz ∧
 Heap.mk (PT.node PT.nil (some (IObj.tip (List.length (Prod.snd x) + (1 : Nat)))) PT.nil) (1 : Nat) =
 Heap.mk (PT.node PT.nil (some (IObj.tip (List.length (Prod.snd x_1)))) PT.nil) (1 : Nat) ∧
 ((Prod.fst x_1 ≤ List.length (pcsS s) ∧ List.length (Prod.snd x_1) = Prod.fst x_1) ∧ VL s (OPs s) (Prod.fst x_1) (Prod.snd x_1)) ∧
 List.length (pcsS s) - Prod.fst x_1 < List.length (pcsS s) - Prod.fst x))))
 (brS (decide (v > (4611686018427387904 : Int)))
 (brS (OPs s != (14 : Int))
 (NOq Q h)
 (needS (Nat.beq (List.length (Prod.snd x)) (List.length (Prod.snd x)) && Nat.ble ((List.length (Prod.snd x) + (1 : Nat)) * (8 : Nat)) (140737488355328 : Nat))
 (Ss s ∧
 Sl ∧
 So s ∧
 Vp s = some (TV.v IV.nilslice) ∧
 some
 (TV.v
 (IV.vslice (some (0 : Nat)) (List.length (Prod.snd x) + (1 : Nat)) (List.length (Prod.snd x) + (1 : Nat)) (1 : Nat)
 (List.map (IV.int IntKind.i64) (Prod.snd x) ++ [IV.int IntKind.i64 v]))) =
 some (TV.v IV.nilslice) ∧
 some (TV.v (IV.int IntKind.i64 (IntKind.wrap IntKind.i64 ((↑(Prod.fst x) : Int) + (1 : Int))))) = some (TV.v (IV.int IntKind.i64 (0 : Int))) ∧
 Sz ∧
 Heap.mk (PT.node PT.nil (some (IObj.tip (List.length (Prod.snd x) + (1 : Nat)))) PT.nil) (1 : Nat) = Heap.mk PT.nil (0 : Nat) ∧
 pcsS s = [] ∧ (0 : Nat) < List.length (pcsS s) - Prod.fst x ∨
 (∃ (x_1 : Unit),
 Ss s ∧
 Sl ∧
 So s ∧
 Vp s =
 Vp s ∧
 some
 (TV.v
 (IV.vslice (some (0 : Nat)) (List.length (Prod.snd x) + (1 : Nat)) (List.length (Prod.snd x) + (1 : Nat)) (1 : Nat)
 (List.map (IV.int IntKind.i64) (Prod.snd x) ++ [IV.int IntKind.i64 v]))) =
 some (TV.v IV.nilslice) ∧
 some (TV.v (IV.int IntKind.i64 (IntKind.wrap IntKind.i64 ((↑(Prod.fst x) : Int) + (1 : Int))))) = some (TV.v (IV.int IntKind.i64 (0 : Int))) ∧
 Sz ∧
 Heap.mk (PT.node PT.nil (some (IObj.tip (List.length (Prod.snd x) + (1 : Nat)))) PT.nil) (1 : Nat) = Heap.mk PT.nil (0 : Nat) ∧
 True ∧ List.length (pcsS s) + (1 : Nat) < List.length (pcsS s) - Prod.fst x) ∨
 ∃ (x_1 : Nat × List Int),
 Ss s ∧
 Sl ∧
 So s ∧
 Vp s =
 Vp s ∧
 some
 (TV.v
 (IV.vslice (some (0 : Nat)) (List.length (Prod.snd x) + (1 : Nat)) (List.length (Prod.snd x) + (1 : Nat)) (1 : Nat)
 (List.map (IV.int IntKind.i64) (Prod.snd x) ++ [IV.int IntKind.i64 v]))) =
 some (TV.v (IV.vslice (some (0 : Nat)) (List.length (Prod.snd x_1)) (List.length (Prod.snd x_1)) (1 : Nat) (List.map (IV.int IntKind.i64) (Prod.snd x_1)))) ∧
 some (TV.v (IV.int IntKind.i64 (IntKind.wrap IntKind.i64 ((↑(Prod.fst x) : Int) + (1 : Int))))) = some (TV.v (IV.int IntKind.i64 (↑(Prod.fst x_1) : Int))) ∧
 Sz ∧
 Heap.mk (PT.node PT.nil (some (IObj.tip (List.length (Prod.snd x) + (1 : Nat)))) PT.nil) (1 : Nat) =
 Heap.mk (PT.node PT.nil (some (IObj.tip (List.length (Prod.snd x_1)))) PT.nil) (1 : Nat) ∧
 ((Prod.fst x_1 ≤ List.length (pcsS s) ∧ List.length (Prod.snd x_1) = Prod.fst x_1) ∧ VL s (OPs s) (Prod.fst x_1) (Prod.snd x_1)) ∧
 List.length (pcsS s) - Prod.fst x_1 < List.length (pcsS s) - Prod.fst x)))
 (needS (Nat.beq (List.length (Prod.snd x)) (List.length (Prod.snd x)) && Nat.ble ((List.length (Prod.snd x) + (1 : Nat)) * (8 : Nat)) (140737488355328 : Nat))
 (Ss s ∧
 Sl ∧
 So s ∧
 Vp s = some (TV.v IV.nilslice) ∧
 some
 (TV.v
 (IV.vslice (some (0 : Nat)) (List.length (Prod.snd x) + (1 : Nat)) (List.length (Prod.snd x) + (1 : Nat)) (1 : Nat)
 (List.map (IV.int IntKind.i64) (Prod.snd x) ++ [IV.int IntKind.i64 v]))) =
 some (TV.v IV.nilslice) ∧
 some (TV.v (IV.int IntKind.i64 (IntKind.wrap IntKind.i64 ((↑(Prod.fst x) : Int) + (1 : Int))))) = some (TV.v (IV.int IntKind.i64 (0 : Int))) ∧
 Sz ∧
 Heap.mk (PT.node PT.nil (some (IObj.tip (List.length (Prod.snd x) + (1 : Nat)))) PT.nil) (1 : Nat) = Heap.mk PT.nil (0 : Nat) ∧
 pcsS s = [] ∧ (0 : Nat) < List.length (pcsS s) - Prod.fst x ∨
 (∃ (x_1 : Unit),
 Ss s ∧
 Sl ∧
 So s ∧
 Vp s =
 Vp s ∧
 some
 (TV.v
 (IV.vslice (some (0 : Nat)) (List.length (Prod.snd x) + (1 : Nat)) (List.length (Prod.snd x) + (1 : Nat)) (1 : Nat)
 (List.map (IV.int IntKind.i64) (Prod.snd x) ++ [IV.int IntKind.i64 v]))) =
 some (TV.v IV.nilslice) ∧
 some (TV.v (IV.int IntKind.i64 (IntKind.wrap IntKind.i64 ((↑(Prod.fst x) : Int) + (1 : Int))))) = some (TV.v (IV.int IntKind.i64 (0 : Int))) ∧
 Sz ∧
 Heap.mk (PT.node PT.nil (some (IObj.tip (List.length (Prod.snd x) + (1 : Nat)))) PT.nil) (1 : Nat) = Heap.mk PT.nil (0 : Nat) ∧
 True ∧ List.length (pcsS s) + (1 : Nat) < List.length (pcsS s) - Prod.fst x) ∨
 ∃ (x_1 : Nat × List Int),
 Ss s ∧
 Sl ∧
 So s ∧
 Vp s =
 Vp s ∧
 some
 (TV.v
 (IV.vslice (some (0 : Nat)) (List.length (Prod.snd x) + (1 : Nat)) (List.length (Prod.snd x) + (1 : Nat)) (1 : Nat)
 (List.map (IV.int IntKind.i64) (Prod.snd x) ++ [IV.int IntKind.i64 v]))) =
 some (TV.v (IV.vslice (some (0 : Nat)) (List.length (Prod.snd x_1)) (List.length (Prod.snd x_1)) (1 : Nat) (List.map (IV.int IntKind.i64) (Prod.snd x_1)))) ∧
 some (TV.v (IV.int IntKind.i64 (IntKind.wrap IntKind.i64 ((↑(Prod.fst x) : Int) + (1 : Int))))) = some (TV.v (IV.int IntKind.i64 (↑(Prod.fst x_1) : Int))) ∧
 Sz ∧
 Heap.mk (PT.node PT.nil (some (IObj.tip (List.length (Prod.snd x) + (1 : Nat)))) PT.nil) (1 : Nat) =
 Heap.mk (PT.node PT.nil (some (IObj.tip (List.length (Prod.snd x_1)))) PT.nil) (1 : Nat) ∧
 ((Prod.fst x_1 ≤ List.length (pcsS s) ∧ List.length (Prod.snd x_1) = Prod.fst x_1) ∧ VL s (OPs s) (Prod.fst x_1) (Prod.snd x_1)) ∧
 List.length (pcsS s) - Prod.fst x_1 < List.length (pcsS s) - Prod.fst x))))))
 (∀ (v : Int) (b : Bool),
 (-9223372036854775808 : Int) ≤ v ∧ v ≤ (9223372036854775807 : Int) →
 (∀ (n : Int), (-9223372036854775808 : Int) ≤ n ∧ n ≤ (9223372036854775807 : Int) → s7 = txt n → v = n ∧ b = true) →
 brS (!b) (NOq Q h)
 (brS (decide (v < (-4611686018427387904 : Int)))
 (brS (OPs s != (14 : Int))
 (NOq Q h)
 (brS (decide (v > (4611686018427387904 : Int)))
 (brS (OPs s != (14 : Int))
 (NOq Q h)
 (needS (Nat.beq (List.length (Prod.snd x)) (List.length (Prod.snd x)) && Nat.ble ((List.length (Prod.snd x) + (1 : Nat)) * (8 : Nat)) (140737488355328 : Nat))
 (Ss s ∧
 Sl ∧
 So s ∧
 Vp s = some (TV.v IV.nilslice) ∧
 some
 (TV.v
 (IV.vslice (some (0 : Nat)) (List.length (Prod.snd x) + (1 : Nat)) (List.length (Prod.snd x) + (1 : Nat)) (1 : Nat)
 (List.map (IV.int IntKind.i64) (Prod.snd x) ++ [IV.int IntKind.i64 v]))) =
 some (TV.v IV.nilslice) ∧
 some (TV.v (IV.int IntKind.i64 (IntKind.wrap IntKind.i64 ((↑(Prod.fst x) : Int) + (1 : Int))))) = some (TV.v (IV.int IntKind.i64 (0 : Int))) ∧
 Sz ∧
 Heap.mk (PT.node PT.nil (some (IObj.tip (List.length (Prod.snd x) + (1 : Nat)))) PT.nil) (1 : Nat) = Heap.mk PT.nil (0 : Nat) ∧
 pcsS s = [] ∧ (0 : Nat) < List.length (pcsS s) - Prod.fst x ∨
 (∃ (x_1 : Unit),
 Ss s ∧
 Sl ∧
 So s ∧
 Vp s =
 Vp s ∧
 some
 (TV.v
 (IV.vslice (some (0 : Nat)) (List.length (Prod.snd x) + (1 : Nat)) (List.length (Prod.snd x) + (1 : Nat)) (1 : Nat)
 (List.map (IV.int IntKind.i64) (Prod.snd x) ++ [IV.int IntKind.i64 v]))) =
 some (TV.v IV.nilslice) ∧
 some (TV.v (IV.int IntKind.i64 (IntKind.wrap IntKind.i64 ((↑(Prod.fst x) : Int) + (1 : Int))))) = some (TV.v (IV.int IntKind.i64 (0 : Int))) ∧
 Sz ∧
 Heap.mk (PT.node PT.nil (some (IObj.tip (List.length (Prod.snd x) + (1 : Nat)))) PT.nil) (1 : Nat) = Heap.mk PT.nil (0 : Nat) ∧
 True ∧ List.length (pcsS s) + (1 : Nat) < List.length (pcsS s) - Prod.fst x) ∨
 ∃ (x_1 : Nat × List Int),
 Ss s ∧
 Sl ∧
 So s ∧
 Vp s =
 Vp s ∧
 some
 (TV.v
 (IV.vslice (some (0 : Nat)) (List.length (Prod.snd x) + (1 : Nat)) (List.length (Prod.snd x) + (1 : Nat)) (1 : Nat)
 (List.map (IV.int IntKind.i64) (Prod.snd x) ++ [IV.int IntKind.i64 v]))) =
 some (TV.v (IV.vslice (some (0 : Nat)) (List.length (Prod.snd x_1)) (List.length (Prod.snd x_1)) (1 : Nat) (List.map (IV.int IntKind.i64) (Prod.snd x_1)))) ∧
 some (TV.v (IV.int IntKind.i64 (IntKind.wrap IntKind.i64 ((↑(Prod.fst x) : Int) + (1 : Int))))) = some (TV.v (IV.int IntKind.i64 (↑(Prod.fst x_1) : Int))) ∧
 Sz ∧
 Heap.mk (PT.node PT.nil (some (IObj.tip (List.length (Prod.snd x) + (1 : Nat)))) PT.nil) (1 : Nat) =
 Heap.mk (PT.node PT.nil (some (IObj.tip (List.length (Prod.snd x_1)))) PT.nil) (1 : Nat) ∧
 ((Prod.fst x_1 ≤ List.length (pcsS s) ∧ List.length (Prod.snd x_1) = Prod.fst x_1) ∧ VL s (OPs s) (Prod.fst x_1) (Prod.snd x_1)) ∧
 List.length (pcsS s) - Prod.fst x_1 < List.length (pcsS s) - Prod.fst x)))
 (needS (Nat.beq (List.length (Prod.snd x)) (List.length (Prod.snd x)) && Nat.ble ((List.length (Prod.snd x) + (1 : Nat)) * (8 : Nat)) (140737488355328 : Nat))
 (Ss s ∧
 Sl ∧
 So s ∧
 Vp s = some (TV.v IV.nilslice) ∧
 some
 (TV.v
 (IV.vslice (some (0 : Nat)) (List.length (Prod.snd x) + (1 : Nat)) (List.length (Prod.snd x) + (1 : Nat)) (1 : Nat)
 (List.map (IV.int IntKind.i64) (Prod.snd x) ++ [IV.int IntKind.i64 v]))) =
 some (TV.v IV.nilslice) ∧
 some (TV.v (IV.int IntKind.i64 (IntKind.wrap IntKind.i64 ((↑(Prod.fst x) : Int) + (1 : Int))))) = some (TV.v (IV.int IntKind.i64 (0 : Int))) ∧
 Sz ∧
 Heap.mk (PT.node PT.nil (some (IObj.tip (List.length (Prod.snd x) + (1 : Nat)))) PT.nil) (1 : Nat) = Heap.mk PT.nil (0 : Nat) ∧
 pcsS s = [] ∧ (0 : Nat) < List.length (pcsS s) - Prod.fst x ∨
 (∃ (x_1 : Unit),
 Ss s ∧
 Sl ∧
 So s ∧
 Vp s =
 Vp s ∧
 some
 (TV.v
 (IV.vslice (some (0 : Nat)) (List.length (Prod.snd x) + (1 : Nat)) (List.length (Prod.snd x) + (1 : Nat)) (1 : Nat)
 (List.map (IV.int IntKind.i64) (Prod.snd x) ++ [IV.int IntKind.i64 v]))) =
 some (TV.v IV.nilslice) ∧
 some (TV.v (IV.int IntKind.i64 (IntKind.wrap IntKind.i64 ((↑(Prod.fst x) : Int) + (1 : Int))))) = some (TV.v (IV.int IntKind.i64 (0 : Int))) ∧
 Sz ∧
 Heap.mk (PT.node PT.nil (some (IObj.tip (List.length (Prod.snd x) + (1 : Nat)))) PT.nil) (1 : Nat) = Heap.mk PT.nil (0 : Nat) ∧
 True ∧ List.length (pcsS s) + (1 : Nat) < List.length (pcsS s) - Prod.fst x) ∨
 ∃ (x_1 : Nat × List Int),
 Ss s ∧
 Sl ∧
 So s ∧
 Vp s =
 Vp s ∧
 some
 (TV.v
 (IV.vslice (some (0 : Nat)) (List.length (Prod.snd x) + (1 : Nat)) (List.length (Prod.snd x) + (1 : Nat)) (1 : Nat)
 (List.map (IV.int IntKind.i64) (Prod.snd x) ++ [IV.int IntKind.i64 v]))) =
 some (TV.v (IV.vslice (some (0 : Nat)) (List.length (Prod.snd x_1)) (List.length (Prod.snd x_1)) (1 : Nat) (List.map (IV.int IntKind.i64) (Prod.snd x_1)))) ∧
 some (TV.v (IV.int IntKind.i64 (IntKind.wrap IntKind.i64 ((↑(Prod.fst x) : Int) + (1 : Int))))) = some (TV.v (IV.int IntKind.i64 (↑(Prod.fst x_1) : Int))) ∧
 Sz ∧
 Heap.mk (PT.node PT.nil (some (IObj.tip (List.length (Prod.snd x) + (1 : Nat)))) PT.nil) (1 : Nat) =
 Heap.mk (PT.node PT.nil (some (IObj.tip (List.length (Prod.snd x_1)))) PT.nil) (1 : Nat) ∧
 ((Prod.fst x_1 ≤ List.length (pcsS s) ∧ List.length (Prod.snd x_1) = Prod.fst x_1) ∧ VL s (OPs s) (Prod.fst x_1) (Prod.snd x_1)) ∧
 List.length (pcsS s) - Prod.fst x_1 < List.length (pcsS s) - Prod.fst x))))
 (brS (decide (v > (4611686018427387904 : Int)))
 (brS (OPs s != (14 : Int))
 (NOq Q h)
 (needS (Nat.beq (List.length (Prod.snd x)) (List.length (Prod.snd x)) && Nat.ble ((List.length (Prod.snd x) + (1 : Nat)) * (8 : Nat)) (140737488355328 : Nat))
 (Ss s ∧
 Sl ∧
 So s ∧
 Vp s = some (TV.v IV.nilslice) ∧
 some
 (TV.v
 (IV.vslice (some (0 : Nat)) (List.length (Prod.snd x) + (1 : Nat)) (List.length (Prod.snd x) + (1 : Nat)) (1 : Nat)
 (List.map (IV.int IntKind.i64) (Prod.snd x) ++ [IV.int IntKind.i64 v]))) =
 some (TV.v IV.nilslice) ∧
 some (TV.v (IV.int IntKind.i64 (IntKind.wrap IntKind.i64 ((↑(Prod.fst x) : Int) + (1 : Int))))) = some (TV.v (IV.int IntKind.i64 (0 : Int))) ∧
 Sz ∧
 Heap.mk (PT.node PT.nil (some (IObj.tip (List.length (Prod.snd x) + (1 : Nat)))) PT.nil) (1 : Nat) = Heap.mk PT.nil (0 : Nat) ∧
 pcsS s = [] ∧ (0 : Nat) < List.length (pcsS s) - Prod.fst x ∨
 (∃ (x_1 : Unit),
 Ss s ∧
 Sl ∧
 So s ∧
 Vp s =
 Vp s ∧
 some
 (TV.v
 (IV.vslice (some (0 : Nat)) (List.length (Prod.snd x) + (1 : Nat)) (List.length (Prod.snd x) + (1 : Nat)) (1 : Nat)
 (List.map (IV.int IntKind.i64) (Prod.snd x) ++ [IV.int IntKind.i64 v]))) =
 some (TV.v IV.nilslice) ∧
 some (TV.v (IV.int IntKind.i64 (IntKind.wrap IntKind.i64 ((↑(Prod.fst x) : Int) + (1 : Int))))) = some (TV.v (IV.int IntKind.i64 (0 : Int))) ∧
 Sz ∧
 Heap.mk (PT.node PT.nil (some (IObj.tip (List.length (Prod.snd x) + (1 : Nat)))) PT.nil) (1 : Nat) = Heap.mk PT.nil (0 : Nat) ∧
 True ∧ List.length (pcsS s) + (1 : Nat) < List.length (pcsS s) - Prod.fst x) ∨
 ∃ (x_1 : Nat × List Int),
 Ss s ∧
 Sl ∧
 So s ∧
 Vp s =
 Vp s ∧
 some
 (TV.v
 (IV.vslice (some (0 : Nat)) (List.length (Prod.snd x) + (1 : Nat)) (List.length (Prod.snd x) + (1 : Nat)) (1 : Nat)
 (List.map (IV.int IntKind.i64) (Prod.snd x) ++ [IV.int IntKind.i64 v]))) =
 some (TV.v (IV.vslice (some (0 : Nat)) (List.length (Prod.snd x_1)) (List.length (Prod.snd x_1)) (1 : Nat) (List.map (IV.int IntKind.i64) (Prod.snd x_1)))) ∧
 some (TV.v (IV.int IntKind.i64 (IntKind.wrap IntKind.i64 ((↑(Prod.fst x) : Int) + (1 : Int))))) = some (TV.v (IV.int IntKind.i64 (↑(Prod.fst x_1) : Int))) ∧
 Sz ∧
 Heap.mk (PT.node PT.nil (some (IObj.tip (List.length (Prod.snd x) + (1 : Nat)))) PT.nil) (1 : Nat) =
 Heap.mk (PT.node PT.nil (some (IObj.tip (List.length (Prod.snd x_1)))) PT.nil) (1 : Nat) ∧
 ((Prod.fst x_1 ≤ List.length (pcsS s) ∧ List.length (Prod.snd x_1) = Prod.fst x_1) ∧ VL s (OPs s) (Prod.fst x_1) (Prod.snd x_1)) ∧
 List.length (pcsS s) - Prod.fst x_1 < List.length (pcsS s) - Prod.fst x)))
 (needS (Nat.beq (List.length (Prod.snd x)) (List.length (Prod.snd x)) && Nat.ble ((List.length (Prod.snd x) + (1 : Nat)) * (8 : Nat)) (140737488355328 : Nat))
 (Ss s ∧
 Sl ∧
 So s ∧
 Vp s = some (TV.v IV.nilslice) ∧
 some
 (TV.v
 (IV.vslice (some (0 : Nat)) (List.length (Prod.snd x) + (1 : Nat)) (List.length (Prod.snd x) + (1 : Nat)) (1 : Nat)
 (List.map (IV.int IntKind.i64) (Prod.snd x) ++ [IV.int IntKind.i64 v]))) =
 some (TV.v IV.nilslice) ∧
 some (TV.v (IV.int IntKind.i64 (IntKind.wrap IntKind.i64 ((↑(Prod.fst x) : Int) + (1 : Int))))) = some (TV.v (IV.int IntKind.i64 (0 : Int))) ∧
 Sz ∧
 Heap.mk (PT.node PT.nil (some (IObj.tip (List.length (Prod.snd x) + (1 : Nat)))) PT.nil) (1 : Nat) = Heap.mk PT.nil (0 : Nat) ∧
 pcsS s = [] ∧ (0 : Nat) < List.length (pcsS s) - Prod.fst x ∨
 (∃ (x_1 : Unit),
 Ss s ∧
 Sl ∧
 So s ∧
 Vp s =
 Vp s ∧
 some
 (TV.v
 (IV.vslice (some (0 : Nat)) (List.length (Prod.snd x) + (1 : Nat)) (List.length (Prod.snd x) + (1 : Nat)) (1 : Nat)
 (List.map (IV.int IntKind.i64) (Prod.snd x) ++ [IV.int IntKind.i64 v]))) =
 some (TV.v IV.nilslice) ∧
 some (TV.v (IV.int IntKind.i64 (IntKind.wrap IntKind.i64 ((↑(Prod.fst x) : Int) + (1 : Int))))) = some (TV.v (IV.int IntKind.i64 (0 : Int))) ∧
 Sz ∧
 Heap.mk (PT.node PT.nil (some (IObj.tip (List.length (Prod.snd x) + (1 : Nat)))) PT.nil) (1 : Nat) = Heap.mk PT.nil (0 : Nat) ∧
 True ∧ List.length (pcsS s) + (1 : Nat) < List.length (pcsS s) - Prod.fst x) ∨
 ∃ (x_1 : Nat × List Int),
 Ss s ∧
 Sl ∧
 So s ∧
 Vp s =
 Vp s ∧
 some
 (TV.v
 (IV.vslice (some (0 : Nat)) (List.length (Prod.snd x) + (1 : Nat)) (List.length (Prod.snd x) + (1 : Nat)) (1 : Nat)
 (List.map (IV.int IntKind.i64) (Prod.snd x) ++ [IV.int IntKind.i64 v]))) =
 some (TV.v (IV.vslice (some (0 : Nat)) (List.length (Prod.snd x_1)) (List.length (Prod.snd x_1)) (1 : Nat) (List.map (IV.int IntKind.i64) (Prod.snd x_1)))) ∧
 some (TV.v (IV.int IntKind.i64 (IntKind.wrap IntKind.i64 ((↑(Prod.fst x) : Int) + (1 : Int))))) = some (TV.v (IV.int IntKind.i64 (↑(Prod.fst x_1) : Int))) ∧
 Sz ∧
 Heap.mk (PT.node PT.nil (some (IObj.tip (List.length (Prod.snd x) + (1 : Nat)))) PT.nil) (1 : Nat) =
 Heap.mk (PT.node PT.nil (some (IObj.tip (List.length (Prod.snd x_1)))) PT.nil) (1 : Nat) ∧
 ((Prod.fst x_1 ≤ List.length (pcsS s) ∧ List.length (Prod.snd x_1) = Prod.fst x_1) ∧ VL s (OPs s) (Prod.fst x_1) (Prod.snd x_1)) ∧
 List.length (pcsS s) - Prod.fst x_1 < List.length (pcsS s) - Prod.fst x))))))
 (∀ (v : Int) (b : Bool),
 (-9223372036854775808 : Int) ≤ v ∧ v ≤ (9223372036854775807 : Int) →
 (∀ (n : Int), (-9223372036854775808 : Int) ≤ n ∧ n ≤ (9223372036854775807 : Int) → s7 = txt n → v = n ∧ b = true) →
 brS (!b) (NOq Q h)
 (brS (decide (v < (-4611686018427387904 : Int)))
 (brS (OPs s != (14 : Int))
 (NOq Q h)
 (brS (decide (v > (4611686018427387904 : Int)))
 (brS (OPs s != (14 : Int))
 (NOq Q h)
 (needS (Nat.beq (List.length (Prod.snd x)) (List.length (Prod.snd x)) && Nat.ble ((List.length (Prod.snd x) + (1 : Nat)) * (8 : Nat)) (140737488355328 : Nat))
 (Ss s ∧
 Sl ∧
 So s ∧
 Vp s = some (TV.v IV.nilslice) ∧
 some
 (TV.v
 (IV.vslice (some (0 : Nat)) (List.length (Prod.snd x) + (1 : Nat)) (List.length (Prod.snd x) + (1 : Nat)) (1 : Nat)
 (List.map (IV.int IntKind.i64) (Prod.snd x) ++ [IV.int IntKind.i64 v]))) =
 some (TV.v IV.nilslice) ∧
 some (TV.v (IV.int IntKind.i64 (IntKind.wrap IntKind.i64 ((↑(Prod.fst x) : Int) + (1 : Int))))) = some (TV.v (IV.int IntKind.i64 (0 : Int))) ∧
 Sz ∧
 Heap.mk (PT.node PT.nil (some (IObj.tip (List.length (Prod.snd x) + (1 : Nat)))) PT.nil) (1 : Nat) = Heap.mk PT.nil (0 : Nat) ∧
 pcsS s = [] ∧ (0 : Nat) < List.length (pcsS s) - Prod.fst x ∨
 (∃ (x_1 : Unit),
 Ss s ∧
 Sl ∧
 So s ∧
 Vp s =
 Vp s ∧
 some
 (TV.v
 (IV.vslice (some (0 : Nat)) (List.length (Prod.snd x) + (1 : Nat)) (List.length (Prod.snd x) + (1 : Nat)) (1 : Nat)
 (List.map (IV.int IntKind.i64) (Prod.snd x) ++ [IV.int IntKind.i64 v]))) =
 some (TV.v IV.nilslice) ∧
 some (TV.v (IV.int IntKind.i64 (IntKind.wrap IntKind.i64 ((↑(Prod.fst x) : Int) + (1 : Int))))) = some (TV.v (IV.int IntKind.i64 (0 : Int))) ∧
 Sz ∧
 Heap.mk (PT.node PT.nil (some (IObj.tip (List.length (Prod.snd x) + (1 : Nat)))) PT.nil) (1 : Nat) = Heap.mk PT.nil (0 : Nat) ∧
 True ∧ List.length (pcsS s) + (1 : Nat) < List.length (pcsS s) - Prod.fst x) ∨
 ∃ (x_1 : Nat × List Int),
 Ss s ∧
 Sl ∧
 So s ∧
 Vp s =
 Vp s ∧
 some
 (TV.v
 (IV.vslice (some (0 : Nat)) (List.length (Prod.snd x) + (1 : Nat)) (List.length (Prod.snd x) + (1 : Nat)) (1 : Nat)
 (List.map (IV.int IntKind.i64) (Prod.snd x) ++ [IV.int IntKind.i64 v]))) =
 some (TV.v (IV.vslice (some (0 : Nat)) (List.length (Prod.snd x_1)) (List.length (Prod.snd x_1)) (1 : Nat) (List.map (IV.int IntKind.i64) (Prod.snd x_1)))) ∧
 some (TV.v (IV.int IntKind.i64 (IntKind.wrap IntKind.i64 ((↑(Prod.fst x) : Int) + (1 : Int))))) = some (TV.v (IV.int IntKind.i64 (↑(Prod.fst x_1) : Int))) ∧
 Sz ∧
 Heap.mk (PT.node PT.nil (some (IObj.tip (List.length (Prod.snd x) + (1 : Nat)))) PT.nil) (1 : Nat) =
 Heap.mk (PT.node PT.nil (some (IObj.tip (List.length (Prod.snd x_1)))) PT.nil) (1 : Nat) ∧
 ((Prod.fst x_1 ≤ List.length (pcsS s) ∧ List.length (Prod.snd x_1) = Prod.fst x_1) ∧ VL s (OPs s) (Prod.fst x_1) (Prod.snd x_1)) ∧
 List.length (pcsS s) - Prod.fst x_1 < List.length (pcsS s) - Prod.fst x)))
 (needS (Nat.beq (List.length (Prod.snd x)) (List.length (Prod.snd x)) && Nat.ble ((List.length (Prod.snd x) + (1 : Nat)) * (8 : Nat)) (140737488355328 : Nat))
 (Ss s ∧
 Sl ∧
 So s ∧
 Vp s = some (TV.v IV.nilslice) ∧
 some
 (TV.v
 (IV.vslice (some (0 : Nat)) (List.length (Prod.snd x) + (1 : Nat)) (List.length (Prod.snd x) + (1 : Nat)) (1 : Nat)
 (List.map (IV.int IntKind.i64) (Prod.snd x) ++ [IV.int IntKind.i64 v]))) =
 some (TV.v IV.nilslice) ∧
 some (TV.v (IV.int IntKind.i64 (IntKind.wrap IntKind.i64 ((↑(Prod.fst x) : Int) + (1 : Int))))) = some (TV.v (IV.int IntKind.i64 (0 : Int))) ∧
 Sz ∧
 Heap.mk (PT.node PT.nil (some (IObj.tip (List.length (Prod.snd x) + (1 : Nat)))) PT.nil) (1 : Nat) = Heap.mk PT.nil (0 : Nat) ∧
 pcsS s = [] ∧ (0 : Nat) < List.length (pcsS s) - Prod.fst x ∨
 (∃ (x_1 : Unit),
 Ss s ∧
 Sl ∧
 So s ∧
 Vp s =
 Vp s ∧
 some
 (TV.v
 (IV.vslice (some (0 : Nat)) (List.length (Prod.snd x) + (1 : Nat)) (List.length (Prod.snd x) + (1 : Nat)) (1 : Nat)
 (List.map (IV.int IntKind.i64) (Prod.snd x) ++ [IV.int IntKind.i64 v]))) =
 some (TV.v IV.nilslice) ∧
 some (TV.v (IV.int IntKind.i64 (IntKind.wrap IntKind.i64 ((↑(Prod.fst x) : Int) + (1 : Int))))) = some (TV.v (IV.int IntKind.i64 (0 : Int))) ∧
 Sz ∧
 Heap.mk (PT.node PT.nil (some (IObj.tip (List.length (Prod.snd x) + (1 : Nat)))) PT.nil) (1 : Nat) = Heap.mk PT.nil (0 : Nat) ∧
 True ∧ List.length (pcsS s) + (1 : Nat) < List.length (pcsS s) - Prod.fst x) ∨
 ∃ (x_1 : Nat × List Int),
 Ss s ∧
 Sl ∧
 So s ∧
 Vp s =
 Vp s ∧
 some
 (TV.v
 (IV.vslice (some (0 : Nat)) (List.length (Prod.snd x) + (1 : Nat)) (List.length (Prod.snd x) + (1 : Nat)) (1 : Nat)
 (List.map (IV.int IntKind.i64) (Prod.snd x) ++ [IV.int IntKind.i64 v]))) =
 some (TV.v (IV.vslice (some (0 : Nat)) (List.length (Prod.snd x_1)) (List.length (Prod.snd x_1)) (1 : Nat) (List.map (IV.int IntKind.i64) (Prod.snd x_1)))) ∧
 some (TV.v (IV.int IntKind.i64 (IntKind.wrap IntKind.i64 ((↑(Prod.fst x) : Int) + (1 : Int))))) = some (TV.v (IV.int IntKind.i64 (↑(Prod.fst x_1) : Int))) ∧
 Sz ∧
 Heap.mk (PT.node PT.nil (some (IObj.tip (List.length (Prod.snd x) + (1 : Nat)))) PT.nil) (1 : Nat) =
 Heap.mk (PT.node PT.nil (some (IObj.tip (List.length (Prod.snd x_1)))) PT.nil) (1 : Nat) ∧
 ((Prod.fst x_1 ≤ List.length (pcsS s) ∧ List.length (Prod.snd x_1) = Prod.fst x_1) ∧ VL s (OPs s) (Prod.fst x_1) (Prod.snd x_1)) ∧
 List.length (pcsS s) - Prod.fst x_1 < List.length (pcsS s) - Prod.fst x))))
 (brS (decide (v > (4611686018427387904 : Int)))
 (brS (OPs s != (14 : Int))
 (NOq Q h)
 (needS (Nat.beq (List.length (Prod.snd x)) (List.length (Prod.snd x)) && Nat.ble ((List.length (Prod.snd x) + (1 : Nat)) * (8 : Nat)) (140737488355328 : Nat))
 (Ss s ∧
 Sl ∧
 So s ∧
 Vp s = some (TV.v IV.nilslice) ∧
 some
 (TV.v
 (IV.vslice (some (0 : Nat)) (List.length (Prod.snd x) + (1 : Nat)) (List.length (Prod.snd x) + (1 : Nat)) (1 : Nat)
 (List.map (IV.int IntKind.i64) (Prod.snd x) ++ [IV.int IntKind.i64 v]))) =
 some (TV.v IV.nilslice) ∧
 some (TV.v (IV.int IntKind.i64 (IntKind.wrap IntKind.i64 ((↑(Prod.fst x) : Int) + (1 : Int))))) = some (TV.v (IV.int IntKind.i64 (0 : Int))) ∧
 Sz ∧
 Heap.mk (PT.node PT.nil (some (IObj.tip (List.length (Prod.snd x) + (1 : Nat)))) PT.nil) (1 : Nat) = Heap.mk PT.nil (0 : Nat) ∧
 pcsS s = [] ∧ (0 : Nat) < List.length (pcsS s) - Prod.fst x ∨
 (∃ (x_1 : Unit),
 Ss s ∧
 Sl ∧
 So s ∧
 Vp s =
 Vp s ∧
 some
 (TV.v
 (IV.vslice (some (0 : Nat)) (List.length (Prod.snd x) + (1 : Nat)) (List.length (Prod.snd x) + (1 : Nat)) (1 : Nat)
 (List.map (IV.int IntKind.i64) (Prod.snd x) ++ [IV.int IntKind.i64 v]))) =
 some (TV.v IV.nilslice) ∧
 some (TV.v (IV.int IntKind.i64 (IntKind.wrap IntKind.i64 ((↑(Prod.fst x) : Int) + (1 : Int))))) = some (TV.v (IV.int IntKind.i64 (0 : Int))) ∧
 Sz ∧
 Heap.mk (PT.node PT.nil (some (IObj.tip (List.length (Prod.snd x) + (1 : Nat)))) PT.nil) (1 : Nat) = Heap.mk PT.nil (0 : Nat) ∧
 True ∧ List.length (pcsS s) + (1 : Nat) < List.length (pcsS s) - Prod.fst x) ∨
 ∃ (x_1 : Nat × List Int),
 Ss s ∧
 Sl ∧
 So s ∧
 Vp s =
 Vp s ∧
 some
 (TV.v
 (IV.vslice (some (0 : Nat)) (List.length (Prod.snd x) + (1 : Nat)) (List.length (Prod.snd x) + (1 : Nat)) (1 : Nat)
 (List.map (IV.int IntKind.i64) (Prod.snd x) ++ [IV.int IntKind.i64 v]))) =
 some (TV.v (IV.vslice (some (0 : Nat)) (List.length (Prod.snd x_1)) (List.length (Prod.snd x_1)) (1 : Nat) (List.map (IV.int IntKind.i64) (Prod.snd x_1)))) ∧
 some (TV.v (IV.int IntKind.i64 (IntKind.wrap IntKind.i64 ((↑(Prod.fst x) : Int) + (1 : Int))))) = some (TV.v (IV.int IntKind.i64 (↑(Prod.fst x_1) : Int))) ∧
 Sz ∧
 Heap.mk (PT.node PT.nil (some (IObj.tip (List.length (Prod.snd x) + (1 : Nat)))) PT.nil) (1 : Nat) =
 Heap.mk (PT.node PT.nil (some (IObj.tip (List.length (Prod.snd x_1)))) PT.nil) (1 : Nat) ∧
 ((Prod.fst x_1 ≤ List.length (pcsS s) ∧ List.length (Prod.snd x_1) = Prod.fst x_1) ∧ VL s (OPs s) (Prod.fst x_1) (Prod.snd x_1)) ∧
 List.length (pcsS s) - Prod.fst x_1 < List.length (pcsS s) - Prod.fst x)))
 (needS (Nat.beq (List.length (Prod.snd x)) (List.length (Prod.snd x)) && Nat.ble ((List.length (Prod.snd x) + (1 : Nat)) * (8 : Nat)) (140737488355328 : Nat))
 (Ss s ∧
 Sl ∧
 So s ∧
 Vp s = some (TV.v IV.nilslice) ∧
 some
 (TV.v
 (IV.vslice (some (0 : Nat)) (List.length (Prod.snd x) + (1 : Nat)) (List.length (Prod.snd x) + (1 : Nat)) (1 : Nat)
 (List.map (IV.int IntKind.i64) (Prod.snd x) ++ [IV.int IntKind.i64 v]))) =
 some (TV.v IV.nilslice) ∧
 some (TV.v (IV.int IntKind.i64 (IntKind.wrap IntKind.i64 ((↑(Prod.fst x) : Int) + (1 : Int))))) = some (TV.v (IV.int IntKind.i64 (0 : Int))) ∧
 Sz ∧
 Heap.mk (PT.node PT.nil (some (IObj.tip (List.length (Prod.snd x) + (1 : Nat)))) PT.nil) (1 : Nat) = Heap.mk PT.nil (0 : Nat) ∧
 pcsS s = [] ∧ (0 : Nat) < List.length (pcsS s) - Prod.fst x ∨
 (∃ (x_1 : Unit),
 Ss s ∧
 Sl ∧
 So s ∧
 Vp s =
 Vp s ∧
 some
 (TV.v
 (IV.vslice (some (0 : Nat)) (List.length (Prod.snd x) + (1 : Nat)) (List.length (Prod.snd x) + (1 : Nat)) (1 : Nat)
 (List.map (IV.int IntKind.i64) (Prod.snd x) ++ [IV.int IntKind.i64 v]))) =
 some (TV.v IV.nilslice) ∧
 some (TV.v (IV.int IntKind.i64 (IntKind.wrap IntKind.i64 ((↑(Prod.fst x) : Int) + (1 : Int))))) = some (TV.v (IV.int IntKind.i64 (0 : Int))) ∧
 Sz ∧
 Heap.mk (PT.node PT.nil (some (IObj.tip (List.length (Prod.snd x) + (1 : Nat)))) PT.nil) (1 : Nat) = Heap.mk PT.nil (0 : Nat) ∧
 True ∧ List.length (pcsS s) + (1 : Nat) < List.length (pcsS s) - Prod.fst x) ∨
 ∃ (x_1 : Nat × List Int),
 Ss s ∧
 Sl ∧
 So s ∧
 Vp s =
 Vp s ∧
 some
 (TV.v
 (IV.vslice (some (0 : Nat)) (List.length (Prod.snd x) + (1 : Nat)) (List.length (Prod.snd x) + (1 : Nat)) (1 : Nat)
 (List.map (IV.int IntKind.i64) (Prod.snd x) ++ [IV.int IntKind.i64 v]))) =
 some (TV.v (IV.vslice (some (0 : Nat)) (List.length (Prod.snd x_1)) (List.length (Prod.snd x_1)) (1 : Nat) (List.map (IV.int IntKind.i64) (Prod.snd x_1)))) ∧
 some (TV.v (IV.int IntKind.i64 (IntKind.wrap IntKind.i64 ((↑(Prod.fst x) : Int) + (1 : Int))))) = some (TV.v (IV.int IntKind.i64 (↑(Prod.fst x_1) : Int))) ∧
 Sz ∧
 Heap.mk (PT.node PT.nil (some (IObj.tip (List.length (Prod.snd x) + (1 : Nat)))) PT.nil) (1 : Nat) =
 Heap.mk (PT.node PT.nil (some (IObj.tip (List.length (Prod.snd x_1)))) PT.nil) (1 : Nat) ∧
 ((Prod.fst x_1 ≤ List.length (pcsS s) ∧ List.length (Prod.snd x_1) = Prod.fst x_1) ∧ VL s (OPs s) (Prod.fst x_1) (Prod.snd x_1)) ∧
 List.length (pcsS s) - Prod.fst x_1 < List.length (pcsS s) - Prod.fst x)))))))
 ((∃ (x_1 : Unit),
 Ss s ∧
 Sl ∧
 So s ∧
 some (TV.v (IV.vslice (some (0 : Nat)) (List.length (Prod.snd x)) (List.length (Prod.snd x)) (1 : Nat) (List.map (IV.int IntKind.i64) (Prod.snd x)))) = some (TV.v IV.nilslice) ∧
 Sz ∧
 Heap.mk (PT.node PT.nil (some (IObj.tip (List.length (Prod.snd x)))) PT.nil) (1 : Nat) = Heap.mk PT.nil (0 : Nat) ∧
 (∀ (i : In), vIn i = true → fmtS i = s → OPs s = In.op i ∧ ∃ (m : Nat), [] = valsOf i ++ List.replicate m (0 : Int)) ∧ True) ∨
 ∃ (x_1 : List Int),
 Ss s ∧
 Sl ∧
 So s ∧
 some (TV.v (IV.vslice (some (0 : Nat)) (List.length (Prod.snd x)) (List.length (Prod.snd x)) (1 : Nat) (List.map (IV.int IntKind.i64) (Prod.snd x)))) =
 some (TV.v (IV.vslice (some (0 : Nat)) (List.length x_1) (List.length x_1) (1 : Nat) (List.map (IV.int IntKind.i64) x_1))) ∧
 Sz ∧
 Heap.mk (PT.node PT.nil (some (IObj.tip (List.length (Prod.snd x)))) PT.nil) (1 : Nat) = Heap.mk (PT.node PT.nil (some (IObj.tip (List.length x_1))) PT.nil) (1 : Nat) ∧
 (VP s (OPs s) x_1 ∧ List.length x_1 ≤ List.length s + (10 : Nat)) ∧ True)) ∧
 ((∀ (x : Unit) (b : FF),
 VP s (OPs s) [] →
 ((∃ (x : Unit),
 Ss s ∧
 Sl ∧
 So s ∧
 some (TV.v IV.nilslice) = some (TV.v IV.nilslice) ∧
 Sz ∧
 Heap.empty = Heap.empty ∧
 (∀ (i : In), vIn i = true → fmtS i = s → OPs s = In.op i ∧ ∃ (m : Nat), [] = valsOf i ++ List.replicate m (0 : Int)) ∧ True) ∨
 ∃ (x : List Int),
 Ss s ∧
 Sl ∧
 So s ∧
 some (TV.v IV.nilslice) = some (TV.v (IV.vslice (some (0 : Nat)) (List.length x) (List.length x) (1 : Nat) (List.map (IV.int IntKind.i64) x))) ∧
 Sz ∧
 Heap.mk PT.nil (0 : Nat) = Heap.mk (PT.node PT.nil (some (IObj.tip (List.length x))) PT.nil) (1 : Nat) ∧ (VP s (OPs s) x ∧ List.length x ≤ List.length s + (10 : Nat)) ∧ True) ∧
 (∀ (x : Unit) (b : FF),
 VP s (OPs s) [] →
 (∃ (x : Unit),
 Ss s ∧
 Sl ∧
 So s ∧
 some (TV.v (IV.vslice (some (0 : Nat)) (1 : Nat) (1 : Nat) (1 : Nat) [IV.int IntKind.i64 (0 : Int)])) = some (TV.v IV.nilslice) ∧
 Sz ∧
 Heap.mk (PT.node PT.nil (some (IObj.tip (1 : Nat))) PT.nil) ((0 : Nat) + (1 : Nat)) = Heap.mk PT.nil (0 : Nat) ∧
 (∀ (i : In), vIn i = true → fmtS i = s → OPs s = In.op i ∧ ∃ (m : Nat), [] = valsOf i ++ List.replicate m (0 : Int)) ∧ (5 : Nat) < (5 : Nat)) ∨
 ∃ (x : List Int),
 Ss s ∧
 Sl ∧
 So s ∧
 some (TV.v (IV.vslice (some (0 : Nat)) (1 : Nat) (1 : Nat) (1 : Nat) [IV.int IntKind.i64 (0 : Int)])) =
 some (TV.v (IV.vslice (some (0 : Nat)) (List.length x) (List.length x) (1 : Nat) (List.map (IV.int IntKind.i64) x))) ∧
 Sz ∧
 Heap.mk (PT.node PT.nil (some (IObj.tip (1 : Nat))) PT.nil) ((0 : Nat) + (1 : Nat)) = Heap.mk (PT.node PT.nil (some (IObj.tip (List.length x))) PT.nil) (1 : Nat) ∧
 (VP s (OPs s) x ∧ List.length x ≤ List.length s + (10 : Nat)) ∧ (4 : Nat) - List.length x < (5 : Nat)) ∧
 ∀ (x : List Int) (b : FF),
 VP s (OPs s) x ∧ List.length x ≤ List.length s + (10 : Nat) →
 brS (decide ((↑(List.length x) : Int) < (4 : Int)))
 (needS (Nat.beq (List.length x) (List.length x) && Nat.ble ((List.length x + (1 : Nat)) * (8 : Nat)) (140737488355328 : Nat))
 ((∃ (x_1 : Unit),
 Ss s ∧
 Sl ∧
 So s ∧
 some (TV.v (IV.vslice (some (0 : Nat)) (List.length x + (1 : Nat)) (List.length x + (1 : Nat)) (1 : Nat) (List.map (IV.int IntKind.i64) x ++ [IV.int IntKind.i64 (0 : Int)]))) = some (TV.v IV.nilslice) ∧
 Sz ∧
 Heap.mk (PT.node PT.nil (some (IObj.tip (List.length x + (1 : Nat)))) PT.nil) (1 : Nat) = Heap.mk PT.nil (0 : Nat) ∧
 (∀ (i : In), vIn i = true → fmtS i = s → OPs s = In.op i ∧ ∃ (m : Nat), [] = valsOf i ++ List.replicate m (0 : Int)) ∧ (5 : Nat) < (4 : Nat) - List.length x) ∨
 ∃ (x_1 : List Int),
 Ss s ∧
 Sl ∧
 So s ∧
 some (TV.v (IV.vslice (some (0 : Nat)) (List.length x + (1 : Nat)) (List.length x + (1 : Nat)) (1 : Nat) (List.map (IV.int IntKind.i64) x ++ [IV.int IntKind.i64 (0 : Int)]))) =
 some (TV.v (IV.vslice (some (0 : Nat)) (List.length x_1) (List.length x_1) (1 : Nat) (List.map (IV.int IntKind.i64) x_1))) ∧
 Sz ∧
 Heap.mk (PT.node PT.nil (some (IObj.tip (List.length x + (1 : Nat)))) PT.nil) (1 : Nat) = Heap.mk (PT.node PT.nil (some (IObj.tip (List.length x_1))) PT.nil) (1 : Nat) ∧
 (VP s (OPs s) x_1 ∧ List.length x_1 ≤ List.length s + (10 : Nat)) ∧ (4 : Nat) - List.length x_1 < (4 : Nat) - List.length x))
 (∃ (x_1 : Int × Int × Int × Int × List Int),
 Ss s ∧
 Sl ∧
 So s ∧
 some (TV.v (IV.vslice (some (0 : Nat)) (List.length x) (List.length x) (1 : Nat) (List.map (IV.int IntKind.i64) x))) =
 some
 (TV.v
 (IV.vslice (some (0 : Nat)) (List.length (Prod.snd (Prod.snd (Prod.snd (Prod.snd x_1)))) + (4 : Nat)) (List.length (Prod.snd (Prod.snd (Prod.snd (Prod.snd x_1)))) + (4 : Nat)) (1 : Nat)
 (IV.int IntKind.i64 (Prod.fst x_1) ::
 IV.int IntKind.i64 (Prod.fst (Prod.snd x_1)) ::
 IV.int IntKind.i64 (Prod.fst (Prod.snd (Prod.snd x_1))) ::
 IV.int IntKind.i64 (Prod.fst (Prod.snd (Prod.snd (Prod.snd x_1)))) :: List.map (IV.int IntKind.i64) (Prod.snd (Prod.snd (Prod.snd (Prod.snd x_1))))))) ∧
 Sz ∧
 Heap.mk (PT.node PT.nil (some (IObj.tip (List.length x))) PT.nil) (1 : Nat) =
 Heap.mk (PT.node PT.nil (some (IObj.tip (List.length (Prod.snd (Prod.snd (Prod.snd (Prod.snd x_1)))) + (4 : Nat)))) PT.nil) (1 : Nat) ∧
 (∀ (i : In),
 vIn i = true →
 fmtS i = s →
 OPs s = In.op i ∧
 ∃ (m : Nat),
 Prod.fst x_1 :: Prod.fst (Prod.snd x_1) :: Prod.fst (Prod.snd (Prod.snd x_1)) :: Prod.fst (Prod.snd (Prod.snd (Prod.snd x_1))) :: Prod.snd (Prod.snd (Prod.snd (Prod.snd x_1))) =
 valsOf i ++ List.replicate m (0 : Int)) ∧
 True)) ∧
 ∀ (x : List Int) (b : FF),
 VP s (OPs s) x ∧ List.length x ≤ List.length s + (10 : Nat) →
 ((∃ (x_1 : Unit),
 Ss s ∧
 Sl ∧
 So s ∧
 some (TV.v (IV.vslice (some (0 : Nat)) (List.length x) (List.length x) (1 : Nat) (List.map (IV.int IntKind.i64) x))) = some (TV.v IV.nilslice) ∧
 Sz ∧
 Heap.mk (PT.node PT.nil (some (IObj.tip (List.length x))) PT.nil) (1 : Nat) = Heap.mk PT.nil (0 : Nat) ∧
 (∀ (i : In), vIn i = true → fmtS i = s → OPs s = In.op i ∧ ∃ (m : Nat), [] = valsOf i ++ List.replicate m (0 : Int)) ∧ True) ∨
 ∃ (x_1 : List Int),
 Ss s ∧
 Sl ∧
 So s ∧
 some (TV.v (IV.vslice (some (0 : Nat)) (List.length x) (List.length x) (1 : Nat) (List.map (IV.int IntKind.i64) x))) =
 some (TV.v (IV.vslice (some (0 : Nat)) (List.length x_1) (List.length x_1) (1 : Nat) (List.map (IV.int IntKind.i64) x_1))) ∧
 Sz ∧
 Heap.mk (PT.node PT.nil (some (IObj.tip (List.length x))) PT.nil) (1 : Nat) = Heap.mk (PT.node PT.nil (some (IObj.tip (List.length x_1))) PT.nil) (1 : Nat) ∧
 (VP s (OPs s) x_1 ∧ List.length x_1 ≤ List.length s + (10 : Nat)) ∧ True) ∧
 (∀ (x : Unit) (b : FF),
 VP s (OPs s) [] →
 (∃ (x : Unit),
 Ss s ∧
 Sl ∧
 So s ∧
 some (TV.v (IV.vslice (some (0 : Nat)) (1 : Nat) (1 : Nat) (1 : Nat) [IV.int IntKind.i64 (0 : Int)])) = some (TV.v IV.nilslice) ∧
 Sz ∧
 Heap.mk (PT.node PT.nil (some (IObj.tip (1 : Nat))) PT.nil) ((0 : Nat) + (1 : Nat)) = Heap.mk PT.nil (0 : Nat) ∧
 (∀ (i : In), vIn i = true → fmtS i = s → OPs s = In.op i ∧ ∃ (m : Nat), [] = valsOf i ++ List.replicate m (0 : Int)) ∧ (5 : Nat) < (5 : Nat)) ∨
 ∃ (x : List Int),
 Ss s ∧
 Sl ∧
 So s ∧
 some (TV.v (IV.vslice (some (0 : Nat)) (1 : Nat) (1 : Nat) (1 : Nat) [IV.int IntKind.i64 (0 : Int)])) =
 some (TV.v (IV.vslice (some (0 : Nat)) (List.length x) (List.length x) (1 : Nat) (List.map (IV.int IntKind.i64) x))) ∧
 Sz ∧
 Heap.mk (PT.node PT.nil (some (IObj.tip (1 : Nat))) PT.nil) ((0 : Nat) + (1 : Nat)) = Heap.mk (PT.node PT.nil (some (IObj.tip (List.length x))) PT.nil) (1 : Nat) ∧
 (VP s (OPs s) x ∧ List.length x ≤ List.length s + (10 : Nat)) ∧ (4 : Nat) - List.length x < (5 : Nat)) ∧
 ∀ (x : List Int) (b : FF),
 VP s (OPs s) x ∧ List.length x ≤ List.length s + (10 : Nat) →
 brS (decide ((↑(List.length x) : Int) < (4 : Int)))
 (needS (Nat.beq (List.length x) (List.length x) && Nat.ble ((List.length x + (1 : Nat)) * (8 : Nat)) (140737488355328 : Nat))
 ((∃ (x_1 : Unit),
 Ss s ∧
 Sl ∧
 So s ∧
 some (TV.v (IV.vslice (some (0 : Nat)) (List.length x + (1 : Nat)) (List.length x + (1 : Nat)) (1 : Nat) (List.map (IV.int IntKind.i64) x ++ [IV.int IntKind.i64 (0 : Int)]))) = some (TV.v IV.nilslice) ∧
 Sz ∧
 Heap.mk (PT.node PT.nil (some (IObj.tip (List.length x + (1 : Nat)))) PT.nil) (1 : Nat) = Heap.mk PT.nil (0 : Nat) ∧
 (∀ (i : In), vIn i = true → fmtS i = s → OPs s = In.op i ∧ ∃ (m : Nat), [] = valsOf i ++ List.replicate m (0 : Int)) ∧ (5 : Nat) < (4 : Nat) - List.length x) ∨
 ∃ (x_1 : List Int),
 Ss s ∧
 Sl ∧
 So s ∧
 some (TV.v (IV.vslice (some (0 : Nat)) (List.length x + (1 : Nat)) (List.length x + (1 : Nat)) (1 : Nat) (List.map (IV.int IntKind.i64) x ++ [IV.int IntKind.i64 (0 : Int)]))) =
 some (TV.v (IV.vslice (some (0 : Nat)) (List.length x_1) (List.length x_1) (1 : Nat) (List.map (IV.int IntKind.i64) x_1))) ∧
 Sz ∧
 Heap.mk (PT.node PT.nil (some (IObj.tip (List.length x + (1 : Nat)))) PT.nil) (1 : Nat) = Heap.mk (PT.node PT.nil (some (IObj.tip (List.length x_1))) PT.nil) (1 : Nat) ∧
 (VP s (OPs s) x_1 ∧ List.length x_1 ≤ List.length s + (10 : Nat)) ∧ (4 : Nat) - List.length x_1 < (4 : Nat) - List.length x))
 (∃ (x_1 : Int × Int × Int × Int × List Int),
 Ss s ∧
 Sl ∧
 So s ∧
 some (TV.v (IV.vslice (some (0 : Nat)) (List.length x) (List.length x) (1 : Nat) (List.map (IV.int IntKind.i64) x))) =
 some
 (TV.v
 (IV.vslice (some (0 : Nat)) (List.length (Prod.snd (Prod.snd (Prod.snd (Prod.snd x_1)))) + (4 : Nat)) (List.length (Prod.snd (Prod.snd (Prod.snd (Prod.snd x_1)))) + (4 : Nat)) (1 : Nat)
 (IV.int IntKind.i64 (Prod.fst x_1) ::
 IV.int IntKind.i64 (Prod.fst (Prod.snd x_1)) ::
 IV.int IntKind.i64 (Prod.fst (Prod.snd (Prod.snd x_1))) ::
 IV.int IntKind.i64 (Prod.fst (Prod.snd (Prod.snd (Prod.snd x_1)))) :: List.map (IV.int IntKind.i64) (Prod.snd (Prod.snd (Prod.snd (Prod.snd x_1))))))) ∧
 Sz ∧
 Heap.mk (PT.node PT.nil (some (IObj.tip (List.length x))) PT.nil) (1 : Nat) =
 Heap.mk (PT.node PT.nil (some (IObj.tip (List.length (Prod.snd (Prod.snd (Prod.snd (Prod.snd x_1)))) + (4 : Nat)))) PT.nil) (1 : Nat) ∧
 (∀ (i : In),
 vIn i = true →
 fmtS i = s →
 OPs s = In.op i ∧
 ∃ (m : Nat),
 Prod.fst x_1 :: Prod.fst (Prod.snd x_1) :: Prod.fst (Prod.snd (Prod.snd x_1)) :: Prod.fst (Prod.snd (Prod.snd (Prod.snd x_1))) :: Prod.snd (Prod.snd (Prod.snd (Prod.snd x_1))) =
 valsOf i ++ List.replicate m (0 : Int)) ∧
 True)) ∧
 (∀ (x : Int × Int × Int × Int × List Int) (b : FF),
 VP s (OPs s) (Prod.fst x :: Prod.fst (Prod.snd x) :: Prod.fst (Prod.snd (Prod.snd x)) :: Prod.fst (Prod.snd (Prod.snd (Prod.snd x))) :: Prod.snd (Prod.snd (Prod.snd (Prod.snd x)))) →
 brS (fmI (OPs s) == (2 : Int))
 (needS (true && decide ((0 : Int) < (↑(List.length (Prod.snd (Prod.snd (Prod.snd (Prod.snd x)))) + (4 : Nat)) : Int)))
 (∃ (x_1 : Int × Int × Int × Int × Heap),
 Ss s ∧
 Sl ∧
 some (TV.l (13 : Nat) (0 : Nat)) = some (TV.l (13 : Nat) (0 : Nat)) ∧
 some [IV.int IntKind.i64 (OPs s), IV.int IntKind.i64 (Prod.fst x), IV.int IntKind.i64 (0 : Int), IV.int IntKind.i64 (0 : Int), IV.int IntKind.i64 (0 : Int)] =
 some
 [IV.int IntKind.i64 (OPs s), IV.int IntKind.i64 (Prod.fst x_1), IV.int IntKind.i64 (Prod.fst (Prod.snd x_1)), IV.int IntKind.i64 (Prod.fst (Prod.snd (Prod.snd x_1))),
 IV.int IntKind.i64 (Prod.fst (Prod.snd (Prod.snd (Prod.snd x_1))))] ∧
 Sz ∧
 Heap.mk (PT.node PT.nil (some (IObj.tip (List.length (Prod.snd (Prod.snd (Prod.snd (Prod.snd x)))) + (4 : Nat)))) PT.nil) (1 : Nat) = Prod.snd (Prod.snd (Prod.snd (Prod.snd x_1))) ∧
 (∀ (i : In),
 vIn i = true →
 fmtS i = s → i = In.mk (OPs s) (Prod.fst x_1) (Prod.fst (Prod.snd x_1)) (Prod.fst (Prod.snd (Prod.snd x_1))) (Prod.fst (Prod.snd (Prod.snd (Prod.snd x_1))))) ∧
 True))
 (brS (fmI (OPs s) == (3 : Int))
 (needS (true && decide ((0 : Int) < (↑(List.length (Prod.snd (Prod.snd (Prod.snd (Prod.snd x)))) + (4 : Nat)) : Int)))
 (needS (true && decide ((1 : Int) < (↑(List.length (Prod.snd (Prod.snd (Prod.snd (Prod.snd x)))) + (4 : Nat)) : Int)))
 (∃ (x_1 : Int × Int × Int × Int × Heap),
 Ss s ∧
 Sl ∧
 some (TV.l (13 : Nat) (0 : Nat)) = some (TV.l (13 : Nat) (0 : Nat)) ∧
 some [IV.int IntKind.i64 (OPs s), IV.int IntKind.i64 (Prod.fst x), IV.int IntKind.i64 (Prod.fst (Prod.snd x)), IV.int IntKind.i64 (0 : Int), IV.int IntKind.i64 (0 : Int)] =
 some
 [IV.int IntKind.i64 (OPs s), IV.int IntKind.i64 (Prod.fst x_1), IV.int IntKind.i64 (Prod.fst (Prod.snd x_1)), IV.int IntKind.i64 (Prod.fst (Prod.snd (Prod.snd x_1))),
 IV.int IntKind.i64 (Prod.fst (Prod.snd (Prod.snd (Prod.snd x_1))))] ∧
 Sz ∧
 Heap.mk (PT.node PT.nil (some (IObj.tip (List.length (Prod.snd (Prod.snd (Prod.snd (Prod.snd x)))) + (4 : Nat)))) PT.nil) (1 : Nat) = Prod.snd (Prod.snd (Prod.snd (Prod.snd x_1))) ∧
 (∀ (i : In),
 vIn i = true →
 fmtS i = s → i = In.mk (OPs s) (Prod.fst x_1) (Prod.fst (Prod.snd x_1)) (Prod.fst (Prod.snd (Prod.snd x_1))) (Prod.fst (Prod.snd (Prod.snd (Prod.snd x_1))))) ∧
 True)))
 (brS (fmI (OPs s) == (4 : Int))
 (needS (true && decide ((0 : Int) < (↑(List.length (Prod.snd (Prod.snd (Prod.snd (Prod.snd x)))) + (4 : Nat)) : Int)))
 (needS (true && decide ((1 : Int) < (↑(List.length (Prod.snd (Prod.snd (Prod.snd (Prod.snd x)))) + (4 : Nat)) : Int)))
 (needS (true && decide ((2 : Int) < (↑(List.length (Prod.snd (Prod.snd (Prod.snd (Prod.snd x)))) + (4 : Nat)) : Int)))
 (∃ (x_1 : Int × Int × Int × Int × Heap),
 Ss s ∧
 Sl ∧
 some (TV.l (13 : Nat) (0 : Nat)) = some (TV.l (13 : Nat) (0 : Nat)) ∧
 some
 [IV.int IntKind.i64 (OPs s), IV.int IntKind.i64 (Prod.fst x), IV.int IntKind.i64 (Prod.fst (Prod.snd x)), IV.int IntKind.i64 (Prod.fst (Prod.snd (Prod.snd x))),
 IV.int IntKind.i64 (0 : Int)] =
 some
 [IV.int IntKind.i64 (OPs s), IV.int IntKind.i64 (Prod.fst x_1), IV.int IntKind.i64 (Prod.fst (Prod.snd x_1)), IV.int IntKind.i64 (Prod.fst (Prod.snd (Prod.snd x_1))),
 IV.int IntKind.i64 (Prod.fst (Prod.snd (Prod.snd (Prod.snd x_1))))] ∧
 Sz ∧
 Heap.mk (PT.node PT.nil (some (IObj.tip (List.length (Prod.snd (Prod.snd (Prod.snd (Prod.snd x)))) + (4 : Nat)))) PT.nil) (1 : Nat) = Prod.snd (Prod.snd (Prod.snd (Prod.snd x_1))) ∧
 (∀ (i : In),
 vIn i = true →
 fmtS i = s → i = In.mk (OPs s) (Prod.fst x_1) (Prod.fst (Prod.snd x_1)) (Prod.fst (Prod.snd (Prod.snd x_1))) (Prod.fst (Prod.snd (Prod.snd (Prod.snd x_1))))) ∧
 True))))
 (brS (fmI (OPs s) == (5 : Int))
 (needS (true && decide ((0 : Int) < (↑(List.length (Prod.snd (Prod.snd (Prod.snd (Prod.snd x)))) + (4 : Nat)) : Int)))
 (needS (true && decide ((1 : Int) < (↑(List.length (Prod.snd (Prod.snd (Prod.snd (Prod.snd x)))) + (4 : Nat)) : Int)))
 (∃ (x_1 : Int × Int × Int × Int × Heap),
 Ss s ∧
 Sl ∧
 some (TV.l (13 : Nat) (0 : Nat)) = some (TV.l (13 : Nat) (0 : Nat)) ∧
 some [IV.int IntKind.i64 (OPs s), IV.int IntKind.i64 (Prod.fst x), IV.int IntKind.i64 (0 : Int), IV.int IntKind.i64 (0 : Int), IV.int IntKind.i64 (Prod.fst (Prod.snd x))] =
 some
 [IV.int IntKind.i64 (OPs s), IV.int IntKind.i64 (Prod.fst x_1), IV.int IntKind.i64 (Prod.fst (Prod.snd x_1)), IV.int IntKind.i64 (Prod.fst (Prod.snd (Prod.snd x_1))),
 IV.int IntKind.i64 (Prod.fst (Prod.snd (Prod.snd (Prod.snd x_1))))] ∧
 Sz ∧
 Heap.mk (PT.node PT.nil (some (IObj.tip (List.length (Prod.snd (Prod.snd (Prod.snd (Prod.snd x)))) + (4 : Nat)))) PT.nil) (1 : Nat) = Prod.snd (Prod.snd (Prod.snd (Prod.snd x_1))) ∧
 (∀ (i : In),
 vIn i = true →
 fmtS i = s → i = In.mk (OPs s) (Prod.fst x_1) (Prod.fst (Prod.snd x_1)) (Prod.fst (Prod.snd (Prod.snd x_1))) (Prod.fst (Prod.snd (Prod.snd (Prod.snd x_1))))) ∧
 True)))
 (brS (fmI (OPs s) == (6 : Int))
 (needS (true && decide ((0 : Int) < (↑(List.length (Prod.snd (Prod.snd (Prod.snd (Prod.snd x)))) + (4 : Nat)) : Int)))
 (needS (true && decide ((1 : Int) < (↑(List.length (Prod.snd (Prod.snd (Prod.snd (Prod.snd x)))) + (4 : Nat)) : Int)))
 (∃ (x_1 : Int × Int × Int × Int × Heap),
 Ss s ∧
 Sl ∧
 some (TV.l (13 : Nat) (0 : Nat)) = some (TV.l (13 : Nat) (0 : Nat)) ∧
 some
 [IV.int IntKind.i64 (OPs s), IV.int IntKind.i64 (Prod.fst x), IV.int IntKind.i64 (0 : Int), IV.int IntKind.i64 (0 : Int),
 IV.int IntKind.i64 (Prod.fst (Prod.snd x))] =
 some
 [IV.int IntKind.i64 (OPs s), IV.int IntKind.i64 (Prod.fst x_1), IV.int IntKind.i64 (Prod.fst (Prod.snd x_1)),
 IV.int IntKind.i64 (Prod.fst (Prod.snd (Prod.snd x_1))), IV.int IntKind.i64 (Prod.fst (Prod.snd (Prod.snd (Prod.snd x_1))))] ∧
 Sz ∧
 Heap.mk (PT.node PT.nil (some (IObj.tip (List.length (Prod.snd (Prod.snd (Prod.snd (Prod.snd x)))) + (4 : Nat)))) PT.nil) (1 : Nat) = Prod.snd (Prod.snd (Prod.snd (Prod.snd x_1))) ∧
 (∀ (i : In),
 vIn i = true →
 fmtS i = s →
 i = In.mk (OPs s) (Prod.fst x_1) (Prod.fst (Prod.snd x_1)) (Prod.fst (Prod.snd (Prod.snd x_1))) (Prod.fst (Prod.snd (Prod.snd (Prod.snd x_1))))) ∧
 True)))
 (brS (fmI (OPs s) == (7 : Int))
 (needS (true && decide ((0 : Int) < (↑(List.length (Prod.snd (Prod.snd (Prod.snd (Prod.snd x)))) + (4 : Nat)) : Int)))
 (needS (true && decide ((1 : Int) < (↑(List.length (Prod.snd (Prod.snd (Prod.snd (Prod.snd x)))) + (4 : Nat)) : Int)))
 (needS (true && decide ((2 : Int) < (↑(List.length (Prod.snd (Prod.snd (Prod.snd (Prod.snd x)))) + (4 : Nat)) : Int)))
 (∃ (x_1 : Int × Int × Int × Int × Heap),
 Ss s ∧
 Sl ∧
 some (TV.l (13 : Nat) (0 : Nat)) = some (TV.l (13 : Nat) (0 : Nat)) ∧
 some
 [IV.int IntKind.i64 (OPs s), IV.int IntKind.i64 (Prod.fst x), IV.int IntKind.i64 (Prod.fst (Prod.snd x)), IV.int IntKind.i64 (0 : Int),
 IV.int IntKind.i64 (Prod.fst (Prod.snd (Prod.snd x)))] =
 some
 [IV.int IntKind.i64 (OPs s), IV.int IntKind.i64 (Prod.fst x_1), IV.int IntKind.i64 (Prod.fst (Prod.snd x_1)),
 IV.int IntKind.i64 (Prod.fst (Prod.snd (Prod.snd x_1))), IV.int IntKind.i64 (Prod.fst (Prod.snd (Prod.snd (Prod.snd x_1))))] ∧
 Sz ∧
 Heap.mk (PT.node PT.nil (some (IObj.tip (List.length (Prod.snd (Prod.snd (Prod.snd (Prod.snd x)))) + (4 : Nat)))) PT.nil) (1 : Nat) = Prod.snd (Prod.snd (Prod.snd (Prod.snd x_1))) ∧
 (∀ (i : In),
 vIn i = true →
 fmtS i = s →
 i = In.mk (OPs s) (Prod.fst x_1) (Prod.fst (Prod.snd x_1)) (Prod.fst (Prod.snd (Prod.snd x_1))) (Prod.fst (Prod.snd (Prod.snd (Prod.snd x_1))))) ∧
 True))))
 (brS (fmI (OPs s) == (8 : Int))
 (needS (true && decide ((0 : Int) < (↑(List.length (Prod.snd (Prod.snd (Prod.snd (Prod.snd x)))) + (4 : Nat)) : Int)))
 (∃ (x_1 : Int × Int × Int × Int × Heap),
 Ss s ∧
 Sl ∧
 some (TV.l (13 : Nat) (0 : Nat)) = some (TV.l (13 : Nat) (0 : Nat)) ∧
 some [IV.int IntKind.i64 (OPs s), IV.int IntKind.i64 (0 : Int), IV.int IntKind.i64 (0 : Int), IV.int IntKind.i64 (0 : Int), IV.int IntKind.i64 (Prod.fst x)] =
 some
 [IV.int IntKind.i64 (OPs s), IV.int IntKind.i64 (Prod.fst x_1), IV.int IntKind.i64 (Prod.fst (Prod.snd x_1)),
 IV.int IntKind.i64 (Prod.fst (Prod.snd (Prod.snd x_1))), IV.int IntKind.i64 (Prod.fst (Prod.snd (Prod.snd (Prod.snd x_1))))] ∧
 Sz ∧
 Heap.mk (PT.node PT.nil (some (IObj.tip (List.length (Prod.snd (Prod.snd (Prod.snd (Prod.snd x)))) + (4 : Nat)))) PT.nil) (1 : Nat) = Prod.snd (Prod.snd (Prod.snd (Prod.snd x_1))) ∧
 (∀ (i : In),
 vIn i = true →
 fmtS i = s →
 i = In.mk (OPs s) (Prod.fst x_1) (Prod.fst (Prod.snd x_1)) (Prod.fst (Prod.snd (Prod.snd x_1))) (Prod.fst (Prod.snd (Prod.snd (Prod.snd x_1))))) ∧
 True))
 (∃ (x_1 : Int × Int × Int × Int × Heap),
 Ss s ∧
 Sl ∧
 some (TV.l (13 : Nat) (0 : Nat)) = some (TV.l (13 : Nat) (0 : Nat)) ∧
 some [IV.int IntKind.i64 (OPs s), IV.int IntKind.i64 (0 : Int), IV.int IntKind.i64 (0 : Int), IV.int IntKind.i64 (0 : Int), IV.int IntKind.i64 (0 : Int)] =
 some
 [IV.int IntKind.i64 (OPs s), IV.int IntKind.i64 (Prod.fst x_1), IV.int IntKind.i64 (Prod.fst (Prod.snd x_1)),
 IV.int IntKind.i64 (Prod.fst (Prod.snd (Prod.snd x_1))), IV.int IntKind.i64 (Prod.fst (Prod.snd (Prod.snd (Prod.snd x_1))))] ∧
 Sz ∧
 Heap.mk (PT.node PT.nil (some (IObj.tip (List.length (Prod.snd (Prod.snd (Prod.snd (Prod.snd x)))) + (4 : Nat)))) PT.nil) (1 : Nat) = Prod.snd (Prod.snd (Prod.snd (Prod.snd x_1))) ∧
 (∀ (i : In),
 vIn i = true →
 fmtS i = s →
 i = In.mk (OPs s) (Prod.fst x_1) (Prod.fst (Prod.snd x_1)) (Prod.fst (Prod.snd (Prod.snd x_1))) (Prod.fst (Prod.snd (Prod.snd (Prod.snd x_1))))) ∧
 True)))))))) ∧
 (∀ (x : Int × Int × Int × Int × Heap) (b : FF),
 PD s (OPs s) (Prod.fst x) (Prod.fst (Prod.snd x)) (Prod.fst (Prod.snd (Prod.snd x))) (Prod.fst (Prod.snd (Prod.snd (Prod.snd x)))) →
 brS (!validI (OPs s) (Prod.fst x) (Prod.fst (Prod.snd x)) (Prod.fst (Prod.snd (Prod.snd x))) (Prod.fst (Prod.snd (Prod.snd (Prod.snd x)))))
 (NOq Q h)
 (brS (!fmtS (In.mk (OPs s) (Prod.fst x) (Prod.fst (Prod.snd x)) (Prod.fst (Prod.snd (Prod.snd x))) (Prod.fst (Prod.snd (Prod.snd (Prod.snd x))))) == s)
 (NOq Q h)
 (Q
 (IV.tuple
 [IV.agg
 [IV.int IntKind.i64 (OPs s), IV.int IntKind.i64 (Prod.fst x), IV.int IntKind.i64 (Prod.fst (Prod.snd x)), IV.int IntKind.i64 (Prod.fst (Prod.snd (Prod.snd x))),
 IV.int IntKind.i64 (Prod.fst (Prod.snd (Prod.snd (Prod.snd x))))],
 IV.bool true])
 h))) ∧
 True) := by kernel_rfl
set_option maxHeartbeats 4000000 in
theorem sRParse : ∀ xs h Q, kRParse xs h Q → CallW env 22 xs h Q := by
  intro xs h Q hk
  unfold kRParse at hk
  split at hk
  · rename_i s
    refine dF_sound (okRFormat) (mp_eq (vRParse s h Q) ?_)
    obtain ⟨hl, hk⟩ := hk
    have hend : ∀ x : Nat, (x : Int).toNat = x := Int.toNat_natCast
    have hnl := name_le s
    have hpl := pcs_len s
    have no : (∀ i, vIn i = true → fmtS i ≠ s) → NOq Q h := fun hn => hk (zeroIn, false) (Rs_no hn)
    have yes : ∀ i : In, vIn i = true → fmtS i = s → Q (IV.tuple [IV.agg [IV.int IntKind.i64 i.op, IV.int IntKind.i64 i.a, IV.int IntKind.i64 i.b, IV.int IntKind.i64 i.c, IV.int IntKind.i64 i.n], IV.bool true]) h := fun i hi e => hk (i, true) (.inl ⟨rfl, hi, e⟩)
    clear hk
    refine ⟨⟨⟨0, (by first | rfl | trivial), (by first | rfl | trivial), (by first | rfl | trivial), (by first | rfl | trivial), (by first | rfl | trivial), ⟨Nat.zero_le _, by simp⟩, trivial⟩, fun i _ hi => ?_⟩, fun _ _ _ => ?_,
      ⟨fun _ _ hB => ⟨.inl ⟨(by first | rfl | trivial), (by first | rfl | trivial), (by first | rfl | trivial), (by first | rfl | trivial), (by first | rfl | trivial), (by first | rfl | trivial), (by first | rfl | trivial), (by first | rfl | trivial), hB.2, trivial⟩, fun _ _ hx => ?_, fun _ _ hx => ?_, fun x _ hx => ?_⟩, fun _ _ hB => ⟨.inr (.inl ⟨(), (by first | rfl | trivial), (by first | rfl | trivial), (by first | rfl | trivial), (by first | rfl | trivial), (by first | rfl | trivial), (by first | rfl | trivial), (by first | rfl | trivial), (by first | rfl | trivial), trivial, trivial⟩), fun _ _ hx => ?_, fun _ _ hx => ?_, fun x _ hx => ?_⟩⟩,
      ⟨fun _ _ hE => ⟨.inl ⟨(), (by first | rfl | trivial), (by first | rfl | trivial), (by first | rfl | trivial), (by first | rfl | trivial), (by first | rfl | trivial), (by first | rfl | trivial), hE, trivial⟩, fun _ _ hx => ?_, fun x _ hx => ?_⟩, fun y _ hE => ⟨.inr ⟨y, (by first | rfl | trivial), (by first | rfl | trivial), (by first | rfl | trivial), (by first | rfl | trivial), (by first | rfl | trivial), (by first | rfl | trivial), hE, trivial⟩, fun _ _ hx => ?_, fun x _ hx => ?_⟩⟩,
      fun x _ hx => ?_, fun x _ hx => ?_, trivial⟩
    · obtain ⟨h1, h2⟩ := hi
      have w1 : IntKind.i64.wrap ((i : Int) + 1) = ((i + 1 : Nat) : Int) := by rw [IntWalk.i64_in _ (by omega)]; rfl
      rw [hend]
      refine brS_intro (fun c => ?_) (fun c => ?_)
      · rw [decide_eq_true_eq] at c
        have hlt : i < s.length := by omega
        refine chr_at hlt (brS_intro (fun c1 => ?_) (fun c1 => ?_))
        · rw [bne_iff_ne] at c1
          exact ⟨i + 1, (by first | rfl | trivial), (by first | rfl | trivial), by rw [w1], (by first | rfl | trivial), (by first | rfl | trivial), ⟨hlt, take_no hlt h2 fun q => c1 (by rw [q]; rfl)⟩, by omega⟩
        · rw [bne_eq_false_iff_eq] at c1
          have e1 : s[i] = 32 := b_eq (c := 32) (by show _ = 32; omega)
          rw [name_at h1 h2 fun _ => e1]
          exact ⟨(by first | rfl | trivial), (by first | rfl | trivial), (by first | rfl | trivial), (by first | rfl | trivial), (by first | rfl | trivial), trivial, trivial⟩
      · rw [decide_eq_false_iff_not] at c
        rw [name_at h1 h2 fun q => by omega]
        exact ⟨(by first | rfl | trivial), (by first | rfl | trivial), (by first | rfl | trivial), (by first | rfl | trivial), (by first | rfl | trivial), trivial, trivial⟩
    · have w1 : IntKind.i64.wrap (((nameS s).length : Int) + 1) = (((nameS s).length + 1 : Nat) : Int) := by rw [IntWalk.i64_in _ (by omega)]; rfl
      simp only [w1, hend, Nat.sub_zero, name_take]
      have htk : List.take (s.length - ((nameS s).length + 1)) (List.drop ((nameS s).length + 1) s) = restS s := by
        rw [List.take_of_length_le (by simp)]; rfl
      rw [htk]
      refine needS_intro (by simp; omega) (brS_intro (fun c => no (lk_no (by simpa using c))) (fun c => brS_intro (fun c1 => ?_) (fun c1 => ?_)))
      · have hok : (lkp rows 1 (nameS s)).2 = true := by simpa using c
        rw [decide_eq_true_eq] at c1
        have hp : pcsS s = cpl [] (restS s) := if_neg (by omega)
        have hrl : (restS s).length ≤ s.length := by unfold restS; simp
        refine needS_intro (by simp; omega) ⟨by omega, .inr ⟨(by first | rfl | trivial), (by first | rfl | trivial), (by first | rfl | trivial), by rw [← hp], (by first | rfl | trivial), (by first | rfl | trivial), hok, trivial⟩⟩
      · have hok : (lkp rows 1 (nameS s)).2 = true := by simpa using c
        rw [decide_eq_false_iff_not] at c1
        exact .inl ⟨(by first | rfl | trivial), (by first | rfl | trivial), (by first | rfl | trivial), (by first | rfl | trivial), (by first | rfl | trivial), (by first | rfl | trivial), ⟨hok, if_pos (by omega)⟩, trivial⟩
    · have h0 : pcsS s = [] := hx
      exact .inl ⟨(), (by first | rfl | trivial), (by first | rfl | trivial), (by first | rfl | trivial), (by first | rfl | trivial), (by first | rfl | trivial), (by first | rfl | trivial), VL_end (VL_zero s) (by rw [h0]; rfl), trivial⟩
    · have hVL := VL_zero s
      refine brS_intro (fun c1 => ?_) (fun c1 => ?_)
      · rw [decide_eq_true_eq] at c1
        have hlt : 0 < (pcsS s).length := by omega
        refine needS_intro (by simp; omega) ?_
        refine ldSS_at (k := 0) hlt (by simp) ?_
        have hst := @VL_step s (OPs s)
        generalize hx : (pcsS s)[0] = x0 at *
        refine brS_intro (fun c2 => ?_) (fun c2 v b _ hv => ?_)
        · rw [decide_eq_true_eq] at c2
          refine chr_at (i := 0) (by omega) (brS_intro (fun c3 => ?_) (fun c3 v b _ hv => ?_))
          · refine needS_intro (by simp; omega) (fun v b _ hv => ?_)
            rw [beq_iff_eq] at c3
            have hs : stripR x0 = x0.drop 1 := if_pos ⟨by omega, hd_at (by omega) c3⟩
            have he : List.take (Int.toNat (x0.length : Int) - Int.toNat 1) (List.drop (Int.toNat 1) x0) = x0.drop 1 := by
              show List.take (x0.length - 1) (x0.drop 1) = x0.drop 1
              exact List.take_of_length_le (by simp)
            rw [he] at hv
            obtain ⟨h1, h2⟩ := VL_step (v := v) (b := b) hVL hlt (by rw [hx, hs]; exact hv)
            exact brS_intro (fun q => no fun i hi e => by rw [(h2 i hi e).1] at q; cases q) (fun _ => brS_intro (fun q => brS_intro (fun q2 => no fun i hi e => by have := (h2 i hi e).2 (by simpa using q2); rw [decide_eq_true_eq] at q; omega) (fun _ => brS_intro (fun q => brS_intro (fun q2 => no fun i hi e => by have := (h2 i hi e).2 (by simpa using q2); rw [decide_eq_true_eq] at q; omega) (fun _ => .inr (.inr ⟨(1, [v]), (by first | rfl | trivial), (by first | rfl | trivial), (by first | rfl | trivial), (by first | rfl | trivial), (by first | rfl | trivial), (by first | rfl | trivial), (by first | rfl | trivial), (by first | rfl | trivial), ⟨⟨(show 1 ≤ (pcsS s).length by omega), rfl⟩, h1⟩, by simp only; omega⟩))) (fun _ => .inr (.inr ⟨(1, [v]), (by first | rfl | trivial), (by first | rfl | trivial), (by first | rfl | trivial), (by first | rfl | trivial), (by first | rfl | trivial), (by first | rfl | trivial), (by first | rfl | trivial), (by first | rfl | trivial), ⟨⟨(show 1 ≤ (pcsS s).length by omega), rfl⟩, h1⟩, by simp only; omega⟩)))) (fun _ => brS_intro (fun q => brS_intro (fun q2 => no fun i hi e => by have := (h2 i hi e).2 (by simpa using q2); rw [decide_eq_true_eq] at q; omega) (fun _ => .inr (.inr ⟨(1, [v]), (by first | rfl | trivial), (by first | rfl | trivial), (by first | rfl | trivial), (by first | rfl | trivial), (by first | rfl | trivial), (by first | rfl | trivial), (by first | rfl | trivial), (by first | rfl | trivial), ⟨⟨(show 1 ≤ (pcsS s).length by omega), rfl⟩, h1⟩, by simp only; omega⟩))) (fun _ => .inr (.inr ⟨(1, [v]), (by first | rfl | trivial), (by first | rfl | trivial), (by first | rfl | trivial), (by first | rfl | trivial), (by first | rfl | trivial), (by first | rfl | trivial), (by first | rfl | trivial), (by first | rfl | trivial), ⟨⟨(show 1 ≤ (pcsS s).length by omega), rfl⟩, h1⟩, by simp only; omega⟩))))
          · rw [beq_eq_false_iff_ne] at c3
            have hs : stripR x0 = x0 := if_neg (fun z => c3 (hd_of (by omega) z.2))
            obtain ⟨h1, h2⟩ := VL_step (v := v) (b := b) hVL hlt (by rw [hx, hs]; exact hv)
            exact brS_intro (fun q => no fun i hi e => by rw [(h2 i hi e).1] at q; cases q) (fun _ => brS_intro (fun q => brS_intro (fun q2 => no fun i hi e => by have := (h2 i hi e).2 (by simpa using q2); rw [decide_eq_true_eq] at q; omega) (fun _ => brS_intro (fun q => brS_intro (fun q2 => no fun i hi e => by have := (h2 i hi e).2 (by simpa using q2); rw [decide_eq_true_eq] at q; omega) (fun _ => .inr (.inr ⟨(1, [v]), (by first | rfl | trivial), (by first | rfl | trivial), (by first | rfl | trivial), (by first | rfl | trivial), (by first | rfl | trivial), (by first | rfl | trivial), (by first | rfl | trivial), (by first | rfl | trivial), ⟨⟨(show 1 ≤ (pcsS s).length by omega), rfl⟩, h1⟩, by simp only; omega⟩))) (fun _ => .inr (.inr ⟨(1, [v]), (by first | rfl | trivial), (by first | rfl | trivial), (by first | rfl | trivial), (by first | rfl | trivial), (by first | rfl | trivial), (by first | rfl | trivial), (by first | rfl | trivial), (by first | rfl | trivial), ⟨⟨(show 1 ≤ (pcsS s).length by omega), rfl⟩, h1⟩, by simp only; omega⟩)))) (fun _ => brS_intro (fun q => brS_intro (fun q2 => no fun i hi e => by have := (h2 i hi e).2 (by simpa using q2); rw [decide_eq_true_eq] at q; omega) (fun _ => .inr (.inr ⟨(1, [v]), (by first | rfl | trivial), (by first | rfl | trivial), (by first | rfl | trivial), (by first | rfl | trivial), (by first | rfl | trivial), (by first | rfl | trivial), (by first | rfl | trivial), (by first | rfl | trivial), ⟨⟨(show 1 ≤ (pcsS s).length by omega), rfl⟩, h1⟩, by simp only; omega⟩))) (fun _ => .inr (.inr ⟨(1, [v]), (by first | rfl | trivial), (by first | rfl | trivial), (by first | rfl | trivial), (by first | rfl | trivial), (by first | rfl | trivial), (by first | rfl | trivial), (by first | rfl | trivial), (by first | rfl | trivial), ⟨⟨(show 1 ≤ (pcsS s).length by omega), rfl⟩, h1⟩, by simp only; omega⟩))))
        · rw [decide_eq_false_iff_not] at c2
          have hs : stripR x0 = x0 := if_neg (fun z => by omega)
          obtain ⟨h1, h2⟩ := VL_step (v := v) (b := b) hVL hlt (by rw [hx, hs]; exact hv)
          exact brS_intro (fun q => no fun i hi e => by rw [(h2 i hi e).1] at q; cases q) (fun _ => brS_intro (fun q => brS_intro (fun q2 => no fun i hi e => by have := (h2 i hi e).2 (by simpa using q2); rw [decide_eq_true_eq] at q; omega) (fun _ => brS_intro (fun q => brS_intro (fun q2 => no fun i hi e => by have := (h2 i hi e).2 (by simpa using q2); rw [decide_eq_true_eq] at q; omega) (fun _ => .inr (.inr ⟨(1, [v]), (by first | rfl | trivial), (by first | rfl | trivial), (by first | rfl | trivial), (by first | rfl | trivial), (by first | rfl | trivial), (by first | rfl | trivial), (by first | rfl | trivial), (by first | rfl | trivial), ⟨⟨(show 1 ≤ (pcsS s).length by omega), rfl⟩, h1⟩, by simp only; omega⟩))) (fun _ => .inr (.inr ⟨(1, [v]), (by first | rfl | trivial), (by first | rfl | trivial), (by first | rfl | trivial), (by first | rfl | trivial), (by first | rfl | trivial), (by first | rfl | trivial), (by first | rfl | trivial), (by first | rfl | trivial), ⟨⟨(show 1 ≤ (pcsS s).length by omega), rfl⟩, h1⟩, by simp only; omega⟩)))) (fun _ => brS_intro (fun q => brS_intro (fun q2 => no fun i hi e => by have := (h2 i hi e).2 (by simpa using q2); rw [decide_eq_true_eq] at q; omega) (fun _ => .inr (.inr ⟨(1, [v]), (by first | rfl | trivial), (by first | rfl | trivial), (by first | rfl | trivial), (by first | rfl | trivial), (by first | rfl | trivial), (by first | rfl | trivial), (by first | rfl | trivial), (by first | rfl | trivial), ⟨⟨(show 1 ≤ (pcsS s).length by omega), rfl⟩, h1⟩, by simp only; omega⟩))) (fun _ => .inr (.inr ⟨(1, [v]), (by first | rfl | trivial), (by first | rfl | trivial), (by first | rfl | trivial), (by first | rfl | trivial), (by first | rfl | trivial), (by first | rfl | trivial), (by first | rfl | trivial), (by first | rfl | trivial), ⟨⟨(show 1 ≤ (pcsS s).length by omega), rfl⟩, h1⟩, by simp only; omega⟩))))
      · rw [decide_eq_false_iff_not] at c1
        exact .inl ⟨(), (by first | rfl | trivial), (by first | rfl | trivial), (by first | rfl | trivial), (by first | rfl | trivial), (by first | rfl | trivial), (by first | rfl | trivial), VL_end hVL (by omega), trivial⟩
    · obtain ⟨k, vals⟩ := x
      obtain ⟨⟨hk1, hk2⟩, hVL⟩ := hx
      simp only at hk1 hk2 hVL ⊢
      have w1 : IntKind.i64.wrap ((k : Int) + 1) = ((k + 1 : Nat) : Int) := by rw [IntWalk.i64_in _ (by omega)]; rfl
      refine brS_intro (fun c1 => ?_) (fun c1 => ?_)
      · rw [decide_eq_true_eq] at c1
        have hlt : k < (pcsS s).length := by omega
        refine needS_intro (by simp; omega) ?_
        refine ldSS_at (k := k) hlt (by simp) ?_
        have hst := @VL_step s (OPs s)
        generalize hx : (pcsS s)[k] = x0 at *
        refine brS_intro (fun c2 => ?_) (fun c2 v b _ hv => ?_)
        · rw [decide_eq_true_eq] at c2
          refine chr_at (i := 0) (by omega) (brS_intro (fun c3 => ?_) (fun c3 v b _ hv => ?_))
          · refine needS_intro (by simp; omega) (fun v b _ hv => ?_)
            rw [beq_iff_eq] at c3
            have hs : stripR x0 = x0.drop 1 := if_pos ⟨by omega, hd_at (by omega) c3⟩
            have he : List.take (Int.toNat (x0.length : Int) - Int.toNat 1) (List.drop (Int.toNat 1) x0) = x0.drop 1 := by
              show List.take (x0.length - 1) (x0.drop 1) = x0.drop 1
              exact List.take_of_length_le (by simp)
            rw [he] at hv
            obtain ⟨h1, h2⟩ := VL_step (v := v) (b := b) hVL hlt (by rw [hx, hs]; exact hv)
            exact brS_intro (fun q => no fun i hi e => by rw [(h2 i hi e).1] at q; cases q) (fun _ => brS_intro (fun q => brS_intro (fun q2 => no fun i hi e => by have := (h2 i hi e).2 (by simpa using q2); rw [decide_eq_true_eq] at q; omega) (fun _ => brS_intro (fun q => brS_intro (fun q2 => no fun i hi e => by have := (h2 i hi e).2 (by simpa using q2); rw [decide_eq_true_eq] at q; omega) (fun _ => needS_intro (by rw [Bool.and_eq_true, nbeq_t, Nat.ble_eq]; omega) (.inr (.inr ⟨(k + 1, vals ++ [v]), (by first | rfl | trivial), (by first | rfl | trivial), (by first | rfl | trivial), (by first | rfl | trivial), by simp, by rw [w1], (by first | rfl | trivial), by simp, ⟨⟨(show k + 1 ≤ (pcsS s).length by omega), (by simp; omega)⟩, h1⟩, by simp only; omega⟩)))) (fun _ => needS_intro (by rw [Bool.and_eq_true, nbeq_t, Nat.ble_eq]; omega) (.inr (.inr ⟨(k + 1, vals ++ [v]), (by first | rfl | trivial), (by first | rfl | trivial), (by first | rfl | trivial), (by first | rfl | trivial), by simp, by rw [w1], (by first | rfl | trivial), by simp, ⟨⟨(show k + 1 ≤ (pcsS s).length by omega), (by simp; omega)⟩, h1⟩, by simp only; omega⟩))))) (fun _ => brS_intro (fun q => brS_intro (fun q2 => no fun i hi e => by have := (h2 i hi e).2 (by simpa using q2); rw [decide_eq_true_eq] at q; omega) (fun _ => needS_intro (by rw [Bool.and_eq_true, nbeq_t, Nat.ble_eq]; omega) (.inr (.inr ⟨(k + 1, vals ++ [v]), (by first | rfl | trivial), (by first | rfl | trivial), (by first | rfl | trivial), (by first | rfl | trivial), by simp, by rw [w1], (by first | rfl | trivial), by simp, ⟨⟨(show k + 1 ≤ (pcsS s).length by omega), (by simp; omega)⟩, h1⟩, by simp only; omega⟩)))) (fun _ => needS_intro (by rw [Bool.and_eq_true, nbeq_t, Nat.ble_eq]; omega) (.inr (.inr ⟨(k + 1, vals ++ [v]), (by first | rfl | trivial), (by first | rfl | trivial), (by first | rfl | trivial), (by first | rfl | trivial), by simp, by rw [w1], (by first | rfl | trivial), by simp, ⟨⟨(show k + 1 ≤ (pcsS s).length by omega), (by simp; omega)⟩, h1⟩, by simp only; omega⟩)))))
          · rw [beq_eq_false_iff_ne] at c3
            have hs : stripR x0 = x0 := if_neg (fun z => c3 (hd_of (by omega) z.2))
            obtain ⟨h1, h2⟩ := VL_step (v := v) (b := b) hVL hlt (by rw [hx, hs]; exact hv)
            exact brS_intro (fun q => no fun i hi e => by rw [(h2 i hi e).1] at q; cases q) (fun _ => brS_intro (fun q => brS_intro (fun q2 => no fun i hi e => by have := (h2 i hi e).2 (by simpa using q2); rw [decide_eq_true_eq] at q; omega) (fun _ => brS_intro (fun q => brS_intro (fun q2 => no fun i hi e => by have := (h2 i hi e).2 (by simpa using q2); rw [decide_eq_true_eq] at q; omega) (fun _ => needS_intro (by rw [Bool.and_eq_true, nbeq_t, Nat.ble_eq]; omega) (.inr (.inr ⟨(k + 1, vals ++ [v]), (by first | rfl | trivial), (by first | rfl | trivial), (by first | rfl | trivial), (by first | rfl | trivial), by simp, by rw [w1], (by first | rfl | trivial), by simp, ⟨⟨(show k + 1 ≤ (pcsS s).length by omega), (by simp; omega)⟩, h1⟩, by simp only; omega⟩)))) (fun _ => needS_intro (by rw [Bool.and_eq_true, nbeq_t, Nat.ble_eq]; omega) (.inr (.inr ⟨(k + 1, vals ++ [v]), (by first | rfl | trivial), (by first | rfl | trivial), (by first | rfl | trivial), (by first | rfl | trivial), by simp, by rw [w1], (by first | rfl | trivial), by simp, ⟨⟨(show k + 1 ≤ (pcsS s).length by omega), (by simp; omega)⟩, h1⟩, by simp only; omega⟩))))) (fun _ => brS_intro (fun q => brS_intro (fun q2 => no fun i hi e => by have := (h2 i hi e).2 (by simpa using q2); rw [decide_eq_true_eq] at q; omega) (fun _ => needS_intro (by rw [Bool.and_eq_true, nbeq_t, Nat.ble_eq]; omega) (.inr (.inr ⟨(k + 1, vals ++ [v]), (by first | rfl | trivial), (by first | rfl | trivial), (by first | rfl | trivial), (by first | rfl | trivial), by simp, by rw [w1], (by first | rfl | trivial), by simp, ⟨⟨(show k + 1 ≤ (pcsS s).length by omega), (by simp; omega)⟩, h1⟩, by simp only; omega⟩)))) (fun _ => needS_intro (by rw [Bool.and_eq_true, nbeq_t, Nat.ble_eq]; omega) (.inr (.inr ⟨(k + 1, vals ++ [v]), (by first | rfl | trivial), (by first | rfl | trivial), (by first | rfl | trivial), (by first | rfl | trivial), by simp, by rw [w1], (by first | rfl | trivial), by simp, ⟨⟨(show k + 1 ≤ (pcsS s).length by omega), (by simp; omega)⟩, h1⟩, by simp only; omega⟩)))))
        · rw [decide_eq_false_iff_not] at c2
          have hs : stripR x0 = x0 := if_neg (fun z => by omega)
          obtain ⟨h1, h2⟩ := VL_step (v := v) (b := b) hVL hlt (by rw [hx, hs]; exact hv)
          exact brS_intro (fun q => no fun i hi e => by rw [(h2 i hi e).1] at q; cases q) (fun _ => brS_intro (fun q => brS_intro (fun q2 => no fun i hi e => by have := (h2 i hi e).2 (by simpa using q2); rw [decide_eq_true_eq] at q; omega) (fun _ => brS_intro (fun q => brS_intro (fun q2 => no fun i hi e => by have := (h2 i hi e).2 (by simpa using q2); rw [decide_eq_true_eq] at q; omega) (fun _ => needS_intro (by rw [Bool.and_eq_true, nbeq_t, Nat.ble_eq]; omega) (.inr (.inr ⟨(k + 1, vals ++ [v]), (by first | rfl | trivial), (by first | rfl | trivial), (by first | rfl | trivial), (by first | rfl | trivial), by simp, by rw [w1], (by first | rfl | trivial), by simp, ⟨⟨(show k + 1 ≤ (pcsS s).length by omega), (by simp; omega)⟩, h1⟩, by simp only; omega⟩)))) (fun _ => needS_intro (by rw [Bool.and_eq_true, nbeq_t, Nat.ble_eq]; omega) (.inr (.inr ⟨(k + 1, vals ++ [v]), (by first | rfl | trivial), (by first | rfl | trivial), (by first | rfl | trivial), (by first | rfl | trivial), by simp, by rw [w1], (by first | rfl | trivial), by simp, ⟨⟨(show k + 1 ≤ (pcsS s).length by omega), (by simp; omega)⟩, h1⟩, by simp only; omega⟩))))) (fun _ => brS_intro (fun q => brS_intro (fun q2 => no fun i hi e => by have := (h2 i hi e).2 (by simpa using q2); rw [decide_eq_true_eq] at q; omega) (fun _ => needS_intro (by rw [Bool.and_eq_true, nbeq_t, Nat.ble_eq]; omega) (.inr (.inr ⟨(k + 1, vals ++ [v]), (by first | rfl | trivial), (by first | rfl | trivial), (by first | rfl | trivial), (by first | rfl | trivial), by simp, by rw [w1], (by first | rfl | trivial), by simp, ⟨⟨(show k + 1 ≤ (pcsS s).length by omega), (by simp; omega)⟩, h1⟩, by simp only; omega⟩)))) (fun _ => needS_intro (by rw [Bool.and_eq_true, nbeq_t, Nat.ble_eq]; omega) (.inr (.inr ⟨(k + 1, vals ++ [v]), (by first | rfl | trivial), (by first | rfl | trivial), (by first | rfl | trivial), (by first | rfl | trivial), by simp, by rw [w1], (by first | rfl | trivial), by simp, ⟨⟨(show k + 1 ≤ (pcsS s).length by omega), (by simp; omega)⟩, h1⟩, by simp only; omega⟩)))))
      · rw [decide_eq_false_iff_not] at c1
        exact .inr ⟨vals, (by first | rfl | trivial), (by first | rfl | trivial), (by first | rfl | trivial), (by first | rfl | trivial), (by first | rfl | trivial), (by first | rfl | trivial), ⟨VL_end hVL (by omega), (show vals.length ≤ s.length + 10 by omega)⟩, trivial⟩
    · have h0 : pcsS s = [] := hx
      exact .inl ⟨(), (by first | rfl | trivial), (by first | rfl | trivial), (by first | rfl | trivial), (by first | rfl | trivial), (by first | rfl | trivial), (by first | rfl | trivial), VL_end (VL_zero s) (by rw [h0]; rfl), trivial⟩
    · have hVL := VL_zero s
      refine brS_intro (fun c1 => ?_) (fun c1 => ?_)
      · rw [decide_eq_true_eq] at c1
        have hlt : 0 < (pcsS s).length := by omega
        refine needS_intro (by simp; omega) ?_
        refine ldSS_at (k := 0) hlt (by simp) ?_
        have hst := @VL_step s (OPs s)
        generalize hx : (pcsS s)[0] = x0 at *
        refine brS_intro (fun c2 => ?_) (fun c2 v b _ hv => ?_)
        · rw [decide_eq_true_eq] at c2
          refine chr_at (i := 0) (by omega) (brS_intro (fun c3 => ?_) (fun c3 v b _ hv => ?_))
          · refine needS_intro (by simp; omega) (fun v b _ hv => ?_)
            rw [beq_iff_eq] at c3
            have hs : stripR x0 = x0.drop 1 := if_pos ⟨by omega, hd_at (by omega) c3⟩
            have he : List.take (Int.toNat (x0.length : Int) - Int.toNat 1) (List.drop (Int.toNat 1) x0) = x0.drop 1 := by
              show List.take (x0.length - 1) (x0.drop 1) = x0.drop 1
              exact List.take_of_length_le (by simp)
            rw [he] at hv
            obtain ⟨h1, h2⟩ := VL_step (v := v) (b := b) hVL hlt (by rw [hx, hs]; exact hv)
            exact brS_intro (fun q => no fun i hi e => by rw [(h2 i hi e).1] at q; cases q) (fun _ => brS_intro (fun q => brS_intro (fun q2 => no fun i hi e => by have := (h2 i hi e).2 (by simpa using q2); rw [decide_eq_true_eq] at q; omega) (fun _ => brS_intro (fun q => brS_intro (fun q2 => no fun i hi e => by have := (h2 i hi e).2 (by simpa using q2); rw [decide_eq_true_eq] at q; omega) (fun _ => .inr (.inr ⟨(1, [v]), (by first | rfl | trivial), (by first | rfl | trivial), (by first | rfl | trivial), (by first | rfl | trivial), (by first | rfl | trivial), (by first | rfl | trivial), (by first | rfl | trivial), (by first | rfl | trivial), ⟨⟨(show 1 ≤ (pcsS s).length by omega), rfl⟩, h1⟩, by simp only; omega⟩))) (fun _ => .inr (.inr ⟨(1, [v]), (by first | rfl | trivial), (by first | rfl | trivial), (by first | rfl | trivial), (by first | rfl | trivial), (by first | rfl | trivial), (by first | rfl | trivial), (by first | rfl | trivial), (by first | rfl | trivial), ⟨⟨(show 1 ≤ (pcsS s).length by omega), rfl⟩, h1⟩, by simp only; omega⟩)))) (fun _ => brS_intro (fun q => brS_intro (fun q2 => no fun i hi e => by have := (h2 i hi e).2 (by simpa using q2); rw [decide_eq_true_eq] at q; omega) (fun _ => .inr (.inr ⟨(1, [v]), (by first | rfl | trivial), (by first | rfl | trivial), (by first | rfl | trivial), (by first | rfl | trivial), (by first | rfl | trivial), (by first | rfl | trivial), (by first | rfl | trivial), (by first | rfl | trivial), ⟨⟨(show 1 ≤ (pcsS s).length by omega), rfl⟩, h1⟩, by simp only; omega⟩))) (fun _ => .inr (.inr ⟨(1, [v]), (by first | rfl | trivial), (by first | rfl | trivial), (by first | rfl | trivial), (by first | rfl | trivial), (by first | rfl | trivial), (by first | rfl | trivial), (by first | rfl | trivial), (by first | rfl | trivial), ⟨⟨(show 1 ≤ (pcsS s).length by omega), rfl⟩, h1⟩, by simp only; omega⟩))))
          · rw [beq_eq_false_iff_ne] at c3
            have hs : stripR x0 = x0 := if_neg (fun z => c3 (hd_of (by omega) z.2))
            obtain ⟨h1, h2⟩ := VL_step (v := v) (b := b) hVL hlt (by rw [hx, hs]; exact hv)
            exact brS_intro (fun q => no fun i hi e => by rw [(h2 i hi e).1] at q; cases q) (fun _ => brS_intro (fun q => brS_intro (fun q2 => no fun i hi e => by have := (h2 i hi e).2 (by simpa using q2); rw [decide_eq_true_eq] at q; omega) (fun _ => brS_intro (fun q => brS_intro (fun q2 => no fun i hi e => by have := (h2 i hi e).2 (by simpa using q2); rw [decide_eq_true_eq] at q; omega) (fun _ => .inr (.inr ⟨(1, [v]), (by first | rfl | trivial), (by first | rfl | trivial), (by first | rfl | trivial), (by first | rfl | trivial), (by first | rfl | trivial), (by first | rfl | trivial), (by first | rfl | trivial), (by first | rfl | trivial), ⟨⟨(show 1 ≤ (pcsS s).length by omega), rfl⟩, h1⟩, by simp only; omega⟩))) (fun _ => .inr (.inr ⟨(1, [v]), (by first | rfl | trivial), (by first | rfl | trivial), (by first | rfl | trivial), (by first | rfl | trivial), (by first | rfl | trivial), (by first | rfl | trivial), (by first | rfl | trivial), (by first | rfl | trivial), ⟨⟨(show 1 ≤ (pcsS s).length by omega), rfl⟩, h1⟩, by simp only; omega⟩)))) (fun _ => brS_intro (fun q => brS_intro (fun q2 => no fun i hi e => by have := (h2 i hi e).2 (by simpa using q2); rw [decide_eq_true_eq] at q; omega) (fun _ => .inr (.inr ⟨(1, [v]), (by first | rfl | trivial), (by first | rfl | trivial), (by first | rfl | trivial), (by first | rfl | trivial), (by first | rfl | trivial), (by first | rfl | trivial), (by first | rfl | trivial), (by first | rfl | trivial), ⟨⟨(show 1 ≤ (pcsS s).length by omega), rfl⟩, h1⟩, by simp only; omega⟩))) (fun _ => .inr (.inr ⟨(1, [v]), (by first | rfl | trivial), (by first | rfl | trivial), (by first | rfl | trivial), (by first | rfl | trivial), (by first | rfl | trivial), (by first | rfl | trivial), (by first | rfl | trivial), (by first | rfl | trivial), ⟨⟨(show 1 ≤ (pcsS s).length by omega), rfl⟩, h1⟩, by simp only; omega⟩))))
        · rw [decide_eq_false_iff_not] at c2
          have hs : stripR x0 = x0 := if_neg (fun z => by omega)
          obtain ⟨h1, h2⟩ := VL_step (v := v) (b := b) hVL hlt (by rw [hx, hs]; exact hv)
          exact brS_intro (fun q => no fun i hi e => by rw [(h2 i hi e).1] at q; cases q) (fun _ => brS_intro (fun q => brS_intro (fun q2 => no fun i hi e => by have := (h2 i hi e).2 (by simpa using q2); rw [decide_eq_true_eq] at q; omega) (fun _ => brS_intro (fun q => brS_intro (fun q2 => no fun i hi e => by have := (h2 i hi e).2 (by simpa using q2); rw [decide_eq_true_eq] at q; omega) (fun _ => .inr (.inr ⟨(1, [v]), (by first | rfl | trivial), (by first | rfl | trivial), (by first | rfl | trivial), (by first | rfl | trivial), (by first | rfl | trivial), (by first | rfl | trivial), (by first | rfl | trivial), (by first | rfl | trivial), ⟨⟨(show 1 ≤ (pcsS s).length by omega), rfl⟩, h1⟩, by simp only; omega⟩))) (fun _ => .inr (.inr ⟨(1, [v]), (by first | rfl | trivial), (by first | rfl | trivial), (by first | rfl | trivial), (by first | rfl | trivial), (by first | rfl | trivial), (by first | rfl | trivial), (by first | rfl | trivial), (by first | rfl | trivial), ⟨⟨(show 1 ≤ (pcsS s).length by omega), rfl⟩, h1⟩, by simp only; omega⟩)))) (fun _ => brS_intro (fun q => brS_intro (fun q2 => no fun i hi e => by have := (h2 i hi e).2 (by simpa using q2); rw [decide_eq_true_eq] at q; omega) (fun _ => .inr (.inr ⟨(1, [v]), (by first | rfl | trivial), (by first | rfl | trivial), (by first | rfl | trivial), (by first | rfl | trivial), (by first | rfl | trivial), (by first | rfl | trivial), (by first | rfl | trivial), (by first | rfl | trivial), ⟨⟨(show 1 ≤ (pcsS s).length by omega), rfl⟩, h1⟩, by simp only; omega⟩))) (fun _ => .inr (.inr ⟨(1, [v]), (by first | rfl | trivial), (by first | rfl | trivial), (by first | rfl | trivial), (by first | rfl | trivial), (by first | rfl | trivial), (by first | rfl | trivial), (by first | rfl | trivial), (by first | rfl | trivial), ⟨⟨(show 1 ≤ (pcsS s).length by omega), rfl⟩, h1⟩, by simp only; omega⟩))))
      · rw [decide_eq_false_iff_not] at c1
        exact .inl ⟨(), (by first | rfl | trivial), (by first | rfl | trivial), (by first | rfl | trivial), (by first | rfl | trivial), (by first | rfl | trivial), (by first | rfl | trivial), VL_end hVL (by omega), trivial⟩
    · obtain ⟨k, vals⟩ := x
      obtain ⟨⟨hk1, hk2⟩, hVL⟩ := hx
      simp only at hk1 hk2 hVL ⊢
      have w1 : IntKind.i64.wrap ((k : Int) + 1) = ((k + 1 : Nat) : Int) := by rw [IntWalk.i64_in _ (by omega)]; rfl
      refine brS_intro (fun c1 => ?_) (fun c1 => ?_)
      · rw [decide_eq_true_eq] at c1
        have hlt : k < (pcsS s).length := by omega
        refine needS_intro (by simp; omega) ?_
        refine ldSS_at (k := k) hlt (by simp) ?_
        have hst := @VL_step s (OPs s)
        generalize hx : (pcsS s)[k] = x0 at *
        refine brS_intro (fun c2 => ?_) (fun c2 v b _ hv => ?_)
        · rw [decide_eq_true_eq] at c2
          refine chr_at (i := 0) (by omega) (brS_intro (fun c3 => ?_) (fun c3 v b _ hv => ?_))
          · refine needS_intro (by simp; omega) (fun v b _ hv => ?_)
            rw [beq_iff_eq] at c3
            have hs : stripR x0 = x0.drop 1 := if_pos ⟨by omega, hd_at (by omega) c3⟩
            have he : List.take (Int.toNat (x0.length : Int) - Int.toNat 1) (List.drop (Int.toNat 1) x0) = x0.drop 1 := by
              show List.take (x0.length - 1) (x0.drop 1) = x0.drop 1
              exact List.take_of_length_le (by simp)
            rw [he] at hv
            obtain ⟨h1, h2⟩ := VL_step (v := v) (b := b) hVL hlt (by rw [hx, hs]; exact hv)
            exact brS_intro (fun q => no fun i hi e => by rw [(h2 i hi e).1] at q; cases q) (fun _ => brS_intro (fun q => brS_intro (fun q2 => no fun i hi e => by have := (h2 i hi e).2 (by simpa using q2); rw [decide_eq_true_eq] at q; omega) (fun _ => brS_intro (fun q => brS_intro (fun q2 => no fun i hi e => by have := (h2 i hi e).2 (by simpa using q2); rw [decide_eq_true_eq] at q; omega) (fun _ => needS_intro (by rw [Bool.and_eq_true, nbeq_t, Nat.ble_eq]; omega) (.inr (.inr ⟨(k + 1, vals ++ [v]), (by first | rfl | trivial), (by first | rfl | trivial), (by first | rfl | trivial), (by first | rfl | trivial), by simp, by rw [w1], (by first | rfl | trivial), by simp, ⟨⟨(show k + 1 ≤ (pcsS s).length by omega), (by simp; omega)⟩, h1⟩, by simp only; omega⟩)))) (fun _ => needS_intro (by rw [Bool.and_eq_true, nbeq_t, Nat.ble_eq]; omega) (.inr (.inr ⟨(k + 1, vals ++ [v]), (by first | rfl | trivial), (by first | rfl | trivial), (by first | rfl | trivial), (by first | rfl | trivial), by simp, by rw [w1], (by first | rfl | trivial), by simp, ⟨⟨(show k + 1 ≤ (pcsS s).length by omega), (by simp; omega)⟩, h1⟩, by simp only; omega⟩))))) (fun _ => brS_intro (fun q => brS_intro (fun q2 => no fun i hi e => by have := (h2 i hi e).2 (by simpa using q2); rw [decide_eq_true_eq] at q; omega) (fun _ => needS_intro (by rw [Bool.and_eq_true, nbeq_t, Nat.ble_eq]; omega) (.inr (.inr ⟨(k + 1, vals ++ [v]), (by first | rfl | trivial), (by first | rfl | trivial), (by first | rfl | trivial), (by first | rfl | trivial), by simp, by rw [w1], (by first | rfl | trivial), by simp, ⟨⟨(show k + 1 ≤ (pcsS s).length by omega), (by simp; omega)⟩, h1⟩, by simp only; omega⟩)))) (fun _ => needS_intro (by rw [Bool.and_eq_true, nbeq_t, Nat.ble_eq]; omega) (.inr (.inr ⟨(k + 1, vals ++ [v]), (by first | rfl | trivial), (by first | rfl | trivial), (by first | rfl | trivial), (by first | rfl | trivial), by simp, by rw [w1], (by first | rfl | trivial), by simp, ⟨⟨(show k + 1 ≤ (pcsS s).length by omega), (by simp; omega)⟩, h1⟩, by simp only; omega⟩)))))
          · rw [beq_eq_false_iff_ne] at c3
            have hs : stripR x0 = x0 := if_neg (fun z => c3 (hd_of (by omega) z.2))
            obtain ⟨h1, h2⟩ := VL_step (v := v) (b := b) hVL hlt (by rw [hx, hs]; exact hv)
            exact brS_intro (fun q => no fun i hi e => by rw [(h2 i hi e).1] at q; cases q) (fun _ => brS_intro (fun q => brS_intro (fun q2 => no fun i hi e => by have := (h2 i hi e).2 (by simpa using q2); rw [decide_eq_true_eq] at q; omega) (fun _ => brS_intro (fun q => brS_intro (fun q2 => no fun i hi e => by have := (h2 i hi e).2 (by simpa using q2); rw [decide_eq_true_eq] at q; omega) (fun _ => needS_intro (by rw [Bool.and_eq_true, nbeq_t, Nat.ble_eq]; omega) (.inr (.inr ⟨(k + 1, vals ++ [v]), (by first | rfl | trivial), (by first | rfl | trivial), (by first | rfl | trivial), (by first | rfl | trivial), by simp, by rw [w1], (by first | rfl | trivial), by simp, ⟨⟨(show k + 1 ≤ (pcsS s).length by omega), (by simp; omega)⟩, h1⟩, by simp only; omega⟩)))) (fun _ => needS_intro (by rw [Bool.and_eq_true, nbeq_t, Nat.ble_eq]; omega) (.inr (.inr ⟨(k + 1, vals ++ [v]), (by first | rfl | trivial), (by first | rfl | trivial), (by first | rfl | trivial), (by first | rfl | trivial), by simp, by rw [w1], (by first | rfl | trivial), by simp, ⟨⟨(show k + 1 ≤ (pcsS s).length by omega), (by simp; omega)⟩, h1⟩, by simp only; omega⟩))))) (fun _ => brS_intro (fun q => brS_intro (fun q2 => no fun i hi e => by have := (h2 i hi e).2 (by simpa using q2); rw [decide_eq_true_eq] at q; omega) (fun _ => needS_intro (by rw [Bool.and_eq_true, nbeq_t, Nat.ble_eq]; omega) (.inr (.inr ⟨(k + 1, vals ++ [v]), (by first | rfl | trivial), (by first | rfl | trivial), (by first | rfl | trivial), (by first | rfl | trivial), by simp, by rw [w1], (by first | rfl | trivial), by simp, ⟨⟨(show k + 1 ≤ (pcsS s).length by omega), (by simp; omega)⟩, h1⟩, by simp only; omega⟩)))) (fun _ => needS_intro (by rw [Bool.and_eq_true, nbeq_t, Nat.ble_eq]; omega) (.inr (.inr ⟨(k + 1, vals ++ [v]), (by first | rfl | trivial), (by first | rfl | trivial), (by first | rfl | trivial), (by first | rfl | trivial), by simp, by rw [w1], (by first | rfl | trivial), by simp, ⟨⟨(show k + 1 ≤ (pcsS s).length by omega), (by simp; omega)⟩, h1⟩, by simp only; omega⟩)))))
        · rw [decide_eq_false_iff_not] at c2
          have hs : stripR x0 = x0 := if_neg (fun z => by omega)
          obtain ⟨h1, h2⟩ := VL_step (v := v) (b := b) hVL hlt (by rw [hx, hs]; exact hv)
          exact brS_intro (fun q => no fun i hi e => by rw [(h2 i hi e).1] at q; cases q) (fun _ => brS_intro (fun q => brS_intro (fun q2 => no fun i hi e => by have := (h2 i hi e).2 (by simpa using q2); rw [decide_eq_true_eq] at q; omega) (fun _ => brS_intro (fun q => brS_intro (fun q2 => no fun i hi e => by have := (h2 i hi e).2 (by simpa using q2); rw [decide_eq_true_eq] at q; omega) (fun _ => needS_intro (by rw [Bool.and_eq_true, nbeq_t, Nat.ble_eq]; omega) (.inr (.inr ⟨(k + 1, vals ++ [v]), (by first | rfl | trivial), (by first | rfl | trivial), (by first | rfl | trivial), (by first | rfl | trivial), by simp, by rw [w1], (by first | rfl | trivial), by simp, ⟨⟨(show k + 1 ≤ (pcsS s).length by omega), (by simp; omega)⟩, h1⟩, by simp only; omega⟩)))) (fun _ => needS_intro (by rw [Bool.and_eq_true, nbeq_t, Nat.ble_eq]; omega) (.inr (.inr ⟨(k + 1, vals ++ [v]), (by first | rfl | trivial), (by first | rfl | trivial), (by first | rfl | trivial), (by first | rfl | trivial), by simp, by rw [w1], (by first | rfl | trivial), by simp, ⟨⟨(show k + 1 ≤ (pcsS s).length by omega), (by simp; omega)⟩, h1⟩, by simp only; omega⟩))))) (fun _ => brS_intro (fun q => brS_intro (fun q2 => no fun i hi e => by have := (h2 i hi e).2 (by simpa using q2); rw [decide_eq_true_eq] at q; omega) (fun _ => needS_intro (by rw [Bool.and_eq_true, nbeq_t, Nat.ble_eq]; omega) (.inr (.inr ⟨(k + 1, vals ++ [v]), (by first | rfl | trivial), (by first | rfl | trivial), (by first | rfl | trivial), (by first | rfl | trivial), by simp, by rw [w1], (by first | rfl | trivial), by simp, ⟨⟨(show k + 1 ≤ (pcsS s).length by omega), (by simp; omega)⟩, h1⟩, by simp only; omega⟩)))) (fun _ => needS_intro (by rw [Bool.and_eq_true, nbeq_t, Nat.ble_eq]; omega) (.inr (.inr ⟨(k + 1, vals ++ [v]), (by first | rfl | trivial), (by first | rfl | trivial), (by first | rfl | trivial), (by first | rfl | trivial), by simp, by rw [w1], (by first | rfl | trivial), by simp, ⟨⟨(show k + 1 ≤ (pcsS s).length by omega), (by simp; omega)⟩, h1⟩, by simp only; omega⟩)))))
      · rw [decide_eq_false_iff_not] at c1
        exact .inr ⟨vals, (by first | rfl | trivial), (by first | rfl | trivial), (by first | rfl | trivial), (by first | rfl | trivial), (by first | rfl | trivial), (by first | rfl | trivial), ⟨VL_end hVL (by omega), (show vals.length ≤ s.length + 10 by omega)⟩, trivial⟩
    · exact .inr ⟨[0], (by first | rfl | trivial), (by first | rfl | trivial), (by first | rfl | trivial), (by first | rfl | trivial), (by first | rfl | trivial), (by first | rfl | trivial), ⟨VP_pad (vals := []) hx, (show [(0 : Int)].length ≤ s.length + 10 by simp)⟩, by simp⟩
    
    · obtain ⟨hP, hl2⟩ := hx
      refine brS_intro (fun c1 => ?_) (fun c1 => ?_)
      · rw [decide_eq_true_eq] at c1
        refine needS_intro (by rw [Bool.and_eq_true, nbeq_t, Nat.ble_eq]; omega) (.inr ⟨x ++ [0], (by first | rfl | trivial), (by first | rfl | trivial), (by first | rfl | trivial), by simp, (by first | rfl | trivial), by simp, ⟨VP_pad hP, (show (x ++ [0]).length ≤ s.length + 10 by simp; omega)⟩, by simp; omega⟩)
      · rw [decide_eq_false_iff_not] at c1
        obtain ⟨v0, v1, v2, v3, r, rfl⟩ : ∃ v0 v1 v2 v3 r, x = v0 :: v1 :: v2 :: v3 :: r := by
          match x, c1 with
          | [], c1 => simp at c1
          | [_], c1 => simp at c1
          | [_, _], c1 => simp at c1
          | [_, _, _], c1 => simp at c1
          | v0 :: v1 :: v2 :: v3 :: r, _ => exact ⟨v0, v1, v2, v3, r, rfl⟩
        exact ⟨(v0, v1, v2, v3, r), (by first | rfl | trivial), (by first | rfl | trivial), (by first | rfl | trivial), (by first | rfl | trivial), (by first | rfl | trivial), (by first | rfl | trivial), hP, trivial⟩
    · exact .inr ⟨[0], (by first | rfl | trivial), (by first | rfl | trivial), (by first | rfl | trivial), (by first | rfl | trivial), (by first | rfl | trivial), (by first | rfl | trivial), ⟨VP_pad (vals := []) hx, (show [(0 : Int)].length ≤ s.length + 10 by simp)⟩, by simp⟩
    
    · obtain ⟨hP, hl2⟩ := hx
      refine brS_intro (fun c1 => ?_) (fun c1 => ?_)
      · rw [decide_eq_true_eq] at c1
        refine needS_intro (by rw [Bool.and_eq_true, nbeq_t, Nat.ble_eq]; omega) (.inr ⟨x ++ [0], (by first | rfl | trivial), (by first | rfl | trivial), (by first | rfl | trivial), by simp, (by first | rfl | trivial), by simp, ⟨VP_pad hP, (show (x ++ [0]).length ≤ s.length + 10 by simp; omega)⟩, by simp; omega⟩)
      · rw [decide_eq_false_iff_not] at c1
        obtain ⟨v0, v1, v2, v3, r, rfl⟩ : ∃ v0 v1 v2 v3 r, x = v0 :: v1 :: v2 :: v3 :: r := by
          match x, c1 with
          | [], c1 => simp at c1
          | [_], c1 => simp at c1
          | [_, _], c1 => simp at c1
          | [_, _, _], c1 => simp at c1
          | v0 :: v1 :: v2 :: v3 :: r, _ => exact ⟨v0, v1, v2, v3, r, rfl⟩
        exact ⟨(v0, v1, v2, v3, r), (by first | rfl | trivial), (by first | rfl | trivial), (by first | rfl | trivial), (by first | rfl | trivial), (by first | rfl | trivial), (by first | rfl | trivial), hP, trivial⟩
    · obtain ⟨v0, v1, v2, v3, r⟩ := x
      have hP := PD_of hx
      simp only
      exact brS_intro (fun c => needS_intro (by simp <;> omega) (⟨(v0, 0, 0, 0, _), (by first | rfl | trivial), (by first | rfl | trivial), (by first | rfl | trivial), (by first | rfl | trivial), (by first | rfl | trivial), (by first | rfl | trivial), hP.1 (by simpa using c), trivial⟩)) (fun c2 => brS_intro (fun c => needS_intro (by simp <;> omega) (needS_intro (by simp <;> omega) (⟨(v0, v1, 0, 0, _), (by first | rfl | trivial), (by first | rfl | trivial), (by first | rfl | trivial), (by first | rfl | trivial), (by first | rfl | trivial), (by first | rfl | trivial), hP.2.1 (by simpa using c), trivial⟩))) (fun c3 => brS_intro (fun c => needS_intro (by simp <;> omega) (needS_intro (by simp <;> omega) (needS_intro (by simp <;> omega) (⟨(v0, v1, v2, 0, _), (by first | rfl | trivial), (by first | rfl | trivial), (by first | rfl | trivial), (by first | rfl | trivial), (by first | rfl | trivial), (by first | rfl | trivial), hP.2.2.1 (by simpa using c), trivial⟩)))) (fun c4 => brS_intro (fun c => needS_intro (by simp <;> omega) (needS_intro (by simp <;> omega) (⟨(v0, 0, 0, v1, _), (by first | rfl | trivial), (by first | rfl | trivial), (by first | rfl | trivial), (by first | rfl | trivial), (by first | rfl | trivial), (by first | rfl | trivial), hP.2.2.2.1 (.inl (by simpa using c)), trivial⟩))) (fun c5 => brS_intro (fun c => needS_intro (by simp <;> omega) (needS_intro (by simp <;> omega) (⟨(v0, 0, 0, v1, _), (by first | rfl | trivial), (by first | rfl | trivial), (by first | rfl | trivial), (by first | rfl | trivial), (by first | rfl | trivial), (by first | rfl | trivial), hP.2.2.2.1 (.inr (by simpa using c)), trivial⟩))) (fun c6 => brS_intro (fun c => needS_intro (by simp <;> omega) (needS_intro (by simp <;> omega) (needS_intro (by simp <;> omega) (⟨(v0, v1, 0, v2, _), (by first | rfl | trivial), (by first | rfl | trivial), (by first | rfl | trivial), (by first | rfl | trivial), (by first | rfl | trivial), (by first | rfl | trivial), hP.2.2.2.2.1 (by simpa using c), trivial⟩)))) (fun c7 => brS_intro (fun c => needS_intro (by simp <;> omega) (⟨(0, 0, 0, v0, _), (by first | rfl | trivial), (by first | rfl | trivial), (by first | rfl | trivial), (by first | rfl | trivial), (by first | rfl | trivial), (by first | rfl | trivial), hP.2.2.2.2.2.1 (by simpa using c), trivial⟩)) (fun c8 => ⟨(0, 0, 0, 0, _), (by first | rfl | trivial), (by first | rfl | trivial), (by first | rfl | trivial), (by first | rfl | trivial), (by first | rfl | trivial), (by first | rfl | trivial), hP.2.2.2.2.2.2 (by simpa using c2) (by simpa using c3) (by simpa using c4) (by simpa using c5) (by simpa using c6) (by simpa using c7) (by simpa using c8), trivial⟩)))))))
    · obtain ⟨a, b, c, n, hp⟩ := x
      simp only at hx ⊢
      exact brS_intro (fun q => no (PD_bad hx (fun e => by have h1 : validI (OPs s) a b c n = true := e.1; rw [h1] at q; cases q))) (fun q1 => brS_intro (fun q => no (PD_bad hx fun e => by rw [e.2, beq_self_eq_true] at q; cases q)) (fun q2 => yes ⟨OPs s, a, b, c, n⟩ (vin_of q1) (by simpa using q2)))
  · exact hk.elim
def cRParse := addC 22 kRParse cRFormat
theorem okRParse : Sound env cRParse := sound_add sRParse (okRFormat)

end Go.Proofs.YtfmcdageaananaaDoor
