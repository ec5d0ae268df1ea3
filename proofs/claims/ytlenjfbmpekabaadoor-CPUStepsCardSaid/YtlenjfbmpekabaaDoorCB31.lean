import Derived.Test.YtlenjfbmpekabaaDoorCA31
import Derived.Test.YtlenjfbmpekabaaDoorNP31
import Derived.KernelRfl
set_option linter.unusedVariables false
set_option linter.unusedSimpArgs false
namespace Go.Proofs.YtlenjfbmpekabaaDoor
open Go.Pv Go.M29 Go.M30 Go.M31 Go.M13
def nwA (w e p s a args : List Int) (e1 e2 e3 e4 e5 e6 : Nat) (f fuel : Int) (h : Heap) : Inv' := atX Unit (fun _ => [(1, .v (.int .i64 f)), (2, .v (.vslice none e6 (args).length 1 ((args).map (IV.int .i64)))), (4, .l 4 0), (10, .v (.ptr (h.next + 1) 0))]) (fun _ => [(4, [.vslice none e1 (w).length 1 ((w).map (IV.int .u32)), .vslice none e2 (e).length 1 ((e).map (IV.int .i64)), .vslice none e3 (p).length 1 ((p).map (IV.int .i64)), .vslice none e4 (s).length 1 ((s).map (IV.int .i64)), .vslice none e5 (a).length 1 ((a).map (IV.int .i64))])]) (fun _ => (h.push (.cells (repl w.length [.int .i64 0]))).push (.cells (newC h.next w.length .nilslice .nilslice .nilslice .nilslice (e.getD f.toNat 0) fuel))) (fun _ => newErr ⟨w, e, p, s, a⟩ f args fuel = 0) (fun _ => 0)
def nwI1 (w e p s a args : List Int) (e1 e2 e3 e4 e5 e6 : Nat) (f fuel : Int) (h : Heap) : Inv' := atX (Nat × Heap) (fun x => [(1, .v (.int .i64 f)), (2, .v (.vslice none e6 (args).length 1 ((args).map (IV.int .i64)))), (4, .l 4 0), (10, .v (.ptr (h.next + 1) 0)), (71, .v (.vslice none 0 ((decA w).2.1).length 1 (((decA w).2.1).map (IV.int .i64)))), (72, .v (.int .i64 (decA w).2.1.length)), (73, .v (.int .i64 x.1))]) (fun _ => [(4, [.vslice none e1 (w).length 1 ((w).map (IV.int .u32)), .vslice none e2 (e).length 1 ((e).map (IV.int .i64)), .vslice none e3 (p).length 1 ((p).map (IV.int .i64)), .vslice none e4 (s).length 1 ((s).map (IV.int .i64)), .vslice none e5 (a).length 1 ((a).map (IV.int .i64))])]) (fun x => x.2) (fun x => New1 ⟨w, e, p, s, a⟩ h f fuel x.1 x.2) (fun x => (decA w).2.1.length - x.1)
def nwB (w e p s a args : List Int) (e1 e2 e3 e4 e5 e6 : Nat) (f fuel : Int) (h : Heap) : Inv' := atX Heap (fun _ => [(1, .v (.int .i64 f)), (2, .v (.vslice none e6 (args).length 1 ((args).map (IV.int .i64)))), (4, .l 4 0), (10, .v (.ptr (h.next + 1) 0))]) (fun _ => [(4, [.vslice none e1 (w).length 1 ((w).map (IV.int .u32)), .vslice none e2 (e).length 1 ((e).map (IV.int .i64)), .vslice none e3 (p).length 1 ((p).map (IV.int .i64)), .vslice none e4 (s).length 1 ((s).map (IV.int .i64)), .vslice none e5 (a).length 1 ((a).map (IV.int .i64))])]) (fun x => x) (fun x => newErr ⟨w, e, p, s, a⟩ f args fuel = 0 /\ New1 ⟨w, e, p, s, a⟩ h f fuel (decA w).2.1.length x) (fun _ => 0)
def nwD (w e p s a args : List Int) (e1 e2 e3 e4 e5 e6 : Nat) (f fuel : Int) (h : Heap) : Inv' := atX Heap (fun _ => [(1, .v (.int .i64 f)), (2, .v (.vslice none e6 (args).length 1 ((args).map (IV.int .i64)))), (4, .l 4 0), (10, .v (.ptr (h.next + 1) 0))]) (fun _ => [(4, [.vslice none e1 (w).length 1 ((w).map (IV.int .u32)), .vslice none e2 (e).length 1 ((e).map (IV.int .i64)), .vslice none e3 (p).length 1 ((p).map (IV.int .i64)), .vslice none e4 (s).length 1 ((s).map (IV.int .i64)), .vslice none e5 (a).length 1 ((a).map (IV.int .i64))])]) (fun x => x) (fun x => newErr ⟨w, e, p, s, a⟩ f args fuel = 0 /\ New2 ⟨w, e, p, s, a⟩ h f fuel 0 x) (fun _ => 0)
def nwI2 (w e p s a args : List Int) (e1 e2 e3 e4 e5 e6 : Nat) (f fuel : Int) (h : Heap) : Inv' := atX (Nat × Heap) (fun x => [(1, .v (.int .i64 f)), (2, .v (.vslice none e6 (args).length 1 ((args).map (IV.int .i64)))), (4, .l 4 0), (10, .v (.ptr (h.next + 1) 0)), (101, .v (.vslice none e5 (a).length 1 ((a).map (IV.int .i64)))), (102, .v (.int .i64 a.length)), (103, .v (.int .i64 x.1))]) (fun _ => [(4, [.vslice none e1 (w).length 1 ((w).map (IV.int .u32)), .vslice none e2 (e).length 1 ((e).map (IV.int .i64)), .vslice none e3 (p).length 1 ((p).map (IV.int .i64)), .vslice none e4 (s).length 1 ((s).map (IV.int .i64)), .vslice none e5 (a).length 1 ((a).map (IV.int .i64))])]) (fun x => x.2) (fun x => New2 ⟨w, e, p, s, a⟩ h f fuel x.1 x.2) (fun x => a.length - x.1)
def nwC (w e p s a args : List Int) (e1 e2 e3 e4 e5 e6 : Nat) (f fuel : Int) (h : Heap) : Inv' := atX Heap (fun _ => [(1, .v (.int .i64 f)), (2, .v (.vslice none e6 (args).length 1 ((args).map (IV.int .i64)))), (4, .l 4 0), (10, .v (.ptr (h.next + 1) 0))]) (fun _ => [(4, [.vslice none e1 (w).length 1 ((w).map (IV.int .u32)), .vslice none e2 (e).length 1 ((e).map (IV.int .i64)), .vslice none e3 (p).length 1 ((p).map (IV.int .i64)), .vslice none e4 (s).length 1 ((s).map (IV.int .i64)), .vslice none e5 (a).length 1 ((a).map (IV.int .i64))])]) (fun x => x) (fun x => newErr ⟨w, e, p, s, a⟩ f args fuel = 0 /\ New2 ⟨w, e, p, s, a⟩ h f fuel a.length x) (fun _ => 0)
def kCNew (xs : List IV) (h : Heap) (K : IV -> Heap -> Prop) : Prop := match xs with
 | [.agg [.vslice none e1 n1 1 c1, .vslice none e2 n2 1 c2, .vslice none e3 n3 1 c3, .vslice none e4 n4 1 c4, .vslice none e5 n5 1 c5], .int .i64 f, .vslice none e6 n6 1 c6, .int .i64 fuel] => ∃ w e p s a args : List Int, (n1 = w.length /\ c1 = w.map (IV.int .u32)) /\ (n2 = e.length /\ c2 = e.map (IV.int .i64)) /\ (n3 = p.length /\ c3 = p.map (IV.int .i64)) /\ (n4 = s.length /\ c4 = s.map (IV.int .i64)) /\ (n5 = a.length /\ c5 = a.map (IV.int .i64)) /\ (n6 = args.length /\ c6 = args.map (IV.int .i64)) /\ (∀ x ∈ w, u32b x) /\ (newErr ⟨w, e, p, s, a⟩ f args fuel ≠ 0 -> K (.tuple [.nilptr, .int .i64 (newErr ⟨w, e, p, s, a⟩ f args fuel)]) h) /\ (newErr ⟨w, e, p, s, a⟩ f args fuel = 0 -> ∀ (L : Ly) (h' : Heap), Rep ⟨w, e, p, s, a⟩ (initS ⟨w, e, p, s, a⟩ f args fuel) L (h.next + 1) h' -> (∀ k, k < h.next -> h'.get k = h.get k /\ L.r k = .other) -> h.next <= h'.next -> K (.tuple [.ptr (h.next + 1) 0, .int .i64 0]) h')
 | _ => False
noncomputable def z19g  := IV.int .i64
noncomputable def z19a (w e p s a : List Int) (e1 e2 e3 e4 e5 : Nat) := [IV.vslice none e1 w.length 1 (List.map (IV.int .u32) w), IV.vslice none e2 e.length 1 (List.map z19g e), IV.vslice none e3 p.length 1 (List.map z19g p), IV.vslice none e4 s.length 1 (List.map z19g s), IV.vslice none e5 a.length 1 (List.map z19g a)]
noncomputable def z19b (args : List Int) (e6 : Nat) := TV.v (.vslice none e6 args.length 1 (List.map z19g args))
noncomputable def z19c (w e : List Int) (f fuel : Int) (h : Heap) := IObj.cells [IV.nilslice, IV.hslice (Heap.next h) 0 w.length 1, IV.nilslice, IV.nilslice, IV.nilslice, IV.int .i64 0, IV.int .i64 0, IV.int .i64 0, IV.int .i64 0, IV.int .i64 0, IV.int .i64 0, IV.int .i64 0, IV.int .i64 0, IV.nilslice, IV.int .i64 (List.getD e f.toNat 0), IV.int .i64 fuel, IV.bool false, IV.int .i64 0, IV.int .i64 0, IV.nilslice, IV.int .i64 0]
noncomputable def z19e (h : Heap) := Heap.next h + 1
noncomputable def z19d (h : Heap) := TV.v (.ptr (z19e h) 0)
noncomputable def z19f  := TV.l 4 0
noncomputable def z19h (f : Int) := TV.v (.int .i64 f)
noncomputable def z19i (n15 : Int) := IObj.cells (repl n15.toNat [IV.int .i64 0])
noncomputable def z19j (r9 : List IV) := IObj.cells (List.take 2 r9 ++ [IV.vslice none 1 0 1 []] ++ List.drop 3 r9)
noncomputable def z19k (w : List Int) := Prod.fst (Prod.snd (decA w))
noncomputable def z19l (a : List Int) (e5 : Nat) := TV.v (.vslice none e5 a.length 1 (List.map z19g a))
noncomputable def z19u (e : List Int) := (0 : Nat) + e.length
noncomputable def z19m (e : List Int) := (z19u e) * 1
noncomputable def z19n (a : List Int) := TV.v (.int .i64 (↑a.length : Int))
noncomputable def z19o (w : List Int) := TV.v (.vslice none 0 (List.length (z19k w)) 1 (List.map z19g (z19k w)))
noncomputable def z19p (s : List Int) := (0 : Nat) + s.length
noncomputable def z19q (n15 : Int) := decide (0 <= n15) && (decide (n15 <= n15) && (decide (n15 <= 9223372036854775807) && decide ((8 : Int) * n15 <= 140737488355328)))
noncomputable def z19r (w : List Int) (h : Heap) := Heap.push h (IObj.cells (repl w.length [IV.int .i64 0]))
noncomputable def z19s (w : List Int) := TV.v (.int .i64 (↑(List.length (z19k w)) : Int))
noncomputable def z19t (s : List Int) := IObj.tip ((z19p s) * 1)
noncomputable abbrev z19v (w w_1 : List Int) := w.length = w_1.length /\ List.map (IV.int .u32) w = List.map (IV.int .u32) w_1
noncomputable def z19w (args : List Int) (r25 : List IV) := IObj.cells (spl r25 5 (List.take (min args.length (8 : Nat) * 1) (List.map z19g args)))
noncomputable def z19x (n26 : Int) := IObj.cells [IV.nilslice, IV.int .i64 n26, IV.int .i64 0]
set_option maxRecDepth 100000 in
theorem vCNew (w e p s a args : List Int) (e1 e2 e3 e4 e5 e6 : Nat) (f fuel : Int) (h : Heap) (Q : IV -> Heap -> Prop) : dF (stdS cCOut) env 19 noU (icA 14 (nwI1 w e p s a args e1 e2 e3 e4 e5 e6 f fuel h) (ic1 21 (nwI2 w e p s a args e1 e2 e3 e4 e5 e6 f fuel h))) (icS (icA 11 (nwA w e p s a args e1 e2 e3 e4 e5 e6 f fuel h) (icA 18 (nwB w e p s a args e1 e2 e3 e4 e5 e6 f fuel h) (icA 20 (nwD w e p s a args e1 e2 e3 e4 e5 e6 f fuel h) (ic1 25 (nwC w e p s a args e1 e2 e3 e4 e5 e6 f fuel h)))))) [.agg [.vslice none e1 (w).length 1 ((w).map (IV.int .u32)), .vslice none e2 (e).length 1 ((e).map (IV.int .i64)), .vslice none e3 (p).length 1 ((p).map (IV.int .i64)), .vslice none e4 (s).length 1 ((s).map (IV.int .i64)), .vslice none e5 (a).length 1 ((a).map (IV.int .i64))], .int .i64 f, .vslice none e6 (args).length 1 ((args).map (IV.int .i64)), .int .i64 fuel] h Q = (
 (∃ (w_1 e_1 : List Int), ∃ (p_1 s_1 a_1 : List Int), (z19v w w_1) /\ (e.length = e_1.length /\ List.map z19g e = List.map z19g e_1) /\ (p.length = p_1.length /\ List.map z19g p = List.map z19g p_1) /\ (s.length = s_1.length /\ List.map
 z19g s = List.map z19g s_1) /\ (a.length = a_1.length /\ List.map z19g a = List.map z19g a_1) /\ (∀ (x : Int), x ∈ w_1 -> u32b x) /\ ∀ (r : Bool), (r = true ↔ VB (Bi.mk w_1 e_1 p_1 s_1 a_1)) -> brS (!r) (Q (.tuple [.nilptr, IV.int .i64 204]) h) (brS (decide (f < 0)) (Q
 (IV.tuple [.nilptr, IV.int .i64 3]) h) (brS (decide (f >= (↑e.length : Int))) (Q (.tuple [.nilptr, IV.int .i64 3]) h) (needS (decide (0 <= f) && decide (f < (↑p.length : Int))) (ldIS .i64 (List.map z19g p) (f.toNat * 1) fun (n0
 : Int) => brS ((↑args.length : Int) != n0) (Q (.tuple [.nilptr, IV.int .i64 5]) h) (brS (decide (fuel < 0)) (Q (.tuple [.nilptr, IV.int .i64 6]) h) (brS (decide (fuel > 1000)) (Q (.tuple [.nilptr, IV.int .i64 6]) h) (needS
 (decide (0 <= f) && decide (f < (↑e.length : Int))) (ldIS .i64 (List.map z19g e) (f.toNat * 1) fun n1 => needS (decide (0 <= (↑w.length : Int)) && (decide ((↑w.length : Int) <= (↑w.length : Int)) && (decide ((↑w.length : Int)
 <= (9223372036854775807 : Int)) && decide ((8 : Int) * (↑w.length : Int) <= 140737488355328)))) (∃ (x : Unit), some (z19h f) = some (z19h f) /\ some (z19b args e6) = some (z19b args e6) /\ some z19f = some z19f /\ some (z19d h) = some (z19d h) /\ some (z19a w e p s a e1 e2 e3 e4 e5) = some (z19a
 w e p s a e1 e2 e3 e4 e5) /\ Heap.push (Heap.push h (IObj.cells (repl (Int.toNat (↑w.length : Int)) [IV.int .i64 0]))) (IObj.cells [IV.nilslice, IV.hslice (Heap.next h) 0 (Int.toNat (↑w.length : Int)) 1, IV.nilslice, IV.nilslice, IV.nilslice, IV.int .i64
 (0 : Int), IV.int .i64 0, IV.int .i64 0, IV.int .i64 0, IV.int .i64 0, IV.int .i64 0, IV.int .i64 0, IV.int .i64 0, IV.nilslice, IV.int .i64 n1, IV.int .i64 fuel, IV.bool false, IV.int
 .i64 (0 : Int), IV.int .i64 0, IV.nilslice, IV.int .i64 0]) = Heap.push (z19r w h) (z19c w e f fuel h) /\ newErr (Bi.mk w e p s a) f args fuel = 0 /\ True)))))))))) /\ (∀ (x : Unit) (b : FF), newErr (Bi.mk w e p s a) f args fuel = 0 -> ∃ (w_1 : List Int),
 (z19v w w_1) /\ ((∀ (x : Int), x ∈ w_1 -> u32b x) /\ w_1.length <= 1000000) /\ hgetS (Heap.push (z19r w h) (z19c w e f fuel h)) (z19e h) fun r2 => needS (Nat.ble 1 r2.length) ((∃ (x : Nat × Heap), some (z19h f) = some (z19h f) /\ some (z19b args e6) = some (z19b args
 e6) /\ some z19f = some z19f /\ some (z19d h) = some (z19d h) /\ some (TV.v (.vslice none 0 (List.length (Prod.fst (Prod.snd (decA w_1)))) 1 (List.map z19g (Prod.fst (Prod.snd (decA w_1)))))) = some (z19o w) /\ some (TV.v (.int .i64 (↑(List.length (Prod.fst (Prod.snd (decA w_1))))
 : Int))) = some (z19s w) /\ some (TV.v (.int .i64 0)) = some (TV.v (.int .i64 (↑x.1 : Int))) /\ some (z19a w e p s a e1 e2 e3 e4 e5) = some (z19a w e p s a e1 e2 e3 e4 e5) /\ Heap.set (Heap.push (z19r w h) (z19c w e f fuel h)) (z19e h) (IObj.cells (IV.vslice none (0 :
 Nat) (List.length (Prod.fst (decA w_1))) 5 (List.flatMap cIns (Prod.fst (decA w_1))) :: List.drop 1 r2)) = x.2 /\ New1 (Bi.mk w e p s a) h f fuel x.1 x.2 /\ True) /\ ∀ (x : Nat × Heap) (b : FF), New1 (Bi.mk w e p s a) h f fuel x.1 x.2 -> brS (decide
 ((↑x.1 : Int) < (↑(List.length (z19k w)) : Int))) (needS (decide (0 <= (↑x.1 : Int)) && decide ((↑x.1 : Int) < (↑(List.length (z19k w)) : Int))) (ldIS .i64 (List.map z19g (z19k w)) (Int.toNat (↑x.1 : Int) * 1) fun n3 => hgetS (Prod.snd
 x) (z19e h) fun r4 => ldNHS 1 r4 1 False fun (i5 o6 l7 : Nat) => needS (decide (0 <= n3) && decide (n3 < (↑l7 : Int))) (hgetS x.2 i5 fun r8 => needS (Nat.ble (o6 + n3.toNat * 1 + (1 : Nat)) r8.length) (∃ (x_1 : Nat × Heap), some
 (z19h f) = some (z19h f) /\ some (z19b args e6) = some (z19b args e6) /\ some z19f = some z19f /\ some (z19d h) = some (z19d h) /\ some (z19o w) = some (z19o w) /\ some (z19s w) = some (z19s w) /\ some (TV.v (.int .i64 (IntKind.wrap .i64 ((↑x.1 : Int) + 1)))) = some (TV.v (.int
 .i64 (↑x_1.1 : Int))) /\ some (z19a w e p s a e1 e2 e3 e4 e5) = some (z19a w e p s a e1 e2 e3 e4 e5) /\ Heap.set x.2 i5 (IObj.cells (List.take (o6 + n3.toNat * 1) r8 ++ [IV.int .i64 (↑x.1 : Int)] ++ List.drop (o6 + n3.toNat * 1 + (1 : Nat))
 r8)) = x_1.2 /\ New1 (Bi.mk w e p s a) h f fuel x_1.1 x_1.2 /\ List.length (z19k w) - x_1.1 < List.length (z19k w) - x.1)))) (∃ (x_1 : Heap), some (z19h f) = some (z19h f) /\ some (z19b args e6) = some (z19b args e6) /\ some z19f = some z19f /\ some (z19d h) = some (z19d
 h) /\ some (z19a w e p s a e1 e2 e3 e4 e5) = some (z19a w e p s a e1 e2 e3 e4 e5) /\ x.2 = x_1 /\ (newErr (Bi.mk w e p s a) f args fuel = 0 /\ New1 (Bi.mk w e p s a) h f fuel (List.length (z19k w)) x_1) /\ True))) /\ (∀ (x : Heap) (b : FF), newErr (Bi.mk w e p s a) f args fuel = 0 /\
 New1 (Bi.mk w e p s a) h f fuel (List.length (z19k w)) x -> brS (Nat.beq e.length (0 : Nat)) (hgetS x (z19e h) fun r9 => needS (Nat.ble 3 r9.length) (brS (Nat.beq s.length (0 : Nat)) (hgetS (Heap.set x (z19e h) (z19j r9)) (z19e h) fun r10 => needS (Nat.ble
 (4 : Nat) r10.length) (∃ (x_1 : Heap), some (z19h f) = some (z19h f) /\ some (z19b args e6) = some (z19b args e6) /\ some z19f = some z19f /\ some (z19d h) = some (z19d h) /\ some (z19a w e p s a e1 e2 e3 e4 e5) = some (z19a w e p s a e1 e2 e3 e4 e5) /\ Heap.set (Heap.set x (z19e h) (z19j r9)) (z19e
 h) (IObj.cells (List.take 3 r10 ++ [IV.vslice none 1 0 1 []] ++ List.drop 4 r10)) = x_1 /\ (newErr (Bi.mk w e p s a) f args fuel = 0 /\ New2 (Bi.mk w e p s a) h f fuel (0 : Nat) x_1) /\ True)) (needS (Nat.ble ((z19p s) * 8) (140737488355328 : Nat))
 (hgetS (Heap.push (Heap.set x (z19e h) (z19j r9)) (z19t s)) (z19e h) fun r11 => needS (Nat.ble 4 r11.length) (∃ (x_1 : Heap), some (z19h f) = some (z19h f) /\ some (z19b args e6) = some (z19b args e6) /\ some z19f = some z19f /\ some (z19d h) = some (z19d h) /\ some (z19a w e p
 s a e1 e2 e3 e4 e5) = some (z19a w e p s a e1 e2 e3 e4 e5) /\ Heap.set (Heap.push (Heap.set x (z19e h) (z19j r9)) (z19t s)) (z19e h) (IObj.cells (List.take 3 r11 ++ [IV.vslice (some (Heap.next x)) ((z19p s) * 1) (z19p s) 1 ([] ++ List.map z19g s)] ++ List.drop 4 r11)) =
 x_1 /\ (newErr (Bi.mk w e p s a) f args fuel = 0 /\ New2 (Bi.mk w e p s a) h f fuel (0 : Nat) x_1) /\ True))))) (needS (Nat.ble ((z19u e) * 8) (140737488355328 : Nat)) (hgetS (Heap.push x (IObj.tip (z19m e))) (z19e h) fun r12 => needS (Nat.ble 3 r12.length) (brS
 (Nat.beq s.length (0 : Nat)) (hgetS (Heap.set (Heap.push x (IObj.tip (z19m e))) (z19e h) (IObj.cells (List.take 2 r12 ++ [IV.vslice (some (Heap.next x)) (z19m e) (z19u e) 1 ([] ++ List.map z19g e)] ++ List.drop 3 r12))) (z19e h) fun r13 => needS (Nat.ble (4
 : Nat) r13.length) (∃ (x_1 : Heap), some (z19h f) = some (z19h f) /\ some (z19b args e6) = some (z19b args e6) /\ some z19f = some z19f /\ some (z19d h) = some (z19d h) /\ some (z19a w e p s a e1 e2 e3 e4 e5) = some (z19a w e p s a e1 e2 e3 e4 e5) /\ Heap.set (Heap.set (Heap.push x (IObj.tip (z19m
 e))) (z19e h) (IObj.cells (List.take 2 r12 ++ [IV.vslice (some (Heap.next x)) (z19m e) (z19u e) 1 ([] ++ List.map z19g e)] ++ List.drop 3 r12))) (z19e h) (IObj.cells (List.take 3 r13 ++ [IV.vslice none 1 0 1 []] ++ List.drop 4 r13)) = x_1
 /\ (newErr (Bi.mk w e p s a) f args fuel = 0 /\ New2 (Bi.mk w e p s a) h f fuel (0 : Nat) x_1) /\ True)) (needS (Nat.ble ((z19p s) * 8) (140737488355328 : Nat)) (hgetS (Heap.push (Heap.set (Heap.push x (IObj.tip (z19m e))) (z19e h) (IObj.cells (List.take 2 r12 ++ [IV.vslice (some
 (Heap.next x)) (z19m e) (z19u e) 1 ([] ++ List.map z19g e)] ++ List.drop 3 r12))) (z19t s)) (z19e h) fun r14 => needS (Nat.ble 4 r14.length) (∃ (x_1 : Heap), some (z19h f) = some (z19h f) /\ some (z19b args e6) = some (z19b args e6) /\ some z19f = some z19f /\
 some (z19d h) = some (z19d h) /\ some (z19a w e p s a e1 e2 e3 e4 e5) = some (z19a w e p s a e1 e2 e3 e4 e5) /\ Heap.set (Heap.push (Heap.set (Heap.push x (IObj.tip (z19m e))) (z19e h) (IObj.cells (List.take 2 r12 ++ [IV.vslice (some (Heap.next x)) (z19m e) (z19u e) 1 ([] ++ List.map z19g
 e)] ++ List.drop 3 r12))) (z19t s)) (z19e h) (IObj.cells (List.take 3 r14 ++ [IV.vslice (some (Heap.next x + 1)) ((z19p s) * 1) (z19p s) 1 ([] ++ List.map z19g s)] ++ List.drop 4 r14)) = x_1 /\ (newErr (Bi.mk w e p s a) f args fuel = 0 /\ New2 (Bi.mk
 w e p s a) h f fuel (0 : Nat) x_1) /\ True))))))) /\ (∀ (x : Heap) (b : FF), newErr (Bi.mk w e p s a) f args fuel = 0 /\ New2 (Bi.mk w e p s a) h f fuel (0 : Nat) x -> (∃ (x_1 : Nat × Heap), some (z19h f) = some (z19h f) /\ some (z19b args e6) = some (z19b args e6) /\ some z19f = some z19f /\ some (z19d
 h) = some (z19d h) /\ some (z19l a e5) = some (z19l a e5) /\ some (z19n a) = some (z19n a) /\ some (TV.v (.int .i64 0)) = some (TV.v (.int .i64 (↑x_1.1 : Int))) /\ some (z19a w e p s a e1 e2 e3 e4 e5) = some (z19a w e p s a e1 e2 e3 e4 e5) /\ x = x_1.2 /\ New2 (Bi.mk
 w e p s a) h f fuel x_1.1 x_1.2 /\ True) /\ ∀ (x : Nat × Heap) (b : FF), New2 (Bi.mk w e p s a) h f fuel x.1 x.2 -> brS (decide ((↑x.1 : Int) < (↑a.length : Int))) (needS (decide (0 <= (↑x.1 : Int)) && decide ((↑x.1 : Int) < (↑(List.length
 a) : Int))) (ldIS .i64 (List.map z19g a) (Int.toNat (↑x.1 : Int) * 1) fun n15 => hgetS x.2 (z19e h) fun r16 => ldNVS 1 r16 4 (needS (z19q n15) (sameAt x.2 (Heap.push x.2 (z19i n15)) (some (z19e h)) /\ hgetS (Heap.push
 (Heap.push x.2 (z19i n15)) (IObj.tip (1 : Nat))) (z19e h) fun r17 => needS (Nat.ble 5 r17.length) (∃ (x_1 : Nat × Heap), some (z19h f) = some (z19h f) /\ some (z19b args e6) = some (z19b args e6) /\ some z19f = some z19f /\ some (z19d h) = some (z19d h) /\ some (z19l a
 e5) = some (z19l a e5) /\ some (z19n a) = some (z19n a) /\ some (TV.v (.int .i64 (IntKind.wrap .i64 ((↑x.1 : Int) + 1)))) = some (TV.v (.int .i64 (↑x_1.1 : Int))) /\ some (z19a w e p s a e1 e2 e3 e4 e5) = some (z19a w e p s a e1 e2 e3 e4 e5) /\ Heap.set
 (Heap.push (Heap.push x.2 (z19i n15)) (IObj.tip (1 : Nat))) (z19e h) (IObj.cells (List.take 4 r17 ++ [IV.vslice (some (Heap.next x.2 + 1)) 1 1 1 [IV.hslice (Heap.next x.2) 0 n15.toNat 1]] ++ List.drop 5 r17))
 = x_1.2 /\ New2 (Bi.mk w e p s a) h f fuel x_1.1 x_1.2 /\ a.length - x_1.1 < a.length - x.1))) fun (i18 e19 l20 : Nat) (c21 : List IV) => needS (z19q n15) (sameAt x.2 (Heap.push x.2 (z19i n15)) (some (z19e h)) /\ tipS (Heap.push (Prod.snd
 x) (z19i n15)) i18 fun (m22 : Nat) => needS (Nat.beq m22 e19 && Nat.ble ((l20 + 1) * 24) (140737488355328 : Nat)) (hgetS (Heap.set (Heap.push x.2 (z19i n15)) i18 (IObj.tip (e19 + 1))) (z19e h) fun r23 => needS (Nat.ble 5 r23.length) (∃ (x_1
 : Nat × Heap), some (z19h f) = some (z19h f) /\ some (z19b args e6) = some (z19b args e6) /\ some z19f = some z19f /\ some (z19d h) = some (z19d h) /\ some (z19l a e5) = some (z19l a e5) /\ some (z19n a) = some (z19n a) /\ some (TV.v (.int .i64 (IntKind.wrap .i64 ((↑x.1 : Int) + (1
 : Int))))) = some (TV.v (.int .i64 (↑x_1.1 : Int))) /\ some (z19a w e p s a e1 e2 e3 e4 e5) = some (z19a w e p s a e1 e2 e3 e4 e5) /\ Heap.set (Heap.set (Heap.push x.2 (z19i n15)) i18 (IObj.tip (e19 + 1))) (z19e h) (IObj.cells (List.take 4 r23 ++ [IV.vslice (some
 i18) (e19 + 1) (l20 + 1) 1 (c21 ++ [IV.hslice (Heap.next x.2) 0 n15.toNat 1])] ++ List.drop 5 r23)) = x_1.2 /\ New2 (Bi.mk w e p s a) h f fuel x_1.1 x_1.2 /\ a.length - x_1.1 < a.length - x.1)))))
 (∃ (x_1 : Heap), some (z19h f) = some (z19h f) /\ some (z19b args e6) = some (z19b args e6) /\ some z19f = some z19f /\ some (z19d h) = some (z19d h) /\ some (z19a w e p s a e1 e2 e3 e4 e5) = some (z19a w e p s a e1 e2 e3 e4 e5) /\ x.2 = x_1 /\ (newErr (Bi.mk w e p s a) f args fuel = 0 /\ New2
 (Bi.mk w e p s a) h f fuel a.length x_1) /\ True)) /\ (∀ (x : Heap) (b : FF), newErr (Bi.mk w e p s a) f args fuel = 0 /\ New2 (Bi.mk w e p s a) h f fuel a.length x -> hgetS x (z19e h) fun r24 => needS (Nat.ble 13 r24.length) (hgetS x (z19e h) fun (r25 : List
 IV) => needS (Nat.ble 13 r25.length) (needS (decide (0 <= f) && decide (f < (↑s.length : Int))) (ldIS .i64 (List.map z19g s) (f.toNat * 1) fun n26 => hgetS (Heap.push (Heap.push (Heap.set x (z19e h) (z19w args r25)) (z19x n26)) (IObj.cells [IV.ptr
 (Heap.next x) (0 : Nat)])) (z19e h) fun r27 => needS (Nat.ble 14 r27.length) (Q (.tuple [.ptr (z19e h) 0, IV.int .i64 0]) (Heap.set (Heap.push (Heap.push (Heap.set x (z19e h) (z19w args r25)) (z19x n26)) (IObj.cells [IV.ptr (Heap.next x) 0]))
 (z19e h) (IObj.cells (List.take 13 r27 ++ [IV.hslice (Heap.next x + 1) 0 1 1] ++ List.drop 14 r27)))))))) /\ True) := by kernel_rfl
set_option maxHeartbeats 8000000 in
set_option maxRecDepth 100000 in
theorem sCNew : ∀ xs h Q, kCNew xs h Q -> CallW env 19 xs h Q := by
 intro xs h Q hk
 unfold kCNew at hk
 split at hk
 ·rename_i e1 n1 c1 e2 n2 c2 e3 n3 c3 e4 n4 c4 e5 n5 c5 f e6 n6 c6 fuel
  obtain ⟨w, e, p, s, a, args, ⟨rfl, rfl⟩, ⟨rfl, rfl⟩, ⟨rfl, rfl⟩, ⟨rfl, rfl⟩, ⟨rfl, rfl⟩, ⟨rfl, rfl⟩, hw, hk0, hk⟩ := hk
  refine dF_run (okCOut) (vCNew w e p s a args e1 e2 e3 e4 e5 e6 f fuel h Q) ?_
  delta z19a z19b z19c z19d z19e z19f z19g z19h z19i z19j z19k z19l z19m z19n z19o z19p z19q z19r z19s z19t z19u z19v z19w z19x
  have tn : ∀ x : Nat, (x : Int).toNat = x := Int.toNat_natCast
  have herr : newErr ⟨w, e, p, s, a⟩ f args fuel = 0 -> VB ⟨w, e, p, s, a⟩ /\ (0 <= f /\ f < e.length) /\ (args.length : Int) = p.getD f.toNat 0 /\ (0 <= fuel /\ fuel <= 1000) := fun he => by
   unfold newErr at he
   by_cases hv : VB ⟨w, e, p, s, a⟩
   ·rw [if_neg (fun z => z hv)] at he
    by_cases hf : f < 0 \/ (e.length : Int) <= f
    ·rw [if_pos hf] at he; omega
    ·rw [if_neg hf] at he
     by_cases ha : (args.length : Int) ≠ p.getD f.toNat 0
     ·rw [if_pos ha] at he; omega
     ·rw [if_neg ha] at he
      by_cases hu : fuel < 0 \/ 1000 < fuel
      ·rw [if_pos hu] at he; omega
      ·exact ⟨hv, by omega, by simpa using ha, by omega⟩
   ·rw [if_pos hv] at he; omega
  refine ⟨⟨w, e, p, s, a, ⟨rfl, rfl⟩, ⟨rfl, rfl⟩, ⟨rfl, rfl⟩, ⟨rfl, rfl⟩, ⟨rfl, rfl⟩, hw, fun r hr => ?_⟩, ?_, ?_, ?_, ?_, trivial⟩
  ·by_cases hv : VB ⟨w, e, p, s, a⟩
   case neg =>
    have hr2 : r = false := by
     cases r
     ·rfl
     ·exact absurd (hr.1 rfl) hv
    subst hr2
    have he : newErr ⟨w, e, p, s, a⟩ f args fuel = 204 := by unfold newErr; rw [if_pos hv]
    rw [he] at hk0
    exact hk0 (by omega)
   have hr2 : r = true := hr.2 hv
   subst hr2
   have hpl : p.length = e.length := hv.2.2.1
   have hwl : 1 <= w.length /\ w.length <= 60000 := hv.1
   have n0 : newErr ⟨w, e, p, s, a⟩ f args fuel = if f < 0 \/ (e.length : Int) <= f then 3 else if (args.length : Int) ≠ p.getD f.toNat 0 then 5 else if fuel < 0 \/ 1000 < fuel then 6 else 0 := by unfold newErr; rw [if_neg (fun z => z hv)]
   show brS (decide (f < 0)) _ _
   refine brS_intro (fun c => ?_) (fun c1 => brS_intro (fun c => ?_) (fun c2 => ?_))
   ·rw [decide_eq_true_eq] at c
    rw [n0, if_pos (.inl c)] at hk0
    exact hk0 (by omega)
   ·rw [decide_eq_true_eq] at c
    rw [n0, if_pos (.inr (by omega))] at hk0
    exact hk0 (by omega)
   ·rw [decide_eq_false_iff_not] at c1 c2
    rw [if_neg (by omega)] at n0
    have hfp : f.toNat < p.length := by omega
    have hfe : f.toNat < e.length := by omega
    have hgp : p.getD f.toNat 0 = p[f.toNat] := by rw [List.getD_eq_getElem?_getD, List.getElem?_eq_getElem hfp]; rfl
    have hge : e.getD f.toNat 0 = e[f.toNat] := by rw [List.getD_eq_getElem?_getD, List.getElem?_eq_getElem hfe]; rfl
    rw [hgp] at n0
    rw [Nat.mul_one]
    refine needS_intro (by simp; omega) (ldIS_map hfp (brS_intro (fun c => ?_) (fun c3 => brS_intro (fun c => ?_) (fun c4 => brS_intro (fun c => ?_) (fun c5 => ?_)))))
    ·rw [bne_iff_ne] at c
     rw [n0, if_pos c] at hk0
     exact hk0 (by omega)
    ·rw [bne_eq_false_iff_eq] at c3
     rw [decide_eq_true_eq] at c
     rw [n0, if_neg (fun z => z c3), if_pos (.inl c)] at hk0
     exact hk0 (by omega)
    ·rw [bne_eq_false_iff_eq] at c3
     rw [decide_eq_true_eq] at c
     rw [n0, if_neg (fun z => z c3), if_pos (.inr (by omega))] at hk0
     exact hk0 (by omega)
    ·rw [bne_eq_false_iff_eq] at c3
     rw [decide_eq_false_iff_not] at c4 c5
     rw [if_neg (fun z => z c3), if_neg (by omega)] at n0
     refine needS_intro (by simp; omega) (ldIS_map hfe (needS_intro (by simp; omega) ⟨(), (by first | rfl | trivial), (by first | rfl | trivial), (by first | rfl | trivial), (by first | rfl | trivial), (by first | rfl | trivial), ?_, n0, trivial⟩))
     rw [hge, tn]
  ·intro _ _ he
   obtain ⟨hv, hf, hal, hfu⟩ := herr he
   have hwl : 1 <= w.length /\ w.length <= 60000 := hv.1
   have hg1 : ((h.push (.cells (repl w.length [.int .i64 0]))).push (.cells (newC h.next w.length .nilslice .nilslice .nilslice .nilslice (e.getD f.toNat 0) fuel))).get (h.next + 1) = .cells (newC h.next w.length .nilslice .nilslice .nilslice .nilslice (e.getD f.toNat 0) fuel) := by rw [get_push, if_pos (show h.next + 1 = (h.push _).next from rfl)]
   refine ⟨w, ⟨rfl, rfl⟩, ⟨hw, by omega⟩, hget_i hg1 (needS_intro rfl ⟨⟨(0, ((h.push (.cells (repl w.length [.int .i64 0]))).push (.cells (newC h.next w.length .nilslice .nilslice .nilslice .nilslice (e.getD f.toNat 0) fuel))).set (h.next + 1) (.cells (newC h.next w.length (codeC ⟨w, e, p, s, a⟩) .nilslice .nilslice .nilslice (e.getD f.toNat 0) fuel))), (by first | rfl | trivial), (by first | rfl | trivial), (by first | rfl | trivial), (by first | rfl | trivial), (by first | rfl | trivial), (by first | rfl | trivial), (by first | rfl | trivial), (by first | rfl | trivial), (by first | rfl | trivial), ?_, trivial⟩, fun x _ hx => ?_⟩)⟩
   ·exact {
     kl := Nat.zero_le _
     cpu := by rw [get_set, if_pos rfl]
     wh := ⟨List.replicate w.length 0, by rw [get_set, if_neg (by omega), get_push, if_neg (by simp only [next_push]; omega), get_push, if_pos rfl, repl_ints], by simp, fun j _ hj => absurd hj (Nat.not_lt_zero _)⟩
     ot := fun i hi => by rw [get_set, if_neg (by omega), get_push, if_neg (by simp only [next_push]; omega), get_push, if_neg (by omega)]
     nx := rfl }
   ·obtain ⟨k, hp⟩ := x
    have n1 : New1 ⟨w, e, p, s, a⟩ h f fuel k hp := hx
    obtain ⟨wl, w1, w2, w3⟩ := n1.wh
    have hok := decA_ok hw hv.2.2.2.2.2.1
    have hdl := decA_len w
    have w2' : wl.length = w.length := w2
    simp only [tn, Nat.mul_one, Nat.zero_add]
    refine brS_intro (fun c => ?_) (fun c => ?_)
    ·rw [decide_eq_true_eq] at c
     have hk2 : k < (decA w).2.1.length := by omega
     have hr := hok.2.1 _ (List.getElem_mem hk2)
     refine needS_intro (by simp; omega) (ldIS_map hk2 (hget_i n1.cpu (ldNH_i rfl (needS_intro (by simp; omega) (hget_i w1 (needS_intro (by rw [Nat.ble_eq, ints_len]; omega) ?_))))))
     rw [Nat.zero_add, store_set (by rw [ints_len]; omega)]
     have e7 : (ints wl).set (decA w).2.1[k].toNat (.int .i64 (k : Int)) = ints (wl.set (decA w).2.1[k].toNat (k : Int)) := by simp [ints, List.map_set]
     rw [e7]
     exact ⟨(k + 1, _), (by first | rfl | trivial), (by first | rfl | trivial), (by first | rfl | trivial), (by first | rfl | trivial), (by first | rfl | trivial), (by first | rfl | trivial), (by rw [IntWalk.i64_in _ (by omega)]; rfl), (by first | rfl | trivial), rfl, n1.step hv hw hk2 w1 w2 w3, by simp only; omega⟩
    ·rw [decide_eq_false_iff_not] at c
     have hk2 : k = (decA w).2.1.length := by have := n1.kl; simp only at this; omega
     subst hk2
     exact ⟨hp, (by first | rfl | trivial), (by first | rfl | trivial), (by first | rfl | trivial), (by first | rfl | trivial), (by first | rfl | trivial), (by first | rfl | trivial), ⟨he, n1⟩, trivial⟩
  ·intro x _ hx
   obtain ⟨he, n1⟩ := hx
   obtain ⟨hv, hf, hal, hfu⟩ := herr he
   have hel : 1 <= e.length /\ e.length <= 8 := hv.2.1
   have hsl : s.length = e.length := hv.2.2.2.1
   have hnx := n1.nx
   refine brS_intro (fun c => by rw [nbeq_t] at c; omega) (fun _ => needS_intro (by rw [Nat.ble_eq]; omega) (hget_i (by rw [get_push, if_neg (by omega)]; exact n1.cpu) (needS_intro rfl (brS_intro (fun c => by rw [nbeq_t] at c; omega) (fun _ => needS_intro (by rw [Nat.ble_eq]; omega) (hget_i (by rw [get_push, if_neg (by simp only [next_set, next_push]; omega), get_set, if_pos rfl]) (needS_intro rfl ?_)))))))
   refine ⟨_, (by first | rfl | trivial), (by first | rfl | trivial), (by first | rfl | trivial), (by first | rfl | trivial), (by first | rfl | trivial), rfl, ⟨he, ?_⟩, trivial⟩
   exact {
    kl := Nat.zero_le _
    cpu := by
     rw [get_set, if_pos rfl]
     simp only [Nat.zero_add, Nat.mul_one, hnx]
     rfl
    wh := by
     obtain ⟨wl, w1, w2, w3⟩ := n1.wh
     refine ⟨wl, ?_, w2, fun j h2 => w3 j h2 h2⟩
     rw [get_set, if_neg (by omega), get_push, if_neg (by simp only [next_set, next_push]; omega), get_set, if_neg (by omega), get_push, if_neg (by omega)]
     exact w1
    ar := fun j hj => absurd hj (Nat.not_lt_zero _)
    ai := fun z => absurd z (Nat.lt_irrefl _)
    ot := fun i hi => by
     rw [get_set, if_neg (by omega), get_push, if_neg (by simp only [next_set, next_push]; omega), get_set, if_neg (by omega), get_push, if_neg (by omega)]
     exact n1.ot i hi
    nx := by rw [if_pos rfl]; simp only [next_set, next_push]; omega }
  ·intro x _ hx
   obtain ⟨he, n2⟩ := hx
   obtain ⟨hv, hf, hal, hfu⟩ := herr he
   refine ⟨⟨(0, x), (by first | rfl | trivial), (by first | rfl | trivial), (by first | rfl | trivial), (by first | rfl | trivial), (by first | rfl | trivial), (by first | rfl | trivial), (by first | rfl | trivial), (by first | rfl | trivial), (by first | rfl | trivial), n2, trivial⟩, fun x _ hx => ?_⟩
   obtain ⟨k, hp⟩ := x
   have n2 : New2 ⟨w, e, p, s, a⟩ h f fuel k hp := hx
   have hnx := n2.nx
   have hka : a.length <= 4 := hv.2.2.2.2.1
   have hkl := n2.kl
   simp only [tn, Nat.mul_one] at hkl ⊢
   refine brS_intro (fun c => ?_) (fun c => ?_)
   ·rw [decide_eq_true_eq] at c
    have hk2 : k < a.length := by omega
    obtain ⟨x9, y1, y2⟩ := hv.2.2.2.2.2.2.2.2.1 k hk2
    have y1' : a[k]? = some x9 := y1
    rw [List.getElem?_eq_getElem hk2] at y1'
    have hgd : a.getD k 0 = a[k] := by rw [List.getD_eq_getElem?_getD, List.getElem?_eq_getElem hk2]; rfl
    have hx9 := Option.some.inj y1'
    have hcn : h.next + 1 < hp.next := by rw [hnx]; split <;> omega
    refine needS_intro (by simp; omega) (ldIS_map hk2 (hget_i n2.cpu ?_))
    by_cases h0 : k = 0
    ·subst h0
     rw [if_pos rfl] at hnx
     refine ldNV_n rfl (needS_intro (by simp; omega) ⟨?_, hget_i (by rw [get_push, if_neg (by simp only [next_push]; omega), get_push, if_neg (by omega)]; exact n2.cpu) (needS_intro rfl ?_)⟩)
     ·show (hp.push _).get _ = hp.get _
      rw [get_push, if_neg (by omega)]
     ·generalize hG : Heap.set _ (h.next + 1) _ = G
      refine ⟨(1, G), (by first | rfl | trivial), (by first | rfl | trivial), (by first | rfl | trivial), (by first | rfl | trivial), (by first | rfl | trivial), (by first | rfl | trivial), (by first | rfl | trivial), (by first | rfl | trivial), rfl, ?_, by simp only; omega⟩
      subst hG
      exact {
       kl := hk2
       cpu := by
        have hna : narr h.next 1 a = .vslice (some (h.next + 5)) 1 1 1 [.hslice (h.next + 4) 0 (Int.toNat a[0]) 1] := by rw [narr_pos (by omega), nrow_succ, hgd]; rfl
        show _ = IObj.cells (newC _ _ _ _ _ (narr h.next 1 a) _ _)
        rw [get_set, if_pos rfl, hnx, hna]
        rfl
       wh := by
        obtain ⟨wl, w1, w2⟩ := n2.wh
        refine ⟨wl, ?_, w2⟩
        rw [get_set, if_neg (by omega), get_push, if_neg (by simp only [next_push]; omega), get_push, if_neg (by omega)]
        exact w1
       ar := fun j hj => by
        have hj0 : j = 0 := by omega
        subst hj0
        show Heap.get _ (h.next + 4) = _
        rw [get_set, if_neg (by omega), get_push, if_neg (by simp only [next_push]; omega), get_push, if_pos (by omega), repl_ints]
        simp only [hgd]
       ai := fun _ => by
        rw [get_set, if_neg (by omega), get_push, if_pos (by simp only [next_push]; omega)]
       ot := fun i hi => by
        rw [get_set, if_neg (by omega), get_push, if_neg (by simp only [next_push]; omega), get_push, if_neg (by omega)]
        exact n2.ot i hi
       nx := by rw [if_neg (by omega)]; simp only [next_set, next_push]; omega }
    ·rw [if_neg h0] at hnx
     have hai := n2.ai (by omega)
     refine ldNV_i (by rw [narr_pos (by omega)]; rfl) (needS_intro (by simp; omega) ⟨?_, tip_i (by rw [get_push, if_neg (by omega)]; exact hai) (needS_intro (by rw [Bool.and_eq_true, nbeq_t, Nat.ble_eq]; omega) (hget_i (by rw [get_set, if_neg (by omega), get_push, if_neg (by omega)]; exact n2.cpu) (needS_intro rfl ?_)))⟩)
     ·show (hp.push _).get _ = hp.get _
      rw [get_push, if_neg (by omega)]
     ·have haid : aid h.next k = h.next + 5 + k := by unfold aid; rw [if_neg h0]
      generalize hG : Heap.set _ (h.next + 1) _ = G
      refine ⟨(k + 1, G), (by first | rfl | trivial), (by first | rfl | trivial), (by first | rfl | trivial), (by first | rfl | trivial), (by first | rfl | trivial), (by first | rfl | trivial), (by simp only; rw [IntWalk.i64_in _ (by omega)]; rfl), (by first | rfl | trivial), rfl, ?_, by simp only; omega⟩
      subst hG
      exact {
       kl := hk2
       cpu := by
        have hna : narr h.next (k + 1) a = .vslice (some (h.next + 5)) (k + 1) (k + 1) 1 (nrow h.next k a ++ [.hslice (h.next + 5 + k) 0 (Int.toNat a[k]) 1]) := by rw [narr_pos (by omega), nrow_succ, hgd, haid]
        show _ = IObj.cells (newC _ _ _ _ _ (narr h.next (k + 1) a) _ _)
        rw [get_set, if_pos rfl, hnx, hna]
        rfl
       wh := by
        obtain ⟨wl, w1, w2⟩ := n2.wh
        refine ⟨wl, ?_, w2⟩
        rw [get_set, if_neg (by omega), get_set, if_neg (by omega), get_push, if_neg (by omega)]
        exact w1
       ar := fun j hj => by
        by_cases hjk : j = k
        ·subst hjk
         rw [haid, get_set, if_neg (by omega), get_set, if_neg (by omega), get_push, if_pos (by omega), repl_ints]
         simp only [hgd]
        ·have hja : aid h.next j < h.next + 5 + k /\ h.next + 4 <= aid h.next j /\ aid h.next j ≠ h.next + 5 := by
          unfold aid
          split <;> omega
         rw [get_set, if_neg (by omega), get_set, if_neg (by omega), get_push, if_neg (by omega)]
         exact n2.ar j (by omega)
       ai := fun _ => by
        rw [get_set, if_neg (by omega), get_set, if_pos rfl]
       ot := fun i hi => by
        rw [get_set, if_neg (by omega), get_set, if_neg (by omega), get_push, if_neg (by omega)]
        exact n2.ot i hi
       nx := by rw [if_neg (by omega)]; simp only [next_set, next_push]; omega }
   ·rw [decide_eq_false_iff_not] at c
    have hk2 : k = a.length := by omega
    subst hk2
    exact ⟨hp, (by first | rfl | trivial), (by first | rfl | trivial), (by first | rfl | trivial), (by first | rfl | trivial), (by first | rfl | trivial), (by first | rfl | trivial), ⟨he, n2⟩, trivial⟩
  ·intro x _ hx
   obtain ⟨he, n2⟩ := hx
   obtain ⟨hv, hf, hal, hfu⟩ := herr he
   have hsl : s.length = e.length := hv.2.2.2.1
   have hfs : f.toNat < s.length := by omega
   have hgs : s.getD f.toNat 0 = s[f.toNat] := by rw [List.getD_eq_getElem?_getD, List.getElem?_eq_getElem hfs]; rfl
   obtain ⟨q1, q2, q3, z1, z2, z3, z4, z5, z6⟩ := hv.2.2.2.2.2.2.2.1 f.toNat (by simp only; omega)
   have z2' : p[f.toNat]? = some q2 := z2
   have hq2 : p.getD f.toNat 0 = q2 := getD_at z2'
   have ha8 : args.length <= 8 := by omega
   have hnx := n2.nx
   have hcn : h.next + 4 <= x.next := by rw [hnx]; split <;> omega
   have hmin : min args.length 8 * 1 = args.length := by omega
   have htk : (args.map (IV.int .i64)).take args.length = ints args := by rw [List.take_of_length_le (by simp)]; rfl
   refine hget_i n2.cpu (needS_intro rfl (hget_i n2.cpu (needS_intro rfl (needS_intro (by simp; omega) ?_))))
   rw [Nat.mul_one, hmin, htk]
   refine ldIS_map hfs (hget_i (by rw [get_push, if_neg (by simp only [next_set, next_push]; omega), get_push, if_neg (by simp only [next_set]; omega), get_set, if_pos rfl]) (needS_intro ?_ ?_))
   ·rw [Nat.ble_eq]
    simp [spl, newC, ints]
    omega
   ·have hlen : 13 < (spl (newC h.next w.length (codeC ⟨w, e, p, s, a⟩) (.vslice (some (h.next + 2)) e.length e.length 1 (ints e)) (.vslice (some (h.next + 3)) s.length s.length 1 (ints s)) (narr h.next a.length a) (e.getD f.toNat 0) fuel) 5 (ints args)).length := by
     simp [spl, newC, ints]
     omega
    have hcells := new_cells ⟨w, e, p, s, a⟩ h.next x.next f fuel args ha8
    have hrep := new_rep (args := args) (f := f) (fuel := fuel) hv hf ha8 n2 (spl (newC h.next w.length (codeC ⟨w, e, p, s, a⟩) (.vslice (some (h.next + 2)) e.length e.length 1 (ints e)) (.vslice (some (h.next + 3)) s.length s.length 1 (ints s)) (narr h.next a.length a) (e.getD f.toNat 0) fuel) 5 (ints args))
    rw [store_set hlen]
    rw [<- hcells] at hrep
    simp only [hgs] at hrep
    refine hk he _ _ hrep (fun i hi => ⟨?_, newR_old (by omega) hi⟩) ?_
    ·rw [get_set, if_neg (by omega), get_push, if_neg (by simp only [next_set, next_push]; omega), get_push, if_neg (by simp only [next_set]; omega), get_set, if_neg (by omega)]
     exact n2.ot i hi
    ·simp only [next_set, next_push]; omega
 ·exact hk.elim
def cCNew := addC 19 kCNew cCOut
theorem okCNew : Sound env cCNew := sound_add sCNew (okCOut)
end Go.Proofs.YtlenjfbmpekabaaDoor
