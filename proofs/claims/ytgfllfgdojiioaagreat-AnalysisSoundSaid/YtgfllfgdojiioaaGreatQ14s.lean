import Derived.Test.YtgfllfgdojiioaaGreatN14s
import Derived.Test.YtgfllfgdojiioaaGreatA14s
import Derived.KernelRfl
set_option linter.unusedVariables false
set_option linter.unusedSimpArgs false
namespace Go.Proofs.YtgfllfgdojiioaaGreat
open Go.Pv Go.M13 Go.M15 Go.M10 Go.M14
def kIntvA (xs : List IV) (h : Heap) (K : IV -> Heap -> Prop) : Prop := match xs with
 | [x, y] => kIntv [x, y] h K
 | _ => False
theorem sIntvA : ∀ xs h Q, kIntvA xs h Q -> CallW env 5 xs h Q := by
 intro xs h Q hk
 unfold kIntvA at hk
 split at hk
 ·exact sIntv _ _ _ hk
 ·exact hk.elim
def cIntvA := addC 5 kIntvA cAEx
theorem okIntvA : Sound env cIntvA := sound_add sIntvA (okAEx)
def kValuA (xs : List IV) (h : Heap) (K : IV -> Heap -> Prop) : Prop := match xs with
 | [x, y, z] => kValu [x, y, z] h K
 | _ => False
theorem sValuA : ∀ xs h Q, kValuA xs h Q -> CallW env 6 xs h Q := by
 intro xs h Q hk
 unfold kValuA at hk
 split at hk
 ·exact sValu _ _ _ hk
 ·exact hk.elim
def cValuA := addC 6 kValuA cIntvA
theorem okValuA : Sound env cValuA := sound_add sValuA (okIntvA)
def kArgsA (xs : List IV) (h : Heap) (K : IV -> Heap -> Prop) : Prop := match xs with
 | [x, y, z] => kArgs [x, y, z] h K
 | _ => False
theorem sArgsA : ∀ xs h Q, kArgsA xs h Q -> CallW env 7 xs h Q := by
 intro xs h Q hk
 unfold kArgsA at hk
 split at hk
 ·exact sArgs _ _ _ hk
 ·exact hk.elim
def cArgsA := addC 7 kArgsA cValuA
theorem okArgsA : Sound env cArgsA := sound_add sArgsA (okValuA)
def slInv (a b w : Int) : Inv' := atX (List Nd × List (Int × Int) × Nat) (fun x => [(1, .v (.int .i64 a)), (2, .v (.int .i64 b)), (3, .v (.int .i64 w)), (9, .v (.vslice none 0 (x.1).length 3 ((x.1).flatMap cN))), (10, .v (.vslice none 0 x.1.length 2 (x.2.1.flatMap cR))), (24, .v (.int .i64 (x.1.length : Int))), (25, .v (.int .i64 (x.2.2 : Int)))]) (fun _ => []) (fun _ => Heap.empty)
 (fun x => NW 14 x.1 /\ x.2.1.length = x.1.length /\ (∀ q, q < x.1.length -> IvOk x.1 q (x.2.1.getD q (0, 0))) /\ x.2.2 <= x.1.length) (fun x => 17 - x.2.2)
def kSoundL (xs : List IV) (h : Heap) (K : IV -> Heap -> Prop) : Prop := match xs with
 | [.vslice none e1 n1 1 c1, .int .i64 a, .int .i64 b, .int .i64 w] => ∃ l : List Int, (n1 = l.length /\ c1 = l.map (IV.int .i64)) /\ ((∀ x ∈ l, i64b x) /\ l.length <= 9223372036854775807 /\ i64b w) /\ K (.bool true) h
 | _ => False
set_option maxRecDepth 100000 in
theorem vSoundL (l : List Int) (a b w : Int) (e1 : Nat) (h : Heap) (Q : IV -> Heap -> Prop) : dF (stdS cArgsA) env 3 noU (ic1 7 (slInv a b w)) noI [.vslice none e1 (l).length 1 ((l).map (IV.int .i64)), .int .i64 a, .int .i64 b, .int .i64 w] h Q = (
 needS (pureL [IV.vslice none (0 : Nat) (List.length l) (1 : Nat) (List.map (IV.int IntKind.i64) l), IV.int IntKind.i64 a, IV.int IntKind.i64 b, IV.int IntKind.i64 w])
 (∃ (l_1 : List Int),
 (List.length l = List.length l_1 /\ List.map (IV.int IntKind.i64) l = List.map (IV.int IntKind.i64) l_1) /\
 ((∀ (x : Int), x ∈ l_1 -> i64b x) /\ List.length l_1 <= (9223372036854775807 : Nat)) /\
 ∀ (x : List Nd),
 NW (14 : Nat) x ->
 ∃ (l : List Nd),
 (List.length x = List.length l /\ List.flatMap cN x = List.flatMap cN l) /\
 WG l /\
 ∀ (R : List (Int × Int)),
 List.length R = List.length l ->
 (∀ (q : Nat), q < List.length l -> IvOk l q (List.getD R q ((0 : Int), (0 : Int)))) ->
 brS ((↑(List.length l) : Int) != (↑(List.length x) : Int)) (Q (IV.bool false) h)
 ((∃ (x_1 : List Nd × List (Int × Int) × Nat),
 some (TV.v (IV.int IntKind.i64 a)) = some (TV.v (IV.int IntKind.i64 a)) /\
 some (TV.v (IV.int IntKind.i64 b)) = some (TV.v (IV.int IntKind.i64 b)) /\
 some (TV.v (IV.int IntKind.i64 w)) = some (TV.v (IV.int IntKind.i64 w)) /\
 some (TV.v (IV.vslice none (0 : Nat) (List.length x) (3 : Nat) (List.flatMap cN x))) = some (TV.v (IV.vslice none (0 : Nat) (List.length (Prod.fst x_1)) (3 : Nat) (List.flatMap cN (Prod.fst x_1)))) /\
 some (TV.v (IV.vslice none (0 : Nat) (List.length l) (2 : Nat) (List.flatMap cR R))) =
 some (TV.v (IV.vslice none (0 : Nat) (List.length (Prod.fst x_1)) (2 : Nat) (List.flatMap cR (Prod.fst (Prod.snd x_1))))) /\
 some (TV.v (IV.int IntKind.i64 (↑(List.length x) : Int))) = some (TV.v (IV.int IntKind.i64 (↑(List.length (Prod.fst x_1)) : Int))) /\
 some (TV.v (IV.int IntKind.i64 (0 : Int))) = some (TV.v (IV.int IntKind.i64 (↑(Prod.snd (Prod.snd x_1)) : Int))) /\
 Heap.mk PT.nil (0 : Nat) = Heap.mk PT.nil (0 : Nat) /\
 (NW (14 : Nat) (Prod.fst x_1) /\
 List.length (Prod.fst (Prod.snd x_1)) = List.length (Prod.fst x_1) /\
 (∀ (q : Nat), q < List.length (Prod.fst x_1) -> IvOk (Prod.fst x_1) q (List.getD (Prod.fst (Prod.snd x_1)) q ((0 : Int), (0 : Int)))) /\
 Prod.snd (Prod.snd x_1) <= List.length (Prod.fst x_1)) /\
 True) /\
 ∀ (x : List Nd × List (Int × Int) × Nat) (b_1 : FF),
 NW (14 : Nat) (Prod.fst x) /\
 List.length (Prod.fst (Prod.snd x)) = List.length (Prod.fst x) /\
 (∀ (q : Nat), q < List.length (Prod.fst x) -> IvOk (Prod.fst x) q (List.getD (Prod.fst (Prod.snd x)) q ((0 : Int), (0 : Int)))) /\ Prod.snd (Prod.snd x) <= List.length (Prod.fst x) ->
 brS (decide ((↑(Prod.snd (Prod.snd x)) : Int) < (↑(List.length (Prod.fst x)) : Int)))
 (i64b w /\
 ∀ (x_1 y : Int),
 i64b x_1 ->
 i64b y ->
 ∃ (l : List Nd),
 ∃ (i : Nat),
 ∃ (args : List Int),
 (List.length (Prod.fst x) = List.length l /\
 List.flatMap cN (Prod.fst x) = List.flatMap cN l /\
 (↑(Prod.snd (Prod.snd x)) : Int) = (↑i : Int) /\ (2 : Nat) = List.length args /\ [IV.int IntKind.i64 x_1, IV.int IntKind.i64 y] = List.map (IV.int IntKind.i64) args) /\
 (WG l /\ i < List.length l /\ List.length args <= (1000000 : Nat)) /\
 ∀ (n : Int) (ok : Bool),
 (ok = true -> n = vl args l i) ->
 brS ok
 (needS (decide ((0 : Int) <= (↑(Prod.snd (Prod.snd x)) : Int)) && decide ((↑(Prod.snd (Prod.snd x)) : Int) < (↑(List.length (Prod.fst x)) : Int)))
 (ldIS IntKind.i64 (List.flatMap cR (Prod.fst (Prod.snd x))) (Int.toNat (↑(Prod.snd (Prod.snd x)) : Int) * (2 : Nat) + (0 : Nat)) fun (n0 : Int) =>
 brS (decide (n < n0)) (Q (IV.bool false) h)
 (needS (decide ((0 : Int) <= (↑(Prod.snd (Prod.snd x)) : Int)) && decide ((↑(Prod.snd (Prod.snd x)) : Int) < (↑(List.length (Prod.fst x)) : Int)))
 (ldIS IntKind.i64 (List.flatMap cR (Prod.fst (Prod.snd x))) (Int.toNat (↑(Prod.snd (Prod.snd x)) : Int) * (2 : Nat) + (1 : Nat)) fun (n1 : Int) =>
 brS (decide (n > n1)) (Q (IV.bool false) h)
 (∃ (x_2 : List Nd × List (Int × Int) × Nat),
 some (TV.v (IV.int IntKind.i64 a)) = some (TV.v (IV.int IntKind.i64 a)) /\
 some (TV.v (IV.int IntKind.i64 b)) = some (TV.v (IV.int IntKind.i64 b)) /\
 some (TV.v (IV.int IntKind.i64 w)) = some (TV.v (IV.int IntKind.i64 w)) /\
 some (TV.v (IV.vslice none (0 : Nat) (List.length (Prod.fst x)) (3 : Nat) (List.flatMap cN (Prod.fst x)))) =
 some (TV.v (IV.vslice none (0 : Nat) (List.length (Prod.fst x_2)) (3 : Nat) (List.flatMap cN (Prod.fst x_2)))) /\
 some (TV.v (IV.vslice none (0 : Nat) (List.length (Prod.fst x)) (2 : Nat) (List.flatMap cR (Prod.fst (Prod.snd x))))) =
 some (TV.v (IV.vslice none (0 : Nat) (List.length (Prod.fst x_2)) (2 : Nat) (List.flatMap cR (Prod.fst (Prod.snd x_2))))) /\
 some (TV.v (IV.int IntKind.i64 (↑(List.length (Prod.fst x)) : Int))) = some (TV.v (IV.int IntKind.i64 (↑(List.length (Prod.fst x_2)) : Int))) /\
 some (TV.v (IV.int IntKind.i64 (IntKind.wrap IntKind.i64 ((↑(Prod.snd (Prod.snd x)) : Int) + (1 : Int))))) =
 some (TV.v (IV.int IntKind.i64 (↑(Prod.snd (Prod.snd x_2)) : Int))) /\
 Heap.mk PT.nil (0 : Nat) = Heap.mk PT.nil (0 : Nat) /\
 (NW (14 : Nat) (Prod.fst x_2) /\
 List.length (Prod.fst (Prod.snd x_2)) = List.length (Prod.fst x_2) /\
 (∀ (q : Nat), q < List.length (Prod.fst x_2) -> IvOk (Prod.fst x_2) q (List.getD (Prod.fst (Prod.snd x_2)) q ((0 : Int), (0 : Int)))) /\
 Prod.snd (Prod.snd x_2) <= List.length (Prod.fst x_2)) /\
 (17 : Nat) - Prod.snd (Prod.snd x_2) < (17 : Nat) - Prod.snd (Prod.snd x))))))
 (∃ (x_2 : List Nd × List (Int × Int) × Nat),
 some (TV.v (IV.int IntKind.i64 a)) = some (TV.v (IV.int IntKind.i64 a)) /\
 some (TV.v (IV.int IntKind.i64 b)) = some (TV.v (IV.int IntKind.i64 b)) /\
 some (TV.v (IV.int IntKind.i64 w)) = some (TV.v (IV.int IntKind.i64 w)) /\
 some (TV.v (IV.vslice none (0 : Nat) (List.length (Prod.fst x)) (3 : Nat) (List.flatMap cN (Prod.fst x)))) =
 some (TV.v (IV.vslice none (0 : Nat) (List.length (Prod.fst x_2)) (3 : Nat) (List.flatMap cN (Prod.fst x_2)))) /\
 some (TV.v (IV.vslice none (0 : Nat) (List.length (Prod.fst x)) (2 : Nat) (List.flatMap cR (Prod.fst (Prod.snd x))))) =
 some (TV.v (IV.vslice none (0 : Nat) (List.length (Prod.fst x_2)) (2 : Nat) (List.flatMap cR (Prod.fst (Prod.snd x_2))))) /\
 some (TV.v (IV.int IntKind.i64 (↑(List.length (Prod.fst x)) : Int))) = some (TV.v (IV.int IntKind.i64 (↑(List.length (Prod.fst x_2)) : Int))) /\
 some (TV.v (IV.int IntKind.i64 (IntKind.wrap IntKind.i64 ((↑(Prod.snd (Prod.snd x)) : Int) + (1 : Int))))) =
 some (TV.v (IV.int IntKind.i64 (↑(Prod.snd (Prod.snd x_2)) : Int))) /\
 Heap.mk PT.nil (0 : Nat) = Heap.mk PT.nil (0 : Nat) /\
 (NW (14 : Nat) (Prod.fst x_2) /\
 List.length (Prod.fst (Prod.snd x_2)) = List.length (Prod.fst x_2) /\
 (∀ (q : Nat), q < List.length (Prod.fst x_2) -> IvOk (Prod.fst x_2) q (List.getD (Prod.fst (Prod.snd x_2)) q ((0 : Int), (0 : Int)))) /\
 Prod.snd (Prod.snd x_2) <= List.length (Prod.fst x_2)) /\
 (17 : Nat) - Prod.snd (Prod.snd x_2) < (17 : Nat) - Prod.snd (Prod.snd x)))
 (Q (IV.bool true) h)))) := by kernel_rfl
set_option maxHeartbeats 2000000 in
theorem sSoundL : ∀ xs h Q, kSoundL xs h Q -> CallW env 3 xs h Q := by
 intro xs h Q hk
 unfold kSoundL at hk
 split at hk
 ·rename_i e1 n1 c1 a b w
  obtain ⟨l, ⟨rfl, rfl⟩, hb, hk⟩ := hk
  refine dF_run (okArgsA) (vSoundL l a b w e1 h Q) ?_
  have tn : ∀ x : Nat, (x : Int).toNat = x := Int.toNat_natCast
  obtain ⟨hlb, hll, hw⟩ := hb
  refine needS_intro (by simp only [pureL, pureB, pureL_ints, Bool.and_true]) ⟨l, ⟨rfl, rfl⟩, ⟨hlb, hll⟩, fun x hx => ⟨x, ⟨rfl, rfl⟩, NW.wg hx (by omega), fun R hR hI => brS_intro (fun c => by rw [bne_iff_ne] at c; exact absurd rfl c) (fun _ => ⟨⟨(x, R, 0), (by first | rfl | exact True.intro), (by first | rfl | exact True.intro), (by first | rfl | exact True.intro), (by first | rfl | exact True.intro), (by first | rfl | exact True.intro), (by first | rfl | exact True.intro), (by first | rfl | exact True.intro), (by first | rfl | exact True.intro), ⟨hx, hR, hI, Nat.zero_le _⟩, trivial⟩, ?_⟩)⟩⟩
  rintro ⟨y, S, i⟩ _ ⟨hy, hS, hIy, hi⟩
  dsimp only at hy hS hIy hi ⊢
  have hyl := hy.1
  have hwg := NW.wg hy (by omega)
  refine brS_intro (fun c => ?_) (fun _ => hk)
  rw [decide_eq_true_eq] at c
  have hiy : i < y.length := by omega
  have hiS : i < S.length := by omega
  refine ⟨hw, fun p q hp hq => ⟨y, i, [p, q], ⟨rfl, rfl, rfl, rfl, rfl⟩, ⟨hwg, hiy, by simp⟩, fun n ok hn => ?_⟩⟩
  have ho := hIy i hiy
  rw [List.getD_eq_getElem?_getD, List.getElem?_eq_getElem hiS] at ho
  have hfin : ok = true -> S[i].1 <= n /\ n <= S[i].2 := fun e => by
   have := ho.2 [p, q] (fun x hx => by
    rcases List.mem_cons.1 hx with rfl | hx
    ·exact hp
    ·rw [List.mem_singleton.1 hx]; exact hq)
   rw [<- hn e] at this
   exact this
  have nxt : i + 1 <= y.length := hiy
  exact brS_intro (fun e => needS_intro (by simp; omega) (ldI_at (by rw [tn]; exact (cH_at hiS).1) (brS_intro (fun c2 => absurd (of_decide_eq_true c2) (by have := hfin e; omega)) (fun _ => needS_intro (by simp; omega) (ldI_at (by rw [tn]; exact (cH_at hiS).2) (brS_intro (fun c2 => absurd (of_decide_eq_true c2) (by have := hfin e; omega)) (fun _ => ⟨(y, S, i + 1), (by first | rfl | exact True.intro), (by first | rfl | exact True.intro), (by first | rfl | exact True.intro), (by first | rfl | exact True.intro), (by first | rfl | exact True.intro), (by first | rfl | exact True.intro), (by rw [IntWalk.i64_in _ (by omega)]; rfl), (by first | rfl | exact True.intro), ⟨hy, hS, hIy, nxt⟩, by dsimp only; omega⟩))))))) (fun _ => ⟨(y, S, i + 1), (by first | rfl | exact True.intro), (by first | rfl | exact True.intro), (by first | rfl | exact True.intro), (by first | rfl | exact True.intro), (by first | rfl | exact True.intro), (by first | rfl | exact True.intro), (by rw [IntWalk.i64_in _ (by omega)]; rfl), (by first | rfl | exact True.intro), ⟨hy, hS, hIy, nxt⟩, by dsimp only; omega⟩)
 ·exact hk.elim
def cSoundL := addC 3 kSoundL cArgsA
theorem okSoundL : Sound env cSoundL := sound_add sSoundL (okArgsA)
end Go.Proofs.YtgfllfgdojiioaaGreat
