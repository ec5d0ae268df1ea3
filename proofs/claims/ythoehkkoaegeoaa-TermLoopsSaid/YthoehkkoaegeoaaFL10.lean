/-
  Terms: the program's reader: next, word, put.
  Conditions: none.
-/
import Derived.Test.YthoehkkoaegeoaaEL10
import Derived.KernelRfl
set_option linter.unusedVariables false
set_option linter.unusedSimpArgs false
namespace Go.Proofs.Ythoehkkoaegeoaa
open Go.Pv Go.M15 Go.M10 Go.M29
def kNextc (xs : List IV) (h : Heap) (K : IV → Heap → Prop) : Prop := match xs with
  | [.ptr id 0, .int .u8 c] => ∃ (s : List UInt8) (a : Nat) (y : List Nd) (m : Nat) (io : Option Nat), RH h id s a y m io ∧ s.length ≤ 20000 ∧ K (.bool (nx s a c)) h
  | _ => False
set_option maxRecDepth 100000 in
theorem vNextc (id : Nat) (c : Int) (h : Heap) (Q : IV → Heap → Prop) : dF (stdS cOper) env 33 noU noI noI [.ptr id 0, .int .u8 c] h Q = (
  hgetS h id fun (r0 : List IV) =>
 ldBS r0 (2 : Nat) fun (b1 : Bool) =>
 brS (!b1)
 (hgetS h id fun (r2 : List IV) =>
 ldIS IntKind.i64 r2 (1 : Nat) fun (n3 : Int) =>
 hgetS h id fun (r4 : List IV) =>
 ldSS r4 (0 : Nat) fun (s5 : List UInt8) =>
 brS (decide (n3 < (↑(List.length s5) : Int)))
 (hgetS h id fun (r6 : List IV) =>
 ldSS r6 (0 : Nat) fun (s7 : List UInt8) =>
 hgetS h id fun (r8 : List IV) => ldIS IntKind.i64 r8 (1 : Nat) fun (n9 : Int) => needS (decide ((0 : Int) ≤ n9)) (chrS s7 (Int.toNat n9) fun (c10 : Int) => Q (IV.bool (c10 == c)) h))
 (Q (IV.bool false) h))
 (Q (IV.bool false) h)) := by kernel_rfl
theorem sNextc : ∀ xs h Q, kNextc xs h Q → CallW env 33 xs h Q := by
  intro xs h Q hk
  unfold kNextc at hk
  split at hk
  · rename_i id c
    obtain ⟨s, a, y, m, io, hr, hsl, hk⟩ := hk
    refine dF_run (okOper) (vNextc id c h Q) ?_
    obtain ⟨⟨q1, q2, q3⟩, gm, lv, gi, hlv⟩ := hr
    refine hget_intro gi (ldB_at rfl (brS_intro (fun _ => hget_intro gi (ldI_at rfl (hget_intro gi (ldS_at rfl ?_)))) (fun c => by cases c)))
    refine brS_intro (fun c => ?_) (fun c => ?_)
    · rw [decide_eq_true_eq] at c
      have hlt : a < s.length := by omega
      refine hget_intro gi (ldS_at rfl (hget_intro gi (ldI_at rfl (needS_intro (by simp) ?_))))
      rw [Int.toNat_natCast]
      refine chr_at hlt ?_
      unfold nx at hk
      rw [List.getElem?_eq_getElem hlt] at hk
      exact hk
    · rw [decide_eq_false_iff_not] at c
      unfold nx at hk
      rw [List.getElem?_eq_none (by omega)] at hk
      exact hk
  · exact hk.elim
def cNextc := addC 33 kNextc cOper
theorem okNextc : Sound env cNextc := sound_add sNextc (okOper)

def wcInv (id a : Nat) (w : List UInt8) (h : Heap) : Inv' := atX Nat (fun j => [(0, .v (.ptr id 0)), (3, .v (.int .i64 ((a + j : Nat) : Int)))]) (fun _ => []) (fun _ => h) (fun j => j ≤ w.length) (fun j => w.length - j)
def kWordc (xs : List IV) (h : Heap) (K : IV → Heap → Prop) : Prop := match xs with
  | [.ptr id 0] => ∃ (s : List UInt8) (a : Nat) (y : List Nd) (m : Nat) (io : Option Nat) (w r : List UInt8), RH h id s a y m io ∧ (s.drop a = w ++ r ∧ a ≤ s.length ∧ s.length ≤ 20000) ∧ (∀ c ∈ w, wd c) ∧ We r ∧ K (.str w) h
  | _ => False
set_option maxRecDepth 100000 in
theorem vWordc (id : Nat) (s : List UInt8) (a : Nat) (y : List Nd) (m : Nat) (io : Option Nat) (w r : List UInt8) (h : Heap) (Q : IV → Heap → Prop) : dF (stdS cNextc) env 34 noU (ic1 3 (wcInv id a w h)) noI [.ptr id 0] h Q = (
  hgetS h id fun (r0 : List IV) =>
 ldIS IntKind.i64 r0 (1 : Nat) fun (n1 : Int) =>
 (∃ (x : Nat), some (TV.v (IV.ptr id (0 : Nat))) = some (TV.v (IV.ptr id (0 : Nat))) ∧ some (TV.v (IV.int IntKind.i64 n1)) = some (TV.v (IV.int IntKind.i64 (↑(a + x) : Int))) ∧ h = h ∧ Nat.le x (List.length w) ∧ True) ∧
 ∀ (x : Nat) (b : FF),
 x ≤ List.length w →
 hgetS h id fun (r2 : List IV) =>
 ldSS r2 (0 : Nat) fun (s3 : List UInt8) =>
 brS (decide ((↑(a + x) : Int) < (↑(List.length s3) : Int)))
 (hgetS h id fun (r4 : List IV) =>
 ldSS r4 (0 : Nat) fun (s5 : List UInt8) =>
 chrS s5 (Int.toNat (↑(a + x) : Int)) fun (c6 : Int) =>
 brS (c6 != (32 : Int))
 (hgetS h id fun (r7 : List IV) =>
 ldSS r7 (0 : Nat) fun (s8 : List UInt8) =>
 chrS s8 (Int.toNat (↑(a + x) : Int)) fun (c9 : Int) =>
 brS (c9 != (40 : Int))
 (hgetS h id fun (r10 : List IV) =>
 ldSS r10 (0 : Nat) fun (s11 : List UInt8) =>
 chrS s11 (Int.toNat (↑(a + x) : Int)) fun (c12 : Int) =>
 brS (c12 != (41 : Int))
 (∃ (x_1 : Nat),
 some (TV.v (IV.ptr id (0 : Nat))) = some (TV.v (IV.ptr id (0 : Nat))) ∧
 some (TV.v (IV.int IntKind.i64 (IntKind.wrap IntKind.i64 ((↑(a + x) : Int) + (1 : Int))))) = some (TV.v (IV.int IntKind.i64 (↑(a + x_1) : Int))) ∧
 h = h ∧ Nat.le x_1 (List.length w) ∧ List.length w - x_1 < List.length w - x)
 (hgetS h id fun (r13 : List IV) =>
 ldSS r13 (0 : Nat) fun (s14 : List UInt8) =>
 hgetS h id fun (r15 : List IV) =>
 ldIS IntKind.i64 r15 (1 : Nat) fun (n16 : Int) =>
 needS (decide ((0 : Int) ≤ n16) && (decide (n16 ≤ (↑(a + x) : Int)) && decide ((↑(a + x) : Int) ≤ (↑(List.length s14) : Int))))
 (Q (IV.str (List.take (Int.toNat (↑(a + x) : Int) - Int.toNat n16) (List.drop (Int.toNat n16) s14))) h)))
 (hgetS h id fun (r17 : List IV) =>
 ldSS r17 (0 : Nat) fun (s18 : List UInt8) =>
 hgetS h id fun (r19 : List IV) =>
 ldIS IntKind.i64 r19 (1 : Nat) fun (n20 : Int) =>
 needS (decide ((0 : Int) ≤ n20) && (decide (n20 ≤ (↑(a + x) : Int)) && decide ((↑(a + x) : Int) ≤ (↑(List.length s18) : Int))))
 (Q (IV.str (List.take (Int.toNat (↑(a + x) : Int) - Int.toNat n20) (List.drop (Int.toNat n20) s18))) h)))
 (hgetS h id fun (r21 : List IV) =>
 ldSS r21 (0 : Nat) fun (s22 : List UInt8) =>
 hgetS h id fun (r23 : List IV) =>
 ldIS IntKind.i64 r23 (1 : Nat) fun (n24 : Int) =>
 needS (decide ((0 : Int) ≤ n24) && (decide (n24 ≤ (↑(a + x) : Int)) && decide ((↑(a + x) : Int) ≤ (↑(List.length s22) : Int))))
 (Q (IV.str (List.take (Int.toNat (↑(a + x) : Int) - Int.toNat n24) (List.drop (Int.toNat n24) s22))) h)))
 (hgetS h id fun (r25 : List IV) =>
 ldSS r25 (0 : Nat) fun (s26 : List UInt8) =>
 hgetS h id fun (r27 : List IV) =>
 ldIS IntKind.i64 r27 (1 : Nat) fun (n28 : Int) =>
 needS (decide ((0 : Int) ≤ n28) && (decide (n28 ≤ (↑(a + x) : Int)) && decide ((↑(a + x) : Int) ≤ (↑(List.length s26) : Int))))
 (Q (IV.str (List.take (Int.toNat (↑(a + x) : Int) - Int.toNat n28) (List.drop (Int.toNat n28) s26))) h))) := by kernel_rfl
theorem sWordc : ∀ xs h Q, kWordc xs h Q → CallW env 34 xs h Q := by
  intro xs h Q hk
  unfold kWordc at hk
  split at hk
  · rename_i id
    obtain ⟨s, a, y, m, io, w, r, hr, hs, hw, he, hk⟩ := hk
    refine dF_run (okNextc) (vWordc id s a y m io w r h Q) ?_
    have tn : ∀ x : Nat, (x : Int).toNat = x := Int.toNat_natCast
    obtain ⟨⟨q1, q2, q3⟩, gm, lv, gi, hlv⟩ := hr
    obtain ⟨hd, hal, hsl⟩ := hs
    have hlen : s.length = a + (w.length + r.length) := by
      have := congrArg List.length hd
      rw [List.length_drop, List.length_append] at this
      omega
    have hat : ∀ {j : Nat} (h : j < w.length), ∃ q : a + j < s.length, s[a + j] = w[j] := fun {j} h => by
      have hq : a + j < s.length := by omega
      refine ⟨hq, ?_⟩
      have e : (s.drop a)[j]? = (w ++ r)[j]? := by rw [hd]
      rw [List.getElem?_drop, List.getElem?_append_left h, List.getElem?_eq_getElem hq, List.getElem?_eq_getElem h, Option.some.injEq] at e
      exact e
    have k32 : ∀ b : UInt8, ((b.toNat : Int) != 32) = !decide (b = 32) := fun b => congrArg (! ·) (u8_eq (b := b) (k := 32))
    have k40 : ∀ b : UInt8, ((b.toNat : Int) != 40) = !decide (b = 40) := fun b => congrArg (! ·) (u8_eq (b := b) (k := 40))
    have k41 : ∀ b : UInt8, ((b.toNat : Int) != 41) = !decide (b = 41) := fun b => congrArg (! ·) (u8_eq (b := b) (k := 41))
    refine hget_intro gi (ldI_at rfl ⟨⟨0, (by first | rfl | exact True.intro), (by first | rfl | exact True.intro), (by first | rfl | exact True.intro), Nat.zero_le _, trivial⟩, ?_⟩)
    rintro j _ hj
    try dsimp only at hj ⊢
    have fin : j = w.length → (hgetS h id fun r1 => ldSS r1 0 fun s1 => hgetS h id fun r2 => ldIS .i64 r2 1 fun n => needS (decide (0 ≤ n) && (decide (n ≤ ((a + j : Nat) : Int)) && decide (((a + j : Nat) : Int) ≤ (s1.length : Int)))) (Q (.str ((s1.drop n.toNat).take (((a + j : Nat) : Int).toNat - n.toNat))) h)) := fun e => by
      subst e
      refine hget_intro gi (ldS_at rfl (hget_intro gi (ldI_at rfl (needS_intro (by simp; omega) ?_))))
      rw [tn, tn, hd, show a + w.length - a = w.length by omega, List.take_left']
      · exact hk
      · rfl
    refine hget_intro gi (ldS_at rfl ?_)
    refine brS_intro (fun c => ?_) (fun c => ?_)
    · rw [decide_eq_true_eq] at c
      have hlt : a + j < s.length := by omega
      refine hget_intro gi (ldS_at rfl ?_)
      rw [tn]
      refine chr_at hlt ?_
      rw [k32]
      by_cases hjw : j < w.length
      · obtain ⟨_, e⟩ := hat hjw
        have hwd := hw _ (List.getElem_mem hjw)
        rw [← e] at hwd
        refine brS_intro (fun _ => hget_intro gi (ldS_at rfl ?_)) (fun c1 => by simp [hwd.1] at c1)
        refine chr_at hlt ?_
        rw [k40]
        refine brS_intro (fun _ => hget_intro gi (ldS_at rfl ?_)) (fun c1 => by simp [hwd.2.1] at c1)
        refine chr_at hlt ?_
        rw [k41]
        refine brS_intro (fun _ => ⟨j + 1, (by first | rfl | exact True.intro), ?_, (by first | rfl | exact True.intro), hjw, by omega⟩) (fun c1 => by simp [hwd.2.2] at c1)
        rw [IntWalk.i64_in _ (by omega)]; rfl
      · obtain rfl : j = w.length := by omega
        have e : (s.drop a)[w.length]? = (w ++ r)[w.length]? := by rw [hd]
        rw [List.getElem?_drop, List.getElem?_append_right (Nat.le_refl _), Nat.sub_self, List.getElem?_eq_getElem hlt] at e
        have hr0 : s[a + w.length] = 32 ∨ s[a + w.length] = 40 ∨ s[a + w.length] = 41 := by
          cases r with
          | nil => cases e
          | cons c q =>
            rw [List.getElem?_cons_zero, Option.some.injEq] at e
            rw [e]
            exact he c q rfl
        refine brS_intro (fun c1 => hget_intro gi (ldS_at rfl ?_)) (fun c1 => fin rfl)
        refine chr_at hlt ?_
        rw [k40]
        refine brS_intro (fun c2 => hget_intro gi (ldS_at rfl ?_)) (fun c1 => fin rfl)
        refine chr_at hlt ?_
        rw [k41]
        refine brS_intro (fun c3 => ?_) (fun c1 => fin rfl)
        exfalso
        simp at c1 c2 c3
        rcases hr0 with q | q | q
        · exact c1 q
        · exact c2 q
        · exact c3 q
    · rw [decide_eq_false_iff_not] at c
      exact fin (by omega)
  · exact hk.elim
def cWordc := addC 34 kWordc cNextc
theorem okWordc : Sound env cWordc := sound_add sWordc (okNextc)

def kRPutN (xs : List IV) (h : Heap) (K : IV → Heap → Prop) : Prop := match xs with
  | [.ptr id 0, .int .i64 op, .int .i64 im, .nilslice] => ∃ (s : List UInt8) (a : Nat) (y : List Nd) (m : Nat) (io : Option Nat), RH h id s a y m io ∧ (okY ⟨op, im, ([] : List Int)⟩ ∧ (∀ x ∈ y, okY x) ∧ y.length ≤ 1000000 ∧ (([] : List Int)).length ≤ 1000000) ∧
   ∀ (h2 : Heap) (io2 : Option Nat), RH h2 id s a (putA y ⟨op, im, ([] : List Int)⟩).1 m io2 → FRo id m io h h2 → IOk h io io2 → K (.int .i64 (putA y ⟨op, im, ([] : List Int)⟩).2) h2
  | _ => False
set_option maxRecDepth 100000 in
theorem vRPutN (id : Nat) (op im : Int) (h : Heap) (Q : IV → Heap → Prop) : dF (stdS cWordc) env 36 (fun k => 2) noI noI [.ptr id 0, .int .i64 op, .int .i64 im, .nilslice] h Q = (
  hgetS h id fun (r0 : List IV) =>
 ldBS r0 (2 : Nat) fun (b1 : Bool) =>
 brS b1 (Q (IV.int IntKind.i64 (0 : Int)) h)
 (∀ (i : Nat) (h2 : Heap),
 Heap.get h2 i = IObj.tip (9 : Nat) →
 Heap.next h ≤ i →
 i < Heap.next h2 →
 (∀ (j : Nat), j < Heap.next h → Heap.get h2 j = Heap.get h j) →
 hgetS h2 id fun (r2 : List IV) =>
 ldMS r2 (4 : Nat) fun (i3 : Nat) =>
 mlookS h2 i3 TypeDesc.string
 (IV.str
 [UInt8.ofNat (Int.toNat (IntKind.wrap IntKind.u8 op)), UInt8.ofNat (Int.toNat (IntKind.wrap IntKind.u8 (Int.fdiv (IntKind.wrap IntKind.u64 im) (1 : Int)))),
 UInt8.ofNat (Int.toNat (IntKind.wrap IntKind.u8 (Int.fdiv (IntKind.wrap IntKind.u64 im) (256 : Int)))), UInt8.ofNat (Int.toNat (IntKind.wrap IntKind.u8 (Int.fdiv (IntKind.wrap IntKind.u64 im) (65536 : Int)))),
 UInt8.ofNat (Int.toNat (IntKind.wrap IntKind.u8 (Int.fdiv (IntKind.wrap IntKind.u64 im) (16777216 : Int)))),
 UInt8.ofNat (Int.toNat (IntKind.wrap IntKind.u8 (Int.fdiv (IntKind.wrap IntKind.u64 im) (4294967296 : Int)))),
 UInt8.ofNat (Int.toNat (IntKind.wrap IntKind.u8 (Int.fdiv (IntKind.wrap IntKind.u64 im) (1099511627776 : Int)))),
 UInt8.ofNat (Int.toNat (IntKind.wrap IntKind.u8 (Int.fdiv (IntKind.wrap IntKind.u64 im) (281474976710656 : Int)))),
 UInt8.ofNat (Int.toNat (IntKind.wrap IntKind.u8 (Int.fdiv (IntKind.wrap IntKind.u64 im) (72057594037927936 : Int))))])
 (fun (r4 : List IV) => ldIS IntKind.i64 r4 (0 : Nat) fun (n5 : Int) => Q (IV.int IntKind.i64 n5) h2)
 (hgetS h2 id fun (r6 : List IV) =>
 ldNVS (3 : Nat) r6 (3 : Nat)
 (hgetS h2 id fun (r7 : List IV) =>
 ldMS r7 (4 : Nat) fun (i8 : Nat) =>
 mupdS h2 i8 TypeDesc.string
 (IV.str
 [UInt8.ofNat (Int.toNat (IntKind.wrap IntKind.u8 op)), UInt8.ofNat (Int.toNat (IntKind.wrap IntKind.u8 (Int.fdiv (IntKind.wrap IntKind.u64 im) (1 : Int)))),
 UInt8.ofNat (Int.toNat (IntKind.wrap IntKind.u8 (Int.fdiv (IntKind.wrap IntKind.u64 im) (256 : Int)))),
 UInt8.ofNat (Int.toNat (IntKind.wrap IntKind.u8 (Int.fdiv (IntKind.wrap IntKind.u64 im) (65536 : Int)))),
 UInt8.ofNat (Int.toNat (IntKind.wrap IntKind.u8 (Int.fdiv (IntKind.wrap IntKind.u64 im) (16777216 : Int)))),
 UInt8.ofNat (Int.toNat (IntKind.wrap IntKind.u8 (Int.fdiv (IntKind.wrap IntKind.u64 im) (4294967296 : Int)))),
 UInt8.ofNat (Int.toNat (IntKind.wrap IntKind.u8 (Int.fdiv (IntKind.wrap IntKind.u64 im) (1099511627776 : Int)))),
 UInt8.ofNat (Int.toNat (IntKind.wrap IntKind.u8 (Int.fdiv (IntKind.wrap IntKind.u64 im) (281474976710656 : Int)))),
 UInt8.ofNat (Int.toNat (IntKind.wrap IntKind.u8 (Int.fdiv (IntKind.wrap IntKind.u64 im) (72057594037927936 : Int))))])
 (IV.int IntKind.i64 (0 : Int)) fun (es9 : List (IV × IV)) =>
 hgetS (Heap.set h2 i8 (IObj.map es9)) id fun (r10 : List IV) =>
 ldNVS (3 : Nat) r10 (3 : Nat)
 (hgetS (Heap.push (Heap.set h2 i8 (IObj.map es9)) (IObj.tip (3 : Nat))) id fun (r11 : List IV) =>
 needS (Nat.ble (4 : Nat) (List.length r11))
 (Q (IV.int IntKind.i64 (0 : Int))
 (Heap.set (Heap.push (Heap.set h2 i8 (IObj.map es9)) (IObj.tip (3 : Nat))) id
 (IObj.cells
 (List.take (3 : Nat) r11 ++ [IV.vslice (some (Heap.next h2)) (3 : Nat) (1 : Nat) (3 : Nat) [IV.int IntKind.i64 op, IV.int IntKind.i64 im, IV.vslice none (0 : Nat) (0 : Nat) (1 : Nat) []]] ++
 List.drop (4 : Nat) r11)))))
 fun (i12 e13 l14 : Nat) (c15 : List IV) =>
 tipS (Heap.set h2 i8 (IObj.map es9)) i12 fun (m16 : Nat) =>
 needS (Nat.beq m16 e13 && Nat.ble ((l14 + (1 : Nat)) * (40 : Nat)) (140737488355328 : Nat))
 (hgetS (Heap.set (Heap.set h2 i8 (IObj.map es9)) i12 (IObj.tip (e13 + (3 : Nat)))) id fun (r17 : List IV) =>
 needS (Nat.ble (4 : Nat) (List.length r17))
 (Q (IV.int IntKind.i64 (0 : Int))
 (Heap.set (Heap.set (Heap.set h2 i8 (IObj.map es9)) i12 (IObj.tip (e13 + (3 : Nat)))) id
 (IObj.cells
 (List.take (3 : Nat) r17 ++
 [IV.vslice (some i12) (e13 + (3 : Nat)) (l14 + (1 : Nat)) (3 : Nat) (c15 ++ [IV.int IntKind.i64 op, IV.int IntKind.i64 im, IV.vslice none (0 : Nat) (0 : Nat) (1 : Nat) []])] ++
 List.drop (4 : Nat) r17))))))
 fun (i18 e19 l20 : Nat) (c21 : List IV) =>
 hgetS h2 id fun (r22 : List IV) =>
 ldMS r22 (4 : Nat) fun (i23 : Nat) =>
 mupdS h2 i23 TypeDesc.string
 (IV.str
 [UInt8.ofNat (Int.toNat (IntKind.wrap IntKind.u8 op)), UInt8.ofNat (Int.toNat (IntKind.wrap IntKind.u8 (Int.fdiv (IntKind.wrap IntKind.u64 im) (1 : Int)))),
 UInt8.ofNat (Int.toNat (IntKind.wrap IntKind.u8 (Int.fdiv (IntKind.wrap IntKind.u64 im) (256 : Int)))),
 UInt8.ofNat (Int.toNat (IntKind.wrap IntKind.u8 (Int.fdiv (IntKind.wrap IntKind.u64 im) (65536 : Int)))),
 UInt8.ofNat (Int.toNat (IntKind.wrap IntKind.u8 (Int.fdiv (IntKind.wrap IntKind.u64 im) (16777216 : Int)))),
 UInt8.ofNat (Int.toNat (IntKind.wrap IntKind.u8 (Int.fdiv (IntKind.wrap IntKind.u64 im) (4294967296 : Int)))),
 UInt8.ofNat (Int.toNat (IntKind.wrap IntKind.u8 (Int.fdiv (IntKind.wrap IntKind.u64 im) (1099511627776 : Int)))),
 UInt8.ofNat (Int.toNat (IntKind.wrap IntKind.u8 (Int.fdiv (IntKind.wrap IntKind.u64 im) (281474976710656 : Int)))),
 UInt8.ofNat (Int.toNat (IntKind.wrap IntKind.u8 (Int.fdiv (IntKind.wrap IntKind.u64 im) (72057594037927936 : Int))))])
 (IV.int IntKind.i64 (↑l20 : Int)) fun (es24 : List (IV × IV)) =>
 hgetS (Heap.set h2 i23 (IObj.map es24)) id fun (r25 : List IV) =>
 ldNVS (3 : Nat) r25 (3 : Nat)
 (hgetS (Heap.push (Heap.set h2 i23 (IObj.map es24)) (IObj.tip (3 : Nat))) id fun (r26 : List IV) =>
 needS (Nat.ble (4 : Nat) (List.length r26))
 (Q (IV.int IntKind.i64 (↑l20 : Int))
 (Heap.set (Heap.push (Heap.set h2 i23 (IObj.map es24)) (IObj.tip (3 : Nat))) id
 (IObj.cells
 (List.take (3 : Nat) r26 ++ [IV.vslice (some (Heap.next h2)) (3 : Nat) (1 : Nat) (3 : Nat) [IV.int IntKind.i64 op, IV.int IntKind.i64 im, IV.vslice none (0 : Nat) (0 : Nat) (1 : Nat) []]] ++
 List.drop (4 : Nat) r26)))))
 fun (i27 e28 l29 : Nat) (c30 : List IV) =>
 tipS (Heap.set h2 i23 (IObj.map es24)) i27 fun (m31 : Nat) =>
 needS (Nat.beq m31 e28 && Nat.ble ((l29 + (1 : Nat)) * (40 : Nat)) (140737488355328 : Nat))
 (hgetS (Heap.set (Heap.set h2 i23 (IObj.map es24)) i27 (IObj.tip (e28 + (3 : Nat)))) id fun (r32 : List IV) =>
 needS (Nat.ble (4 : Nat) (List.length r32))
 (Q (IV.int IntKind.i64 (↑l20 : Int))
 (Heap.set (Heap.set (Heap.set h2 i23 (IObj.map es24)) i27 (IObj.tip (e28 + (3 : Nat)))) id
 (IObj.cells
 (List.take (3 : Nat) r32 ++
 [IV.vslice (some i27) (e28 + (3 : Nat)) (l29 + (1 : Nat)) (3 : Nat) (c30 ++ [IV.int IntKind.i64 op, IV.int IntKind.i64 im, IV.vslice none (0 : Nat) (0 : Nat) (1 : Nat) []])] ++
 List.drop (4 : Nat) r32)))))))) := by kernel_rfl
set_option maxHeartbeats 2000000 in
theorem sRPutN : ∀ xs h Q, kRPutN xs h Q → CallW env 36 xs h Q := by
  intro xs h Q hk
  unfold kRPutN at hk
  split at hk
  · rename_i id op im
    obtain ⟨s, a, y, m, io, hr, hb, hk⟩ := hk
    refine dF_run (okWordc) (vRPutN id op im h Q) ?_
    obtain ⟨hn, hy, hyl, hkl⟩ := hb
    obtain ⟨_, _, lv0, gi0, _⟩ := (show RH h id s a y m io from hr)
    refine hget_intro gi0 (ldB_at rfl (brS_intro (fun c => by cases c) (fun _ => ?_)))
    intro i g hgi hi1 hi2 hfr0
    have rg : RH g id s a y m io := hr.frame (by omega) hfr0
    have hfr : FRo id m io h g := ⟨by omega, fun j h1 _ _ _ => hfr0 j h1⟩
    have hlk := look_ixY hn hy
    obtain ⟨⟨q1, q2, q3⟩, gm, lv, gi, hlv⟩ := (show RH g id s a y m io from rg)
    refine hget_intro gi (ldM_at rfl ?_)
    cases e : fidx ⟨op, im, ([] : List Int)⟩ y 0 with
    | some i =>
      rw [e] at hlk
      have hp : putA y ⟨op, im, ([] : List Int)⟩ = (y, (i : Int)) := by unfold putA; rw [e]
      rw [hp] at hk
      refine mlook_some gm (by show findIV _ (.str (kyF ⟨op, im, ([] : List Int)⟩)) _ = _; rw [find_cE, hlk]; rfl) (ldI_at rfl ?_)
      exact hk _ io rg hfr IOk.refl
    | none =>
      rw [e] at hlk
      have hp : putA y ⟨op, im, ([] : List Int)⟩ = (y ++ [⟨op, im, ([] : List Int)⟩], (y.length : Int)) := by unfold putA; rw [e]
      rw [hp] at hk
      refine mlook_none gm (by show findIV _ (.str (kyF ⟨op, im, ([] : List Int)⟩)) _ = _; rw [find_cE, hlk]; rfl) (hget_intro gi ?_)
      rcases hlv with ⟨rfl, rfl, rfl⟩ | ⟨iL, rfl, rfl, t1, t2, t3, t4, t5⟩
      · refine ldNV_nil rfl (hget_intro gi (ldM_at rfl (mupd_intro gm (upd_cE (kyF ⟨op, im, ([] : List Int)⟩) 0 _ (by rw [hlk]; rfl)) (hget_intro ((get_set_ne q3).trans gi) (ldNV_nil rfl (hget_intro ((get_push_lt (by exact q1)).trans ((get_set_ne q3).trans gi)) (needS_intro rfl ?_)))))))
        refine hk _ _ (put_nil rg hn) (hfr.trans IOk.refl ⟨Nat.le_succ _, fun j h1 h2 h3 _ => ?_⟩) (.inr ⟨rfl, _, rfl, hfr.1⟩)
        rw [get_set_ne h2, get_push_lt (by exact h1), get_set_ne h3]
      · refine ldNV_v rfl (hget_intro gi (ldM_at rfl (mupd_intro gm (upd_cE (kyF ⟨op, im, ([] : List Int)⟩) (y.length : Int) _ (by rw [hlk]; rfl)) (hget_intro ((get_set_ne q3).trans gi) (ldNV_v rfl (tip_intro ((get_set_ne t4).trans t1) (needS_intro (by simp only [Bool.and_eq_true, nbeq_t, Nat.ble_eq, true_and]; omega) (hget_intro ((get_set_ne t3.symm).trans ((get_set_ne q3).trans gi)) (needS_intro rfl ?_)))))))))
        refine hk _ _ (put_some rg hn hy e) (hfr.trans IOk.refl ⟨Nat.le_refl _, fun j h1 h2 h3 h4 => ?_⟩) IOk.refl
        rw [get_set_ne h2, get_set_ne (fun q => h4 (by rw [q])), get_set_ne h3]
  · exact hk.elim
def cRPutN := addC 36 kRPutN cWordc
theorem okRPutN : Sound env cRPutN := sound_add sRPutN (okWordc)

def rpInv (id : Nat) (op im : Int) (i2 : Option Nat) (e1 : Nat) (ks : List Int) (h : Heap) : Inv' := atX (Nat × Nat × Heap × List IV) (fun x => [(0, .v (.ptr id 0)), (1, .v (.int .i64 op)), (2, .v (.int .i64 im)), (3, .v (.vslice i2 e1 ks.length 1 (ks.map (IV.int .i64)))), (9, .v (.vslice (some x.2.1) (9 + 8 * x.1) (9 + 8 * x.1) 1 x.2.2.2)), (24, .v (.vslice i2 e1 ks.length 1 (ks.map (IV.int .i64)))), (25, .v (.int .i64 ks.length)), (26, .v (.int .i64 x.1))]) (fun _ => []) (fun x => x.2.2.1)
  (fun x => x.1 ≤ ks.length ∧ x.2.2.1.get x.2.1 = .tip (9 + 8 * x.1) ∧ isKyc ⟨op, im, ks.take x.1⟩ x.2.2.2 ∧ (h.next ≤ x.2.1 ∧ x.2.1 < x.2.2.1.next) ∧ ∀ j, j < h.next → x.2.2.1.get j = h.get j) (fun x => ks.length - x.1)
def kRPutV (xs : List IV) (h : Heap) (K : IV → Heap → Prop) : Prop := match xs with
  | [.ptr id 0, .int .i64 op, .int .i64 im, .vslice i2 e1 n1 1 c1] => ∃ ks : List Int, (n1 = ks.length ∧ c1 = ks.map (IV.int .i64)) ∧ ∃ (s : List UInt8) (a : Nat) (y : List Nd) (m : Nat) (io : Option Nat), RH h id s a y m io ∧ (okY ⟨op, im, ks⟩ ∧ (∀ x ∈ y, okY x) ∧ y.length ≤ 1000000 ∧ (ks).length ≤ 1000000) ∧
   ∀ (h2 : Heap) (io2 : Option Nat), RH h2 id s a (putA y ⟨op, im, ks⟩).1 m io2 → FRo id m io h h2 → IOk h io io2 → K (.int .i64 (putA y ⟨op, im, ks⟩).2) h2
  | _ => False
set_option maxRecDepth 100000 in
theorem vRPutV (id : Nat) (op im : Int) (i2 : Option Nat) (e1 : Nat) (ks : List Int) (h : Heap) (Q : IV → Heap → Prop) : dF (stdS cRPutN) env 36 noU (ic1 6 (rpInv id op im i2 e1 ks h)) noI [.ptr id 0, .int .i64 op, .int .i64 im, .vslice i2 e1 ks.length 1 (ks.map (IV.int .i64))] h Q = (
  hgetS h id fun (r0 : List IV) =>
 ldBS r0 (2 : Nat) fun (b1 : Bool) =>
 brS b1 (Q (IV.int IntKind.i64 (0 : Int)) h)
 (∀ (i : Nat) (h2 : Heap),
 Heap.get h2 i = IObj.tip (9 : Nat) →
 Heap.next h ≤ i →
 i < Heap.next h2 →
 (∀ (j : Nat), j < Heap.next h → Heap.get h2 j = Heap.get h j) →
 (∃ (x : Nat × Nat × Heap × List IV),
 some (TV.v (IV.ptr id (0 : Nat))) = some (TV.v (IV.ptr id (0 : Nat))) ∧
 some (TV.v (IV.int IntKind.i64 op)) = some (TV.v (IV.int IntKind.i64 op)) ∧
 some (TV.v (IV.int IntKind.i64 im)) = some (TV.v (IV.int IntKind.i64 im)) ∧
 some (TV.v (IV.vslice i2 e1 (List.length ks) (1 : Nat) (List.map (IV.int IntKind.i64) ks))) = some (TV.v (IV.vslice i2 e1 (List.length ks) (1 : Nat) (List.map (IV.int IntKind.i64) ks))) ∧
 some
 (TV.v
 (IV.vslice (some i) (9 : Nat) (9 : Nat) (1 : Nat)
 [IV.int IntKind.u8 (IntKind.wrap IntKind.u8 op), IV.int IntKind.u8 (IntKind.wrap IntKind.u8 (Int.fdiv (IntKind.wrap IntKind.u64 im) (1 : Int))),
 IV.int IntKind.u8 (IntKind.wrap IntKind.u8 (Int.fdiv (IntKind.wrap IntKind.u64 im) (256 : Int))), IV.int IntKind.u8 (IntKind.wrap IntKind.u8 (Int.fdiv (IntKind.wrap IntKind.u64 im) (65536 : Int))),
 IV.int IntKind.u8 (IntKind.wrap IntKind.u8 (Int.fdiv (IntKind.wrap IntKind.u64 im) (16777216 : Int))),
 IV.int IntKind.u8 (IntKind.wrap IntKind.u8 (Int.fdiv (IntKind.wrap IntKind.u64 im) (4294967296 : Int))),
 IV.int IntKind.u8 (IntKind.wrap IntKind.u8 (Int.fdiv (IntKind.wrap IntKind.u64 im) (1099511627776 : Int))),
 IV.int IntKind.u8 (IntKind.wrap IntKind.u8 (Int.fdiv (IntKind.wrap IntKind.u64 im) (281474976710656 : Int))),
 IV.int IntKind.u8 (IntKind.wrap IntKind.u8 (Int.fdiv (IntKind.wrap IntKind.u64 im) (72057594037927936 : Int)))])) =
 some (TV.v (IV.vslice (some (Prod.fst (Prod.snd x))) ((9 : Nat) + (8 : Nat) * Prod.fst x) ((9 : Nat) + (8 : Nat) * Prod.fst x) (1 : Nat) (Prod.snd (Prod.snd (Prod.snd x))))) ∧
 some (TV.v (IV.vslice i2 e1 (List.length ks) (1 : Nat) (List.map (IV.int IntKind.i64) ks))) = some (TV.v (IV.vslice i2 e1 (List.length ks) (1 : Nat) (List.map (IV.int IntKind.i64) ks))) ∧
 some (TV.v (IV.int IntKind.i64 (↑(List.length ks) : Int))) = some (TV.v (IV.int IntKind.i64 (↑(List.length ks) : Int))) ∧
 some (TV.v (IV.int IntKind.i64 (0 : Int))) = some (TV.v (IV.int IntKind.i64 (↑(Prod.fst x) : Int))) ∧
 h2 = Prod.fst (Prod.snd (Prod.snd x)) ∧
 (Prod.fst x ≤ List.length ks ∧
 Heap.get (Prod.fst (Prod.snd (Prod.snd x))) (Prod.fst (Prod.snd x)) = IObj.tip ((9 : Nat) + (8 : Nat) * Prod.fst x) ∧
 isKyc (Nd.mk op im (List.take (Prod.fst x) ks)) (Prod.snd (Prod.snd (Prod.snd x))) ∧
 (Heap.next h ≤ Prod.fst (Prod.snd x) ∧ Prod.fst (Prod.snd x) < Heap.next (Prod.fst (Prod.snd (Prod.snd x)))) ∧
 ∀ (j : Nat), j < Heap.next h → Heap.get (Prod.fst (Prod.snd (Prod.snd x))) j = Heap.get h j) ∧
 True) ∧
 ∀ (x : Nat × Nat × Heap × List IV) (b : FF),
 (Prod.fst x ≤ List.length ks ∧
 Heap.get (Prod.fst (Prod.snd (Prod.snd x))) (Prod.fst (Prod.snd x)) = IObj.tip ((9 : Nat) + (8 : Nat) * Prod.fst x) ∧
 isKyc (Nd.mk op im (List.take (Prod.fst x) ks)) (Prod.snd (Prod.snd (Prod.snd x))) ∧
 (Heap.next h ≤ Prod.fst (Prod.snd x) ∧ Prod.fst (Prod.snd x) < Heap.next (Prod.fst (Prod.snd (Prod.snd x)))) ∧ ∀ (j : Nat), j < Heap.next h → Heap.get (Prod.fst (Prod.snd (Prod.snd x))) j = Heap.get h j) →
 brS (decide ((↑(Prod.fst x) : Int) < (↑(List.length ks) : Int)))
 (needS (decide ((0 : Int) ≤ (↑(Prod.fst x) : Int)) && decide ((↑(Prod.fst x) : Int) < (↑(List.length ks) : Int)))
 (ldIS IntKind.i64 (List.map (IV.int IntKind.i64) ks) (Int.toNat (↑(Prod.fst x) : Int) * (1 : Nat)) fun (n2 : Int) =>
 Heap.get (Prod.fst (Prod.snd (Prod.snd x))) (Prod.fst (Prod.snd x)) = IObj.tip ((9 : Nat) + (8 : Nat) * Prod.fst x) ∧
 (9 : Nat) + (8 : Nat) * Prod.fst x ≤ (100000000000 : Nat) ∧
 ∀ (h2 : Heap),
 Heap.get h2 (Prod.fst (Prod.snd x)) = IObj.tip ((9 : Nat) + (8 : Nat) * Prod.fst x + (8 : Nat)) →
 Heap.next h2 = Heap.next (Prod.fst (Prod.snd (Prod.snd x))) →
 (∀ (j : Nat), j ≠ Prod.fst (Prod.snd x) → Heap.get h2 j = Heap.get (Prod.fst (Prod.snd (Prod.snd x))) j) →
 ∃ (x_1 : Nat × Nat × Heap × List IV),
 some (TV.v (IV.ptr id (0 : Nat))) = some (TV.v (IV.ptr id (0 : Nat))) ∧
 some (TV.v (IV.int IntKind.i64 op)) = some (TV.v (IV.int IntKind.i64 op)) ∧
 some (TV.v (IV.int IntKind.i64 im)) = some (TV.v (IV.int IntKind.i64 im)) ∧
 some (TV.v (IV.vslice i2 e1 (List.length ks) (1 : Nat) (List.map (IV.int IntKind.i64) ks))) = some (TV.v (IV.vslice i2 e1 (List.length ks) (1 : Nat) (List.map (IV.int IntKind.i64) ks))) ∧
 some
 (TV.v
 (IV.vslice (some (Prod.fst (Prod.snd x))) ((9 : Nat) + (8 : Nat) * Prod.fst x + (8 : Nat)) ((9 : Nat) + (8 : Nat) * Prod.fst x + (8 : Nat)) (1 : Nat)
 (Prod.snd (Prod.snd (Prod.snd x)) ++
 [IV.int IntKind.u8 (IntKind.wrap IntKind.u8 (Int.fdiv (IntKind.wrap IntKind.u64 n2) (1 : Int))),
 IV.int IntKind.u8 (IntKind.wrap IntKind.u8 (Int.fdiv (IntKind.wrap IntKind.u64 n2) (256 : Int))),
 IV.int IntKind.u8 (IntKind.wrap IntKind.u8 (Int.fdiv (IntKind.wrap IntKind.u64 n2) (65536 : Int))),
 IV.int IntKind.u8 (IntKind.wrap IntKind.u8 (Int.fdiv (IntKind.wrap IntKind.u64 n2) (16777216 : Int))),
 IV.int IntKind.u8 (IntKind.wrap IntKind.u8 (Int.fdiv (IntKind.wrap IntKind.u64 n2) (4294967296 : Int))),
 IV.int IntKind.u8 (IntKind.wrap IntKind.u8 (Int.fdiv (IntKind.wrap IntKind.u64 n2) (1099511627776 : Int))),
 IV.int IntKind.u8 (IntKind.wrap IntKind.u8 (Int.fdiv (IntKind.wrap IntKind.u64 n2) (281474976710656 : Int))),
 IV.int IntKind.u8 (IntKind.wrap IntKind.u8 (Int.fdiv (IntKind.wrap IntKind.u64 n2) (72057594037927936 : Int)))]))) =
 some (TV.v (IV.vslice (some (Prod.fst (Prod.snd x_1))) ((9 : Nat) + (8 : Nat) * Prod.fst x_1) ((9 : Nat) + (8 : Nat) * Prod.fst x_1) (1 : Nat) (Prod.snd (Prod.snd (Prod.snd x_1))))) ∧
 some (TV.v (IV.vslice i2 e1 (List.length ks) (1 : Nat) (List.map (IV.int IntKind.i64) ks))) = some (TV.v (IV.vslice i2 e1 (List.length ks) (1 : Nat) (List.map (IV.int IntKind.i64) ks))) ∧
 some (TV.v (IV.int IntKind.i64 (↑(List.length ks) : Int))) = some (TV.v (IV.int IntKind.i64 (↑(List.length ks) : Int))) ∧
 some (TV.v (IV.int IntKind.i64 (IntKind.wrap IntKind.i64 ((↑(Prod.fst x) : Int) + (1 : Int))))) = some (TV.v (IV.int IntKind.i64 (↑(Prod.fst x_1) : Int))) ∧
 h2 = Prod.fst (Prod.snd (Prod.snd x_1)) ∧
 (Prod.fst x_1 ≤ List.length ks ∧
 Heap.get (Prod.fst (Prod.snd (Prod.snd x_1))) (Prod.fst (Prod.snd x_1)) = IObj.tip ((9 : Nat) + (8 : Nat) * Prod.fst x_1) ∧
 isKyc (Nd.mk op im (List.take (Prod.fst x_1) ks)) (Prod.snd (Prod.snd (Prod.snd x_1))) ∧
 (Heap.next h ≤ Prod.fst (Prod.snd x_1) ∧ Prod.fst (Prod.snd x_1) < Heap.next (Prod.fst (Prod.snd (Prod.snd x_1)))) ∧
 ∀ (j : Nat), j < Heap.next h → Heap.get (Prod.fst (Prod.snd (Prod.snd x_1))) j = Heap.get h j) ∧
 List.length ks - Prod.fst x_1 < List.length ks - Prod.fst x))
 (hgetS (Prod.fst (Prod.snd (Prod.snd x))) id fun (r3 : List IV) =>
 ldMS r3 (4 : Nat) fun (i4 : Nat) =>
 bytS (Prod.snd (Prod.snd (Prod.snd x))) fun (s5 : List UInt8) =>
 mlookS (Prod.fst (Prod.snd (Prod.snd x))) i4 TypeDesc.string (IV.str s5) (fun (r6 : List IV) => ldIS IntKind.i64 r6 (0 : Nat) fun (n7 : Int) => Q (IV.int IntKind.i64 n7) (Prod.fst (Prod.snd (Prod.snd x))))
 (hgetS (Prod.fst (Prod.snd (Prod.snd x))) id fun (r8 : List IV) =>
 ldNVS (3 : Nat) r8 (3 : Nat)
 (hgetS (Prod.fst (Prod.snd (Prod.snd x))) id fun (r9 : List IV) =>
 ldMS r9 (4 : Nat) fun (i10 : Nat) =>
 bytS (Prod.snd (Prod.snd (Prod.snd x))) fun (s11 : List UInt8) =>
 mupdS (Prod.fst (Prod.snd (Prod.snd x))) i10 TypeDesc.string (IV.str s11) (IV.int IntKind.i64 (0 : Int)) fun (es12 : List (IV × IV)) =>
 hgetS (Heap.set (Prod.fst (Prod.snd (Prod.snd x))) i10 (IObj.map es12)) id fun (r13 : List IV) =>
 ldNVS (3 : Nat) r13 (3 : Nat)
 (hgetS (Heap.push (Heap.set (Prod.fst (Prod.snd (Prod.snd x))) i10 (IObj.map es12)) (IObj.tip (3 : Nat))) id fun (r14 : List IV) =>
 needS (Nat.ble (4 : Nat) (List.length r14))
 (Q (IV.int IntKind.i64 (0 : Int))
 (Heap.set (Heap.push (Heap.set (Prod.fst (Prod.snd (Prod.snd x))) i10 (IObj.map es12)) (IObj.tip (3 : Nat))) id
 (IObj.cells
 (List.take (3 : Nat) r14 ++
 [IV.vslice (some (Heap.next (Prod.fst (Prod.snd (Prod.snd x))))) (3 : Nat) (1 : Nat) (3 : Nat)
 [IV.int IntKind.i64 op, IV.int IntKind.i64 im, IV.vslice none (0 : Nat) (List.length ks) (1 : Nat) (List.map (IV.int IntKind.i64) ks)]] ++
 List.drop (4 : Nat) r14)))))
 fun (i15 e16 l17 : Nat) (c18 : List IV) =>
 tipS (Heap.set (Prod.fst (Prod.snd (Prod.snd x))) i10 (IObj.map es12)) i15 fun (m19 : Nat) =>
 needS (Nat.beq m19 e16 && Nat.ble ((l17 + (1 : Nat)) * (40 : Nat)) (140737488355328 : Nat))
 (hgetS (Heap.set (Heap.set (Prod.fst (Prod.snd (Prod.snd x))) i10 (IObj.map es12)) i15 (IObj.tip (e16 + (3 : Nat)))) id fun (r20 : List IV) =>
 needS (Nat.ble (4 : Nat) (List.length r20))
 (Q (IV.int IntKind.i64 (0 : Int))
 (Heap.set (Heap.set (Heap.set (Prod.fst (Prod.snd (Prod.snd x))) i10 (IObj.map es12)) i15 (IObj.tip (e16 + (3 : Nat)))) id
 (IObj.cells
 (List.take (3 : Nat) r20 ++
 [IV.vslice (some i15) (e16 + (3 : Nat)) (l17 + (1 : Nat)) (3 : Nat)
 (c18 ++ [IV.int IntKind.i64 op, IV.int IntKind.i64 im, IV.vslice none (0 : Nat) (List.length ks) (1 : Nat) (List.map (IV.int IntKind.i64) ks)])] ++
 List.drop (4 : Nat) r20))))))
 fun (i21 e22 l23 : Nat) (c24 : List IV) =>
 hgetS (Prod.fst (Prod.snd (Prod.snd x))) id fun (r25 : List IV) =>
 ldMS r25 (4 : Nat) fun (i26 : Nat) =>
 bytS (Prod.snd (Prod.snd (Prod.snd x))) fun (s27 : List UInt8) =>
 mupdS (Prod.fst (Prod.snd (Prod.snd x))) i26 TypeDesc.string (IV.str s27) (IV.int IntKind.i64 (↑l23 : Int)) fun (es28 : List (IV × IV)) =>
 hgetS (Heap.set (Prod.fst (Prod.snd (Prod.snd x))) i26 (IObj.map es28)) id fun (r29 : List IV) =>
 ldNVS (3 : Nat) r29 (3 : Nat)
 (hgetS (Heap.push (Heap.set (Prod.fst (Prod.snd (Prod.snd x))) i26 (IObj.map es28)) (IObj.tip (3 : Nat))) id fun (r30 : List IV) =>
 needS (Nat.ble (4 : Nat) (List.length r30))
 (Q (IV.int IntKind.i64 (↑l23 : Int))
 (Heap.set (Heap.push (Heap.set (Prod.fst (Prod.snd (Prod.snd x))) i26 (IObj.map es28)) (IObj.tip (3 : Nat))) id
 (IObj.cells
 (List.take (3 : Nat) r30 ++
 [IV.vslice (some (Heap.next (Prod.fst (Prod.snd (Prod.snd x))))) (3 : Nat) (1 : Nat) (3 : Nat)
 [IV.int IntKind.i64 op, IV.int IntKind.i64 im, IV.vslice none (0 : Nat) (List.length ks) (1 : Nat) (List.map (IV.int IntKind.i64) ks)]] ++
 List.drop (4 : Nat) r30)))))
 fun (i31 e32 l33 : Nat) (c34 : List IV) =>
 tipS (Heap.set (Prod.fst (Prod.snd (Prod.snd x))) i26 (IObj.map es28)) i31 fun (m35 : Nat) =>
 needS (Nat.beq m35 e32 && Nat.ble ((l33 + (1 : Nat)) * (40 : Nat)) (140737488355328 : Nat))
 (hgetS (Heap.set (Heap.set (Prod.fst (Prod.snd (Prod.snd x))) i26 (IObj.map es28)) i31 (IObj.tip (e32 + (3 : Nat)))) id fun (r36 : List IV) =>
 needS (Nat.ble (4 : Nat) (List.length r36))
 (Q (IV.int IntKind.i64 (↑l23 : Int))
 (Heap.set (Heap.set (Heap.set (Prod.fst (Prod.snd (Prod.snd x))) i26 (IObj.map es28)) i31 (IObj.tip (e32 + (3 : Nat)))) id
 (IObj.cells
 (List.take (3 : Nat) r36 ++
 [IV.vslice (some i31) (e32 + (3 : Nat)) (l33 + (1 : Nat)) (3 : Nat)
 (c34 ++ [IV.int IntKind.i64 op, IV.int IntKind.i64 im, IV.vslice none (0 : Nat) (List.length ks) (1 : Nat) (List.map (IV.int IntKind.i64) ks)])] ++
 List.drop (4 : Nat) r36))))))))) := by kernel_rfl
set_option maxHeartbeats 2000000 in
theorem sRPutV : ∀ xs h Q, kRPutV xs h Q → CallW env 36 xs h Q := by
  intro xs h Q hk
  unfold kRPutV at hk
  split at hk
  · rename_i id op im i2 e1 n1 c1
    obtain ⟨ks, ⟨rfl, rfl⟩, s, a, y, m, io, hr, hb, hk⟩ := hk
    refine dF_run (okRPutN) (vRPutV id op im i2 e1 ks h Q) ?_
    have tn : ∀ x : Nat, (x : Int).toNat = x := Int.toNat_natCast
    obtain ⟨hn, hy, hyl, hkl⟩ := hb
    obtain ⟨_, _, lv0, gi0, _⟩ := (show RH h id s a y m io from hr)
    refine hget_intro gi0 (ldB_at rfl (brS_intro (fun c => by cases c) (fun _ => ?_)))
    intro i0 g0 hgi0 hi1 hi2 hfr0
    refine ⟨⟨(0, i0, g0, _), (by first | rfl | exact True.intro), (by first | rfl | exact True.intro), (by first | rfl | exact True.intro), (by first | rfl | exact True.intro), (by first | rfl | exact True.intro), (by first | rfl | exact True.intro), (by first | rfl | exact True.intro), (by first | rfl | exact True.intro), (by first | rfl | exact True.intro), ⟨Nat.zero_le _, hgi0, ?_, ⟨hi1, hi2⟩, hfr0⟩, trivial⟩, ?_⟩
    · rfl
    rintro ⟨k, i9, g, cs⟩ _ ⟨hkk, hgi, hcs, ⟨hi3, hi4⟩, hfr1⟩
    dsimp only at hkk hgi hcs hi3 hi4 hfr1 ⊢
    refine brS_intro (fun c => ?_) (fun c => ?_)
    · rw [decide_eq_true_eq] at c
      have hlt : k < ks.length := by omega
      refine needS_intro (by simp; omega) (ldI1 hlt (by rw [Nat.mul_one, tn]) ⟨hgi, by omega, fun g2 e1 e2 e3 => ⟨(k + 1, i9, g2, cs ++ (b8 (u64 ks[k])).map (IV.int .u8)), (by first | rfl | exact True.intro), (by first | rfl | exact True.intro), (by first | rfl | exact True.intro), (by first | rfl | exact True.intro), ?_, (by first | rfl | exact True.intro), (by first | rfl | exact True.intro), ?_, (by first | rfl | exact True.intro), ⟨hlt, by rw [e1]; congr 1, ?_, ⟨hi3, by dsimp only; omega⟩, fun j hj => by rw [e3 j (by omega)]; exact hfr1 j hj⟩, by dsimp only; omega⟩⟩)
      · rw [show 9 + 8 * (k + 1) = 9 + 8 * k + 8 by omega]; rfl
      · rw [IntWalk.i64_in _ (by omega)]; rfl
      · unfold isKyc at hcs ⊢
        dsimp only
        rw [hcs, kyI_take hlt, List.map_append]
    · rw [decide_eq_false_iff_not] at c
      obtain rfl : k = ks.length := by omega
      unfold isKyc at hcs
      rw [List.take_length] at hcs
      subst hcs
      have rg : RH g id s a y m io := hr.frame (by omega) hfr1
      have hfr : FRo id m io h g := ⟨by omega, fun j h1 _ _ _ => hfr1 j h1⟩
      have hlk := look_ixY hn hy
      obtain ⟨⟨q1, q2, q3⟩, gm, lv, gi, hlv⟩ := (show RH g id s a y m io from rg)
      refine hget_intro gi (ldM_at rfl (byt_intro (bytesIV_map _) ?_))
      cases e : fidx ⟨op, im, ks⟩ y 0 with
      | some i =>
        rw [e] at hlk
        have hp : putA y ⟨op, im, ks⟩ = (y, (i : Int)) := by unfold putA; rw [e]
        rw [hp] at hk
        refine mlook_some gm (by show findIV _ (.str (kyF ⟨op, im, ks⟩)) _ = _; rw [find_cE, hlk]; rfl) (ldI_at rfl ?_)
        exact hk _ io rg hfr IOk.refl
      | none =>
        rw [e] at hlk
        have hp : putA y ⟨op, im, ks⟩ = (y ++ [⟨op, im, ks⟩], (y.length : Int)) := by unfold putA; rw [e]
        rw [hp] at hk
        refine mlook_none gm (by show findIV _ (.str (kyF ⟨op, im, ks⟩)) _ = _; rw [find_cE, hlk]; rfl) (hget_intro gi ?_)
        rcases hlv with ⟨rfl, rfl, rfl⟩ | ⟨iL, rfl, rfl, t1, t2, t3, t4, t5⟩
        · refine ldNV_nil rfl (hget_intro gi (ldM_at rfl (byt_intro (bytesIV_map _) (mupd_intro gm (upd_cE (kyF ⟨op, im, ks⟩) 0 _ (by rw [hlk]; rfl)) (hget_intro ((get_set_ne q3).trans gi) (ldNV_nil rfl (hget_intro ((get_push_lt (by exact q1)).trans ((get_set_ne q3).trans gi)) (needS_intro rfl ?_))))))))
          refine hk _ _ (put_nil rg hn) (hfr.trans IOk.refl ⟨Nat.le_succ _, fun j h1 h2 h3 _ => ?_⟩) (.inr ⟨rfl, _, rfl, hfr.1⟩)
          rw [get_set_ne h2, get_push_lt (by exact h1), get_set_ne h3]
        · refine ldNV_v rfl (hget_intro gi (ldM_at rfl (byt_intro (bytesIV_map _) (mupd_intro gm (upd_cE (kyF ⟨op, im, ks⟩) (y.length : Int) _ (by rw [hlk]; rfl)) (hget_intro ((get_set_ne q3).trans gi) (ldNV_v rfl (tip_intro ((get_set_ne t4).trans t1) (needS_intro (by simp only [Bool.and_eq_true, nbeq_t, Nat.ble_eq, true_and]; omega) (hget_intro ((get_set_ne t3.symm).trans ((get_set_ne q3).trans gi)) (needS_intro rfl ?_))))))))))
          refine hk _ _ (put_some rg hn hy e) (hfr.trans IOk.refl ⟨Nat.le_refl _, fun j h1 h2 h3 h4 => ?_⟩) IOk.refl
          rw [get_set_ne h2, get_set_ne (fun q => h4 (by rw [q])), get_set_ne h3]
  · exact hk.elim
def cRPutV := addC 36 kRPutV cRPutN
theorem okRPutV : Sound env cRPutV := sound_add sRPutV (okRPutN)

def kRPut (xs : List IV) (h : Heap) (K : IV → Heap → Prop) : Prop := match xs with
  | [.ptr id 0, .int .i64 op, .int .i64 im, sv] => ∃ ks : List Int, KA sv ks ∧ ∃ (s : List UInt8) (a : Nat) (y : List Nd) (m : Nat) (io : Option Nat), RH h id s a y m io ∧ (okY ⟨op, im, ks⟩ ∧ (∀ x ∈ y, okY x) ∧ y.length ≤ 1000000 ∧ (ks).length ≤ 1000000) ∧
   ∀ (h2 : Heap) (io2 : Option Nat), RH h2 id s a (putA y ⟨op, im, ks⟩).1 m io2 → FRo id m io h h2 → IOk h io io2 → K (.int .i64 (putA y ⟨op, im, ks⟩).2) h2
  | _ => False
theorem sRPut : ∀ xs h Q, kRPut xs h Q → CallW env 36 xs h Q := by
  intro xs h Q hk
  unfold kRPut at hk
  split at hk
  · rename_i id op im sv
    obtain ⟨ks, ka, hk⟩ := hk
    rcases ka with ⟨rfl, rfl⟩ | ⟨i2, e1, rfl⟩
    · exact sRPutN _ _ _ hk
    · exact sRPutV _ _ _ ⟨ks, ⟨rfl, rfl⟩, hk⟩
  · exact hk.elim
def cRPut := addC 36 kRPut cRPutV
theorem okRPut : Sound env cRPut := sound_add sRPut (okRPutV)

end Go.Proofs.Ythoehkkoaegeoaa
