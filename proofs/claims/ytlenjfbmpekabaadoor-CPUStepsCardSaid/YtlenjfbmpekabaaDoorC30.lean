import Derived.Test.YtlenjfbmpekabaaDoorB30
import Derived.Test.YtlenjfbmpekabaaDoorU30
import Derived.KernelRfl
set_option linter.unusedVariables false
set_option linter.unusedSimpArgs false
namespace Go.Pv
open Go.M29
def cIns (x : In) : List IV := [.int .i64 x.op, .int .i64 x.a, .int .i64 x.b, .int .i64 x.c, .int .i64 x.n]
theorem flatMap_at {α : Type} {c : α -> List IV} {w : Nat} (hc : ∀ x, (c x).length = w) : ∀ {l : List α} {i j : Nat} (h : i < l.length), j < w -> (l.flatMap c)[i * w + j]? = (c l[i])[j]?
 | x :: r, 0, j, _, hj => by
   rw [List.flatMap_cons, Nat.zero_mul, Nat.zero_add, List.getElem?_append_left (by rw [hc]; exact hj)]
   rfl
 | x :: r, i + 1, j, h, hj => by
   rw [List.flatMap_cons, List.getElem?_append_right (by rw [hc, Nat.succ_mul]; omega), hc]
   rw [show (i + 1) * w + j - w = i * w + j by rw [Nat.succ_mul]; omega]
   exact flatMap_at hc (l := r) (i := i) (by simpa using h) hj
theorem ldIn {l : List In} {i o : Nat} {K : Int -> Int -> Int -> Int -> Int -> Prop} (h : i < l.length) (ho : o = i * 5) (hk : K l[i].op l[i].a l[i].b l[i].c l[i].n) :
  ldIS .i64 (l.flatMap cIns) o fun a => ldIS .i64 (l.flatMap cIns) (o + 1) fun b => ldIS .i64 (l.flatMap cIns) (o + 1 + 1) fun c => ldIS .i64 (l.flatMap cIns) (o + 1 + 1 + 1) fun d => ldIS .i64 (l.flatMap cIns) (o + 1 + 1 + 1 + 1) fun e => K a b c d e := by
 subst ho
 have e0 := flatMap_at (c := cIns) (w := 5) (fun _ => rfl) (l := l) (i := i) (j := 0) h (by omega)
 have e1 := flatMap_at (c := cIns) (w := 5) (fun _ => rfl) (l := l) (i := i) (j := 1) h (by omega)
 have e2 := flatMap_at (c := cIns) (w := 5) (fun _ => rfl) (l := l) (i := i) (j := 2) h (by omega)
 have e3 := flatMap_at (c := cIns) (w := 5) (fun _ => rfl) (l := l) (i := i) (j := 3) h (by omega)
 have e4 := flatMap_at (c := cIns) (w := 5) (fun _ => rfl) (l := l) (i := i) (j := 4) h (by omega)
 unfold ldIS
 simp only [Nat.add_zero] at e0
 simp only [Nat.add_assoc, Nat.reduceAdd, e0, e1, e2, e3, e4]
 exact hk
theorem pureL_in : ∀ {l : List In}, pureL (l.flatMap cIns) = true
 | [] => rfl
 | x :: r => by rw [List.flatMap_cons, pureL_append, pureL_in]; rfl
end Go.Pv
namespace Go.Proofs.YtlenjfbmpekabaaDoor
open Go.Pv Go.M29 Go.M30
def kShift (xs : List IV) (h : Heap) (K : IV -> Heap -> Prop) : Prop := match xs with
 | [.int .i64 f] => K (.int .u64 (shI f)) h
 | _ => False
set_option maxRecDepth 100000 in
theorem vShift (f : Int) (h : Heap) (Q : IV -> Heap -> Prop) : dF (stdS cRCFl) env 71 noU noI noI [.int .i64 f] h Q = (
 brS (f == 8) (Q (.int .u64 6) h) (brS (f == 5) (Q (.int .u64 9) h) (brS (f == 7) (Q (.int .u64 12) h) (Q (.int .u64 32) h)))) := by kernel_rfl
theorem sShift : ∀ xs h Q, kShift xs h Q -> CallW env 71 xs h Q := by
 intro xs h Q hk
 unfold kShift at hk
 split at hk
 ·rename_i f
  refine dF_run (okRCFl) (vShift f h Q) ?_
  repeat' (first | refine needS_intro ?_ ?_ | refine brS_intro (fun _ => ?_) (fun _ => ?_) | refine And.intro ?_ ?_ | (intro _))
  all_goals (try simp only [beq_iff_eq, beq_eq_false_iff_ne, bne_iff_ne, ne_eq, bne_eq_false_iff_eq, decide_eq_true_eq, decide_eq_false_iff_not, Bool.not_eq_true', Bool.not_eq_false'] at *)
  all_goals first | exact hk | omega | (refine q_eq hk ?_; simp only [IV.agg.injEq, IV.tuple.injEq, IV.int.injEq, IV.bool.injEq, IV.vslice.injEq, List.cons.injEq, true_and, and_true]; grind [shI])
 ·exact hk.elim
def cShift := addC 71 kShift cRCFl
theorem okShift : Sound env cShift := sound_add sShift (okRCFl)
def kField (xs : List IV) (h : Heap) (K : IV -> Heap -> Prop) : Prop := match xs with
 | [.int .i64 f] => K (.tuple [.int .u64 (atI f), .int .u64 (nbI f)]) h
 | _ => False
set_option maxRecDepth 100000 in
theorem vField (f : Int) (h : Heap) (Q : IV -> Heap -> Prop) : dF (stdS cShift) env 64 noU noI noI [.int .i64 f] h Q = (
 brS (f == 8) (Q (.tuple [.int .u64 6, IV.int .u64 26]) h)
 (brS (f == 5) (Q (.tuple [.int .u64 9, IV.int .u64 23]) h)
 (brS (f == 7) (Q (.tuple [.int .u64 12, IV.int .u64 20]) h) (Q (.tuple [.int .u64 0, IV.int .u64 0]) h)))) := by kernel_rfl
theorem sField : ∀ xs h Q, kField xs h Q -> CallW env 64 xs h Q := by
 intro xs h Q hk
 unfold kField at hk
 split at hk
 ·rename_i f
  refine dF_run (okShift) (vField f h Q) ?_
  repeat' (first | refine needS_intro ?_ ?_ | refine brS_intro (fun _ => ?_) (fun _ => ?_) | refine And.intro ?_ ?_ | (intro _))
  all_goals (try simp only [beq_iff_eq, beq_eq_false_iff_ne, bne_iff_ne, ne_eq, bne_eq_false_iff_eq, decide_eq_true_eq, decide_eq_false_iff_not, Bool.not_eq_true', Bool.not_eq_false'] at *)
  all_goals first | exact hk | omega | (refine q_eq hk ?_; simp only [IV.agg.injEq, IV.tuple.injEq, IV.int.injEq, IV.bool.injEq, IV.vslice.injEq, List.cons.injEq, true_and, and_true]; grind [atI, nbI])
 ·exact hk.elim
def cField := addC 64 kField cShift
theorem okField : Sound env cField := sound_add sField (okShift)
def kAppNil (xs : List IV) (h : Heap) (K : IV -> Heap -> Prop) : Prop := match xs with
 | [.nilslice, .agg [.int .i64 op, .int .i64 a, .int .i64 b, .int .i64 c, .int .i64 n]] => validI op a b c n = true /\ K (.vslice (some h.next) (encW ⟨op, a, b, c, n⟩).length (encW ⟨op, a, b, c, n⟩).length 1 ((encW ⟨op, a, b, c, n⟩).map (IV.int .u32))) (h.push (.tip (encW ⟨op, a, b, c, n⟩).length))
 | _ => False
set_option maxRecDepth 100000 in
theorem vAppNil (op a b c n : Int) (h : Heap) (Q : IV -> Heap -> Prop) : dF (stdS cField) env 70 noU noI noI [.nilslice, .agg [.int .i64 op, .int .i64 a, .int .i64 b, .int .i64 c, .int .i64 n]] h Q = (
 brS (Row.fm (rowOf op) == 6)
 (Q
 (IV.vslice (some (Heap.next h)) 3 3 1
 [IV.int .u32
 (bvOr .u32 (bvOr .u32 (bvOr .u32 (IntKind.wrap .u32 op) (IntKind.wrap .u32 (IntKind.wrap .u32 a * 64))) (IntKind.wrap .u32 (IntKind.wrap .u32 b * 512)))
 (IntKind.wrap .u32 (IntKind.wrap .u32 c * 4096))),
 IV.int .u32 (IntKind.wrap .u32 n), IV.int .u32 (IntKind.wrap .u32 (Int.fdiv (IntKind.wrap .u64 n) (4294967296 : Int)))])
 (Heap.push h (IObj.tip (3 : Nat))))
 (needS (decide (0 <= shI (Row.fm (rowOf op))))
 (Q
 (IV.vslice (some (Heap.next h)) 1 1 1
 [IV.int .u32
 (bvOr .u32
 (bvOr .u32 (bvOr .u32 (bvOr .u32 (IntKind.wrap .u32 op) (IntKind.wrap .u32 (IntKind.wrap .u32 a * 64))) (IntKind.wrap .u32 (IntKind.wrap .u32 b * 512)))
 (IntKind.wrap .u32 (IntKind.wrap .u32 c * 4096)))
 (IntKind.wrap .u32 (IntKind.wrap .u32 n * (2 : Int) ^ min (Int.toNat (shI (Row.fm (rowOf op)))) (32 : Nat))))])
 (Heap.push h (IObj.tip (1 : Nat)))))) := by kernel_rfl
theorem sAppNil : ∀ xs h Q, kAppNil xs h Q -> CallW env 70 xs h Q := by
 intro xs h Q hk
 unfold kAppNil at hk
 split at hk
 ·rename_i op a b c n
  refine dF_run (okField) (vAppNil op a b c n h Q) ?_
  obtain ⟨hv, hk⟩ := hk
  obtain ⟨ho, ha, hb, hc, _⟩ := ok_fields hv
  have hsh : (decide ((0 : Int) <= shI (fmI op))) = true := by
   simp only [decide_eq_true_eq]
   unfold shI
   repeat' (first | omega | split)
  have e2 : IntKind.u32.wrap (Int.fdiv (IntKind.u64.wrap n) 4294967296) = n % 18446744073709551616 / 4294967296 := by
   rw [Go.M30.u64w, u32w, Int.fdiv_eq_ediv_of_nonneg _ (by omega)]
   omega
  rw [hdr_ok (by omega) ha hb hc, fm_eq]
  refine brS_intro (fun c1 => ?_) (fun c1 => needS_intro hsh ?_)
  ·rw [beq_iff_eq] at c1
   rw [show encW ⟨op, a, b, c, n⟩ = [word1 ⟨op, a, b, c, n⟩, n % 4294967296, n % 18446744073709551616 / 4294967296] from if_pos c1] at hk
   rw [word_wide (n := n) c1, u32w n, e2]
   exact hk
  ·rw [beq_eq_false_iff_ne] at c1
   rw [show encW ⟨op, a, b, c, n⟩ = [word1 ⟨op, a, b, c, n⟩] from if_neg c1] at hk
   rw [word_prog hv c1]
   exact hk
 ·exact hk.elim
def cAppNil := addC 70 kAppNil cField
theorem okAppNil : Sound env cAppNil := sound_add sAppNil (okField)
def kAppRow (xs : List IV) (h : Heap) (K : IV -> Heap -> Prop) : Prop := match xs with
 | [.vslice (some id) e len 1 cs, .agg [.int .i64 op, .int .i64 a, .int .i64 b, .int .i64 c, .int .i64 n]] => tipS h id fun m => (m = e /\ (len : Int) <= 20000000000000 /\ validI op a b c n = true) /\ K (.vslice (some id) (e + (encW ⟨op, a, b, c, n⟩).length) (len + (encW ⟨op, a, b, c, n⟩).length) 1 (cs ++ (encW ⟨op, a, b, c, n⟩).map (IV.int .u32))) (h.set id (.tip (e + (encW ⟨op, a, b, c, n⟩).length)))
 | _ => False
set_option maxRecDepth 100000 in
theorem vAppRow (id e len : Nat) (cs : List IV) (op a b c n : Int) (h : Heap) (Q : IV -> Heap -> Prop) : dF (stdS cAppNil) env 70 noU noI noI [.vslice (some id) e len 1 cs, .agg [.int .i64 op, .int .i64 a, .int .i64 b, .int .i64 c, .int .i64 n]] h Q = (
 brS (Row.fm (rowOf op) == 6)
 (tipS h id fun (m0 : Nat) =>
 needS (Nat.beq m0 e && Nat.ble ((len + 3) * 4) (140737488355328 : Nat))
 (Q
 (IV.vslice (some id) (e + 3) (len + 3) 1
 (cs ++
 [IV.int .u32
 (bvOr .u32 (bvOr .u32 (bvOr .u32 (IntKind.wrap .u32 op) (IntKind.wrap .u32 (IntKind.wrap .u32 a * 64))) (IntKind.wrap .u32 (IntKind.wrap .u32 b * 512)))
 (IntKind.wrap .u32 (IntKind.wrap .u32 c * 4096))),
 IV.int .u32 (IntKind.wrap .u32 n), IV.int .u32 (IntKind.wrap .u32 (Int.fdiv (IntKind.wrap .u64 n) (4294967296 : Int)))]))
 (Heap.set h id (IObj.tip (e + 3)))))
 (needS (decide (0 <= shI (Row.fm (rowOf op))))
 (tipS h id fun (m1 : Nat) =>
 needS (Nat.beq m1 e && Nat.ble ((len + 1) * 4) (140737488355328 : Nat))
 (Q
 (IV.vslice (some id) (e + 1) (len + 1) 1
 (cs ++
 [IV.int .u32
 (bvOr .u32
 (bvOr .u32
 (bvOr .u32 (bvOr .u32 (IntKind.wrap .u32 op) (IntKind.wrap .u32 (IntKind.wrap .u32 a * 64))) (IntKind.wrap .u32 (IntKind.wrap .u32 b * 512)))
 (IntKind.wrap .u32 (IntKind.wrap .u32 c * 4096)))
 (IntKind.wrap .u32 (IntKind.wrap .u32 n * (2 : Int) ^ min (Int.toNat (shI (Row.fm (rowOf op)))) (32 : Nat))))]))
 (Heap.set h id (IObj.tip (e + 1))))))) := by kernel_rfl
set_option maxRecDepth 100000 in
theorem sAppRow : ∀ xs h Q, kAppRow xs h Q -> CallW env 70 xs h Q := by
 intro xs h Q hk
 unfold kAppRow at hk
 split at hk
 ·rename_i id e len cs op a b c n
  unfold tipS at hk
  split at hk
  case h_2 => exact hk.elim
  rename_i m hm
  obtain ⟨⟨rfl, hl, hv⟩, hk⟩ := hk
  have e : ∀ K : Nat -> Prop, tipS h id K = K m := fun K => by unfold tipS; rw [hm]
  refine dF_sound okAppNil (mp_eq (vAppRow id m len cs op a b c n h Q) ?_)
  simp only [e]
  obtain ⟨ho, ha, hb, hc, _⟩ := ok_fields hv
  have hsh : (decide ((0 : Int) <= shI (fmI op))) = true := by
   simp only [decide_eq_true_eq]
   unfold shI
   repeat' (first | omega | split)
  have e2 : IntKind.u32.wrap (Int.fdiv (IntKind.u64.wrap n) 4294967296) = n % 18446744073709551616 / 4294967296 := by
   rw [Go.M30.u64w, u32w, Int.fdiv_eq_ediv_of_nonneg _ (by omega)]
   omega
  rw [hdr_ok (by omega) ha hb hc, fm_eq]
  refine brS_intro (fun c1 => ?_) (fun c1 => needS_intro hsh ?_)
  ·rw [beq_iff_eq] at c1
   rw [show encW ⟨op, a, b, c, n⟩ = [word1 ⟨op, a, b, c, n⟩, n % 4294967296, n % 18446744073709551616 / 4294967296] from if_pos c1] at hk
   rw [word_wide (n := n) c1, u32w n, e2]
   exact needS_intro (by simp [nbeq_t]; omega) hk
  ·rw [beq_eq_false_iff_ne] at c1
   rw [show encW ⟨op, a, b, c, n⟩ = [word1 ⟨op, a, b, c, n⟩] from if_neg c1] at hk
   rw [word_prog hv c1]
   exact needS_intro (by simp [nbeq_t]; omega) hk
 ·exact hk.elim
def cAppRow := addC 70 kAppRow cAppNil
theorem okAppRow : Sound env cAppRow := sound_add sAppRow (okAppNil)
end Go.Proofs.YtlenjfbmpekabaaDoor
