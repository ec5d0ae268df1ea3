/-
  Texts of this proof, one after the other.
  Conditions: none.
-/
import Derived.Test.YtgfllfgdojiioaaGreatPvVS
import Derived.Test.YtgfllfgdojiioaaGreatM13
import Derived.Test.YtgfllfgdojiioaaGreatS13
import Derived.Test.YtgfllfgdojiioaaGreatV10
import Derived.Test.YtgfllfgdojiioaaGreatS10
section
set_option linter.unusedVariables false
namespace Go.M14
open Go.Pv Go.M13
abbrev IvL := List (Int × Int)
def cR (r : Int × Int) : List IV := [.int .i64 r.1, .int .i64 r.2]
theorem cH_at : ∀ {H : List (Int × Int)} {j : Nat} (h : j < H.length), (H.flatMap cR)[j * 2]? = some (.int .i64 H[j].1) /\ (H.flatMap cR)[j * 2 + 1]? = some (.int .i64 H[j].2)
 | r :: H, 0, _ => ⟨rfl, rfl⟩
 | r :: H, j + 1, h => by
   have q := cH_at (H := H) (j := j) (by simpa using h)
   have e : ∀ k, ((r :: H).flatMap cR)[k + 2]? = (H.flatMap cR)[k]? := fun k => by
    show (cR r ++ H.flatMap cR)[k + 2]? = _
    rw [List.getElem?_append_right (by simp [cR])]
    simp [cR]
   rw [show (j + 1) * 2 = j * 2 + 2 by omega, show j * 2 + 2 + 1 = (j * 2 + 1) + 2 by omega, e, e]
   exact q
theorem pureL_cH : ∀ H : List (Int × Int), pureL (H.flatMap cR) = true
 | [] => rfl
 | r :: H => by
   have := pureL_cH H
   simp only [List.flatMap_cons, cR, List.cons_append, List.nil_append, pureL, pureB, this, Bool.and_true]
def vok (H : List (Int × Int)) (n : Int) : Bool := !(decide (n < 1) || decide (n > H.length))
def vr (H : List (Int × Int)) (n : Int) : Int × Int := if vok H n then H.getD (n - 1).toNat (0, 0) else (0, 0)
def holds (k a b n : Int) (H : List (Int × Int)) (L : List Int) : Bool :=
 if vok H a = false then false
 else if k = 1 then !contains (vr H a).1 (vr H a).2 0
 else if k = 2 then decide (n <= (vr H a).1)
 else if k = 3 then decide ((vr H a).2 <= n)
 else if k = 4 then vok H b && !meets (vr H a).1 (vr H a).2 (vr H b).1 (vr H b).2
 else if k = 5 then decide (1 <= b) && (decide (b <= L.length) && (decide (0 <= (vr H a).1) && decide ((vr H a).2 < L.getD (b - 1).toNat 0)))
 else false
theorem vok_t {H : List (Int × Int)} {n : Int} (h1 : 1 <= n) (h2 : n <= H.length) : vok H n = true := by
 unfold vok; simp; omega
theorem vok_f {H : List (Int × Int)} {n : Int} (h : n < 1 \/ n > H.length) : vok H n = false := by
 unfold vok; simp; omega
theorem vr_no {H : List (Int × Int)} {n : Int} (h : vok H n = false) : vr H n = (0, 0) := by
 unfold vr; rw [h]; rfl
theorem ldH {H : List (Int × Int)} {n : Int} {K : Int -> Int -> Prop} (h1 : 1 <= n) (h2 : n <= H.length) (hb : H.length <= 9223372036854775807) (hk : K (vr H n).1 (vr H n).2) :
  needS (decide (0 <= IntKind.i64.wrap (n - 1)) && decide (IntKind.i64.wrap (n - 1) < (H.length : Int))) (ldIS .i64 (H.flatMap cR) ((IntKind.i64.wrap (n - 1)).toNat * 2) fun n0 => ldIS .i64 (H.flatMap cR) ((IntKind.i64.wrap (n - 1)).toNat * 2 + 1) fun n1 => K n0 n1) := by
 rw [IntWalk.i64_in _ (by omega)]
 have hl : (n - 1).toNat < H.length := by omega
 obtain ⟨q1, q2⟩ := cH_at hl
 have e : vr H n = H[(n - 1).toNat] := by
  unfold vr
  rw [vok_t h1 h2, List.getD_eq_getElem?_getD, List.getElem?_eq_getElem hl]
  rfl
 rw [e] at hk
 refine needS_intro (by simp; omega) ?_
 unfold ldIS
 rw [q1, q2]
 simp only [if_true]
 exact hk
end Go.M14

end

section
set_option linter.unusedVariables false
namespace Go.M14
open Go.Pv Go.M13 Go.M15 Go.M10
def inR2 (r : Int × Int) : Prop := inR r.1 /\ inR r.2
theorem full_inR2 : inR2 (minW, maxW) := by unfold inR2 inR minW maxW; omega
theorem fdiv_inR {a p : Int} (h : inR a) (hp : 0 < p) : inR (a.fdiv p) := by
 rw [fdiv_p a hp]
 have := div_p_sign (s := a) hp
 unfold inR at *
 rcases Int.lt_or_le a 0 with q | q
 ·have := this.2 q; omega
 ·have := this.1 q; omega
theorem truth_inR (b : Bool) : inR (truth b) := by unfold truth inR; cases b <;> simp
theorem quot_inR {a b : Int} (h : inR a) : inR (quot a b) := by
 unfold quot
 repeat' split
 ·unfold inR; omega
 ·exact wrap_inR _
 ·exact wrap_inR _
theorem wbin_inR {o a b : Int} (h : inR a) : inR (wbin o a b) := by
 unfold wbin
 repeat' split
 all_goals first | exact wrap_inR _ | exact quot_inR h | (unfold inR; omega) | exact iand_inR _ _ | exact ior_inR _ _ | exact ixor_inR _ _ | skip
 unfold shcmp
 repeat' split
 all_goals first | exact wrap_inR _ | exact truth_inR _ | (exact fdiv_inR h (Int.pow_pos (by omega))) | (unfold inR; omega)
theorem inot_inR (a : Int) : inR (inot a) := wrap_inR _
theorem wun_inR (o a : Int) : inR (wun o a) := by
 unfold wun
 repeat' split
 ·exact wrap_inR _
 ·exact inot_inR _
 ·unfold inR; omega
theorem bnd_inR2 (x y : Int) : inR2 (M13.bnd x y) := by
 unfold M13.bnd
 split
 ·rename_i h
  unfold inRb at h
  simp only [Bool.and_eq_true, decide_eq_true_eq] at h
  unfold inR2 inR
  exact h
 ·exact full_inR2
theorem min4_inR {a b c d : Int} (ha : inR a) (hb : inR b) (hc : inR c) (hd : inR d) : inR (min4 a b c d) /\ inR (max4 a b c d) := by
 unfold min4 max4 inR at *; omega
theorem td_inR {s b : Int} (hs : inR s) (hb : 1 <= b) : inR (s.tdiv b) := by
 rw [<- tdiv_in hs (by omega) (by omega)]
 exact wrap_inR _
theorem ones_inR {m : Int} (h0 : 0 <= m) (h1 : m <= 9223372036854775807) : inR (ones m) := by
 rw [<- ones_ok h0 h1]
 exact wrap_inR _
theorem tri_inR2 (b c : Bool) : inR2 (tri b c) := by
 unfold tri
 repeat' split
 all_goals (unfold inR2 inR; simp)
theorem ibin_inR2 {o a b c d : Int} (ha : inR a) (hb : inR b) (hc : inR c) (hd : inR d) : inR2 (ibin o a b c d) := by
 unfold ibin
 split
 ·exact full_inR2
 split
 ·exact ⟨wbin_inR ha, wbin_inR ha⟩
 split
 ·exact bnd_inR2 _ _
 split
 ·exact bnd_inR2 _ _
 split
 ·unfold imul
  split
  ·rename_i h
   unfold inRb at h
   simp only [Bool.and_eq_true, decide_eq_true_eq] at h
   exact min4_inR h.1.1.1 h.1.1.2 h.1.2 h.2
  ·exact full_inR2
 split
 ·unfold idiv
  split
  ·exact full_inR2
  ·have hc1 : 1 <= c := by omega
   have hd1 : 1 <= d := by omega
   exact min4_inR (td_inR ha hc1) (td_inR ha hd1) (td_inR hb hc1) (td_inR hb hd1)
 split
 ·unfold irem
  split
  ·exact full_inR2
  ·unfold inR2 inR at *
   simp only
   repeat' split
   all_goals omega
 split
 ·unfold ibit'
  split
  ·repeat' split
   all_goals first | exact full_inR2 | (unfold inR2 inR at *; simp only; omega)
  ·split
   ·exact full_inR2
   ·have h1 : inR (ones (max b d)) := ones_inR (by omega) (by unfold inR at *; omega)
    refine ⟨?_, h1⟩
    unfold inR at *
    simp only
    split <;> omega
 split
 ·have hp : ∀ k : Nat, (0 : Int) < 2 ^ k := fun k => Int.pow_pos (by omega)
  unfold ishf
  repeat' split
  all_goals first | exact full_inR2 | exact ⟨wrap_inR _, wrap_inR _⟩ | exact ⟨fdiv_inR ha (hp _), fdiv_inR hb (hp _)⟩ | exact ⟨ha, hb⟩ | (refine ⟨?_, wrap_inR _⟩; unfold inR; omega) | (unfold inR2 inR at *; simp only; omega)
 ·unfold icmp
  repeat' split
  all_goals first | exact tri_inR2 _ _ | (unfold inR2 inR; simp)
theorem iun_inR2 {o a b : Int} (ha : inR a) (hb : inR b) : inR2 (iun o a b) := by
 unfold iun
 repeat' split
 all_goals first | exact full_inR2 | exact ⟨wun_inR _ _, wun_inR _ _⟩ | exact ⟨inot_inR _, inot_inR _⟩ | exact ⟨wrap_inR _, wrap_inR _⟩
theorem isel_inR2 {a b c d e f : Int} (hc : inR c) (hd : inR d) (he : inR e) (hf : inR f) : inR2 (isel a b c d e f) := by
 unfold isel
 repeat' split
 all_goals first | exact full_inR2 | exact ⟨he, hf⟩ | exact ⟨hc, hd⟩ | (unfold inR2 inR at *; simp only; omega)
theorem sel_in3 {a b c d e f s t u : Int} (h1 : a <= s) (h2 : s <= b) (h3 : c <= t) (h4 : t <= d) (h5 : e <= u) (h6 : u <= f) : memI (isel a b c d e f) (if s ≠ 0 then t else u) := by
 unfold isel
 rw [if_neg (by omega)]
 unfold contains
 split
 ·rw [if_neg (by omega)]
  exact ⟨h5, h6⟩
 ·simp only [Bool.and_eq_true, decide_eq_true_eq]
  split
  ·split <;> (unfold memI; simp only; omega)
  ·rw [if_pos (by omega)]
   exact ⟨h3, h4⟩
def kid (out : List Int) (n : Nd) (j : Nat) : Int := out.getD (n.ks.getD j 0).toNat 0
def vstep (args out : List Int) (n : Nd) : Int :=
 if n.op = 1 then n.im
 else if n.op = 2 then args.getD n.im.toNat 0
 else if 4 <= n.op /\ n.op <= 19 then wbin n.op (kid out n 0) (kid out n 1)
 else if n.op = 20 \/ n.op = 21 then wun n.op (kid out n 0)
 else if n.op = 22 then (if kid out n 0 ≠ 0 then kid out n 1 else kid out n 2)
 else 0
def valF (args : List Int) : List Int -> List Nd -> List Int
 | out, [] => out
 | out, n :: r => valF args (out ++ [vstep args out n]) r
def valA (args : List Int) (l : List Nd) : List Int := valF args [] l
section
variable (args : List Int)
theorem valF_snoc (n : Nd) : ∀ (l : List Nd) (out : List Int), valF args out (l ++ [n]) = valF args out l ++ [vstep args (valF args out l) n]
 | [], out => rfl
 | x :: l, out => by rw [List.cons_append, valF, valF, valF_snoc n l]
theorem valA_snoc (l : List Nd) (n : Nd) : valA args (l ++ [n]) = valA args l ++ [vstep args (valA args l) n] := valF_snoc args n l []
theorem valF_len : ∀ (l : List Nd) (out : List Int), (valF args out l).length = out.length + l.length
 | [], out => rfl
 | x :: l, out => by
   rw [valF, valF_len l]
   simp only [List.length_append, List.length_cons, List.length_nil]
   omega
theorem valA_len (l : List Nd) : (valA args l).length = l.length := by unfold valA; rw [valF_len]; simp
theorem valF_pre : ∀ (l : List Nd) (out : List Int), out <+: valF args out l
 | [], out => List.prefix_refl _
 | x :: l, out => (List.prefix_append _ _).trans (valF_pre l _)
theorem valF_app : ∀ (l r : List Nd) (out : List Int), valF args out (l ++ r) = valF args (valF args out l) r
 | [], r, out => rfl
 | x :: l, r, out => by rw [List.cons_append, valF, valF, valF_app l r]
theorem valA_pre {l y : List Nd} (h : l <+: y) : valA args l <+: valA args y := by
 obtain ⟨r, rfl⟩ := h
 unfold valA
 rw [valF_app]
 exact valF_pre _ _ _
end
def vl (args : List Int) (l : List Nd) (i : Nat) : Int := (valA args l).getD i 0
def Back (l : List Nd) : Prop := ∀ (i : Nat) (n : Nd), l[i]? = some n -> ∀ k ∈ n.ks, 0 <= k /\ k < i
def kv (args : List Int) (l : List Nd) (n : Nd) (j : Nat) : Int := vl args l (n.ks.getD j 0).toNat
theorem vl_pre {args : List Int} {l y : List Nd} (h : l <+: y) {i : Nat} (hi : i < l.length) : vl args y i = vl args l i := by
 obtain ⟨r, hr⟩ := valA_pre args h
 unfold vl
 rw [<- hr, List.getD_eq_getElem?_getD, List.getD_eq_getElem?_getD, List.getElem?_append_left (by rw [valA_len]; exact hi)]
def nk (op : Int) : Nat := if 4 <= op /\ op <= 19 then 2 else if op = 20 \/ op = 21 then 1 else if op = 22 then 3 else 0
theorem vl_at {args : List Int} {l : List Nd} (hb : Back l) {i : Nat} {n : Nd} (hi : l[i]? = some n) (hk : nk n.op <= n.ks.length) : vl args l i =
  (if n.op = 1 then n.im
 else if n.op = 2 then args.getD n.im.toNat 0
 else if 4 <= n.op /\ n.op <= 19 then wbin n.op (kv args l n 0) (kv args l n 1)
 else if n.op = 20 \/ n.op = 21 then wun n.op (kv args l n 0)
 else if n.op = 22 then (if kv args l n 0 ≠ 0 then kv args l n 1 else kv args l n 2)
 else 0) := by
 have hlt : i < l.length := (List.getElem?_eq_some_iff.1 hi).1
 have e : l[i] = n := (List.getElem?_eq_some_iff.1 hi).2
 have h1 : l.take i ++ [n] <+: l := by
  rw [<- e, <- List.take_succ_eq_append_getElem hlt]
  exact List.take_prefix _ _
 have hl : (l.take i).length = i := by rw [List.length_take]; omega
 rw [vl_pre h1 (by simp [hl])]
 have e2 : vl args (l.take i ++ [n]) i = vstep args (valA args (l.take i)) n := by
  unfold vl
  rw [valA_snoc, List.getD_eq_getElem?_getD, List.getElem?_append_right (by rw [valA_len, hl]; exact Nat.le_refl _), valA_len, hl, Nat.sub_self]
  rfl
 rw [e2]
 have ek : ∀ j, j < n.ks.length -> kid (valA args (l.take i)) n j = kv args l n j := fun j hj => by
  have hm : n.ks.getD j 0 ∈ n.ks := by
   rw [List.getD_eq_getElem?_getD, List.getElem?_eq_getElem hj]
   exact List.getElem_mem hj
  have := hb i n hi _ hm
  exact (vl_pre (List.take_prefix i l) (i := (n.ks.getD j 0).toNat) (by rw [hl]; omega)).symm
 unfold vstep
 unfold nk at hk
 split
 ·rfl
 split
 ·rfl
 split
 ·rename_i h; rw [if_pos h] at hk; rw [ek 0 (by omega), ek 1 (by omega)]
 split
 ·rename_i h g; rw [if_neg h, if_pos g] at hk; rw [ek 0 (by omega)]
 split
 ·rename_i h g f; rw [if_neg h, if_neg g, if_pos f] at hk; rw [ek 0 (by omega), ek 1 (by omega), ek 2 (by omega)]
 ·rfl
theorem vstep_inR {args out : List Int} {n : Nd} (ha : ∀ x ∈ args, inR x) (ho : ∀ x ∈ out, inR x) (hi : inR n.im) : inR (vstep args out n) := by
 have z : inR 0 := by unfold inR; omega
 have g : ∀ (l : List Int), (∀ x ∈ l, inR x) -> ∀ j, inR (l.getD j 0) := fun l hl j => by
  rw [List.getD_eq_getElem?_getD]
  rcases Nat.lt_or_ge j l.length with q | q
  ·rw [List.getElem?_eq_getElem q]; exact hl _ (List.getElem_mem q)
  ·rw [List.getElem?_eq_none q]; exact z
 unfold vstep
 repeat' split
 ·exact hi
 ·exact g _ ha _
 ·exact wbin_inR (g _ ho _)
 ·exact wun_inR _ _
 ·exact g _ ho _
 ·exact g _ ho _
 ·exact z
theorem valF_inR {args : List Int} (ha : ∀ x ∈ args, inR x) : ∀ (l : List Nd) (out : List Int), (∀ n ∈ l, inR n.im) -> (∀ x ∈ out, inR x) -> ∀ x ∈ valF args out l, inR x
 | [], out, _, ho => ho
 | n :: r, out, hi, ho => by
   rw [valF]
   refine valF_inR ha r _ (fun m hm => hi m (List.mem_cons_of_mem _ hm)) fun x hx => ?_
   rcases List.mem_append.1 hx with hx | hx
   ·exact ho x hx
   ·rw [List.mem_singleton.1 hx]
    exact vstep_inR ha ho (hi n List.mem_cons_self)
theorem vl_inR {args : List Int} (ha : ∀ x ∈ args, inR x) {l : List Nd} (hi : ∀ n ∈ l, inR n.im) (i : Nat) : inR (vl args l i) := by
 have z : inR 0 := by unfold inR; omega
 have h := valF_inR ha l [] hi (fun x h => (List.not_mem_nil h).elim)
 unfold vl valA
 rw [List.getD_eq_getElem?_getD]
 rcases Nat.lt_or_ge i (valF args [] l).length with q | q
 ·rw [List.getElem?_eq_getElem q]; exact h _ (List.getElem_mem q)
 ·rw [List.getElem?_eq_none q]; exact z
def IvOk (l : List Nd) (q : Nat) (r : Int × Int) : Prop := inR2 r /\ ∀ args : List Int, (∀ x ∈ args, inR x) -> memI r (vl args l q)
theorem IvOk.full {l : List Nd} (hi : ∀ n ∈ l, inR n.im) (q : Nat) : IvOk l q (minW, maxW) := ⟨full_inR2, fun args ha => mem_full _ (vl_inR ha hi q)⟩
def ist (R : List (Int × Int)) (n : Nd) : Int × Int :=
 if n.op = 1 then (n.im, n.im)
 else if n.op = 22 then isel (R.getD (n.ks.getD 0 0).toNat (0, 0)).1 (R.getD (n.ks.getD 0 0).toNat (0, 0)).2 (R.getD (n.ks.getD 1 0).toNat (0, 0)).1 (R.getD (n.ks.getD 1 0).toNat (0, 0)).2 (R.getD (n.ks.getD 2 0).toNat (0, 0)).1 (R.getD (n.ks.getD 2 0).toNat (0, 0)).2
 else if n.op = 20 \/ n.op = 21 then iun n.op (R.getD (n.ks.getD 0 0).toNat (0, 0)).1 (R.getD (n.ks.getD 0 0).toNat (0, 0)).2
 else if 4 <= n.op /\ n.op <= 19 then ibin n.op (R.getD (n.ks.getD 0 0).toNat (0, 0)).1 (R.getD (n.ks.getD 0 0).toNat (0, 0)).2 (R.getD (n.ks.getD 1 0).toNat (0, 0)).1 (R.getD (n.ks.getD 1 0).toNat (0, 0)).2
 else (minW, maxW)
theorem IvOk.step {l : List Nd} (hb : Back l) (hi : ∀ n ∈ l, inR n.im) {i : Nat} (h : i < l.length) (hk : nk l[i].op <= l[i].ks.length) {R : List (Int × Int)} (hR : ∀ q, q < i -> IvOk l q (R.getD q (0, 0))) : IvOk l i (ist R l[i]) := by
 have hli := List.getElem?_eq_getElem h
 have hkk : ∀ j, j < l[i].ks.length -> IvOk l (l[i].ks.getD j 0).toNat (R.getD (l[i].ks.getD j 0).toNat (0, 0)) := fun j hj => by
  have hm : l[i].ks.getD j 0 ∈ l[i].ks := by
   rw [List.getD_eq_getElem?_getD, List.getElem?_eq_getElem hj]
   exact List.getElem_mem hj
  have := hb i _ hli _ hm
  exact hR _ (by omega)
 have hfull := IvOk.full hi i
 have him := hi _ (List.getElem_mem h)
 have hat := fun args => vl_at (args := args) hb hli hk
 unfold nk at hk
 unfold ist
 split
 ·rename_i c
  refine ⟨⟨him, him⟩, fun args ha => ?_⟩
  rw [hat, if_pos c]
  unfold memI; simp
 split
 ·rename_i c0 c
  rw [if_neg (by omega), if_neg (by omega), if_pos c] at hk
  obtain ⟨a1, a2⟩ := hkk 0 (by omega)
  obtain ⟨b1, b2⟩ := hkk 1 (by omega)
  obtain ⟨d1, d2⟩ := hkk 2 (by omega)
  refine ⟨isel_inR2 b1.1 b1.2 d1.1 d1.2, fun args ha => ?_⟩
  rw [hat, if_neg c0, if_neg (by omega), if_neg (by omega), if_neg (by omega), if_pos c]
  have x := a2 args ha; have y := b2 args ha; have z := d2 args ha
  exact sel_in3 x.1 x.2 y.1 y.2 z.1 z.2
 split
 ·rename_i c0 c1 c
  rw [if_neg (by omega), if_pos c] at hk
  obtain ⟨a1, a2⟩ := hkk 0 (by omega)
  refine ⟨iun_inR2 a1.1 a1.2, fun args ha => ?_⟩
  rw [hat, if_neg c0, if_neg (by omega), if_neg (by omega), if_pos c]
  have x := a2 args ha
  exact un_in c x.1 x.2 a1.1 a1.2
 split
 ·rename_i c0 c1 c2 c
  rw [if_pos c] at hk
  obtain ⟨a1, a2⟩ := hkk 0 (by omega)
  obtain ⟨b1, b2⟩ := hkk 1 (by omega)
  refine ⟨ibin_inR2 a1.1 a1.2 b1.1 b1.2, fun args ha => ?_⟩
  rw [hat, if_neg c0, if_neg (by omega), if_pos c]
  have x := a2 args ha; have y := b2 args ha
  exact bin_in c x.1 x.2 y.1 y.2 a1.1 a1.2 b1.1 b1.2
 ·exact hfull
end Go.M14

end

section
set_option linter.unusedVariables false
namespace Go.M14
open Go.Pv Go.M13 Go.M15 Go.M10
def fw (s : Int) : Nd := if s = 2 then ⟨26, 0, []⟩ else ⟨1, 0, []⟩
def rg (n : Nat) : List Int := (List.range n).map fun (m : Nat) => (m : Int)
theorem rg_len (n : Nat) : (rg n).length = n := by unfold rg; simp
theorem rg_succ (n : Nat) : rg (n + 1) = rg n ++ [(n : Int)] := by unfold rg; rw [List.range_succ, List.map_append]; rfl
theorem fw_sort {out : List Int} {s : Int} (h : s = 1 \/ s = 2) : sstep out (fw s) = s := by
 rcases h with rfl | rfl
 ·show (if ([] : List Int).all (kidOk out) = true then nsort 1 0 [] else 0) = 1
  rw [if_pos (show ([] : List Int).all (kidOk out) = true from rfl)]; decide
 ·show (if ([] : List Int).all (kidOk out) = true then nsort 26 0 [] else 0) = 2
  rw [if_pos (show ([] : List Int).all (kidOk out) = true from rfl)]; decide
theorem fw_sortsF : ∀ (S out : List Int), (∀ x ∈ S, x = 1 \/ x = 2) -> sortsF out (S.map fw) = out ++ S
 | [], out, _ => by simp [sortsF]
 | s :: S, out, h => by
   rw [List.map_cons, sortsF, fw_sort (h s List.mem_cons_self), fw_sortsF S _ (fun x hx => h x (List.mem_cons_of_mem _ hx))]
   simp
theorem fw_sorts {S : List Int} (h : ∀ x ∈ S, x = 1 \/ x = 2) : sortsA (S.map fw) = S := by unfold sortsA; rw [fw_sortsF S [] h]; rfl
theorem fw_last {S : List Int} (h : ∀ x ∈ S, x = 1 \/ x = 2) (op im : Int) : (sortsA (S.map fw ++ [⟨op, im, rg S.length⟩])).getD S.length 0 = nsort op im S := by
 rw [sortsA_snoc, fw_sorts h, List.getD_eq_getElem?_getD, List.getElem?_append_right (Nat.le_refl _), Nat.sub_self]
 show sstep S _ = _
 unfold sstep
 have e : (rg S.length).map (fun q => S.getD q.toNat 0) = S := by
  refine List.ext_getElem? fun j => ?_
  unfold rg
  rw [List.map_map, List.getElem?_map]
  rcases Nat.lt_or_ge j S.length with q | q
  ·rw [List.getElem?_range q, List.getElem?_eq_getElem q]
   simp [List.getD_eq_getElem?_getD, List.getElem?_eq_getElem q]
  ·rw [List.getElem?_eq_none (by simpa using q), List.getElem?_eq_none q]; rfl
 rw [if_pos]
 ·simp only [e]
 ·rw [List.all_eq_true]
  intro q hq
  unfold rg at hq
  obtain ⟨m, hm, rfl⟩ := List.mem_map.1 hq
  rw [List.mem_range] at hm
  unfold kidOk
  simp only [Bool.and_eq_true, decide_eq_true_eq, Int.toNat_natCast]
  refine ⟨by omega, by omega, ?_⟩
  rw [List.getD_eq_getElem?_getD, List.getElem?_eq_getElem hm]
  have := h _ (List.getElem_mem hm)
  show S[m] ≠ 0
  omega
structure WG (l : List Nd) : Prop where
 ok : ∀ n ∈ l, okN n /\ n.ks.length <= 3 /\ (n.op ≠ 3 /\ n.op ≠ 25 /\ n.op ≠ 30 /\ n.op ≠ 31)
 wf : WFN l
 ln : 1 <= l.length /\ l.length <= 1000000
theorem wg_node {l : List Nd} (h : WG l) {i : Nat} {n : Nd} (hi : l[i]? = some n) : (∀ k ∈ n.ks, kidOk (sortsA (l.take i)) k = true) /\ arOk n.op = true /\ (n.ks.length : Int) = ar n.op /\ vImm n.op n.im = true := by
 have hlt : i < l.length := (List.getElem?_eq_some_iff.1 hi).1
 have e : l[i] = n := (List.getElem?_eq_some_iff.1 hi).2
 have hs : sstep (sortsA (l.take i)) n ≠ 0 := by
  have h1 := sortsA_step hlt
  have h2 := sortsA_pre (List.take_prefix (i + 1) l)
  obtain ⟨r, hr⟩ := h2
  rw [h1] at hr
  rw [<- e]
  refine h.wf _ ?_
  rw [<- hr]
  simp
 unfold sstep at hs
 split at hs
 ·rename_i ha
  refine ⟨fun k hk => List.all_eq_true.1 ha k hk, ?_⟩
  unfold nsort at hs
  split at hs
  ·exact absurd rfl hs
  ·rename_i hn
   simp only [not_or, Bool.not_eq_false, ne_eq, Decidable.not_not] at hn
   exact ⟨hn.1, by rw [<- hn.2.1]; simp, hn.2.2⟩
 ·exact absurd rfl hs
theorem WG.back {l : List Nd} (h : WG l) : Back l := by
 intro i n hi k hk
 have hlt : i < l.length := (List.getElem?_eq_some_iff.1 hi).1
 have := (wg_node h hi).1 k hk
 unfold kidOk at this
 simp only [Bool.and_eq_true, decide_eq_true_eq] at this
 rw [sortsA_len, List.length_take] at this
 omega
theorem WG.nkl {l : List Nd} (h : WG l) {i : Nat} (hi : i < l.length) : nk l[i].op <= l[i].ks.length := by
 have h1 := (wg_node h (List.getElem?_eq_getElem hi)).2.2.1
 unfold nk
 unfold ar at h1
 split
 ·rw [if_neg (by omega), if_neg (by omega), if_pos (by omega)] at h1; omega
 ·split
  ·rw [if_neg (by omega), if_pos (by omega)] at h1; omega
  ·split
   ·rw [if_neg (by omega), if_neg (by omega), if_neg (by omega), if_pos (by omega)] at h1; omega
   ·exact Nat.zero_le _
theorem WG.s12 {l : List Nd} (h : WG l) : ∀ s ∈ sortsA l, s = 1 \/ s = 2 := by
 intro s hs
 obtain ⟨j, hj, rfl⟩ := List.mem_iff_getElem.1 hs
 have h1 := sortsA_rng l _ hs
 have h2 := h.wf _ hs
 have hj2 : j < l.length := by rw [sortsA_len] at hj; exact hj
 have hn := wg_node h (List.getElem?_eq_getElem hj2)
 have ho := (h.ok _ (List.getElem_mem hj2)).2.2
 have e : (sortsA l).getD j 0 = (sortsA l)[j] := by rw [List.getD_eq_getElem?_getD, List.getElem?_eq_getElem hj]; rfl
 rw [sortsA_at (List.getElem?_eq_getElem hj2)] at e
 unfold sstep at e
 rw [if_pos (List.all_eq_true.2 hn.1)] at e
 have h3 : ∀ x ∈ l[j].ks.map (fun q => (sortsA (l.take j)).getD q.toNat 0), 1 <= x /\ x <= 3 := by
  intro x hx
  obtain ⟨q, hq, rfl⟩ := List.mem_map.1 hx
  have h4 := hn.1 q hq
  unfold kidOk at h4
  simp only [Bool.and_eq_true, decide_eq_true_eq] at h4
  obtain ⟨p1, p2, p3⟩ := h4
  have hlt : q.toNat < (sortsA (l.take j)).length := by omega
  have e2 : (sortsA (l.take j)).getD q.toNat 0 = (sortsA (l.take j))[q.toNat] := by rw [List.getD_eq_getElem?_getD, List.getElem?_eq_getElem hlt]; rfl
  have := sortsA_rng _ _ (List.getElem_mem hlt)
  rw [e2] at p3 ⊢
  omega
 rw [nsort_vo ⟨ho.2.1, ho.2.2.1, ho.2.2.2⟩ h3] at e
 split at e
 ·rename_i hv
  unfold svo at e
  repeat' (split at e)
  all_goals first | omega | skip
  rename_i ha hb
  have hv1 := hv.1
  unfold vOps at hv1
  rw [hb] at hv1
  simp only [true_and, Bool.and_eq_true, decide_eq_true_eq] at hv1
  obtain ⟨_, hl, hv2⟩ := hv1
  obtain ⟨a, b, c, e3⟩ := len3 (hl.trans (by decide))
  rw [e3] at hv2 e
  simp only [List.getD_cons_succ, List.getD_cons_zero] at hv2 e
  split at hv2
  ·omega
  ·have h5 : osL 22 = [1, 1, 1] := rfl
   simp only [h5, List.length_cons, List.length_nil, List.take, decide_eq_true_eq, List.cons.injEq, and_true] at hv2
   omega
 ·omega
theorem NW.wg {i : Nat} {x : List Nd} (h : NW i x) (hi : i <= 1000) : WG x := ⟨fun n hn => ⟨(h.2.1 n hn).1, (h.2.1 n hn).2.1, h.2.2.2.2.2 n hn, (h.2.1 n hn).2.2⟩, h.2.2.1, by have := h.1; omega⟩
def kS (l : List Nd) (i j : Nat) : List Int := ((l.getD i default).ks.take j).map fun q => (sortsA l).getD q.toNat 0
def NP (h : Heap) (id : Nat) (l : List Nd) (i : Nat) (k0 : List Int) : Prop := i < l.length /\ h.get id = .cells (k0.map (IV.int .i64)) /\ id < h.next /\ k0.length = l.length /\ k0.take i = (sortsA l).take i
def NSt (h : Heap) (id : Nat) (l : List Nd) (i j : Nat) (g : Heap) (iF iK : Nat) : Prop := (0 < j /\ j <= (l.getD i default).ks.length) /\ (g.get id = h.get id /\ h.next <= g.next) /\ (g.get iF = .tip (j * 3) /\ iF < g.next /\ iF ≠ id) /\ (g.get iK = .tip j /\ iK < g.next /\ iK ≠ id /\ iK ≠ iF)
theorem kS_len {l : List Nd} {i j : Nat} (h : j <= (l.getD i default).ks.length) : (kS l i j).length = j := by unfold kS; rw [List.length_map, List.length_take]; omega
theorem kS_succ {l : List Nd} {i j : Nat} (hi : i < l.length) (h : j < l[i].ks.length) : kS l i (j + 1) = kS l i j ++ [(sortsA l).getD (l[i].ks[j]).toNat 0] := by
 have e : l.getD i default = l[i] := by rw [List.getD_eq_getElem?_getD, List.getElem?_eq_getElem hi]; rfl
 unfold kS
 rw [e, List.take_succ_eq_append_getElem h, List.map_append]
 rfl
theorem kS_12 {l : List Nd} (hw : WG l) {i j : Nat} (hi : i < l.length) : ∀ x ∈ kS l i j, x = 1 \/ x = 2 := by
 intro x hx
 have e : l.getD i default = l[i] := by rw [List.getD_eq_getElem?_getD, List.getElem?_eq_getElem hi]; rfl
 unfold kS at hx
 rw [e] at hx
 obtain ⟨q, hq, rfl⟩ := List.mem_map.1 hx
 have hb := hw.back i _ (List.getElem?_eq_getElem hi) q (List.mem_of_mem_take hq)
 have hlt : q.toNat < (sortsA l).length := by rw [sortsA_len]; omega
 rw [List.getD_eq_getElem?_getD, List.getElem?_eq_getElem hlt]
 exact hw.s12 _ (List.getElem_mem hlt)
theorem sort_ks {l : List Nd} (hw : WG l) {i : Nat} (hi : i < l.length) : (sortsA l).getD i 0 = nsort l[i].op l[i].im (kS l i l[i].ks.length) := by
 have e : l.getD i default = l[i] := by rw [List.getD_eq_getElem?_getD, List.getElem?_eq_getElem hi]; rfl
 rw [sortsA_at (List.getElem?_eq_getElem hi)]
 unfold sstep
 rw [if_pos (List.all_eq_true.2 (wg_node hw (List.getElem?_eq_getElem hi)).1)]
 unfold kS
 rw [e, List.take_length]
 congr 1
 refine List.map_congr_left fun q hq => ?_
 have hb := hw.back i _ (List.getElem?_eq_getElem hi) q hq
 exact (pre_getD (sortsA_pre (List.take_prefix i l)) (by rw [sortsA_len, List.length_take]; omega)).symm
theorem kS_flat (l : List Nd) (i j : Nat) (n : Nd) : ((kS l i j).map fw ++ [n]).flatMap cN = ((kS l i j).map fw).flatMap cN ++ cN n := by simp
theorem fw1 : cN (fw 1) = [.int .i64 1, .int .i64 0, .vslice none 0 0 1 []] := rfl
theorem fw2 : cN (fw 2) = [.int .i64 26, .int .i64 0, .vslice none 0 0 1 []] := rfl
theorem fw_ok {S : List Int} {op im : Int} {n : Nat} (ho : op ≠ 25 /\ op ≠ 30 /\ op ≠ 31) (hn : n <= 1000000) : ∀ x ∈ S.map fw ++ [(⟨op, im, rg n⟩ : Nd)], x.ks.length <= 1000000 /\ x.op ≠ 25 /\ x.op ≠ 30 /\ x.op ≠ 31 := by
 intro x hx
 rcases List.mem_append.1 hx with hx | hx
 ·obtain ⟨s, _, rfl⟩ := List.mem_map.1 hx
  unfold fw
  split <;> simp
 ·rw [List.mem_singleton.1 hx]
  exact ⟨by show (rg n).length <= 1000000; rw [rg_len]; exact hn, ho⟩
def AS (l : List Nd) (i id : Nat) (g : Heap) (k0 : List Int) : Prop := i <= l.length /\ g.get id = .cells (k0.map (IV.int .i64)) /\ id < g.next /\ k0.length = l.length /\ k0.take i = (sortsA l).take i
def IVh (l : List Nd) (i : Nat) (g : Heap) (iR iU : Nat) (R : List (Int × Int)) (id : Nat) (h : Heap) : Prop := (i <= l.length /\ R.length = l.length /\ ∀ q, q < i -> IvOk l q (R.getD q (0, 0))) /\ (g.get id = h.get id /\ iR ≠ id /\ iU ≠ id /\ iR ≠ iU) /\ g.get iR = .cells (R.flatMap cR) /\ g.get iU = .cells ((List.replicate l.length false).map IV.bool)
theorem cRlen : ∀ R : List (Int × Int), (R.flatMap cR).length = R.length * 2
 | [] => rfl
 | r :: R => by
   rw [List.flatMap_cons, List.length_append, cRlen R, List.length_cons]
   show 2 + _ = _
   omega
theorem setR : ∀ {R : List (Int × Int)} {i : Nat} {a b : Int}, i < R.length -> (R.flatMap cR).take (i * 2) ++ [IV.int .i64 a, IV.int .i64 b] ++ (R.flatMap cR).drop (i * 2 + 2) = (R.set i (a, b)).flatMap cR
 | r :: R, 0, a, b, _ => rfl
 | r :: R, i + 1, a, b, h => by
   have ih := setR (R := R) (i := i) (a := a) (b := b) (by simpa using h)
   rw [List.set_cons_succ, List.flatMap_cons, List.flatMap_cons, <- ih, show (i + 1) * 2 = i * 2 + 2 by omega]
   simp [cR]
theorem ldR {R : List (Int × Int)} {k o : Nat} {K : Int -> Int -> Prop} (h : k < R.length) (ho : o = k * 2) (hk : K R[k].1 R[k].2) : ldIS .i64 (R.flatMap cR) o fun a => ldIS .i64 (R.flatMap cR) (o + 1) fun b => K a b := by
 subst ho
 obtain ⟨q1, q2⟩ := cH_at h
 unfold ldIS
 rw [q1, q2]
 simpa using hk
theorem repl_false (n : Nat) : repl n [IV.bool false] = (List.replicate n false).map IV.bool := by
 induction n with
 | zero => rfl
 | succ n ih => rw [List.replicate_succ, List.map_cons, <- ih]; rfl
theorem repl_00 (n : Nat) : repl n [IV.int .i64 0, IV.int .i64 0] = (List.replicate n ((0 : Int), (0 : Int))).flatMap cR := by
 induction n with
 | zero => rfl
 | succ n ih => rw [List.replicate_succ, List.flatMap_cons, <- ih]; rfl
theorem setU {n i : Nat} (h : i < n) : ((List.replicate n false).map IV.bool).take i ++ [IV.bool false] ++ ((List.replicate n false).map IV.bool).drop (i + 1) = (List.replicate n false).map IV.bool := by
 simp only [List.map_replicate, List.take_replicate, List.drop_replicate]
 rw [show [IV.bool false] = List.replicate 1 (IV.bool false) from rfl, List.replicate_append_replicate, List.replicate_append_replicate]
 congr 1
 omega
theorem fre_intro {h : Heap} {n : Nat} {A : Prop} (e : h.get n = .free) (a : A) : freS h n A := by unfold freS; rw [e]; exact a
theorem ldB_at {cs : List IV} {off : Nat} {K : Bool -> Prop} {b : Bool} (e : cs[off]? = some (.bool b)) (hk : K b) : ldBS cs off K := by
 unfold ldBS; rw [e]; exact hk
theorem uat {n k : Nat} (h : k < n) : ((List.replicate n false).map IV.bool)[k * 1]? = some (.bool false) := by
 rw [Nat.mul_one, List.getElem?_map, List.getElem?_replicate_of_lt h]; rfl
theorem IvOk.set {l : List Nd} {R : List (Int × Int)} {i : Nat} {r : Int × Int} (hR : R.length = l.length) (hi : i < l.length) (ho : ∀ q, q < i -> IvOk l q (R.getD q (0, 0))) (h : IvOk l i r) : ∀ q, q < i + 1 -> IvOk l q ((R.set i r).getD q (0, 0)) := by
 intro q hq
 rw [List.getD_eq_getElem?_getD, List.getElem?_set]
 rcases Nat.lt_or_ge q i with c | c
 ·rw [if_neg (by omega), <- List.getD_eq_getElem?_getD]
  exact ho q c
 ·obtain rfl : q = i := by omega
  rw [if_pos rfl, if_pos (by omega)]
  exact h
theorem and_dec {a b : Prop} [Decidable a] [Decidable b] (h : a /\ b) : (decide a && decide b) = true := by
 rw [Bool.and_eq_true, decide_eq_true_eq, decide_eq_true_eq]; exact h
end Go.M14

end

section
set_option linter.unusedVariables false
namespace Go.M14
open Go.Pv Go.M13 Go.M15 Go.M10
def BHd (g : Heap) (id : Nat) (b : List Bool) : Prop := g.get id = .cells (b.map IV.bool) /\ id < g.next
def MKe (l : List Nd) (j jj : Nat) (b : List Bool) : Prop := jj <= j + 1 /\ b.length = j + 1 /\ b[j]? = some true /\ ∀ (p : Nat) (n : Nd), l[p]? = some n -> jj <= p -> p <= j -> b[p]? = some true -> ∀ k ∈ n.ks, b[k.toNat]? = some true
theorem setB {b : List Bool} {q : Nat} (h : q < b.length) : (b.map IV.bool).take q ++ [IV.bool true] ++ (b.map IV.bool).drop (q + 1) = (b.set q true).map IV.bool := by
 rw [List.set_eq_take_append_cons_drop, if_pos h]
 simp
theorem set_mono {b : List Bool} {q k : Nat} (h : b[k]? = some true) : (b.set q true)[k]? = some true := by
 rw [List.getElem?_set]
 split
 ·have := (List.getElem?_eq_some_iff.1 h).1
  subst_vars
  rw [if_pos this]
 ·exact h
theorem MKe.set {l : List Nd} {j jj q : Nat} {b : List Bool} (h : MKe l j jj b) (hq : q < jj) : MKe l j jj (b.set q true) :=
 ⟨h.1, by rw [List.length_set]; exact h.2.1, set_mono h.2.2.1, fun p n e1 e2 e3 e4 k hk => set_mono (h.2.2.2 p n e1 e2 e3 (by rw [List.getElem?_set_ne (by omega)] at e4; exact e4) k hk)⟩
def sel (b : List Bool) (q : Nat) : List Int := ((List.range q).filter fun p => b[p]? == some true).map fun (p : Nat) => (p : Int)
theorem sel_t {b : List Bool} {q : Nat} (h : b[q]? = some true) : sel b (q + 1) = sel b q ++ [(q : Int)] := by
 unfold sel
 rw [List.range_succ, List.filter_append, List.map_append]
 congr 1
 simp [h]
theorem sel_f {b : List Bool} {q : Nat} (h : b[q]? = some false) : sel b (q + 1) = sel b q := by
 unfold sel
 rw [List.range_succ, List.filter_append, List.map_append]
 simp [h]
theorem mem_sel {b : List Bool} {q : Nat} {x : Int} : x ∈ sel b q ↔ ∃ p : Nat, x = p /\ p < q /\ b[p]? = some true := by
 unfold sel
 rw [List.mem_map]
 constructor
 ·rintro ⟨p, hp, rfl⟩
  rw [List.mem_filter, List.mem_range, beq_iff_eq] at hp
  exact ⟨p, rfl, hp⟩
 ·rintro ⟨p, rfl, h1, h2⟩
  exact ⟨p, by rw [List.mem_filter, List.mem_range, beq_iff_eq]; exact ⟨h1, h2⟩, rfl⟩
theorem sel_sorted (b : List Bool) (q : Nat) : (sel b q).Pairwise (· < ·) := by
 unfold sel
 rw [List.pairwise_map]
 exact (List.Pairwise.filter _ List.pairwise_lt_range).imp (fun h => by omega)
theorem sel_len (b : List Bool) (q : Nat) : (sel b q).length <= q := by
 unfold sel
 rw [List.length_map]
 have := List.length_filter_le (fun p => b[p]? == some true) (List.range q)
 rwa [List.length_range] at this
def DepOk (l : List Nd) (j : Nat) (c : List Int) : Prop := (∀ x ∈ c, 0 <= x /\ x <= j) /\ (∀ (q : Nat) (x : Int) (n : Nd), c[q]? = some x -> l[x.toNat]? = some n -> ∀ k ∈ n.ks, ∃ p : Nat, p < q /\ c[p]? = some k) /\ (∃ p : Nat, c[p]? = some (j : Int)) /\ c.length <= j + 1
theorem MKe.dep {l : List Nd} {j : Nat} {b : List Bool} (h : MKe l j 0 b) (hb : Back l) : DepOk l j (sel b (j + 1)) := by
 obtain ⟨_, h2, h3, h4⟩ := h
 refine ⟨fun x hx => ?_, fun q x n e1 e2 k hk => ?_, ?_⟩
 ·obtain ⟨p, rfl, hp, _⟩ := mem_sel.1 hx
  omega
 ·obtain ⟨hq, e⟩ := List.getElem?_eq_some_iff.1 e1
  have hx : x ∈ sel b (j + 1) := by rw [<- e]; exact List.getElem_mem hq
  obtain ⟨p, rfl, hp, hm⟩ := mem_sel.1 hx
  rw [Int.toNat_natCast] at e2
  have hk2 := hb p n e2 k hk
  have hk3 := h4 p n e2 (Nat.zero_le _) (by omega) hm k hk
  have hkm : k ∈ sel b (j + 1) := mem_sel.2 ⟨k.toNat, by omega, by omega, hk3⟩
  obtain ⟨p2, hp2, e4⟩ := List.mem_iff_getElem.1 hkm
  refine ⟨p2, ?_, by rw [List.getElem?_eq_getElem hp2, e4]⟩
  rcases Nat.lt_or_ge p2 q with c | c
  ·exact c
  ·exfalso
   rcases Nat.lt_or_ge q p2 with d | d
   ·have := (List.pairwise_iff_getElem.1 (sel_sorted b (j + 1))) q p2 hq hp2 d
    rw [e, e4] at this
    omega
   ·obtain rfl : p2 = q := by omega
    rw [e] at e4
    omega
 ·have : (j : Int) ∈ sel b (j + 1) := mem_sel.2 ⟨j, rfl, Nat.lt_succ_self _, h3⟩
  obtain ⟨p, hp, e⟩ := List.mem_iff_getElem.1 this
  exact ⟨⟨p, by rw [List.getElem?_eq_getElem hp, e]⟩, sel_len b (j + 1)⟩
theorem DepOk.len {l : List Nd} {j : Nat} {c : List Int} (h : DepOk l j c) : c.length <= j + 1 := h.2.2.2
theorem mk_at {b : List Bool} {q : Nat} (h : q < b.length) {x : Bool} (e : b[q] = x) : (b.map IV.bool)[0 + q * 1]? = some (.bool x) := by
 rw [Nat.zero_add, Nat.mul_one, List.getElem?_map, List.getElem?_eq_getElem h, e]
 rfl
def VOk (args : List Int) (l : List Nd) (i j : Nat) (c out : List Int) : Prop := out.length = i + 1 /\ ∀ (q : Nat) (x : Int), q < j -> c[q]? = some x -> out[x.toNat]? = some (vl args l x.toNat)
theorem VOk.set {args : List Int} {l : List Nd} {i j : Nat} {c out : List Int} (h : VOk args l i j c out) {x : Int} (hx : c[j]? = some x) (hb : x.toNat < out.length) : VOk args l i (j + 1) c (out.set x.toNat (vl args l x.toNat)) := by
 refine ⟨by rw [List.length_set]; exact h.1, fun q y hq hy => ?_⟩
 rw [List.getElem?_set]
 split
 ·rename_i e
  simp [e]
 ·rcases Nat.lt_or_ge q j with d | d
  ·exact h.2 q y d hy
  ·obtain rfl : q = j := by omega
   rw [hx, Option.some.injEq] at hy
   subst hy
   rename_i e
   exact absurd rfl e
theorem setI {out : List Int} {q : Nat} {v : Int} (h : q < out.length) : (out.map (IV.int .i64)).take q ++ [IV.int .i64 v] ++ (out.map (IV.int .i64)).drop (q + 1) = (out.set q v).map (IV.int .i64) := by
 rw [List.set_eq_take_append_cons_drop, if_pos h]
 simp
end Go.M14

end
