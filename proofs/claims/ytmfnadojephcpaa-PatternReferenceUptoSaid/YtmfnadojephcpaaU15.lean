import Derived.Test.YtmfnadojephcpaaR15
set_option linter.unusedVariables false
namespace Go.M15
open Go.Pv
structure Nd where
 op : Int
 im : Int
 ks : List Int
 deriving DecidableEq, Inhabited
def okN (n : Nd) : Prop := i64b n.op /\ i64b n.im /\ ∀ k ∈ n.ks, i64b k
def b8 (n : Int) : List Int := [IntKind.u8.wrap (n.fdiv 1), IntKind.u8.wrap (n.fdiv 256), IntKind.u8.wrap (n.fdiv 65536), IntKind.u8.wrap (n.fdiv 16777216), IntKind.u8.wrap (n.fdiv 4294967296),
 IntKind.u8.wrap (n.fdiv 1099511627776), IntKind.u8.wrap (n.fdiv 281474976710656), IntKind.u8.wrap (n.fdiv 72057594037927936)]
def u64 (n : Int) : Int := IntKind.u64.wrap n
def keyI (n : Nd) : List Int := b8 (u64 n.op) ++ b8 (u64 n.im) ++ n.ks.flatMap fun k => b8 (u64 k)
def keyF (n : Nd) : List UInt8 := (keyI n).map fun x => UInt8.ofNat x.toNat
theorem u8w (n : Int) : IntKind.u8.wrap n = n % 256 := by
 simp [IntKind.wrap, IntKind.signed, IntKind.bits]
theorem u64w (n : Int) : IntKind.u64.wrap n = n % 18446744073709551616 := by
 simp [IntKind.wrap, IntKind.signed, IntKind.bits]
theorem b8_u8 (n : Int) : ∀ x ∈ b8 n, 0 <= x /\ x < 256 := by
 intro x hx
 unfold b8 at hx
 simp only [u8w, List.mem_cons, List.not_mem_nil, or_false] at hx
 omega
theorem b8_inj {n m : Int} (hn : 0 <= n /\ n < 18446744073709551616) (hm : 0 <= m /\ m < 18446744073709551616) (h : b8 n = b8 m) : n = m := by
 unfold b8 at h
 simp only [u8w, List.cons.injEq, and_true] at h
 obtain ⟨h0, h1, h2, h3, h4, h5, h6, h7⟩ := h
 simp only [Int.fdiv_eq_ediv_of_nonneg _ (show (0 : Int) <= 1 by decide), Int.fdiv_eq_ediv_of_nonneg _ (show (0 : Int) <= 256 by decide), Int.fdiv_eq_ediv_of_nonneg _ (show (0 : Int) <= 65536 by decide), Int.fdiv_eq_ediv_of_nonneg _ (show (0 : Int) <= 16777216 by decide),
  Int.fdiv_eq_ediv_of_nonneg _ (show (0 : Int) <= 4294967296 by decide), Int.fdiv_eq_ediv_of_nonneg _ (show (0 : Int) <= 1099511627776 by decide), Int.fdiv_eq_ediv_of_nonneg _ (show (0 : Int) <= 281474976710656 by decide), Int.fdiv_eq_ediv_of_nonneg _ (show (0 : Int) <= 72057594037927936 by decide), Int.ediv_one] at h0 h1 h2 h3 h4 h5 h6 h7
 have e : ∀ x : Int, x / 65536 = x / 256 / 256 /\ x / 16777216 = x / 65536 / 256 /\ x / 4294967296 = x / 16777216 / 256 /\ x / 1099511627776 = x / 4294967296 / 256 /\ x / 281474976710656 = x / 1099511627776 / 256 /\ x / 72057594037927936 = x / 281474976710656 / 256 := fun x => by
  refine ⟨?_, ?_, ?_, ?_, ?_, ?_⟩ <;> omega
 obtain ⟨a1, a2, a3, a4, a5, a6⟩ := e n
 obtain ⟨c1, c2, c3, c4, c5, c6⟩ := e m
 have k7 : n / 72057594037927936 = m / 72057594037927936 := by omega
 have k6 : n / 281474976710656 = m / 281474976710656 := by omega
 have k5 : n / 1099511627776 = m / 1099511627776 := by omega
 have k4 : n / 4294967296 = m / 4294967296 := by omega
 have k3 : n / 16777216 = m / 16777216 := by omega
 have k2 : n / 65536 = m / 65536 := by omega
 have k1 : n / 256 = m / 256 := by omega
 omega
theorem u64_b (n : Int) : 0 <= u64 n /\ u64 n < 18446744073709551616 := by
 unfold u64
 rw [u64w]
 omega
theorem u64_inj {n m : Int} (hn : i64b n) (hm : i64b m) (h : u64 n = u64 m) : n = m := by
 unfold u64 at h
 rw [u64w, u64w] at h
 unfold i64b at hn hm
 omega
theorem b8_len (n : Int) : (b8 n).length = 8 := rfl
theorem flat_inj : ∀ {a b : List Int}, (∀ k ∈ a, i64b k) -> (∀ k ∈ b, i64b k) -> a.flatMap (fun k => b8 (u64 k)) = b.flatMap (fun k => b8 (u64 k)) -> a = b
 | [], [], _, _, _ => rfl
 | [], y :: b, _, _, h => by simp [b8] at h
 | x :: a, [], _, _, h => by simp [b8] at h
 | x :: a, y :: b, ha, hb, h => by
   rw [List.flatMap_cons, List.flatMap_cons] at h
   obtain ⟨h1, h2⟩ := List.append_inj h (by rw [b8_len, b8_len])
   rw [u64_inj (ha x List.mem_cons_self) (hb y List.mem_cons_self) (b8_inj (u64_b _) (u64_b _) h1), flat_inj (fun k hk => ha k (List.mem_cons_of_mem _ hk)) (fun k hk => hb k (List.mem_cons_of_mem _ hk)) h2]
theorem keyI_inj {a b : Nd} (ha : okN a) (hb : okN b) (h : keyI a = keyI b) : a = b := by
 unfold keyI at h
 obtain ⟨h1, h2⟩ := List.append_inj h (by simp [b8_len])
 obtain ⟨h3, h4⟩ := List.append_inj h1 (by rw [b8_len, b8_len])
 have e1 := u64_inj ha.1 hb.1 (b8_inj (u64_b _) (u64_b _) h3)
 have e2 := u64_inj ha.2.1 hb.2.1 (b8_inj (u64_b _) (u64_b _) h4)
 have e3 := flat_inj ha.2.2 hb.2.2 h2
 cases a; cases b
 simp_all
theorem keyI_u8 (n : Nd) : ∀ x ∈ keyI n, 0 <= x /\ x < 256 := by
 intro x hx
 unfold keyI at hx
 rcases List.mem_append.1 hx with hx | hx
 ·rcases List.mem_append.1 hx with hx | hx
  ·exact b8_u8 _ x hx
  ·exact b8_u8 _ x hx
 ·obtain ⟨k, _, hk⟩ := List.mem_flatMap.1 hx
  exact b8_u8 _ x hk
theorem u8_inj : ∀ {a b : List Int}, (∀ x ∈ a, 0 <= x /\ x < 256) -> (∀ x ∈ b, 0 <= x /\ x < 256) -> a.map (fun x => UInt8.ofNat x.toNat) = b.map (fun x => UInt8.ofNat x.toNat) -> a = b
 | [], [], _, _, _ => rfl
 | [], _ :: _, _, _, h => by simp at h
 | _ :: _, [], _, _, h => by simp at h
 | x :: a, y :: b, ha, hb, h => by
   simp only [List.map_cons, List.cons.injEq] at h
   obtain ⟨h1, h2⟩ := h
   have hx := ha x List.mem_cons_self
   have hy := hb y List.mem_cons_self
   have e := congrArg UInt8.toNat h1
   rw [UInt8.toNat_ofNat_of_lt' (by show x.toNat < 256; omega), UInt8.toNat_ofNat_of_lt' (by show y.toNat < 256; omega)] at e
   rw [show x = y by omega, u8_inj (fun k hk => ha k (List.mem_cons_of_mem _ hk)) (fun k hk => hb k (List.mem_cons_of_mem _ hk)) h2]
theorem keyF_inj {a b : Nd} (ha : okN a) (hb : okN b) : (keyF a == keyF b) = decide (a = b) := by
 by_cases e : a = b
 ·subst e; simp
 ·have : keyF a ≠ keyF b := fun h => e (keyI_inj ha hb (u8_inj (keyI_u8 a) (keyI_u8 b) h))
  simp [e, this]
theorem bytesIV_map : ∀ l : List Int, bytesIV (l.map (IV.int .u8)) = some (l.map fun x => UInt8.ofNat x.toNat)
 | [] => rfl
 | x :: r => by simp [bytesIV, bytesIV_map r]
def fidx (n : Nd) : List Nd -> Nat -> Option Nat
 | [], _ => none
 | x :: r, i => if n = x then some i else fidx n r (i + 1)
def look (k : List UInt8) : List (List UInt8 × Int) -> Option Int
 | [] => none
 | (x, v) :: r => if k == x then some v else look k r
def cE (es : List (List UInt8 × Int)) : List (IV × IV) := es.map fun p => (.str p.1, .int .i64 p.2)
theorem find_cE (k : List UInt8) : ∀ es, findIV .string (.str k) (cE es) = some ((look k es).map (IV.int .i64))
 | [] => rfl
 | (x, v) :: r => by
   have ih := find_cE k r
   unfold cE at ih ⊢
   simp only [List.map_cons, findIV, scalarEq, look]
   cases h : (k == x)
   ·simpa using ih
   ·simp
theorem upd_cE (k : List UInt8) (v : Int) : ∀ es, look k es = none -> updIV .string (.str k) (.int .i64 v) (cE es) = some (cE (es ++ [(k, v)]))
 | [], _ => rfl
 | (x, w) :: r, h => by
   unfold look at h
   split at h
   ·cases h
   ·rename_i hx
    have ih := upd_cE k v r h
    unfold cE at ih ⊢
    simp only [List.map_cons, updIV, scalarEq, List.cons_append]
    rw [Bool.not_eq_true] at hx
    rw [hx]
    simp only [ih, Option.map_some]
def ixf : Nat -> List (List UInt8 × Int) -> List Nd -> List (List UInt8 × Int)
 | _, acc, [] => acc
 | i, acc, n :: r => ixf (i + 1) (if (look (keyF n) acc).isSome then acc else acc ++ [(keyF n, (i : Int))]) r
def ixm (l : List Nd) : List (List UInt8 × Int) := ixf 0 [] l
theorem ixf_snoc (n : Nd) : ∀ (l : List Nd) (i : Nat) (acc : List (List UInt8 × Int)), ixf i acc (l ++ [n]) = if (look (keyF n) (ixf i acc l)).isSome then ixf i acc l else ixf i acc l ++ [(keyF n, ((i + l.length : Nat) : Int))]
 | [], i, acc => by
   simp only [List.nil_append, ixf, List.length_nil, Nat.add_zero]
   try rfl
 | x :: l, i, acc => by
   simp only [List.cons_append, ixf, List.length_cons]
   rw [ixf_snoc n l]
   rw [show i + 1 + l.length = i + (l.length + 1) by omega]
   try rfl
theorem look_app (k : List UInt8) : ∀ (a b : List (List UInt8 × Int)), look k (a ++ b) = (look k a).or (look k b)
 | [], b => rfl
 | (x, v) :: a, b => by
   simp only [List.cons_append, look]
   split
   ·rfl
   ·exact look_app k a b
theorem look_ixf {n : Nd} (hn : okN n) : ∀ (l : List Nd) (i : Nat) (acc : List (List UInt8 × Int)), (∀ x ∈ l, okN x) -> look (keyF n) (ixf i acc l) = (look (keyF n) acc).or ((fidx n l i).map fun j => (j : Int))
 | [], i, acc, _ => by simp [ixf, fidx]
 | x :: l, i, acc, h => by
   simp only [ixf, fidx]
   have hx := h x List.mem_cons_self
   rw [look_ixf hn l (i + 1) _ (fun y hy => h y (List.mem_cons_of_mem _ hy))]
   have hk := keyF_inj hn hx
   by_cases e : n = x
   ·subst e
    rw [if_pos rfl]
    cases hl : look (keyF n) acc with
    | some v => simp [hl]
    | none => simp [hl, look_app, look]
   ·rw [if_neg e]
    rw [decide_eq_false e] at hk
    cases hl : look (keyF x) acc with
    | some v => simp
    | none =>
      simp only [Option.isSome_none, Bool.false_eq_true, if_false]
      rw [look_app]
      simp [look, hk]
theorem look_ixm {n : Nd} (hn : okN n) {l : List Nd} (h : ∀ x ∈ l, okN x) : look (keyF n) (ixm l) = (fidx n l 0).map fun j => (j : Int) := by
 unfold ixm
 rw [look_ixf hn l 0 [] h]
 rfl
def putA (l : List Nd) (n : Nd) : List Nd × Int := match fidx n l 0 with
 | some i => (l, i)
 | none => (l ++ [n], l.length)
theorem ixm_put {n : Nd} (hn : okN n) {l : List Nd} (h : ∀ x ∈ l, okN x) (e : fidx n l 0 = none) : ixm (l ++ [n]) = ixm l ++ [(keyF n, (l.length : Int))] := by
 have h1 := look_ixm hn h
 rw [e] at h1
 unfold ixm at h1 ⊢
 rw [ixf_snoc, h1]
 simp
theorem fidx_lt {n : Nd} : ∀ {l : List Nd} {i j : Nat}, fidx n l i = some j -> i <= j /\ j < i + l.length
 | [], i, j, h => by cases h
 | x :: l, i, j, h => by
   unfold fidx at h
   split at h
   ·cases h
    simp only [List.length_cons]
    omega
   ·have := fidx_lt h
    simp only [List.length_cons]
    omega
mutual
def instA : T -> List Int -> List Int -> List Nd -> List Nd × Int
 | .mk v op im iv ks, vars, imms, l =>
   if 0 < v then (l, vars.getD (v - 1).toNat 0)
   else putA (instAs ks vars imms l).1 ⟨op, if 0 < iv then imms.getD (iv - 1).toNat 0 else im, (instAs ks vars imms l).2⟩
def instAs : List T -> List Int -> List Int -> List Nd -> List Nd × List Int
 | [], _, _, l => (l, [])
 | t :: r, vars, imms, l => ((instAs r vars imms (instA t vars imms l).1).1, (instA t vars imms l).2 :: (instAs r vars imms (instA t vars imms l).1).2)
end
mutual
def T.wi : T -> Int -> Int -> Prop
 | .mk v _ _ iv ks, nv, ni => (0 <= v /\ v <= nv) /\ (0 < v \/ ((0 <= iv /\ iv <= ni) /\ wis ks nv ni))
def wis : List T -> Int -> Int -> Prop
 | [], _, _ => True
 | t :: r, nv, ni => t.wi nv ni /\ wis r nv ni
end
theorem wi_kid : ∀ {ks : List T} {t : T} {nv ni : Int}, wis ks nv ni -> t ∈ ks -> t.wi nv ni
 | x :: r, t, nv, ni, h, hm => by
   rcases List.mem_cons.1 hm with rfl | hm
   ·exact h.1
   ·exact wi_kid h.2 hm
mutual
theorem valP_wi : ∀ (t : T) (s imms : Int) (vs : List Int), 0 <= imms -> (valP t s imms vs).1 = true -> t.wi vs.length imms
 | .mk v op im iv ks, s, imms, vs, h0, h => by
   by_cases hv : v = 0
   ·by_cases hn : nodeOk op im iv ks.length s imms
    ·rw [valP_node hv hn] at h
     refine ⟨by omega, .inr ⟨?_, valPs_wi ks (opk op) imms vs h0 h⟩⟩
     have := hn.2.2.2
     simp only [vIm, decide_eq_true_eq] at this
     omega
    ·rw [valP_no hv hn] at h
     cases h
   ·by_cases hb : badVar v op im iv ks.length vs.length
    ·rw [valP_bad hv hb] at h
     cases h
    ·unfold badVar at hb
     exact ⟨by omega, .inl (by omega)⟩
theorem valPs_wi : ∀ (ks : List T) (q : List Int) (imms : Int) (vs : List Int), 0 <= imms -> (valPs ks q imms vs).1 = true -> wis ks vs.length imms
 | [], _, _, _, _, _ => trivial
 | t :: r, q, imms, vs, h0, h => by
   rw [valPs] at h
   have hlen := valP_len t (q.headD 0) imms vs
   have ht := valP_wi t (q.headD 0) imms vs h0
   split at h
   ·rename_i vs' e
    rw [e] at ht hlen
    have hlen : vs'.length = vs.length := hlen
    have := valPs_wi r q.tail imms vs' h0 h
    rw [hlen] at this
    exact ⟨ht rfl, this⟩
   ·cases h
end
theorem valB_wi {t : T} {nv ni : Int} (h : valB t nv ni = true) : t.wi nv ni /\ t.size <= 24 /\ 0 <= nv /\ nv <= 6 /\ 0 <= ni /\ ni <= 6 := by
 unfold valB at h
 simp only [Bool.and_eq_true, decide_eq_true_eq] at h
 have := valP_wi t 0 ni _ h.1.2.2.1 h.2.2
 rw [List.length_replicate, Int.toNat_of_nonneg h.1.1] at this
 exact ⟨this, h.2.1, h.1⟩
theorem putA_len (l : List Nd) (n : Nd) : l.length <= (putA l n).1.length /\ (putA l n).1.length <= l.length + 1 /\ 0 <= (putA l n).2 /\ (putA l n).2 <= l.length := by
 unfold putA
 split
 ·rename_i i h
  have := fidx_lt h
  simp only
  omega
 ·simp
theorem putA_ok {l : List Nd} {n : Nd} (hl : ∀ x ∈ l, okN x) (hn : okN n) : ∀ x ∈ (putA l n).1, okN x := by
 unfold putA
 split
 ·exact hl
 ·intro x hx
  rcases List.mem_append.1 hx with hx | hx
  ·exact hl x hx
  ·rw [List.mem_singleton.1 hx]
   exact hn
theorem getD_b {l : List Int} {i : Nat} (h : ∀ x ∈ l, i64b x) : i64b (l.getD i 0) := by
 rw [List.getD_eq_getElem?_getD]
 rcases Nat.lt_or_ge i l.length with q | q
 ·rw [List.getElem?_eq_getElem q]
  exact h _ (List.getElem_mem q)
 ·rw [List.getElem?_eq_none q]
  show i64b 0
  unfold i64b
  omega
mutual
theorem instA_len : ∀ (t : T) (vars imms : List Int) (l : List Nd), l.length <= (instA t vars imms l).1.length /\ (instA t vars imms l).1.length <= l.length + t.num
 | .mk v op im iv ks, vars, imms, l => by
   rw [instA]
   split
   ·simp only [T.num]; omega
   ·have h1 := instAs_len ks vars imms l
    have h2 := putA_len (instAs ks vars imms l).1 ⟨op, if 0 < iv then imms.getD (iv - 1).toNat 0 else im, (instAs ks vars imms l).2⟩
    simp only [T.num]
    omega
theorem instAs_len : ∀ (ks : List T) (vars imms : List Int) (l : List Nd), l.length <= (instAs ks vars imms l).1.length /\ (instAs ks vars imms l).1.length <= l.length + nums ks /\ (instAs ks vars imms l).2.length = ks.length
 | [], vars, imms, l => by simp [instAs, nums]
 | t :: r, vars, imms, l => by
   have h1 := instA_len t vars imms l
   have h2 := instAs_len r vars imms (instA t vars imms l).1
   simp only [instAs, nums, List.length_cons]
   omega
end
mutual
theorem instA_ok : ∀ (t : T) (vars imms : List Int) (l : List Nd), t.ok -> (∀ x ∈ vars, i64b x) -> (∀ x ∈ imms, i64b x) -> (∀ x ∈ l, okN x) -> l.length + t.num <= 1000000000 -> (∀ x ∈ (instA t vars imms l).1, okN x) /\ i64b (instA t vars imms l).2
 | .mk v op im iv ks, vars, imms, l, ht, hv, hi, hl, hb => by
   rw [instA]
   split
   ·exact ⟨hl, getD_b hv⟩
   ·simp only [T.num] at hb
    have h1 := instAs_ok ks vars imms l ht.2 hv hi hl (by omega)
    have h3 := instAs_len ks vars imms l
    have hn : okN ⟨op, if 0 < iv then imms.getD (iv - 1).toNat 0 else im, (instAs ks vars imms l).2⟩ := ⟨ht.1.2.1, by
     show i64b (if 0 < iv then imms.getD (iv - 1).toNat 0 else im)
     split
     ·exact getD_b hi
     ·exact ht.1.2.2.1, h1.2⟩
    have h2 := putA_len (instAs ks vars imms l).1 ⟨op, if 0 < iv then imms.getD (iv - 1).toNat 0 else im, (instAs ks vars imms l).2⟩
    exact ⟨putA_ok h1.1 hn, by unfold i64b; omega⟩
theorem instAs_ok : ∀ (ks : List T) (vars imms : List Int) (l : List Nd), oks ks -> (∀ x ∈ vars, i64b x) -> (∀ x ∈ imms, i64b x) -> (∀ x ∈ l, okN x) -> l.length + nums ks <= 1000000000 -> (∀ x ∈ (instAs ks vars imms l).1, okN x) /\ ∀ x ∈ (instAs ks vars imms l).2, i64b x
 | [], vars, imms, l, ht, hv, hi, hl, hb => ⟨hl, by simp [instAs]⟩
 | t :: r, vars, imms, l, ht, hv, hi, hl, hb => by
   simp only [nums] at hb
   have h1 := instA_ok t vars imms l ht.1 hv hi hl (by omega)
   have h3 := instA_len t vars imms l
   have h2 := instAs_ok r vars imms (instA t vars imms l).1 ht.2 hv hi h1.1 (by omega)
   simp only [instAs]
   refine ⟨h2.1, fun x hx => ?_⟩
   rcases List.mem_cons.1 hx with rfl | hx
   ·exact h1.2
   ·exact h2.2 x hx
end
theorem instAs_step {ks : List T} {i : Nat} {vars imms : List Int} {l : List Nd} (h : i < ks.length) :
 instAs (ks.drop i) vars imms l = ((instAs (ks.drop (i + 1)) vars imms (instA ks[i] vars imms l).1).1, (instA ks[i] vars imms l).2 :: (instAs (ks.drop (i + 1)) vars imms (instA ks[i] vars imms l).1).2) := by
 rw [List.drop_eq_getElem_cons h, instAs]
theorem instAs_end {ks : List T} {i : Nat} {vars imms : List Int} {l : List Nd} (h : ks.length <= i) : instAs (ks.drop i) vars imms l = (l, []) := by
 rw [List.drop_eq_nil_of_le h, instAs]
def instB (l : List Nd) (t : T) (vars imms : List Int) : List Nd × Int :=
 if valB t vars.length imms.length = true /\ vars.all (fun i => decide (0 <= i) && decide (i < l.length)) = true then instA t vars imms l else (l, -1)
end Go.M15
namespace Go.Pv
open Go.M15
def cN (n : Nd) : List IV := [.int .i64 n.op, .int .i64 n.im, .vslice none 0 n.ks.length 1 (n.ks.map (IV.int .i64))]
theorem pureL_cN : ∀ {l : List Nd}, pureL (l.flatMap cN) = true
 | [] => rfl
 | x :: r => by
   rw [List.flatMap_cons, pureL_append, pureL_cN, Bool.and_true]
   simp only [cN, pureL, pureB, pureL_ints, Bool.and_true]
theorem cN_at {l : List Nd} {i j : Nat} (h : i < l.length) (hj : j < 3) : (l.flatMap cN)[i * 3 + j]? = (cN l[i])[j]? := by
 induction l generalizing i with
 | nil => simp at h
 | cons x r ih =>
   cases i with
   | zero =>
     rw [List.flatMap_cons, Nat.zero_mul, Nat.zero_add, List.getElem?_append_left (by exact hj)]
     rfl
   | succ i =>
     rw [List.flatMap_cons, List.getElem?_append_right (by show 3 <= _; omega), show (i + 1) * 3 + j - (cN x).length = i * 3 + j by show (i + 1) * 3 + j - 3 = _; omega]
     exact ih (by simpa using h)
theorem ldNd {l : List Nd} {i o : Nat} {K : Int -> Int -> Option Nat -> Nat -> Nat -> List IV -> Prop} (h : i < l.length) (ho : o = i * 3) (hk : K l[i].op l[i].im none 0 l[i].ks.length (l[i].ks.map (IV.int .i64))) :
 ldIS .i64 (l.flatMap cN) o fun a => ldIS .i64 (l.flatMap cN) (o + 1) fun b => ldVS 1 (l.flatMap cN) (o + 1 + 1) fun p q r s => K a b p q r s := by
 subst ho
 have e0 := cN_at (j := 0) h (by omega)
 have e1 := cN_at (j := 1) h (by omega)
 have e2 := cN_at (j := 2) h (by omega)
 unfold ldIS ldVS
 simp only [Nat.add_zero] at e0
 simp only [Nat.add_assoc, Nat.reduceAdd, e0, e1, e2]
 exact hk
end Go.Pv
namespace Go.Pv
theorem ldM_at {cs : List IV} {off id : Nat} {K : Nat -> Prop} (e : cs[off]? = some (.map id)) (hk : K id) : ldMS cs off K := by
 unfold ldMS; rw [e]; exact hk
theorem ldP_at {cs : List IV} {off id o : Nat} {K : Nat -> Nat -> Prop} (e : cs[off]? = some (.ptr id o)) (hk : K id o) : ldPS cs off K := by
 unfold ldPS; rw [e]; exact hk
theorem ldV_at {sz : Nat} {cs : List IV} {off : Nat} {K : Option Nat -> Nat -> Nat -> List IV -> Prop} {i : Option Nat} {a n : Nat} {c : List IV} (e : cs[off]? = some (.vslice i a n sz c)) (hk : K i a n c) : ldVS sz cs off K := by
 unfold ldVS; rw [e]; simpa using hk
theorem byt_intro {cs : List IV} {b : List UInt8} {K : List UInt8 -> Prop} (e : bytesIV cs = some b) (hk : K b) : bytS cs K := by
 unfold bytS; rw [e]; exact hk
theorem mlook_some {h : Heap} {id : Nat} {d : TypeDesc} {key v : IV} {es : List (IV × IV)} {K : List IV -> Prop} {A : Prop} (e : h.get id = .map es) (f : findIV d key es = some (some v)) (hk : K [v]) : mlookS h id d key K A := by
 unfold mlookS; rw [e]; simp only [f]; exact hk
theorem mlook_none {h : Heap} {id : Nat} {d : TypeDesc} {key : IV} {es : List (IV × IV)} {K : List IV -> Prop} {A : Prop} (e : h.get id = .map es) (f : findIV d key es = some none) (hk : A) : mlookS h id d key K A := by
 unfold mlookS; rw [e]; simp only [f]; exact hk
theorem mupd_intro {h : Heap} {id : Nat} {d : TypeDesc} {key v : IV} {es es' : List (IV × IV)} {K : List (IV × IV) -> Prop} (e : h.get id = .map es) (f : updIV d key v es = some es') (hk : K es') : mupdS h id d key v K := by
 unfold mupdS; rw [e]; simp only [f]; exact hk
end Go.Pv
namespace Go.M15
open Go.Pv
theorem keyI_take {op im : Int} {ks : List Int} {k : Nat} (h : k < ks.length) : keyI ⟨op, im, ks.take (k + 1)⟩ = keyI ⟨op, im, ks.take k⟩ ++ b8 (u64 ks[k]) := by
 unfold keyI
 simp only [List.append_assoc, List.append_cancel_left_eq]
 rw [List.take_succ_eq_append_getElem h, List.flatMap_append]
 simp
def isKey (n : Nd) (cs : List IV) : Prop := cs = (keyI n).map (IV.int .u8)
def isKy (n : Nd) (s : List UInt8) : Prop := s = keyF n
theorem keyI_len (n : Nd) : (keyI n).length = 16 + 8 * n.ks.length := by
 unfold keyI
 have : ∀ l : List Int, (l.flatMap fun k => b8 (u64 k)).length = 8 * l.length := by
  intro l
  induction l with
  | nil => rfl
  | cons x r ih => rw [List.flatMap_cons, List.length_append, ih, b8_len, List.length_cons]; omega
 rw [List.length_append, List.length_append, b8_len, b8_len, this]
def IS (h : Heap) (id m iL : Nat) (vars imms : List Int) (l : List Nd) : Prop := (id < h.next /\ m < h.next /\ iL < h.next) /\
 h.get id = .cells [.vslice (some iL) (l.length * 3) l.length 3 (l.flatMap cN), .map m, .vslice none 0 vars.length 1 (vars.map (IV.int .i64)), .vslice none 0 imms.length 1 (imms.map (IV.int .i64))] /\
 h.get iL = .tip (l.length * 3) /\ h.get m = .map (cE (ixm l))
def FR3 (id m iL : Nat) (h h2 : Heap) : Prop := h.next <= h2.next /\ ∀ j, j < h.next -> j ≠ id -> j ≠ m -> j ≠ iL -> h2.get j = h.get j
theorem FR3.refl {id m iL : Nat} {h : Heap} : FR3 id m iL h h := ⟨Nat.le_refl _, fun _ _ _ _ _ => rfl⟩
theorem FR3.trans {id m iL : Nat} {a b c : Heap} (x : FR3 id m iL a b) (y : FR3 id m iL b c) : FR3 id m iL a c :=
 ⟨Nat.le_trans x.1 y.1, fun j h1 h2 h3 h4 => by rw [y.2 j (Nat.lt_of_lt_of_le h1 x.1) h2 h3 h4, x.2 j h1 h2 h3 h4]⟩
theorem IS.ne {h : Heap} {id m iL : Nat} {vars imms : List Int} {l : List Nd} (s : IS h id m iL vars imms l) : id ≠ m /\ id ≠ iL /\ m ≠ iL := by
 obtain ⟨_, h1, h2, h3⟩ := s
 refine ⟨fun e => ?_, fun e => ?_, fun e => ?_⟩
 ·subst e; rw [h1] at h3; cases h3
 ·subst e; rw [h1] at h2; cases h2
 ·subst e; rw [h2] at h3; cases h3
theorem FR3.push {id m iL : Nat} {h g : Heap} {x : IObj} (f : FR3 id m iL h g) : FR3 id m iL h (g.push x) :=
 ⟨Nat.le_succ_of_le f.1, fun j h1 h2 h3 h4 => by rw [get_push_lt (Nat.lt_of_lt_of_le h1 f.1), f.2 j h1 h2 h3 h4]⟩
theorem FR3.set {id m iL i : Nat} {h g : Heap} {x : IObj} (f : FR3 id m iL h g) (hi : h.next <= i) : FR3 id m iL h (g.set i x) :=
 ⟨f.1, fun j h1 h2 h3 h4 => by rw [get_set_ne (by omega), f.2 j h1 h2 h3 h4]⟩
theorem IS.push {h : Heap} {id m iL : Nat} {vars imms : List Int} {l : List Nd} (s : IS h id m iL vars imms l) {x : IObj} : IS (h.push x) id m iL vars imms l := by
 obtain ⟨⟨b1, b2, b3⟩, h1, h2, h3⟩ := s
 exact ⟨⟨Nat.lt_succ_of_lt b1, Nat.lt_succ_of_lt b2, Nat.lt_succ_of_lt b3⟩, by rw [get_push_lt b1, h1], by rw [get_push_lt b3, h2], by rw [get_push_lt b2, h3]⟩
theorem IS.set {h : Heap} {id m iL i : Nat} {vars imms : List Int} {l : List Nd} (s : IS h id m iL vars imms l) {x : IObj} (h4 : i ≠ id) (h5 : i ≠ m) (h6 : i ≠ iL) : IS (h.set i x) id m iL vars imms l := by
 obtain ⟨b, h1, h2, h3⟩ := s
 exact ⟨b, by rw [get_set_ne h4.symm, h1], by rw [get_set_ne h6.symm, h2], by rw [get_set_ne h5.symm, h3]⟩
def IZ (h : Heap) (id m : Nat) (vars imms : List Int) (l : List Nd) : Prop := (l = [] /\ (id < h.next /\ m < h.next /\ id ≠ m) /\ h.get id = .cells [.nilslice, .map m, .vslice none 0 vars.length 1 (vars.map (IV.int .i64)), .vslice none 0 imms.length 1 (imms.map (IV.int .i64))] /\ h.get m = .map (cE [])) \/
 ∃ iL, IS h id m iL vars imms l
def IP (h : Heap) (id m : Nat) (vars imms : List Int) (l : List Nd) (n : Nd) : Prop := ∃ iL, (id < h.next /\ m < h.next /\ iL < h.next) /\
 h.get id = .cells [.vslice (some iL) ((l ++ [n]).length * 3) (l ++ [n]).length 3 ((l ++ [n]).flatMap cN), .map m, .vslice none 0 vars.length 1 (vars.map (IV.int .i64)), .vslice none 0 imms.length 1 (imms.map (IV.int .i64))] /\
 h.get iL = .tip ((l ++ [n]).length * 3) /\ h.get m = .map (cE (ixm l))
theorem IZ.push {h : Heap} {id m : Nat} {vars imms : List Int} {l : List Nd} (s : IZ h id m vars imms l) {x : IObj} : IZ (h.push x) id m vars imms l := by
 rcases s with ⟨h0, ⟨b1, b2, b3⟩, h1, h2⟩ | ⟨iL, s⟩
 ·exact .inl ⟨h0, ⟨Nat.lt_succ_of_lt b1, Nat.lt_succ_of_lt b2, b3⟩, by rw [get_push_lt b1, h1], by rw [get_push_lt b2, h2]⟩
 ·exact .inr ⟨iL, s.push⟩
theorem IZ.toP {g : Heap} {id m : Nat} {vars imms : List Int} (b1 : id < g.next) (b2 : m < g.next) (hne : id ≠ m) (h1 : g.get id = .cells [.nilslice, .map m, .vslice none 0 vars.length 1 (vars.map (IV.int .i64)), .vslice none 0 imms.length 1 (imms.map (IV.int .i64))]) (h2 : g.get m = .map (cE [])) (n : Nd) :
 IP ((g.push (.tip 3)).set id (.cells (.vslice (some g.next) 3 1 3 (cN n) :: [.map m, .vslice none 0 vars.length 1 (vars.map (IV.int .i64)), .vslice none 0 imms.length 1 (imms.map (IV.int .i64))]))) id m vars imms [] n := by
 refine ⟨g.next, ⟨Nat.lt_succ_of_lt b1, Nat.lt_succ_of_lt b2, Nat.lt_succ_self _⟩, ?_, ?_, ?_⟩
 ·rw [get_set_eq]; simp
 ·rw [get_set_ne (Nat.ne_of_gt b1), get_push_eq]; rfl
 ·rw [get_set_ne hne.symm, get_push_lt b2, h2]; rfl
theorem IS.toP {g : Heap} {id m iL : Nat} {vars imms : List Int} {l : List Nd} (s : IS g id m iL vars imms l) (n : Nd) :
 IP ((g.set iL (.tip (l.length * 3 + 3))).set id (.cells (.vslice (some iL) (l.length * 3 + 3) (l.length + 1) 3 (l.flatMap cN ++ cN n) :: [.map m, .vslice none 0 vars.length 1 (vars.map (IV.int .i64)), .vslice none 0 imms.length 1 (imms.map (IV.int .i64))]))) id m vars imms l n := by
 obtain ⟨n1, n2, n3⟩ := s.ne
 obtain ⟨b, h1, h2, h3⟩ := s
 refine ⟨iL, b, ?_, ?_, ?_⟩
 ·rw [get_set_eq]; simp [Nat.succ_mul]
 ·rw [get_set_ne n2.symm, get_set_eq]; simp [Nat.succ_mul]
 ·rw [get_set_ne n1.symm, get_set_ne n3, h3]
theorem IP.found {h : Heap} {id m : Nat} {vars imms : List Int} {l : List Nd} {n : Nd} (s : IP h id m vars imms l n) (hn : okN n) (hl : ∀ x ∈ l, okN x) {i : Nat} (e : fidx n l 0 = some i) : IZ h id m vars imms (l ++ [n]) := by
 obtain ⟨iL, b, h1, h2, h3⟩ := s
 refine .inr ⟨iL, b, h1, h2, ?_⟩
 have hk := look_ixm hn hl
 rw [e] at hk
 unfold ixm at hk h3 ⊢
 rw [ixf_snoc, hk]
 exact h3
theorem IP.new {h : Heap} {id m : Nat} {vars imms : List Int} {l : List Nd} {n : Nd} (s : IP h id m vars imms l n) (hn : okN n) (hl : ∀ x ∈ l, okN x) (e : fidx n l 0 = none) : IZ (h.set m (.map (cE (ixm l ++ [(keyF n, (l.length : Int))])))) id m vars imms (l ++ [n]) := by
 obtain ⟨iL, b, h1, h2, h3⟩ := s
 refine .inr ⟨iL, b, ?_, ?_, ?_⟩
 ·rw [get_set_ne (fun q => by subst q; rw [h1] at h3; cases h3), h1]
 ·rw [get_set_ne (fun q => by subst q; rw [h2] at h3; cases h3), h2]
 ·rw [get_set_eq, ixm_put hn hl e]
def KB (l : List Nd) : Prop := ∀ x ∈ l, x.ks.length <= 1000000
theorem putA_kb {l : List Nd} {n : Nd} (hl : KB l) (hn : n.ks.length <= 1000000) : KB (putA l n).1 := by
 unfold putA
 split
 ·exact hl
 ·intro x hx
  rcases List.mem_append.1 hx with hx | hx
  ·exact hl x hx
  ·rw [List.mem_singleton.1 hx]
   exact hn
mutual
theorem instA_kb : ∀ (t : T) (vars imms : List Int) (l : List Nd), KB l -> t.num <= 1000001 -> KB (instA t vars imms l).1
 | .mk v op im iv ks, vars, imms, l, hl, hn => by
   rw [instA]
   split
   ·exact hl
   ·simp only [T.num] at hn
    have h1 := instAs_len ks vars imms l
    have h2 := len_nums ks
    exact putA_kb (instAs_kb ks vars imms l hl (by omega)) (by rw [h1.2.2]; omega)
theorem instAs_kb : ∀ (ks : List T) (vars imms : List Int) (l : List Nd), KB l -> nums ks <= 1000001 -> KB (instAs ks vars imms l).1
 | [], vars, imms, l, hl, _ => hl
 | t :: r, vars, imms, l, hl, hn => by
   simp only [nums] at hn
   rw [instAs]
   exact instAs_kb r vars imms _ (instA_kb t vars imms l hl (by omega)) (by omega)
end
theorem KB.step {l : List Nd} {t : T} {vars imms : List Int} (h : KB l) (hn : t.num <= 1000001) : KB (instA t vars imms l).1 := instA_kb t vars imms l h hn
def immV (iv im : Int) (imms : List Int) : Int := if 0 < iv then imms.getD (iv - 1).toNat 0 else im
theorem instA_node {v op im iv : Int} {ks : List T} {vars imms : List Int} {l : List Nd} (hv : ¬ 0 < v) : instA (.mk v op im iv ks) vars imms l = putA (instAs ks vars imms l).1 ⟨op, immV iv im imms, (instAs ks vars imms l).2⟩ := by
 rw [instA, if_neg hv]
 rfl
theorem instA_var {v op im iv : Int} {ks : List T} {vars imms : List Int} {l : List Nd} (hv : 0 < v) : instA (.mk v op im iv ks) vars imms l = (l, vars.getD (v - 1).toNat 0) := by
 rw [instA, if_pos hv]
def IK (ks : List T) (vars imms : List Int) (l : List Nd) (i : Nat) (li : List Nd) (kids : List Int) : Prop :=
 (instAs ks vars imms l = ((instAs (ks.drop i) vars imms li).1, kids ++ (instAs (ks.drop i) vars imms li).2) /\ i <= ks.length /\ kids.length = i) /\
 ((∀ x ∈ li, okN x) /\ (∀ x ∈ kids, i64b x) /\ li.length + nums (ks.drop i) + 1 <= 1000000000)
theorem IK.step {ks : List T} {vars imms : List Int} {l li : List Nd} {i : Nat} {kids : List Int} (h : IK ks vars imms l i li kids) (hlt : i < ks.length) (hok : oks ks) (hv : ∀ x ∈ vars, i64b x) (hi : ∀ x ∈ imms, i64b x) :
 IK ks vars imms l (i + 1) (instA ks[i] vars imms li).1 (kids ++ [(instA ks[i] vars imms li).2]) /\ li.length + ks[i].num <= 1000000000 := by
 obtain ⟨⟨h1, h2, h3⟩, h4, h5, h6⟩ := h
 rw [nums_drop hlt] at h6
 rw [instAs_step hlt] at h1
 have hl := instA_len ks[i] vars imms li
 have ho := instA_ok ks[i] vars imms li (ok_kid hok (List.getElem_mem hlt)) hv hi h4 (by omega)
 refine ⟨⟨⟨by rw [h1]; simp, hlt, by simp [h3]⟩, ho.1, fun x hx => ?_, by omega⟩, by omega⟩
 rcases List.mem_append.1 hx with hx | hx
 ·exact h5 x hx
 ·rw [List.mem_singleton.1 hx]
  exact ho.2
theorem IK.last {ks : List T} {vars imms : List Int} {l li : List Nd} {i : Nat} {kids : List Int} (h : IK ks vars imms l i li kids) (hlt : ks.length <= i) : instAs ks vars imms l = (li, kids) := by
 have := h.1.1
 rw [instAs_end hlt] at this
 simpa using this
theorem IS.app {h : Heap} {id m iL : Nat} {vars imms : List Int} {l : List Nd} (s : IS h id m iL vars imms l) {n : Nd} (hn : okN n) (hl : ∀ x ∈ l, okN x) (e : fidx n l 0 = none) (r : List IV) (hr : h.get id = .cells r) :
 IS (((h.set m (.map (cE (ixm l ++ [(keyF n, (l.length : Int))])))).set iL (.tip (l.length * 3 + 3))).set id (.cells (.vslice (some iL) (l.length * 3 + 3) (l.length + 1) 3 (l.flatMap cN ++ cN n) :: r.drop 1))) id m iL vars imms (l ++ [n]) := by
 obtain ⟨n1, n2, n3⟩ := s.ne
 obtain ⟨hb, h1, h2, h3⟩ := s
 rw [h1] at hr
 cases hr
 refine ⟨hb, ?_, ?_, ?_⟩
 ·rw [get_set_eq]; simp [Nat.succ_mul]
 ·rw [get_set_ne n2.symm, get_set_eq]; simp [Nat.succ_mul]
 ·rw [get_set_ne n1.symm, get_set_ne n3, get_set_eq, ixm_put hn hl e]
end Go.M15
