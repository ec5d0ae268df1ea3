/-
  Terms: the graph of the statement TermLoops, in plain Lean.
  Conditions: none.
-/
import Derived.Test.YthoehkkoaegeoaaZL10
set_option linter.unusedVariables false
namespace Go.M10
open Go.M15 Go.Pv Go.M29
/-- a row of integers: a literal, or in the heap -/
def KI (io : Option Nat) (e : Nat) (ks : List Int) (g : Heap) : Prop := (io = none ∧ e = 1) ∨ ∃ id, io = some id ∧ e = ks.length ∧ g.get id = .tip ks.length
def TLc (j n : Nat) (m : Int) : Prop := (1 ≤ j ∧ j ≤ n ∧ n ≤ 16) ∧ 0 ≤ m ∧ m ≤ 15
theorem app_ints {g : Heap} {io : Option Nat} {e : Nat} {ks qs : List Int} {z : Nat} {cs : List IV} {K : Nat → Nat → Nat → List IV → Heap → Prop}
    (hs : KI io e ks g) (hz : z = qs.length) (hc : cs = qs.map (IV.int .i64)) (hl : ks.length + qs.length ≤ 1000000) (h0 : 0 < qs.length)
    (hk : ∀ id h2, h2.get id = .tip (ks ++ qs).length → K id (ks ++ qs).length (ks ++ qs).length ((ks ++ qs).map (IV.int .i64)) h2) :
    appGS g 1 8 (.vslice io e ks.length 1 (ks.map (IV.int .i64))) z cs K := by
  subst hz hc
  rcases hs with ⟨rfl, rfl⟩ | ⟨id, rfl, rfl, k1⟩
  · refine ⟨⟨rfl, by omega⟩, ?_⟩
    have := hk g.next (g.push (.tip ((ks.length + qs.length) * 1))) (by rw [get_push_eq]; simp)
    simpa using this
  · refine ⟨⟨rfl, by omega, k1⟩, ?_⟩
    have := hk id (g.set id (.tip (ks.length + qs.length * 1))) (by rw [get_set_eq]; simp)
    simpa using this
theorem kA_snoc : ∀ (n i : Nat), kA i (n + 1) = kA i n ++ [1 + (((i + n) % 2 : Nat) : Int)]
  | 0, i => rfl
  | n + 1, i => by
    rw [kA, kA_snoc n (i + 1), kA, List.cons_append, show i + 1 + n = i + (n + 1) by omega]
theorem kB_snoc : ∀ (n i : Nat), kB i (n + 1) = kB i n ++ [2 - (((i + n) % 2 : Nat) : Int)]
  | 0, i => rfl
  | n + 1, i => by
    rw [kB, kB_snoc n (i + 1), kB, List.cons_append, show i + 1 + n = i + (n + 1) by omega]
theorem kA_len : ∀ (n i : Nat), (kA i n).length = n
  | 0, i => rfl
  | n + 1, i => by rw [kA, List.length_cons, kA_len n]
theorem kB_len : ∀ (n i : Nat), (kB i n).length = n
  | 0, i => rfl
  | n + 1, i => by rw [kB, List.length_cons, kB_len n]
theorem kA_m : ∀ (n i : Nat), ∀ x ∈ kA i n, x = 1 ∨ x = 2
  | 0, i, x, h => by cases h
  | n + 1, i, x, h => by
    rw [kA] at h
    rcases List.mem_cons.1 h with rfl | h
    · omega
    · exact kA_m n (i + 1) x h
theorem kB_m : ∀ (n i : Nat), ∀ x ∈ kB i n, x = 1 ∨ x = 2
  | 0, i, x, h => by cases h
  | n + 1, i, x, h => by
    rw [kB] at h
    rcases List.mem_cons.1 h with rfl | h
    · omega
    · exact kB_m n (i + 1) x h
theorem lk_len {n : Nat} (h : 1 ≤ n) : (lk n).length = 2 * n + 1 := by
  unfold lk
  simp only [List.length_cons, List.length_append, kA_len, kB_len]
  omega
theorem lk_m {n : Nat} : ∀ x ∈ lk n, x = 0 ∨ x = 1 ∨ x = 2 := by
  intro x hx
  unfold lk at hx
  simp only [List.mem_cons, List.mem_append] at hx
  rcases hx with h | h | h | h | h
  · exact .inl h
  · exact .inr (kA_m _ _ x h)
  · exact .inr (.inr h)
  · exact .inl h
  · exact .inr (kB_m _ _ x h)
theorem map_one {f : Int → Int} {k : List Int} (h : ∀ x ∈ k, f x = 1) : k.map f = List.replicate k.length 1 := by
  refine List.eq_replicate_iff.2 ⟨by simp, fun x hx => ?_⟩
  obtain ⟨y, hy, rfl⟩ := List.mem_map.1 hx
  exact h y hy
/-- the sorts of the loop's operands -/
theorem lk_sorts {n : Nat} (h : 1 ≤ n) (f : Int → Int) (f0 : f 0 = 2) (f1 : f 1 = 1) (f2 : f 2 = 1) : (lk n).map f = lsL n := by
  unfold lk lsL
  have hA : (kA 1 (n - 1)).map f = List.replicate (n - 1) 1 := by
    rw [map_one (fun x hx => by rcases kA_m _ _ x hx with rfl | rfl <;> assumption), kA_len]
  have hB : (kB 1 (n - 1)).map f = List.replicate (n - 1) 1 := by
    rw [map_one (fun x hx => by rcases kB_m _ _ x hx with rfl | rfl <;> assumption), kB_len]
  rw [List.map_cons, List.map_append, List.map_cons, List.map_cons, hA, hB, f0, f2]
  obtain ⟨m, rfl⟩ : ∃ m, n = m + 1 := ⟨n - 1, by omega⟩
  rw [Nat.add_sub_cancel, List.replicate_succ' , List.append_assoc]
  rfl
/-- a loop and a result of it behind three leaves -/
theorem sorts_loop {a b c : Nd} {m w : Int} {ks : List Int} {n : Nat} (h1 : 1 ≤ n) (h2 : n ≤ 16) (hm : 0 ≤ m ∧ m ≤ 15) (hw : 0 ≤ w ∧ w < n) (hs : sortsG [a, b, c] = [2, 1, 1])
    (hk : ∀ x ∈ ks, x = 0 ∨ x = 1 ∨ x = 2) (hl : ks.map (fun q => ([2, 1, 1] : List Int).getD q.toNat 0) = lsL n) : sortsG [a, b, c, ⟨31, m, ks⟩, ⟨25, w, [3]⟩] = [2, 1, 1, 3, if w = 0 then 2 else 1] := by
  have hlen : ks.length = 2 * n + 1 := by
    have := congrArg List.length hl
    rw [List.length_map, lsL_len h1] at this
    exact this
  have e1 : sstepG [a, b, c] [2, 1, 1] ⟨31, m, ks⟩ = 3 := by
    unfold sstepG
    rw [if_pos]
    · show nsortG _ 31 m (ks.map fun q => ([2, 1, 1] : List Int).getD q.toNat 0) = 3
      rw [hl]
      unfold nsortG
      have hv : vImm 31 m = true := by
        have : mxI 31 = 15 := by decide
        unfold vImm
        rw [decide_eq_true_eq]
        omega
      rw [if_pos rfl, if_pos ⟨lsOk_ls h1 h2, hv⟩]
    · rw [List.all_eq_true]
      intro x hx
      rcases hk x hx with rfl | rfl | rfl <;> decide
  have e2 : sstepG [a, b, c, ⟨31, m, ks⟩] [2, 1, 1, 3] ⟨25, w, [3]⟩ = if w = 0 then 2 else 1 := by
    unfold sstepG
    rw [if_pos (show ([3] : List Int).all (kidOk [2, 1, 1, 3]) = true by decide)]
    have ee : eK [a, b, c, ⟨31, m, ks⟩] ⟨25, w, [3]⟩ = ks.length := rfl
    rw [ee]
    show nsortG _ 25 w [3] = _
    unfold nsortG
    rw [if_neg (by decide), if_neg (by decide), if_pos rfl, if_pos ⟨rfl, hw.1, by omega, by rw [hlen]; omega⟩]
  have h3 := sortsG_snoc [a, b, c] ⟨31, m, ks⟩
  rw [hs, e1] at h3
  have h4 := sortsG_snoc [a, b, c, ⟨31, m, ks⟩] ⟨25, w, [3]⟩
  rw [show sortsG [a, b, c, ⟨31, m, ks⟩] = [2, 1, 1, 3] from h3, e2] at h4
  exact h4
theorem sorts_lst {n : Nat} {m w : Int} (h1 : 1 ≤ n) (h2 : n ≤ 16) (hm : 0 ≤ m ∧ m ≤ 15) (hw : 0 ≤ w ∧ w < n) : sortsG (lst n m w) = [2, 1, 1, 3, if w = 0 then 2 else 1] :=
  sorts_loop h1 h2 hm hw (by decide) lk_m (lk_sorts h1 _ rfl rfl rfl)
theorem yk_m {n : Nat} : ∀ x ∈ yk n, x = 0 ∨ x = 1 ∨ x = 2 := by
  intro x hx
  unfold yk at hx
  obtain ⟨y, hy, rfl⟩ := List.mem_map.1 hx
  rcases lk_m y hy with rfl | rfl | rfl <;> simp
theorem sorts_ylst {n : Nat} {m w : Int} (h1 : 1 ≤ n) (h2 : n ≤ 16) (hm : 0 ≤ m ∧ m ≤ 15) (hw : 0 ≤ w ∧ w < n) : sortsG (ylst n m w) = if n = 1 then [2, 1, 3, if w = 0 then 2 else 1] else [2, 1, 1, 3, if w = 0 then 2 else 1] := by
  unfold ylst
  split
  · rename_i h
    subst h
    obtain rfl : w = 0 := by omega
    have hm2 : m = 0 ∨ m = 1 ∨ m = 2 ∨ m = 3 ∨ m = 4 ∨ m = 5 ∨ m = 6 ∨ m = 7 ∨ m = 8 ∨ m = 9 ∨ m = 10 ∨ m = 11 ∨ m = 12 ∨ m = 13 ∨ m = 14 ∨ m = 15 := by omega
    rcases hm2 with rfl | rfl | rfl | rfl | rfl | rfl | rfl | rfl | rfl | rfl | rfl | rfl | rfl | rfl | rfl | rfl <;> decide
  · refine sorts_loop h1 h2 hm hw (by decide) yk_m ?_
    unfold yk
    rw [List.map_map]
    exact lk_sorts h1 _ rfl rfl rfl
theorem bk_nil : Back [] := fun i n h => by simp at h
theorem bk_loop {a b c : Nd} {m w : Int} {ks : List Int} (ha : a.ks = []) (hb : b.ks = []) (hc : c.ks = []) (hk : ∀ x ∈ ks, x = 0 ∨ x = 1 ∨ x = 2) : Back [a, b, c, ⟨31, m, ks⟩, ⟨25, w, [3]⟩] := by
  have h0 : ∀ {k : Int} {l : List Int} {P : Prop}, l = [] → k ∈ l → P := fun e h => by rw [e] at h; cases h
  have h3 : Back [a, b, c] := back_snoc (y := [a, b]) (back_snoc (y := [a]) (back_snoc (y := []) bk_nil (fun k h => h0 ha h)) (fun k h => h0 hb h)) (fun k h => h0 hc h)
  refine back_snoc (y := [a, b, c, ⟨31, m, ks⟩]) (back_snoc (y := [a, b, c]) h3 fun k h => ?_) fun k h => ?_
  · have := hk k h
    show 0 ≤ k ∧ k < ((3 : Nat) : Int)
    omega
  · have := List.mem_singleton.1 h
    show 0 ≤ k ∧ k < ((4 : Nat) : Int)
    omega
theorem rg_lst {n : Nat} {m w : Int} (h1 : 1 ≤ n) (h2 : n ≤ 16) (hm : 0 ≤ m ∧ m ≤ 15) (hw : 0 ≤ w ∧ w < n) : RG5 (lst n m w) (lst n m w) := by
  have hl := lk_len h1
  refine ⟨?_, ?_, bk_loop rfl rfl rfl lk_m, fun q h => ⟨q, h, rfl⟩, by simp [lst]⟩
  · intro x hx
    unfold lst at hx
    simp only [List.mem_cons, List.not_mem_nil, or_false] at hx
    rcases hx with rfl | rfl | rfl | rfl | rfl
    · refine ⟨⟨by decide, by unfold okN i64b; simp⟩, by simp, by decide, by decide, by unfold Tl; decide⟩
    · refine ⟨⟨by decide, by unfold okN i64b; simp⟩, by simp, by decide, by decide, by unfold Tl; decide⟩
    · refine ⟨⟨by decide, by unfold okN i64b; simp⟩, by simp, by decide, by decide, by unfold Tl; decide⟩
    · refine ⟨⟨by simp, ?_⟩, by dsimp only; omega, by simp, ?_, ?_⟩
      · refine ⟨?_, ?_, ?_⟩
        · unfold i64b; simp
        · unfold i64b; dsimp only; omega
        · intro k hk; have := lk_m k hk; unfold i64b; omega
      · have : mxI 31 = 15 := by decide
        unfold vImm
        rw [decide_eq_true_eq]
        dsimp only
        omega
      · exact ⟨.inr (by simp [tok]), by simp, by simp, fun _ h => by revert h; simp [hImm], fun h => by simp [lf] at h⟩
    · refine ⟨⟨by simp, ?_⟩, by simp, by simp, ?_, ?_⟩
      · refine ⟨?_, ?_, ?_⟩
        · unfold i64b; simp
        · unfold i64b; dsimp only; omega
        · intro k hk; have := List.mem_singleton.1 hk; unfold i64b; omega
      · have : mxI 25 = 15 := by decide
        unfold vImm
        rw [decide_eq_true_eq]
        dsimp only
        omega
      · exact ⟨.inr (by simp [tok]), by simp, by simp, fun _ h => by revert h; simp [hImm], fun h => by simp [lf] at h⟩
  · unfold lst
    simp
theorem hdT_len {op im : Int} (h : tok op = true) (hi : 0 ≤ im ∧ im ≤ 15) : (hdT op im).length ≤ 60 := by
  have h1 := txt_len (n := im) (by omega)
  have h2 : (tnm op).length ≤ 30 := by
    have h3 : ∀ i : Fin 28, (nm10.getD (i : Nat) []).length ≤ 30 := by decide +kernel
    have h4 := tok_iff.1 h
    unfold tnm
    rw [if_pos h4]
    exact h3 ⟨(op - 4).toNat, by omega⟩
  unfold hdT
  rw [List.length_append]
  split
  · simp only [List.length_cons]; omega
  · simp only [List.length_nil]; omega
theorem kdT_len {out : List (List UInt8)} {B : Nat} : ∀ (ks : List Int), (∀ k ∈ ks, (out.getD k.toNat []).length ≤ B) → (kdT out ks).length ≤ ks.length * (B + 1)
  | [], _ => by simp [kdT]
  | k :: ks, h => by
    have h1 := h k (by simp)
    have h2 := kdT_len ks fun q hq => h q (List.mem_cons_of_mem _ hq)
    unfold kdT at h2 ⊢
    rw [List.flatMap_cons, List.length_append, List.length_cons, List.length_cons, Nat.succ_mul]
    omega
theorem pl_lst {n : Nat} {m w : Int} (h1 : 1 ≤ n) (h2 : n ≤ 16) (hm : 0 ≤ m ∧ m ≤ 15) (hw : 0 ≤ w ∧ w < n) : (T10 (lst n m w) 4).length ≤ 20000 := by
  have hb : Back (lst n m w) := (rg_lst h1 h2 hm hw).bk
  have l3 : ∀ k ∈ lk n, ((tsA (lst n m w)).getD k.toNat []).length ≤ 5 := fun k hk => by
    show (T10 (lst n m w) k.toNat).length ≤ 5
    rcases lk_m k hk with rfl | rfl | rfl
    · rw [T10_leaf hb (show (0 : Int).toNat < 5 by decide) rfl]; show (lfT 26 0).length ≤ 5; decide +kernel
    · rw [T10_leaf hb (show (1 : Int).toNat < 5 by decide) rfl]; show (lfT 1 7).length ≤ 5; decide +kernel
    · rw [T10_leaf hb (show (2 : Int).toNat < 5 by decide) rfl]; show (lfT 2 1).length ≤ 5; decide +kernel
  have q3 : (T10 (lst n m w) 3).length ≤ 300 := by
    rw [T10_node hb (show 3 < 5 by decide) rfl]
    have a := hdT_len (op := 31) (by decide) hm
    have b := kdT_len (lk n) l3
    rw [lk_len h1] at b
    show (40 :: (hdT 31 m ++ kdT (tsA (lst n m w)) (lk n)) ++ [41]).length ≤ 300
    simp only [List.length_append, List.length_cons, List.length_nil]
    omega
  rw [T10_node hb (show 4 < 5 by decide) rfl]
  have a := hdT_len (op := 25) (im := w) (by decide) (by omega)
  have b := kdT_len (out := tsA (lst n m w)) (B := 300) [3] (fun k hk => by rw [List.mem_singleton.1 hk]; exact q3)
  show (40 :: (hdT 25 w ++ kdT (tsA (lst n m w)) [3]) ++ [41]).length ≤ 20000
  simp only [List.length_append, List.length_cons, List.length_nil] at b ⊢
  omega
theorem wfg_lst {n : Nat} {m w : Int} (h1 : 1 ≤ n) (h2 : n ≤ 16) (hm : 0 ≤ m ∧ m ≤ 15) (hw : 0 ≤ w ∧ w < n) : WFG (lst n m w) := by
  unfold WFG
  rw [sorts_lst h1 h2 hm hw]
  intro s hs
  simp only [List.mem_cons, List.not_mem_nil, or_false] at hs
  rcases hs with rfl | rfl | rfl | rfl | rfl
  · decide
  · decide
  · decide
  · decide
  · split <;> decide
/-- what is read from the loop's text -/
theorem ylst_all {n : Nat} {m w : Int} (h1 : 1 ≤ n) (h2 : n ≤ 16) (hm : 0 ≤ m ∧ m ≤ 15) (hw : 0 ≤ w ∧ w < n) :
    ∃ L, (ylst n m w).length = L ∧ (4 ≤ L ∧ L ≤ 5) ∧ RG5 (lst n m w) (ylst n m w) ∧ WFG (ylst n m w) ∧ T10 (ylst n m w) (L - 1) = T10 (lst n m w) 4 ∧ (sortsG (ylst n m w)).getD (L - 1) 0 = (sortsG (lst n m w)).getD 4 0 ∧ (sortsG (ylst n m w)).getD (L - 1) 0 ≠ 0 ∧ rdA (lst n m w) 5 [] 4 = (ylst n m w, ((L - 1 : Nat) : Int)) ∧ ∃ x, (ylst n m w)[L - 2]? = some x ∧ x.ks.length = 2 * n + 1 := by
  have hr := rdA_ok5 (rg_lst h1 h2 hm hw) 5 [] 4 (by decide) (by simp [lst]) (RG5.nil (by simp [lst]))
  have e := rd_lst n h1 h2 m w
  have hs := sorts_ylst h1 h2 hm hw
  have hz := sorts_lst h1 h2 hm hw
  rw [show ((4 : Nat) : Int) = 4 from rfl, e] at hr
  have hwf : WFG (ylst n m w) := by
    unfold WFG
    rw [hs]
    intro s q
    split at q
    · simp only [List.mem_cons, List.not_mem_nil, or_false] at q
      rcases q with rfl | rfl | rfl | rfl
      · decide
      · decide
      · decide
      · split <;> decide
    · simp only [List.mem_cons, List.not_mem_nil, or_false] at q
      rcases q with rfl | rfl | rfl | rfl | rfl
      · decide
      · decide
      · decide
      · decide
      · split <;> decide
  by_cases hn : n = 1
  · rw [if_pos hn] at hr e hs
    have hl : (ylst n m w).length = 4 := by unfold ylst; rw [if_pos hn]; rfl
    have ht := hr.t
    refine ⟨4, hl, by decide, hr.g, hwf, ht, ?_, ?_, e, ⟨31, m, [0, 1, 0]⟩, ?_, by rw [hn]; rfl⟩
    · rw [hs, hz]; rfl
    · rw [hs]; show (if w = 0 then (2 : Int) else 1) ≠ 0; split <;> decide
    · unfold ylst; rw [if_pos hn]; rfl
  · rw [if_neg hn] at hr e hs
    have hl : (ylst n m w).length = 5 := by unfold ylst; rw [if_neg hn]; rfl
    have ht := hr.t
    refine ⟨5, hl, by decide, hr.g, hwf, ht, ?_, ?_, e, ⟨31, m, yk n⟩, ?_, by show (yk n).length = _; unfold yk; rw [List.length_map, lk_len h1]⟩
    · rw [hs, hz]
    · rw [hs]; show (if w = 0 then (2 : Int) else 1) ≠ 0; split <;> decide
    · unfold ylst; rw [if_neg hn]; rfl
end Go.M10
