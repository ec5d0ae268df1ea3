/-
  Terms: the text of a node, and that a text tells its node, in plain Lean.
  Conditions: none.
-/
import Derived.Test.YthoehkkoaegeoaaW15
import Derived.Test.YthoehkkoaegeoaaD10
import Derived.Test.YthoehkkoaegeoaaW10
set_option linter.unusedVariables false
namespace Go.M10
open Go.M15 Go.M29
/-- does an operation's term show its immediate operand -/
def hImm (op : Int) : Bool := decide (op = 23 ∨ op = 25 ∨ op = 27 ∨ op = 28 ∨ op = 30 ∨ op = 31)
def lf (op : Int) : Bool := decide (op = 1 ∨ op = 2 ∨ op = 3 ∨ op = 26)
def lfT (op im : Int) : List UInt8 := if op = 1 then txt im else if op = 2 then 112 :: txt im else if op = 3 then 118 :: (txt (im.tdiv 16) ++ 46 :: txt (im.tmod 16)) else [115, 116, 97, 114, 116]
def hdT (op im : Int) : List UInt8 := tnm op ++ (if hImm op = true then 46 :: txt im else [])
def kdT (out : List (List UInt8)) (ks : List Int) : List UInt8 := ks.flatMap fun k => 32 :: out.getD k.toNat []
def ndT (out : List (List UInt8)) (n : Nd) : List UInt8 := if lf n.op = true then lfT n.op n.im else 40 :: (hdT n.op n.im ++ (kdT out n.ks ++ [41]))
def tsF : List (List UInt8) → List Nd → List (List UInt8)
  | out, [] => out
  | out, n :: r => tsF (out ++ [ndT out n]) r
/-- the texts of all nodes -/
def tsA (l : List Nd) : List (List UInt8) := tsF [] l
/-- the text of a node -/
def T10 (l : List Nd) (i : Nat) : List UInt8 := (tsA l).getD i []
/-- operands stand before -/
def Back (l : List Nd) : Prop := ∀ (i : Nat) (n : Nd), l[i]? = some n → ∀ k ∈ n.ks, 0 ≤ k ∧ k < i
theorem tsF_snoc (n : Nd) : ∀ (l : List Nd) (out : List (List UInt8)), tsF out (l ++ [n]) = tsF out l ++ [ndT (tsF out l) n]
  | [], out => rfl
  | x :: l, out => by rw [List.cons_append, tsF, tsF, tsF_snoc n l]
theorem tsA_snoc (l : List Nd) (n : Nd) : tsA (l ++ [n]) = tsA l ++ [ndT (tsA l) n] := tsF_snoc n l []
theorem tsF_len : ∀ (l : List Nd) (out : List (List UInt8)), (tsF out l).length = out.length + l.length
  | [], out => rfl
  | x :: l, out => by
    rw [tsF, tsF_len l]
    simp only [List.length_append, List.length_cons, List.length_nil]
    omega
theorem tsA_len (l : List Nd) : (tsA l).length = l.length := by unfold tsA; rw [tsF_len]; simp
theorem tsF_pre : ∀ (l : List Nd) (out : List (List UInt8)), out <+: tsF out l
  | [], out => List.prefix_refl _
  | x :: l, out => (List.prefix_append _ _).trans (tsF_pre l _)
theorem tsF_app : ∀ (l r : List Nd) (out : List (List UInt8)), tsF out (l ++ r) = tsF (tsF out l) r
  | [], r, out => rfl
  | x :: l, r, out => by rw [List.cons_append, tsF, tsF, tsF_app l r]
theorem tsA_pre {l y : List Nd} (h : l <+: y) : tsA l <+: tsA y := by
  obtain ⟨r, rfl⟩ := h
  unfold tsA
  rw [tsF_app]
  exact tsF_pre _ _
theorem T10_pre {l y : List Nd} (h : l <+: y) {i : Nat} (hi : i < l.length) : T10 y i = T10 l i := by
  obtain ⟨r, hr⟩ := tsA_pre h
  unfold T10
  rw [← hr, List.getD_eq_getElem?_getD, List.getD_eq_getElem?_getD, List.getElem?_append_left (by rw [tsA_len]; exact hi)]
theorem kdT_congr {a b : List (List UInt8)} : ∀ {ks : List Int}, (∀ k ∈ ks, a.getD k.toNat [] = b.getD k.toNat []) → kdT a ks = kdT b ks
  | [], _ => rfl
  | k :: r, h => by
    show _ :: _ ++ kdT a r = _ :: _ ++ kdT b r
    rw [h k List.mem_cons_self, kdT_congr fun q hq => h q (List.mem_cons_of_mem _ hq)]
/-- a node's text out of its operands' texts -/
theorem T10_at {l : List Nd} (hb : Back l) {i : Nat} {n : Nd} (hi : l[i]? = some n) : T10 l i = ndT (tsA l) n := by
  have hlt : i < l.length := (List.getElem?_eq_some_iff.1 hi).1
  have e : l[i] = n := (List.getElem?_eq_some_iff.1 hi).2
  have h1 : l.take i ++ [n] <+: l := by
    rw [← e, ← List.take_succ_eq_append_getElem hlt]
    exact List.take_prefix _ _
  have hl : (l.take i).length = i := by rw [List.length_take]; omega
  rw [T10_pre h1 (by simp [hl])]
  unfold T10
  rw [tsA_snoc, List.getD_eq_getElem?_getD, List.getElem?_append_right (by rw [tsA_len, hl]; exact Nat.le_refl _), tsA_len, hl, Nat.sub_self]
  show ndT _ n = _
  unfold ndT
  split
  · rfl
  · congr 2
    congr 1
    refine kdT_congr fun k hk => ?_
    have := hb i n hi k hk
    exact (T10_pre (List.take_prefix i l) (i := k.toNat) (by rw [hl]; omega)).symm
/-! A text tells its node. -/
/-- behind a word: nothing, a blank or a closing bracket -/
def Dl (r : List UInt8) : Prop := ∀ c q, r = c :: q → c = 32 ∨ c = 41
def wd (c : UInt8) : Prop := c ≠ 32 ∧ c ≠ 40 ∧ c ≠ 41
theorem word_cut : ∀ {a b r s : List UInt8}, (∀ c ∈ a, wd c) → (∀ c ∈ b, wd c) → Dl r → Dl s → a ++ r = b ++ s → a = b ∧ r = s
  | [], [], r, s, _, _, _, _, h => ⟨rfl, h⟩
  | [], y :: b, r, s, _, hb, hr, _, h => by
    have := hr y (b ++ s) h
    have hy := hb y List.mem_cons_self
    rcases this with q | q
    · exact absurd q hy.1
    · exact absurd q hy.2.2
  | x :: a, [], r, s, ha, _, _, hs, h => by
    have := hs x (a ++ r) h.symm
    have hx := ha x List.mem_cons_self
    rcases this with q | q
    · exact absurd q hx.1
    · exact absurd q hx.2.2
  | x :: a, y :: b, r, s, ha, hb, hr, hs, h => by
    rw [List.cons_append, List.cons_append, List.cons.injEq] at h
    obtain ⟨h1, h2⟩ := h
    have := word_cut (fun c hc => ha c (List.mem_cons_of_mem _ hc)) (fun c hc => hb c (List.mem_cons_of_mem _ hc)) hr hs h2
    rw [h1, this.1]
    exact ⟨rfl, this.2⟩
theorem isT_wd {c : UInt8} (h : isT c) : wd c ∧ c ≠ 46 ∧ c ≠ 112 ∧ c ≠ 118 ∧ c ≠ 115 := by
  have : (48 ≤ c.toNat ∧ c.toNat ≤ 57) ∨ c.toNat = 45 := by
    rcases h with h | h
    · exact .inl h
    · right; rw [h]; rfl
  unfold wd
  have e : ∀ k : UInt8, c = k → c.toNat = k.toNat := fun k q => by rw [q]
  have n1 : (32 : UInt8).toNat = 32 := rfl
  have n2 : (40 : UInt8).toNat = 40 := rfl
  have n3 : (41 : UInt8).toNat = 41 := rfl
  have n4 : (46 : UInt8).toNat = 46 := rfl
  have n5 : (112 : UInt8).toNat = 112 := rfl
  have n6 : (118 : UInt8).toNat = 118 := rfl
  have n7 : (115 : UInt8).toNat = 115 := rfl
  refine ⟨⟨?_, ?_, ?_⟩, ?_, ?_, ?_, ?_⟩ <;> intro q <;> have := e _ q <;> omega
theorem txt_wd (n : Int) : ∀ c ∈ txt n, wd c ∧ c ≠ 46 := fun c hc => let h := isT_wd (txt_all n c hc); ⟨h.1, h.2.1⟩
theorem tnm_wd0 : ∀ i : Fin 28, ∀ c ∈ nm10.getD (i : Nat) [], c ≠ 32 ∧ c ≠ 40 ∧ c ≠ 41 ∧ c ≠ 46 := by decide +kernel
theorem tnm_wd (op : Int) : ∀ c ∈ tnm op, wd c ∧ c ≠ 46 := by
  intro c hc
  unfold tnm at hc
  split at hc
  · have := tnm_wd0 ⟨(op - 4).toNat, by omega⟩ c hc
    exact ⟨⟨this.1, this.2.1, this.2.2.1⟩, this.2.2.2⟩
  · cases hc
theorem wd46 : wd 46 := by unfold wd; decide
theorem hdT_wd (op im : Int) : ∀ c ∈ hdT op im, wd c := by
  intro c hc
  unfold hdT at hc
  rcases List.mem_append.1 hc with hc | hc
  · exact (tnm_wd op c hc).1
  · split at hc
    · rcases List.mem_cons.1 hc with rfl | hc
      · exact wd46
      · exact (txt_wd im c hc).1
    · cases hc
theorem lfT_wd (op im : Int) : ∀ c ∈ lfT op im, wd c := by
  have h112 : wd 112 := by unfold wd; decide
  have h118 : wd 118 := by unfold wd; decide
  intro c hc
  unfold lfT at hc
  split at hc
  · exact (txt_wd _ c hc).1
  split at hc
  · rcases List.mem_cons.1 hc with rfl | hc
    · exact h112
    · exact (txt_wd _ c hc).1
  split at hc
  · rcases List.mem_cons.1 hc with rfl | hc
    · exact h118
    · rcases List.mem_append.1 hc with hc | hc
      · exact (txt_wd _ c hc).1
      · rcases List.mem_cons.1 hc with rfl | hc
        · exact wd46
        · exact (txt_wd _ c hc).1
  · simp only [List.mem_cons, List.not_mem_nil, or_false] at hc
    unfold wd
    rcases hc with rfl | rfl | rfl | rfl | rfl <;> decide
theorem lfT_ne (op im : Int) : lfT op im ≠ [] := by
  unfold lfT
  have := txt_pos im
  split
  · intro h; rw [h] at this; simp at this
  · split
    · simp
    · split <;> simp
/-- a cut at the first dot -/
theorem dot_cut : ∀ {a b r s : List UInt8}, (∀ c ∈ a, c ≠ 46) → (∀ c ∈ b, c ≠ 46) → (r = [] ∨ ∃ q, r = 46 :: q) → (s = [] ∨ ∃ q, s = 46 :: q) → a ++ r = b ++ s → a = b ∧ r = s
  | [], [], r, s, _, _, _, _, h => ⟨rfl, h⟩
  | [], y :: b, r, s, _, hb, hr, _, h => by
    have hy := hb y List.mem_cons_self
    rcases hr with rfl | ⟨q, rfl⟩
    · simp at h
    · simp only [List.nil_append, List.cons_append, List.cons.injEq] at h
      exact absurd h.1.symm hy
  | x :: a, [], r, s, ha, _, _, hs, h => by
    have hx := ha x List.mem_cons_self
    rcases hs with rfl | ⟨q, rfl⟩
    · simp at h
    · simp only [List.nil_append, List.cons_append, List.cons.injEq] at h
      exact absurd h.1 hx
  | x :: a, y :: b, r, s, ha, hb, hr, hs, h => by
    rw [List.cons_append, List.cons_append, List.cons.injEq] at h
    obtain ⟨h1, h2⟩ := h
    have := dot_cut (fun c hc => ha c (List.mem_cons_of_mem _ hc)) (fun c hc => hb c (List.mem_cons_of_mem _ hc)) hr hs h2
    rw [h1, this.1]
    exact ⟨rfl, this.2⟩
/-- a node that can be told from its text -/
def Tl (n : Nd) : Prop := (lf n.op = true ∨ tok n.op = true) ∧ (n.op = 26 → n.im = 0) ∧ (n.op = 3 → 0 ≤ n.im) ∧ (lf n.op = false → hImm n.op = false → n.im = 0) ∧ (lf n.op = true → n.ks = [])
theorem hd_inj {a b c d : Int} (ha : tok a = true) (hc : tok c = true) (za : hImm a = false → b = 0) (zc : hImm c = false → d = 0) (h : hdT a b = hdT c d) : a = c ∧ b = d := by
  unfold hdT at h
  have q : ∀ (p : Bool) (i : Int), (if p = true then 46 :: txt i else []) = [] ∨ ∃ q, (if p = true then 46 :: txt i else []) = (46 : UInt8) :: q := fun p i => by
    cases p
    · exact .inl rfl
    · exact .inr ⟨_, rfl⟩
  obtain ⟨h1, h2⟩ := dot_cut (fun x hx => (tnm_wd a x hx).2) (fun x hx => (tnm_wd c x hx).2) (q _ _) (q _ _) h
  have hac : a = c := by
    have := tnm_inj ha hc
    rw [h1, beq_self_eq_true] at this
    exact beq_iff_eq.1 this.symm
  refine ⟨hac, ?_⟩
  subst hac
  by_cases hi : hImm a = true
  · rw [if_pos hi, if_pos hi, List.cons.injEq] at h2
    exact txt_inj h2.2
  · rw [Bool.not_eq_true] at hi
    rw [za hi, zc hi]
theorem txt_cons (n : Int) : ∃ c r, txt n = c :: r ∧ isT c := by
  cases h : txt n with
  | nil => have := txt_pos n; rw [h] at this; simp at this
  | cons c r => exact ⟨c, r, rfl, txt_all n c (by rw [h]; exact List.mem_cons_self)⟩
theorem lf_cases {op : Int} (h : lf op = true) : op = 1 ∨ op = 2 ∨ op = 3 ∨ op = 26 := of_decide_eq_true h
theorem lf_inj {a b c d : Int} (ha : lf a = true) (hc : lf c = true) (za : a = 26 → b = 0) (zc : c = 26 → d = 0) (ya : a = 3 → 0 ≤ b) (yc : c = 3 → 0 ≤ d) (h : lfT a b = lfT c d) : a = c ∧ b = d := by
  obtain ⟨x, r, e1, t1⟩ := txt_cons b
  obtain ⟨y, s, e2, t2⟩ := txt_cons d
  have hx := isT_wd t1
  have hy := isT_wd t2
  rcases lf_cases ha with rfl | rfl | rfl | rfl <;> rcases lf_cases hc with rfl | rfl | rfl | rfl
  all_goals simp [lfT] at h
  · exact ⟨rfl, txt_inj h⟩
  · rw [e1] at h; simp only [List.cons.injEq] at h; exact absurd h.1 hx.2.2.1
  · rw [e1] at h; simp only [List.cons.injEq] at h; exact absurd h.1 hx.2.2.2.1
  · rw [e1] at h; simp only [List.cons.injEq] at h; exact absurd h.1 hx.2.2.2.2
  · rw [e2] at h; simp only [List.cons.injEq] at h; exact absurd h.1.symm hy.2.2.1
  · exact ⟨rfl, txt_inj h⟩
  · rw [e2] at h; simp only [List.cons.injEq] at h; exact absurd h.1.symm hy.2.2.2.1
  · obtain ⟨h1, h2⟩ := dot_cut (fun x hx => (txt_wd _ x hx).2) (fun x hx => (txt_wd _ x hx).2) (.inr ⟨_, rfl⟩) (.inr ⟨_, rfl⟩) h
    have h3 := txt_inj h1
    have h4 := txt_inj (List.cons.inj h2).2
    have := ya rfl
    have := yc rfl
    have p1 := Int.mul_tdiv_add_tmod b 16
    have p2 := Int.mul_tdiv_add_tmod d 16
    refine ⟨rfl, by omega⟩
  · rw [e2] at h; simp only [List.cons.injEq] at h; exact absurd h.1.symm hy.2.2.2.2
  · exact ⟨rfl, by rw [za rfl, zc rfl]⟩
theorem Dl_kd {out : List (List UInt8)} : ∀ (ks : List Int) (r : List UInt8), Dl (kdT out ks ++ 41 :: r)
  | [], r => fun c q h => by
    rw [show kdT out [] ++ 41 :: r = 41 :: r from rfl, List.cons.injEq] at h
    exact .inr h.1.symm
  | k :: s, r => fun c q h => by
    rw [show kdT out (k :: s) ++ 41 :: r = 32 :: (out.getD k.toNat [] ++ kdT out s ++ 41 :: r) by simp [kdT], List.cons.injEq] at h
    exact .inl h.1.symm
theorem kd_inj {l : List Nd} : ∀ {a b : List Int} {r s : List UInt8}, (∀ k ∈ a, 0 ≤ k ∧ ∀ (j : Int) (r s : List UInt8), 0 ≤ j → j ∈ b → Dl r → Dl s → T10 l k.toNat ++ r = T10 l j.toNat ++ s → k = j ∧ r = s) → (∀ k ∈ b, 0 ≤ k) →
    kdT (tsA l) a ++ 41 :: r = kdT (tsA l) b ++ 41 :: s → a = b ∧ r = s
  | [], [], r, s, _, _, h => by
    rw [show kdT (tsA l) [] = [] from rfl, List.nil_append, List.nil_append, List.cons.injEq] at h
    exact ⟨rfl, h.2⟩
  | [], k :: b, r, s, _, _, h => by simp [kdT] at h
  | k :: a, [], r, s, _, _, h => by simp [kdT] at h
  | k :: a, j :: b, r, s, ha, hb, h => by
    have h2 : (32 : UInt8) :: (T10 l k.toNat ++ (kdT (tsA l) a ++ 41 :: r)) = 32 :: (T10 l j.toNat ++ (kdT (tsA l) b ++ 41 :: s)) := by simpa [kdT, T10] using h
    obtain ⟨e1, e2⟩ := (ha k List.mem_cons_self).2 j _ _ (hb j List.mem_cons_self) List.mem_cons_self (Dl_kd a r) (Dl_kd b s) (List.cons.inj h2).2
    obtain ⟨e3, e4⟩ := kd_inj (fun q hq => ⟨(ha q (List.mem_cons_of_mem _ hq)).1, fun j r s h0 hj => (ha q (List.mem_cons_of_mem _ hq)).2 j r s h0 (List.mem_cons_of_mem _ hj)⟩) (fun q hq => hb q (List.mem_cons_of_mem _ hq)) e2
    rw [e1, e3]
    exact ⟨rfl, e4⟩
theorem T10_inj {l : List Nd} (hb : Back l) (ht : ∀ n ∈ l, Tl n) (hd : l.Nodup) : ∀ (d i k : Nat) (r s : List UInt8), i < d → i < l.length → k < l.length → Dl r → Dl s → T10 l i ++ r = T10 l k ++ s → i = k ∧ r = s := by
  intro d
  induction d with
  | zero => intro i k r s h; omega
  | succ d ih =>
    intro i k r s hi hil hkl hr hs h
    have ei := List.getElem?_eq_getElem hil
    have ek := List.getElem?_eq_getElem hkl
    rw [T10_at hb ei, T10_at hb ek] at h
    have ti := ht _ (List.getElem_mem hil)
    have tk := ht _ (List.getElem_mem hkl)
    have bi := hb i _ ei
    have bk := hb k _ ek
    have fin : l[i] = l[k] → i = k := fun e => (List.getElem_inj (h₀ := hil) (h₁ := hkl) hd).1 e
    generalize l[i] = n at *
    generalize l[k] = m at *
    unfold ndT at h
    by_cases hn : lf n.op = true <;> by_cases hm : lf m.op = true
    · rw [if_pos hn, if_pos hm] at h
      obtain ⟨h1, h2⟩ := word_cut (lfT_wd _ _) (lfT_wd _ _) hr hs h
      obtain ⟨h3, h4⟩ := lf_inj hn hm ti.2.1 tk.2.1 ti.2.2.1 tk.2.2.1 h1
      refine ⟨fin ?_, h2⟩
      have h5 := ti.2.2.2.2 hn
      have h6 := tk.2.2.2.2 hm
      cases n; cases m; simp_all
    · rw [if_pos hn, if_neg hm] at h
      cases hl : lfT n.op n.im with
      | nil => exact absurd hl (lfT_ne _ _)
      | cons c q =>
        have hc := lfT_wd n.op n.im c (by rw [hl]; exact List.mem_cons_self)
        rw [hl, List.cons_append, List.cons_append, List.cons.injEq] at h
        exact absurd h.1 hc.2.1
    · rw [if_neg hn, if_pos hm] at h
      cases hl : lfT m.op m.im with
      | nil => exact absurd hl (lfT_ne _ _)
      | cons c q =>
        have hc := lfT_wd m.op m.im c (by rw [hl]; exact List.mem_cons_self)
        rw [hl, List.cons_append, List.cons_append, List.cons.injEq] at h
        exact absurd h.1.symm hc.2.1
    · rw [if_neg hn, if_neg hm] at h
      rw [List.cons_append, List.cons_append, List.cons.injEq] at h
      have h := h.2
      simp only [List.append_assoc, List.singleton_append] at h
      obtain ⟨h1, h2⟩ := word_cut (hdT_wd _ _) (hdT_wd _ _) (Dl_kd _ _) (Dl_kd _ _) h
      rw [Bool.not_eq_true] at hn hm
      obtain ⟨h3, h4⟩ := hd_inj (ti.1.resolve_left (by rw [hn]; decide)) (tk.1.resolve_left (by rw [hm]; decide)) (ti.2.2.2.1 hn) (tk.2.2.2.1 hm) h1
      obtain ⟨h5, h6⟩ := kd_inj (fun q hq => ⟨(bi q hq).1, fun j r s h0 hj hr hs e => by
        have h7 := bi q hq
        have h8 := bk j hj
        obtain ⟨h9, h10⟩ := ih q.toNat j.toNat r s (by omega) (by omega) (by omega) hr hs e
        exact ⟨by omega, h10⟩⟩) (fun q hq => (bk q hq).1) h2
      refine ⟨fin ?_, h6⟩
      cases n; cases m; simp_all
theorem Dl_nil : Dl [] := fun c q h => by cases h
/-- different nodes have different texts -/
theorem T10_ne {l : List Nd} (hb : Back l) (ht : ∀ n ∈ l, Tl n) (hd : l.Nodup) {i k : Nat} (hi : i < l.length) (hk : k < l.length) (h : T10 l i = T10 l k) : i = k :=
  (T10_inj hb ht hd (i + 1) i k [] [] (Nat.lt_succ_self _) hi hk Dl_nil Dl_nil (by rw [List.append_nil, List.append_nil]; exact h)).1
end Go.M10
