/-
  Terms: what is read, in plain Lean.
  Conditions: none.
-/
import Derived.Test.YthoehkkoaegeoaaY10
set_option linter.unusedVariables false
namespace Go.M10
open Go.M15 Go.Pv Go.M29
def irL (op : Int) : Int := if op = 27 then 1 else 0
def irH (op : Int) : Int := if op = 27 then 1000016 else if op = 30 then 7 else if op = 31 then 15 else if op = 25 then 15 else 3
/-- a leaf that can be read -/
def LfOk (op im : Int) : Prop := lf op = true ∧ op ≠ 3 ∧ i64b im ∧ vImm op im = true
/-- an operation that can be read -/
def OpOk (op im : Int) : Prop := tok op = true ∧ op ≠ 26 ∧ i64b im ∧ vImm op im = true
theorem u8_eq {b : UInt8} {k : UInt8} : ((b.toNat : Int) == (k.toNat : Int)) = decide (b = k) := by
  rw [Bool.eq_iff_iff, beq_iff_eq, decide_eq_true_eq]
  refine ⟨fun h => UInt8.toNat_inj.1 (by omega), fun h => by rw [h]⟩
section
variable {s a b : List UInt8} {d : Bool} (ha : ∀ c ∈ a, c ≠ 46) (hs : s = a ++ if d = true then 46 :: b else [])
include ha hs
theorem cut_found {i : Nat} (hi : i < s.length) (h46 : s[i] = 46) (hn : ∀ j, j < i → ∀ c, s[j]? = some c → c ≠ 46) : d = true ∧ i = a.length := by
  have e : s[i]? = some 46 := by rw [List.getElem?_eq_getElem hi, h46]
  have h1 : ¬ i < a.length := fun q => by
    rw [hs, List.getElem?_append_left q, List.getElem?_eq_getElem q, Option.some.injEq] at e
    exact ha _ (List.getElem_mem q) e
  cases d
  · rw [hs] at hi
    simp at hi
    omega
  · refine ⟨rfl, ?_⟩
    rcases Nat.lt_or_ge a.length i with q | q
    · exact absurd rfl (hn a.length q 46 (by rw [hs]; simp))
    · omega
end
theorem cut_none {s a b : List UInt8} {d : Bool} (hs : s = a ++ if d = true then 46 :: b else []) (hn : ∀ j, j < s.length → ∀ c, s[j]? = some c → c ≠ 46) : d = false := by
  cases d
  · rfl
  · exact absurd rfl (hn a.length (by rw [hs]; simp) 46 (by rw [hs]; simp))
theorem LfOk.p {im : Int} (h : LfOk 2 im) : 0 ≤ im ∧ im ≤ 5 := by
  have := h.2.2.2
  unfold vImm at this
  rw [decide_eq_true_eq] at this
  have hm : mxI 2 = 5 := by decide
  omega
theorem OpOk.no {op im : Int} (h : OpOk op im) (hi : hImm op = false) : im = 0 := by
  obtain ⟨h1, h2, h3, h4⟩ := h
  rw [tok_iff] at h1
  unfold hImm at hi
  rw [decide_eq_false_iff_not] at hi
  refine vImm0 h4 (by omega) ?_
  unfold mxI
  rw [if_neg (by omega), if_neg (by omega), if_neg (by omega), if_neg (by omega), if_neg (by omega), if_neg (by omega)]
  decide
theorem OpOk.rng {op im : Int} (h : OpOk op im) (hi : hImm op = true) : irL op ≤ im ∧ im ≤ irH op := by
  obtain ⟨h1, h2, h3, h4⟩ := h
  unfold hImm at hi
  rw [decide_eq_true_eq] at hi
  unfold vImm at h4
  rw [decide_eq_true_eq] at h4
  rcases hi with rfl | rfl | rfl | rfl | rfl | rfl
  · have : mxI 23 = 3 ∧ irL 23 = 0 ∧ irH 23 = 3 := by decide
    omega
  · have : mxI 25 = 15 ∧ irL 25 = 0 ∧ irH 25 = 15 := by decide
    omega
  · have : mxI 27 = 1000016 ∧ irL 27 = 1 ∧ irH 27 = 1000016 := by decide
    omega
  · have : mxI 28 = 3 ∧ irL 28 = 0 ∧ irH 28 = 3 := by decide
    omega
  · have : mxI 30 = 7 ∧ irL 30 = 0 ∧ irH 30 = 7 := by decide
    omega
  · have : mxI 31 = 15 ∧ irL 31 = 0 ∧ irH 31 = 15 := by decide
    omega
/-! Keys of nodes, as the reader builds them. -/
def kyI (n : Nd) : List Int := (IntKind.u8.wrap n.op :: b8 (u64 n.im)) ++ n.ks.flatMap fun k => b8 (u64 k)
def kyF (n : Nd) : List UInt8 := (kyI n).map fun x => UInt8.ofNat x.toNat
/-- the bytes of a key, as cells -/
def isKyc (n : Nd) (cs : List IV) : Prop := cs = (kyI n).map (IV.int .u8)
def okY (n : Nd) : Prop := (1 ≤ n.op ∧ n.op ≤ 31) ∧ okN n
theorem kyI_inj {a b : Nd} (ha : okY a) (hb : okY b) (h : kyI a = kyI b) : a = b := by
  unfold kyI at h
  obtain ⟨h1, h2⟩ := List.append_inj h (by simp [b8_len])
  obtain ⟨h3, h4⟩ := List.cons.inj h1
  rw [u8w, u8w] at h3
  have e1 : a.op = b.op := by have := ha.1; have := hb.1; omega
  have e2 := u64_inj ha.2.2.1 hb.2.2.1 (b8_inj (u64_b _) (u64_b _) h4)
  have e3 := flat_inj ha.2.2.2 hb.2.2.2 h2
  cases a; cases b
  simp_all
theorem kyI_u8 (n : Nd) : ∀ x ∈ kyI n, 0 ≤ x ∧ x < 256 := by
  intro x hx
  unfold kyI at hx
  rcases List.mem_append.1 hx with hx | hx
  · rcases List.mem_cons.1 hx with rfl | hx
    · rw [u8w]; omega
    · exact b8_u8 _ x hx
  · obtain ⟨k, _, hk⟩ := List.mem_flatMap.1 hx
    exact b8_u8 _ x hk
theorem kyF_inj {a b : Nd} (ha : okY a) (hb : okY b) : (kyF a == kyF b) = decide (a = b) := by
  by_cases e : a = b
  · subst e; simp
  · have : kyF a ≠ kyF b := fun h => e (kyI_inj ha hb (u8_inj (kyI_u8 a) (kyI_u8 b) h))
    simp [e, this]
theorem kyI_take {op im : Int} {ks : List Int} {k : Nat} (h : k < ks.length) : kyI ⟨op, im, ks.take (k + 1)⟩ = kyI ⟨op, im, ks.take k⟩ ++ b8 (u64 ks[k]) := by
  unfold kyI
  simp only [List.append_assoc, List.append_cancel_left_eq]
  rw [List.take_succ_eq_append_getElem h, List.flatMap_append]
  simp
/-- the map from keys to first places -/
def ixy : Nat → List (List UInt8 × Int) → List Nd → List (List UInt8 × Int)
  | _, acc, [] => acc
  | i, acc, n :: r => ixy (i + 1) (if (M15.look (kyF n) acc).isSome then acc else acc ++ [(kyF n, (i : Int))]) r
def ixY (l : List Nd) : List (List UInt8 × Int) := ixy 0 [] l
theorem ixy_snoc (n : Nd) : ∀ (l : List Nd) (i : Nat) (acc : List (List UInt8 × Int)), ixy i acc (l ++ [n]) = if (M15.look (kyF n) (ixy i acc l)).isSome then ixy i acc l else ixy i acc l ++ [(kyF n, ((i + l.length : Nat) : Int))]
  | [], i, acc => by
    simp only [List.nil_append, ixy, List.length_nil, Nat.add_zero]
    try rfl
  | x :: l, i, acc => by
    simp only [List.cons_append, ixy, List.length_cons]
    rw [ixy_snoc n l]
    rw [show i + 1 + l.length = i + (l.length + 1) by omega]
    try rfl
theorem look_ixy {n : Nd} (hn : okY n) : ∀ (l : List Nd) (i : Nat) (acc : List (List UInt8 × Int)), (∀ x ∈ l, okY x) → M15.look (kyF n) (ixy i acc l) = (M15.look (kyF n) acc).or ((fidx n l i).map fun j => (j : Int))
  | [], i, acc, _ => by simp [ixy, fidx]
  | x :: l, i, acc, h => by
    simp only [ixy, fidx]
    have hx := h x List.mem_cons_self
    rw [look_ixy hn l (i + 1) _ (fun y hy => h y (List.mem_cons_of_mem _ hy))]
    have hk := kyF_inj hn hx
    by_cases e : n = x
    · subst e
      rw [if_pos rfl]
      cases hl : M15.look (kyF n) acc with
      | some v => simp [hl]
      | none => simp [hl, look_app, M15.look]
    · rw [if_neg e]
      rw [decide_eq_false e] at hk
      cases hl : M15.look (kyF x) acc with
      | some v => simp
      | none =>
        simp only [Option.isSome_none, Bool.false_eq_true, if_false]
        rw [look_app]
        simp [M15.look, hk]
theorem look_ixY {n : Nd} (hn : okY n) {l : List Nd} (h : ∀ x ∈ l, okY x) : M15.look (kyF n) (ixY l) = (fidx n l 0).map fun j => (j : Int) := by
  unfold ixY
  rw [look_ixy hn l 0 [] h]
  rfl
theorem ixY_put {n : Nd} (hn : okY n) {l : List Nd} (h : ∀ x ∈ l, okY x) (e : fidx n l 0 = none) : ixY (l ++ [n]) = ixY l ++ [(kyF n, (l.length : Int))] := by
  have h1 := look_ixY hn h
  rw [e] at h1
  unfold ixY at h1 ⊢
  rw [ixy_snoc, h1]
  simp
/-! The reader in the heap. -/
def LV (h : Heap) (id m : Nat) (io : Option Nat) (lv : IV) (y : List Nd) : Prop := (io = none ∧ lv = .nilslice ∧ y = []) ∨
  ∃ iL, io = some iL ∧ lv = .vslice (some iL) (y.length * 3) y.length 3 (y.flatMap cN) ∧ h.get iL = .tip (y.length * 3) ∧ iL < h.next ∧ iL ≠ id ∧ iL ≠ m ∧ 0 < y.length
def RH (h : Heap) (id : Nat) (s : List UInt8) (a : Nat) (y : List Nd) (m : Nat) (io : Option Nat) : Prop := (id < h.next ∧ m < h.next ∧ id ≠ m) ∧ h.get m = .map (cE (ixY y)) ∧ ∃ lv, h.get id = .cells [.str s, .int .i64 a, .bool false, lv, .map m] ∧ LV h id m io lv y
/-- all else lies as it lay -/
def FRo (id m : Nat) (io : Option Nat) (h h2 : Heap) : Prop := h.next ≤ h2.next ∧ ∀ j, j < h.next → j ≠ id → j ≠ m → io ≠ some j → h2.get j = h.get j
def IOk (h : Heap) (io io2 : Option Nat) : Prop := io2 = io ∨ (io = none ∧ ∃ k, io2 = some k ∧ h.next ≤ k)
theorem FRo.refl {id m : Nat} {io : Option Nat} {h : Heap} : FRo id m io h h := ⟨Nat.le_refl _, fun _ _ _ _ _ => rfl⟩
theorem IOk.refl {h : Heap} {io : Option Nat} : IOk h io io := .inl rfl
theorem IOk.ne {h : Heap} {io io2 : Option Nat} {j : Nat} (k : IOk h io io2) (hj : j < h.next) (hn : io ≠ some j) : io2 ≠ some j := by
  rcases k with rfl | ⟨_, q, rfl, h2⟩
  · exact hn
  · intro e
    cases e
    omega
theorem FRo.trans {id m : Nat} {io io2 : Option Nat} {a b c : Heap} (x : FRo id m io a b) (k : IOk a io io2) (y : FRo id m io2 b c) : FRo id m io a c :=
  ⟨Nat.le_trans x.1 y.1, fun j h1 h2 h3 h4 => by rw [y.2 j (Nat.lt_of_lt_of_le h1 x.1) h2 h3 (k.ne h1 h4), x.2 j h1 h2 h3 h4]⟩
theorem IOk.trans {a b : Heap} {io io2 io3 : Option Nat} (x : IOk a io io2) (hl : a.next ≤ b.next) (y : IOk b io2 io3) : IOk a io io3 := by
  rcases x with rfl | ⟨h1, q, h2, h3⟩
  · rcases y with rfl | ⟨h1, q, h2, h3⟩
    · exact .inl rfl
    · exact .inr ⟨h1, q, h2, Nat.le_trans hl h3⟩
  · rcases y with rfl | ⟨h4, _⟩
    · exact .inr ⟨h1, q, h2, h3⟩
    · rw [h2] at h4; cases h4
section
variable {h : Heap} {id : Nat} {s : List UInt8} {a : Nat} {y : List Nd} {m : Nat} {io : Option Nat} (r : RH h id s a y m io)
include r
/-- the heap changes at other places -/
theorem RH.frame {h2 : Heap} (hn : h.next ≤ h2.next) (hg : ∀ j, j < h.next → h2.get j = h.get j) : RH h2 id s a y m io := by
  obtain ⟨⟨h1, h3, h4⟩, h5, lv, h6, h7⟩ := r
  refine ⟨⟨by omega, by omega, h4⟩, by rw [hg m h3, h5], lv, by rw [hg id h1, h6], ?_⟩
  rcases h7 with q | ⟨iL, q1, q2, q3, q4, q5⟩
  · exact .inl q
  · exact .inr ⟨iL, q1, q2, by rw [hg iL q4, q3], by omega, q5⟩
theorem RH.setAt {lv : IV} (e : h.get id = .cells [.str s, .int .i64 a, .bool false, lv, .map m]) (b : Nat) : RH (h.set id (.cells [.str s, .int .i64 b, .bool false, lv, .map m])) id s b y m io := by
  obtain ⟨⟨h1, h3, h4⟩, h5, lv2, h6, h7⟩ := r
  rw [e] at h6
  simp only [IObj.cells.injEq, List.cons.injEq, true_and, and_true] at h6
  subst h6
  refine ⟨⟨h1, h3, h4⟩, by rw [get_set_ne h4.symm, h5], lv, get_set_eq, ?_⟩
  rcases h7 with q | ⟨iL, q1, q2, q3, q4, q5, q6⟩
  · exact .inl q
  · exact .inr ⟨iL, q1, q2, by rw [get_set_ne q5, q3], q4, q5, q6⟩
theorem RH.io_ne : io ≠ some id ∧ io ≠ some m := by
  obtain ⟨_, _, lv, _, h7⟩ := r
  rcases h7 with ⟨q, _⟩ | ⟨iL, q1, _, _, _, q5, q6, _⟩
  · rw [q]; exact ⟨by simp, by simp⟩
  · rw [q1]; exact ⟨fun e => q5 (by cases e; rfl), fun e => q6 (by cases e; rfl)⟩
end
theorem FRo.setId {h : Heap} {id m : Nat} {io : Option Nat} {x : IObj} : FRo id m io h (h.set id x) := ⟨Nat.le_refl _, fun j _ hj _ _ => get_set_ne hj⟩
theorem ldS_at {cs : List IV} {off : Nat} {K : List UInt8 → Prop} {b : List UInt8} (e : cs[off]? = some (.str b)) (hk : K b) : ldSS cs off K := by
  unfold ldSS; rw [e]; exact hk
theorem ldB_at {cs : List IV} {off : Nat} {K : Bool → Prop} {b : Bool} (e : cs[off]? = some (.bool b)) (hk : K b) : ldBS cs off K := by
  unfold ldBS; rw [e]; exact hk
/-- the first node is put -/
theorem put_nil {g : Heap} {id m a : Nat} {s : List UInt8} {n : Nd} (r : RH g id s a [] m none) (hn : okY n) :
    RH (((g.set m (.map (cE (ixY [] ++ [(kyF n, 0)])))).push (.tip 3)).set id (.cells [.str s, .int .i64 a, .bool false, .vslice (some g.next) 3 1 3 (cN n), .map m])) id s a [n] m (some g.next) := by
  obtain ⟨⟨q1, q2, q3⟩, gm, lv, gi, hlv⟩ := r
  have hp := ixY_put hn (l := []) (fun x h => by cases h) rfl
  have n1 : g.next ≠ id := by omega
  have n2 : g.next ≠ m := by omega
  refine ⟨⟨Nat.lt_succ_of_lt q1, Nat.lt_succ_of_lt q2, q3⟩, ?_, _, get_set_eq, .inr ⟨g.next, rfl, ?_, ?_, Nat.lt_succ_self _, n1, n2, Nat.one_pos⟩⟩
  · rw [get_set_ne q3.symm, get_push_lt (show m < (g.set m _).next from q2), get_set_eq]
    rw [show ([n] : List Nd) = [] ++ [n] from rfl, hp]
    rfl
  · simp
  · rw [get_set_ne n1]
    exact get_push_eq
theorem put_some {g : Heap} {id m a iL : Nat} {s : List UInt8} {y : List Nd} {n : Nd} (r : RH g id s a y m (some iL)) (hn : okY n) (hy : ∀ x ∈ y, okY x) (e : fidx n y 0 = none) :
    RH (((g.set m (.map (cE (ixY y ++ [(kyF n, (y.length : Int))])))).set iL (.tip (y.length * 3 + 3))).set id (.cells [.str s, .int .i64 a, .bool false, .vslice (some iL) (y.length * 3 + 3) (y.length + 1) 3 (y.flatMap cN ++ cN n), .map m])) id s a (y ++ [n]) m (some iL) := by
  obtain ⟨⟨q1, q2, q3⟩, gm, lv, gi, hlv⟩ := r
  have hp := ixY_put hn hy e
  rcases hlv with ⟨q, _⟩ | ⟨iL2, q4, t1, t2, t3, t4, t5, t6⟩
  · cases q
  · cases q4
    refine ⟨⟨q1, q2, q3⟩, ?_, _, get_set_eq, .inr ⟨iL, rfl, ?_, ?_, t3, t4, t5, by simp⟩⟩
    · rw [get_set_ne q3.symm, get_set_ne t5.symm, get_set_eq, hp]
    · simp [Nat.succ_mul]
    · rw [get_set_ne t4, get_set_eq]
      simp [Nat.succ_mul]
def nx (s : List UInt8) (a : Nat) (c : Int) : Bool := match s[a]? with
  | some b => ((b.toNat : Int) == c)
  | none => false
/-- a word ends -/
def We (r : List UInt8) : Prop := ∀ c q, r = c :: q → c = 32 ∨ c = 40 ∨ c = 41
/-- a slice of operands, nil or not -/
def KA (s : IV) (ks : List Int) : Prop := (s = .nilslice ∧ ks = []) ∨ ∃ (i2 : Option Nat) (e1 : Nat), s = .vslice i2 e1 ks.length 1 (ks.map (IV.int .i64))
theorem KA.nil : KA .nilslice [] := .inl ⟨rfl, rfl⟩
end Go.M10
