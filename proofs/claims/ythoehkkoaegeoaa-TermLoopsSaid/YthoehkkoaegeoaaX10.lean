/-
  Terms: the state of printing, in plain Lean.
  Conditions: none.
-/
import Derived.Test.YthoehkkoaegeoaaP10
import Derived.Test.YthoehkkoaegeoaaS10
set_option linter.unusedVariables false
namespace Go.M10
open Go.M15 Go.Pv
/-- something is appended to a text that may be too long -/
def Tx (b : List UInt8) (lg : Bool) (s b2 : List UInt8) (lg2 : Bool) : Prop := if lg = true then lg2 = true else if b.length + s.length ≤ 20000 then lg2 = false ∧ b2 = b ++ s else lg2 = true
theorem Tx.long {b s b2 : List UInt8} : Tx b true s b2 true := by unfold Tx; rw [if_pos rfl]
theorem Tx.nil {b : List UInt8} {lg : Bool} (h : b.length ≤ 20000) : Tx b lg [] b lg := by
  unfold Tx
  cases lg <;> simp [h]
theorem Tx.trans {a s b t c : List UInt8} {l1 l2 l3 : Bool} (h : Tx a l1 s b l2) (k : Tx b l2 t c l3) : Tx a l1 (s ++ t) c l3 := by
  unfold Tx at *
  cases l1
  · simp only [Bool.false_eq_true, if_false] at h ⊢
    split at h
    · obtain ⟨rfl, rfl⟩ := h
      simp only [Bool.false_eq_true, if_false] at k
      simp only [List.length_append] at k ⊢
      split at k
      · rw [if_pos (by omega)]
        exact ⟨k.1, by rw [k.2, List.append_assoc]⟩
      · rw [if_neg (by omega)]
        exact k
    · subst h
      rw [if_pos rfl] at k
      rw [if_neg (by simp only [List.length_append]; omega)]
      exact k
  · rw [if_pos rfl] at h ⊢
    subst h
    rw [if_pos rfl] at k
    exact k
/-- the bytes so far, in the heap -/
def BV (h : Heap) (id : Nat) (bv : IV) (b : List UInt8) : Prop := (bv = .nilslice ∧ b = []) ∨ ∃ ib, bv = .vslice (some ib) b.length b.length 1 (b.map fun c => .int .u8 c.toNat) ∧ h.get ib = .tip b.length ∧ ib < h.next ∧ ib ≠ id ∧ 0 < b.length
/-- a printer in the heap -/
def PH (h : Heap) (id e : Nat) (l : List Nd) (b : List UInt8) (lg : Bool) : Prop := id < h.next ∧ b.length ≤ 20000 ∧ ∃ bv, h.get id = .cells [.vslice none e l.length 3 (l.flatMap cN), bv, .bool lg] ∧ BV h id bv b
/-- nodes that can be printed -/
def PG (l : List Nd) : Prop := Back l ∧ (∀ n ∈ l, (1 ≤ n.op ∧ n.op ≤ 31) ∧ (n.op ≠ 3 ∧ n.op ≠ 25 ∧ n.op ≠ 30 ∧ n.op ≠ 31) ∧ i64b n.im ∧ n.ks.length ≤ 1000000 ∧ (lf n.op = true → n.ks = [])) ∧ l.length ≤ 1000000
/-- what is printed -/
def prn (l : List Nd) (i : Nat) : List UInt8 := if (T10 l i).length ≤ 20000 then T10 l i else []
theorem BV.set {h : Heap} {id : Nat} {bv : IV} {b : List UInt8} {x : IObj} (hb : BV h id bv b) : BV (h.set id x) id bv b := by
  rcases hb with q | ⟨ib, q1, q2, q3, q4, q5⟩
  · exact .inl q
  · exact .inr ⟨ib, q1, by rw [get_set_ne q4]; exact q2, q3, q4, q5⟩
theorem PH.put {h : Heap} {id e : Nat} {l : List Nd} {b : List UInt8} {lg : Bool} {bv : IV} (hid : id < h.next) (hl : b.length ≤ 20000) (hb : BV h id bv b) : PH (h.set id (.cells [.vslice none e l.length 3 (l.flatMap cN), bv, .bool lg])) id e l b lg :=
  ⟨hid, hl, bv, get_set_eq, hb.set⟩
theorem PH.new {h : Heap} {id e : Nat} {l : List Nd} {s : List UInt8} {lg : Bool} (hid : id < h.next) (hs : s.length ≤ 20000) (h0 : 0 < s.length) :
    PH ((h.push (.tip (s.length * 1))).set id (.cells [.vslice none e l.length 3 (l.flatMap cN), .vslice (some h.next) (s.length * 1) s.length 1 (s.map fun c => .int .u8 c.toNat), .bool lg])) id e l s lg := by
  have hne : h.next ≠ id := by omega
  refine ⟨Nat.lt_succ_of_lt hid, hs, _, get_set_eq, .inr ⟨h.next, by rw [Nat.mul_one], ?_, Nat.lt_succ_self _, hne, h0⟩⟩
  rw [get_set_ne hne, get_push_eq, Nat.mul_one]
theorem PH.more {h : Heap} {id e ib : Nat} {l : List Nd} {b s : List UInt8} {lg : Bool} (hid : id < h.next) (hs : b.length + s.length ≤ 20000) (hlt : ib < h.next) (hne : ib ≠ id) (h0 : 0 < b.length) :
    PH ((h.set ib (.tip (b.length + s.length * 1))).set id (.cells [.vslice none e l.length 3 (l.flatMap cN), .vslice (some ib) (b.length + s.length * 1) (b.length + s.length) 1 (b.map (fun c => .int .u8 c.toNat) ++ s.map fun c => .int .u8 c.toNat), .bool lg])) id e l (b ++ s) lg := by
  refine ⟨hid, by rw [List.length_append]; exact hs, _, get_set_eq, .inr ⟨ib, by rw [Nat.mul_one, List.length_append, List.map_append], ?_, hlt, hne, by rw [List.length_append]; omega⟩⟩
  rw [get_set_ne hne, get_set_eq, Nat.mul_one, List.length_append]
theorem bytes_u8 : ∀ b : List UInt8, bytesIV (b.map fun c => IV.int .u8 c.toNat) = some b
  | [] => rfl
  | x :: r => by
    rw [List.map_cons, bytesIV, bytes_u8 r]
    simp
theorem tnm_len0 : ∀ i : Fin 28, (nm10.getD (i : Nat) []).length ≤ 5 := by decide +kernel
theorem tnm_len (op : Int) : (tnm op).length ≤ 5 := by
  unfold tnm
  split
  · exact tnm_len0 ⟨(op - 4).toNat, by omega⟩
  · simp
theorem kdT_take {out : List (List UInt8)} {ks : List Int} {j : Nat} (h : j < ks.length) : kdT out (ks.take (j + 1)) = kdT out (ks.take j) ++ ([32] ++ out.getD (ks[j]).toNat []) := by
  unfold kdT
  rw [List.take_succ_eq_append_getElem h, List.flatMap_append]
  simp
theorem T10_leaf {l : List Nd} (hb : Back l) {i : Nat} (h : i < l.length) (hf : lf l[i].op = true) : T10 l i = lfT l[i].op l[i].im := by
  rw [T10_at hb (List.getElem?_eq_getElem h)]
  unfold ndT
  rw [if_pos hf]
theorem T10_node {l : List Nd} (hb : Back l) {i : Nat} (h : i < l.length) (hf : lf l[i].op = false) : T10 l i = (40 :: (hdT l[i].op l[i].im ++ kdT (tsA l) l[i].ks)) ++ [41] := by
  rw [T10_at hb (List.getElem?_eq_getElem h)]
  unfold ndT
  rw [if_neg (by rw [hf]; exact Bool.false_ne_true)]
  simp
end Go.M10
