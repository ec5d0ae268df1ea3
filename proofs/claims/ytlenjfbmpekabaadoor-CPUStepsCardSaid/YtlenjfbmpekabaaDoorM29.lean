import Derived.IntWalk
namespace Go.M29
structure Row where
 nm : List UInt8
 fm : Int
 ra : Bool
 wa : Bool
 rb : Bool
 mt : Bool
 wd : Int
 deriving Inhabited
def rows : List Row := [
 ⟨[110, 111, 112], 1, false, false, false, false, 1⟩,
 ⟨[114, 101, 116], 1, false, false, false, false, 1⟩,
 ⟨[116, 105, 99, 107], 1, false, false, false, false, 1⟩,
 ⟨[116, 114, 97, 112], 8, false, false, false, true, 1⟩,
 ⟨[106, 109, 112], 8, false, false, false, false, 1⟩,
 ⟨[99, 97, 108, 108], 5, false, false, false, false, 1⟩,
 ⟨[106, 122], 5, true, false, false, false, 1⟩,
 ⟨[106, 110, 122], 5, true, false, false, false, 1⟩,
 ⟨[111, 117, 116], 2, true, false, false, false, 1⟩,
 ⟨[109, 111, 118], 3, false, true, true, false, 1⟩,
 ⟨[99, 109, 111, 118, 122], 4, true, true, true, false, 1⟩,
 ⟨[99, 109, 111, 118, 110, 122], 4, true, true, true, false, 1⟩,
 ⟨[108, 100, 105], 5, false, true, false, false, 1⟩,
 ⟨[108, 100, 99], 6, false, true, false, false, 3⟩,
 ⟨[110, 101, 103], 2, true, true, false, false, 1⟩,
 ⟨[110, 111, 116], 2, true, true, false, false, 1⟩,
 ⟨[97, 100, 100], 3, true, true, true, false, 1⟩,
 ⟨[115, 117, 98], 3, true, true, true, false, 1⟩,
 ⟨[109, 117, 108], 3, true, true, true, false, 1⟩,
 ⟨[100, 105, 118], 3, true, true, true, true, 1⟩,
 ⟨[114, 101, 109], 3, true, true, true, true, 1⟩,
 ⟨[97, 110, 100], 3, true, true, true, false, 1⟩,
 ⟨[111, 114], 3, true, true, true, false, 1⟩,
 ⟨[120, 111, 114], 3, true, true, true, false, 1⟩,
 ⟨[115, 104, 108], 3, true, true, true, false, 1⟩,
 ⟨[115, 104, 114], 3, true, true, true, false, 1⟩,
 ⟨[115, 97, 114], 3, true, true, true, false, 1⟩,
 ⟨[101, 113], 3, true, true, true, false, 1⟩,
 ⟨[110, 101], 3, true, true, true, false, 1⟩,
 ⟨[108, 116], 3, true, true, true, false, 1⟩,
 ⟨[108, 101], 3, true, true, true, false, 1⟩,
 ⟨[108, 116, 117], 3, true, true, true, false, 1⟩,
 ⟨[97, 100, 100, 105], 5, true, true, false, false, 1⟩,
 ⟨[108, 100], 7, false, true, true, true, 1⟩,
 ⟨[115, 116], 7, true, false, true, true, 1⟩,
 ⟨[108, 100, 115], 5, false, true, false, false, 1⟩,
 ⟨[115, 116, 115], 5, true, false, false, false, 1⟩]
def zeroRow : Row := ⟨[], 0, false, false, false, false, 0⟩
def rowOf (op : Int) : Row := if 1 <= op /\ op <= 37 then rows.getD (op - 1).toNat zeroRow else zeroRow
def okI (op : Int) : Bool := decide (1 <= op) && decide (op <= 37)
theorem rowOf_out {op : Int} (h : ¬ (1 <= op /\ op <= 37)) : rowOf op = zeroRow := if_neg h
theorem okI_out {op : Int} (h : ¬ (1 <= op /\ op <= 37)) : okI op = false := by
 unfold okI
 simp only [Bool.and_eq_false_iff, decide_eq_false_iff_not]
 omega
def isBin (op : Int) : Bool := decide (17 <= op) && decide (op <= 32)
def lkp : List Row -> Int -> List UInt8 -> Int × Bool
 | [], _, _ => (0, false)
 | x :: r, k, s => if x.nm == s then (k, true) else lkp r (k + 1) s
end Go.M29
