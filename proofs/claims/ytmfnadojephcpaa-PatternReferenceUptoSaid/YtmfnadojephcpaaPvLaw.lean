import Derived.Test.YtmfnadojephcpaaPvBridge
import Derived.Test.YtmfnadojephcpaaPvVS
set_option linter.unusedSimpArgs false
set_option linter.unusedVariables false
namespace Go.Pv
open Go.ChangeShapes Go.RowKit
theorem run_trueW {E : Env} (hm : E.P.follows .mixedOrders = true) (hP : progOk E.P = true) {f : FuncId} {xs : List IV} (hc : CallW E f xs Heap.empty fun v _ => v = .bool true)
  (W : World) {rs : List Value} (hG : GOK E (M0 W)) (hv : VRs (M0 W) xs rs) :
  Calls E.P f rs.toArray W fun e W' => e = .returned (.bool true) /\ Below W.heap.size W W' := by
 obtain ⟨n, v, h', hr, rfl⟩ := hc
 exact run_true hm hP hr W hG hv
section
variable {P : Program} {W : World} {base : Nat} {t : TypeId} {v : Value}
theorem int_arg {k : IntKind} (hu : P.underlying t = some (.int k)) (h : Value.okWide P W .any base t v) : ∃ n, v = .int k n /\ k.has n := by
 unfold Value.okWide at h
 simp only [hu] at h
 cases v <;> simp [Cell.okWide, Cell.ok, hu] at h
 rename_i k' n
 obtain ⟨rfl, h2⟩ := h
 exact ⟨n, rfl, h2⟩
theorem bool_arg (hu : P.underlying t = some .bool) (h : Value.okWide P W .any base t v) : ∃ b, v = .bool b := by
 unfold Value.okWide at h
 simp only [hu] at h
 cases v <;> simp [Cell.okWide, Cell.ok, hu] at h
 exact ⟨_, rfl⟩
theorem str_arg (hu : P.underlying t = some .string) (h : Value.okWide P W .any base t v) : ∃ s, v = .string s /\ (s.size : Int) <= IntKind.i64.max := by
 unfold Value.okWide at h
 simp only [hu] at h
 cases v <;> simp [Cell.okWide, Cell.ok, hu] at h
 exact ⟨_, rfl, h⟩
theorem has_i64 {n : Int} (h : IntKind.i64.has n) : -9223372036854775808 <= n /\ n <= 9223372036854775807 := by
 simpa [IntKind.has, IntKind.min, IntKind.max, IntKind.bits, IntKind.signed] using h
end
end Go.Pv
