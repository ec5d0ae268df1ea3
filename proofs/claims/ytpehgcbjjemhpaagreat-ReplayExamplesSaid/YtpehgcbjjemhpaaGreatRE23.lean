/-
  The example of chapter 23: a step, by a run.
  Conditions: none.
-/
import Derived.Test.YtpehgcbjjemhpaaGreatEnv23
import Derived.Test.YtpehgcbjjemhpaaGreatPvVS
import Derived.Test.YtpehgcbjjemhpaaGreatV23
import Derived.KernelRfl
namespace Go.Proofs.YtpehgcbjjemhpaaGreat
open Go.Pv Go.M23
noncomputable def hpE : Heap := ((runF env 300 8 [.ptr 1 0, stA] (h1 nrl)).getD (.nilslice, Heap.empty)).2
theorem goE (Q : IV → Heap → Prop) (hk : ∀ h, Q (.bool false) h) : CallW env 8 [.ptr 1 0, stA] (h1 nrl) Q := ⟨300, .bool false, hpE, by kernel_rfl, hk _⟩
end Go.Proofs.YtpehgcbjjemhpaaGreat
