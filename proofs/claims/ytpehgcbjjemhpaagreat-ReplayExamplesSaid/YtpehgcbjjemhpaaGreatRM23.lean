/-
  The example of chapter 23: newChecker, by a run.
  Conditions: none.
-/
import Derived.Test.YtpehgcbjjemhpaaGreatEnv23
import Derived.Test.YtpehgcbjjemhpaaGreatPvVS
import Derived.Test.YtpehgcbjjemhpaaGreatV23
import Derived.KernelRfl
namespace Go.Proofs.YtpehgcbjjemhpaaGreat
open Go.Pv Go.M23
theorem goM (Q : IV → Heap → Prop) (hk : Q (.ptr 1 0) (h1 nrl)) : CallW env 7 [nrl, ninv, nlen, nds] Heap.empty Q := ⟨300, .ptr 1 0, h1 nrl, by kernel_rfl, hk⟩
end Go.Proofs.YtpehgcbjjemhpaaGreat
