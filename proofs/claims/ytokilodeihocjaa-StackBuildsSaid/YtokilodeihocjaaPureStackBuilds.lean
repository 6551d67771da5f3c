/- StackBuilds in plain numbers: what was walked tells true. -/
import Derived.Test.YtokilodeihocjaaStackBuilds
import Derived.Test.YtokilodeihocjaaOpen
namespace Go.Proofs.Ytokilodeihocjaa.Pure
open Go.RowKit Go.Proofs.Ytokilodeihocjaa.A Go.Proofs.Ytokilodeihocjaa.H
set_option linter.unusedVariables false
theorem StackBuilds (a0 : Int) (w0 : (Lit.int .i64 a0).wf = true) (l0 l1 : List ByteArray) (l2 : List Pr) (hb : b25 ⟨l0, l1, l2⟩) : ∃ k, stackBuilds.f k a0 l0 l1 l2 = some true := ⟨0, rfl⟩
end Go.Proofs.Ytokilodeihocjaa.Pure
