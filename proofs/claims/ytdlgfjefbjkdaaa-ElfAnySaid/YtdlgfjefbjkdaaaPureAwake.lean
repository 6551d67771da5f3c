/- The chapter's examples hold. -/
import Derived.Test.YtdlgfjefbjkdaaaOpen
import Derived.Test.YtdlgfjefbjkdaaaBxFlyleaflaw08Awake
namespace Go.Proofs.Ytdlgfjefbjkdaaa.Pure
open Go.RowKit Go.Proofs.Ytdlgfjefbjkdaaa.A Go.Proofs.YtdlgfjefbjkdaaaW.PrintWords
set_option linter.unusedVariables false
set_option linter.unusedSimpArgs false
theorem awake_is (k : Nat) : flyleaflaw08_awake.f (k + 300) = some true := by
  have h : flyleaflaw08_awake.f 300 = some true := by kernel_rfl
  induction k with
  | zero => exact h
  | succ k ih => exact (show k + 1 + 300 = (k + 300) + 1 by omega) ▸ flyleaflaw08_awake.mono _ _ ih
end Go.Proofs.Ytdlgfjefbjkdaaa.Pure
