/- A remainder that is made not negative. -/
import Derived.Test.YtokilodeihocjaaPureAwake17
import Derived.OpenShut
namespace Go.Proofs.Ytokilodeihocjaa.Pure
open Go.RowKit Go.Proofs.Ytokilodeihocjaa.A Go.Proofs.Ytokilodeihocjaa.H Go.Proofs.Flat Go.Proofs.YtokilodeihocjaaW.PrintWords Go.Proofs.YtokilodeihocjaaW.PrintLast Go.Proofs.YtokilodeihocjaaW.PrintMore
set_option linter.unusedVariables false
set_option linter.unusedSimpArgs false
theorem rest_of {a m : Int} (ha : -9223372036854775808 ≤ a) (hb : a ≤ 9223372036854775807) (hm : 0 < m) (hm2 : m ≤ 1000) : ∃ n : Nat, (n : Int) < m ∧ Int.tmod (wrap64 (Int.tmod a m + m)) m = n := by
  have h1 : -m < Int.tmod a m := by
    have := Int.lt_tmod_of_pos a hm
    omega
  have h2 : Int.tmod a m < m := Int.tmod_lt_of_pos a hm
  rw [wid (by omega) (by omega), Int.tmod_eq_emod_of_nonneg (by omega)]
  have h3 := Int.emod_nonneg (Int.tmod a m + m) (show m ≠ 0 by omega)
  have h4 := Int.emod_lt_of_pos (Int.tmod a m + m) hm
  exact ⟨((Int.tmod a m + m) % m).toNat, by omega, by omega⟩
end Go.Proofs.Ytokilodeihocjaa.Pure
