/- The chapter's example, in plain numbers. -/
import Derived.Test.YtokilodeihocjaaBxFlyleaflaw17Awake
import Derived.Test.YtokilodeihocjaaPureStack
namespace Go.Proofs.Ytokilodeihocjaa.Pure
open Go.RowKit Go.Proofs.Ytokilodeihocjaa.A Go.Proofs.Ytokilodeihocjaa.H Go.Proofs.Flat Go.Proofs.YtokilodeihocjaaW.PrintWords Go.Proofs.YtokilodeihocjaaW.PrintLast Go.Proofs.YtokilodeihocjaaW.PrintMore
set_option linter.unusedVariables false
set_option linter.unusedSimpArgs false
theorem awake_told : flyleaflaw17_awake.f = some true := by
  have hs : sizeN [(⟨#[97]⟩ : ByteArray)] [] [] = 64 := by decide
  have hl : textsN [(⟨#[97]⟩ : ByteArray)] = 2 := by decide
  have hb := Build_ok (top := 4096) (l0 := [(⟨#[97]⟩ : ByteArray)]) (l1 := []) (l2 := []) (lowL_of (by rw [hl]; decide)) (lowL_of (by decide)) (by decide) (by decide) (by decide) (by decide) (by decide) (by rw [hs]; decide) (by rw [hs]; decide)
  rw [hs] at hb
  unfold flyleaflaw17_awake.f
  rw [hb]
  simp only [Option.bind_some]
  rw [if_pos (by decide), if_pos (by rw [builtS_size, hs]; rfl)]
  rfl
end Go.Proofs.Ytokilodeihocjaa.Pure
