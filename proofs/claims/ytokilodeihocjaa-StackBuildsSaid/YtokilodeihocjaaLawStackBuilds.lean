/- StackBuilds holds: whatever the input, the law tells true, and the input reads as it did. Its conditions: none beyond those of the given statement. -/
import Derived.Test.YtokilodeihocjaaRows
import Derived.Test.YtokilodeihocjaaOpen
import Derived.Test.YtokilodeihocjaaStackBuilds
import Derived.Test.YtokilodeihocjaaPureStackBuilds
import Derived.WalkKit
import Derived.ProofKit
import Derived.OpenShut
import Derived.ShutString
import Derived.ChangeOld
import Derived.Below
import Derived.SizedLaws
namespace Go.Proofs.Ytokilodeihocjaa.stackBuilds
open Go.ChangeShapes Go.WideShapes Go.ChangeAt Go.RowKit Go.Proofs.Ytokilodeihocjaa.A Go.Proofs.YtokilodeihocjaaW.PrintWords
open Go.ChangeMaps (open_string shut_string)
set_option linter.unusedVariables false
set_option linter.unusedSimpArgs false
theorem own : ownKnob Try.prog.godebug = none := by kernel_rfl
theorem laidOut : laidOutB Try.prog = true := by kernel_rfl
set_option maxRecDepth 100000 in
theorem lifted (os : Os) (started : os.Started) (H : Type) (enc : TypeId × Value → H) :
    ReturnsInHanded {} Try.checked os 3 .any (Rows.stackBuildsSpec.pre6 enc Try.prog Try.f3 Rows.stackBuildsRow.domain false) (Rows.stackBuildsSpec.post enc Try.prog Try.f3 false true false false) := by
  refine returnsInHanded_of_change_sized (C := Try.checked) own started (by kernel_rfl) Try.func3
    (ChangeSpec.witness6 (enc := enc) (C := Try.checked) false ⟨#[], #[.int .i64 0, .agg #[.slice none 0 0, .slice none 0 0, .slice none 0 0]], []⟩ 8 (by kernel_rfl) (by kernel_rfl) (by kernel_rfl) (by kernel_rfl)) ?_
  intro W base args ds gs before hval0 hW hcnd hsz0 _
  have hsz : (DataW.weightsEach Try.prog (Try.f3.params.toList ++ Rows.stackBuildsSpec.plain.varTypes Try.prog) (ds ++ gs)).all (· ≤ reachBytes) = true := hsz0
  have hval : ∀ (j : Nat) t v, Try.f3.params[j]? = some t → args[j]? = some v → Value.okWide Try.prog W .any base t v := hval0
  have hW' := hW
  obtain ⟨p, q, hA0, hV, rfl, hfz, hnd⟩ := hW
  have hA : DataW.TrodAll enc Try.prog W 0 (fun _ => true) true Try.f3.params.toList args.toList ds p := hA0
  rw [Try.params3] at hA hval hsz
  obtain ⟨v0, vs0, d0, ds0, p0, q0, hargs, rfl, rfl, h0, r0⟩ := trodAll_cons hA
  obtain ⟨v1, vs1, d1, ds1, p1, q1, rfl, rfl, rfl, h1, r1⟩ := trodAll_cons r0
  obtain ⟨rfl, rfl, rfl⟩ := trodAll_nil r1
  obtain rfl : args = #[v0, v1] := by cases args; simp_all
  obtain ⟨rfl, rfl⟩ := trodVars_none hV
  obtain ⟨a0, rfl, rfl, rfl, w0⟩ := open_int Try.underlying3 (hval 0 3 v0 rfl rfl) h0
  have k1 := h1
  have lt1 : ∀ x ∈ p1, x.block < W.heap.size := by obtain ⟨m, hm⟩ := k1; exact DataW.trod_lt m _ _ _ hm
  obtain ⟨cs1, rfl, _⟩ := okWide_struct Try.underlying25 (hval 1 25 v1 rfl rfl)
  obtain ⟨fu1, hf1⟩ := h1
  obtain ⟨x1, K1, B1⟩ := opens25 enc W _ _ _ _ _ _ hf1
  obtain ⟨A1_0, c1_0, A1_1, c1_1, A1_2, c1_2, E1, l1_0, g1_0, l1_1, g1_1, l1_2, g1_2⟩ := k25_open K1
  have E1' : cs1.toList = [.slice A1_0 x1.f0.length c1_0, .slice A1_1 x1.f1.length c1_1, .slice A1_2 x1.f2.length c1_2] := E1
  obtain rfl : cs1 = #[.slice A1_0 x1.f0.length c1_0, .slice A1_1 x1.f1.length c1_1, .slice A1_2 x1.f2.length c1_2] := by cases cs1; exact congrArg Array.mk E1'
  clear hA0 hval0 hsz0 hsz
  obtain ⟨k, hk⟩ := Pure.StackBuilds a0 w0 x1.f0 x1.f1 x1.f2 B1
  refine (_root_.Go.Proofs.Ytokilodeihocjaa.H.stackBuilds.calls (h := hk) (w := W) (hr1_0 := g1_0) (hc1_0 := l1_0) (hr1_1 := g1_1) (hc1_1 := l1_1) (hr1_2 := g1_2) (hc1_2 := l1_2)).mono fun e W' ⟨he, bel⟩ => ?_
  subst he
  exact ⟨_, rfl, _, _, _, [], _, [], hW', trodAll_mk1 (shut_bool Try.underlying4 _), (trodAll_cons_mk (shut_int Try.underlying3 w0) (trodAll_cons_mk (Below.trod laidOut (by kernel_rfl) (of_decide_eq_true (by kernel_rfl)) k1 bel lt1) trodAll_mk0)), rfl, bel.frame _, fun h => by cases h⟩
theorem over : Rows.stackBuildsRow.holds Try.pinned (OpenSpec.ofChange Rows.stackBuildsSpec) :=
  OpenClaim.holds_of_wide 3 Try.f3 rfl rfl rfl rfl rfl rfl rfl ⟨rfl, rfl, rfl, rfl, rfl⟩ rfl rfl rfl rfl rfl (by kernel_rfl) Try.func3 (by kernel_rfl)
    (of_decide_eq_true (by kernel_rfl)) (by unfold Func.isWrapper; first | (rw [if_pos (by decide +kernel)]; kernel_rfl) | (rw [if_neg (by decide +kernel)]; exact ⟨rfl, rfl⟩))
    (fun os started H enc _ => lifted os started H enc)
theorem proved : Rows.StackBuildsSaid := over
#print axioms proved
end Go.Proofs.Ytokilodeihocjaa.stackBuilds
namespace Go.Proofs.Ytokilodeihocjaa
/-- The row, under a short name, for the claim. -/
theorem stackBuilds_holds : Rows.StackBuildsSaid := stackBuilds.proved
end Go.Proofs.Ytokilodeihocjaa
