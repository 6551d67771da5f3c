/- elf.Check at an image whose head may not be: the contract. -/
import Derived.Test.YtdlgfjefbjkdaaaCheckDefs
import Derived.WalkKit
import Derived.Lib.Hide
import Derived.WalkSpells
namespace Go.Proofs.Ytdlgfjefbjkdaaa.H
open Go.RowKit Go.Proofs.YtdlgfjefbjkdaaaW.PrintWords Go.Proofs.YtdlgfjefbjkdaaaW.PrintLast Go.Proofs.YtdlgfjefbjkdaaaW.PrintMore Go.Proofs.Ytdlgfjefbjkdaaa.A
set_option linter.unusedVariables false
set_option linter.unusedSimpArgs false

set_option maxHeartbeats 4000000 in
set_option maxRecDepth 100000 in
theorem check_bad (kind entry : Int) (A : Option Addr) (c : Nat) (l : List Seg) (size : Int) (w : World) (hb : l.length ≤ 2147483647) (h : badHead kind entry l.length size) :
    Calls Try.prog 13 #[imgV kind entry A c l, .int .i64 size] w fun e w' => e = .returned (.int .i64 16) ∧ Below w.heap.size w w' := by
  have hu := Try.underlying28
  by_cases h1 : kind ≠ 2 ∧ kind ≠ 3
  · obtain ⟨k2, k3⟩ := h1
    have d2 : (kind != 2) = true := by simp [k2]
    have d3 : (kind != 3) = true := by simp [k3]
    clear h
    go_enter Try.func13, Try.ntmps13
    go_wp2
    go_step3
    go_wp2
    rw [Exit.noGoto_ret]
    go_ret
    exact ⟨rfl, (Below.refl _ _).alloc (Nat.le_refl _) _⟩
  · have hk : kind = 2 ∨ kind = 3 := by omega
    have hl : 0 ≤ (l.length : Int) := Int.natCast_nonneg _
    by_cases h2 : (l.length : Int) < 1
    · have d2 : decide ((l.length : Int) < 1) = true := decide_eq_true h2
      have d2' : decide (l.length < 1) = true := decide_eq_true (by omega)
      clear h h1
      rcases hk with rfl | rfl
      all_goals
        go_enter Try.func13, Try.ntmps13
        go_wp2
        go_step3
        go_wp2
        rw [Exit.noGoto_ret]
        go_ret
        exact ⟨rfl, (Below.refl _ _).alloc (Nat.le_refl _) _⟩
    by_cases h3 : 16 < (l.length : Int)
    · clear h h1
      rcases hk with rfl | rfl
      all_goals
        go_enter Try.func13, Try.ntmps13
        go_wp2
        go_step3
        go_wp2
        rw [Exit.noGoto_ret]
        go_ret
        exact ⟨rfl, (Below.refl _ _).alloc (Nat.le_refl _) _⟩
    by_cases h4 : size < 64 + 56 * (l.length : Int)
    · clear h h1
      rcases hk with rfl | rfl
      all_goals
        go_enter Try.func13, Try.ntmps13
        go_wp2
        go_step3
        go_wp2
        rw [Exit.noGoto_ret]
        go_ret
        exact ⟨rfl, (Below.refl _ _).alloc (Nat.le_refl _) _⟩
    by_cases h5 : entry < 0
    · clear h h1
      rcases hk with rfl | rfl
      all_goals
        go_enter Try.func13, Try.ntmps13
        go_wp2
        go_step3
        go_wp2
        rw [Exit.noGoto_ret]
        go_ret
        exact ⟨rfl, (Below.refl _ _).alloc (Nat.le_refl _) _⟩
    · have h6 : 1099511627776 < entry := by unfold badHead at h; omega
      clear h h1
      rcases hk with rfl | rfl
      all_goals
        go_enter Try.func13, Try.ntmps13
        go_wp2
        go_step3
        go_wp2
        rw [Exit.noGoto_ret]
        go_ret
        exact ⟨rfl, (Below.refl _ _).alloc (Nat.le_refl _) _⟩
end Go.Proofs.Ytdlgfjefbjkdaaa.H
