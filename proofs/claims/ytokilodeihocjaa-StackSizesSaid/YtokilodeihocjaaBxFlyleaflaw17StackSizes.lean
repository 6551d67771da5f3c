-- Laid by pr.py, a program of this session, out of the translation. Not trusted: Lean checks it.
import Derived.Test.YtokilodeihocjaaBx0
import Derived.Test.YtokilodeihocjaaBxFlyleaflaw17Awake
import Derived.Test.YtokilodeihocjaaAxStackSize
import Derived.Test.YtokilodeihocjaaBuild
namespace Go.Proofs.Ytokilodeihocjaa.A
open Go.RowKit Go.Proofs.Ytokilodeihocjaa.H Go.Proofs.YtokilodeihocjaaW.PrintWords Go.Proofs.YtokilodeihocjaaW.PrintLast Go.Proofs.YtokilodeihocjaaW.PrintMore
attribute [local go_sem] max2_int min2_int max_two min_two max_three min_three max_four min_four   -- for this text's walks alone
set_option linter.unusedVariables false
set_option linter.unusedSimpArgs false

/-! ### flyleaflaw17_StackSizes: function 4 -/
mutual
def flyleaflaw17_StackSizes.l0 : Nat → Bool → Int → Int → ByteArray → Int → Option (Bool)
  | 0, _, _, _, _, _ => none
  | k + 1, x5, x6, x7, x8, x9 => if x9 < x7 then (if x8.size + 1 ≤ 9223372036854775807 then (flyleaflaw17_StackSizes.l0 k x5 x6 x7 (x8 ++ (⟨#[115]⟩ : ByteArray)) (wrap64 (x9 + 1))) else (none)) else (flyleaflaw17_StackSizes.l1 k x5 x6 x7 x8 ([] : List ByteArray) 0)
def flyleaflaw17_StackSizes.l1 : Nat → Bool → Int → Int → ByteArray → List ByteArray → Int → Option (Bool)
  | 0, _, _, _, _, _, _ => none
  | k + 1, x5, x6, x7, x8, x10, x11 => if x11 < x6 then (if x10.length < 8796093022208 then (flyleaflaw17_StackSizes.l1 k x5 x6 x7 x8 (x10 ++ [x8]) (wrap64 (x11 + 1))) else (none)) else ((stack_Size.f k x10 ([] : List ByteArray) ([] : List (S48))).bind fun t114 => ((stack_Build.f 2048 x10 ([] : List ByteArray) ([] : List (S48))).bind fun bt115 => (if x5 = true then (if (Int.tmod t114 16) = 0 then (if t114 ≥ (wrap64 (40 + (wrap64 (x6 * (wrap64 ((wrap64 (8 + x7)) + 1)))))) then (if t114 < (wrap64 ((wrap64 (40 + (wrap64 (x6 * (wrap64 ((wrap64 (8 + x7)) + 1)))))) + 16)) then (if bt115.2.2 = 0 then (if (bt115.2.1.size : Int) = t114 then (some (bt115.1 == (wrap64 (2048 - t114)))) else (some false)) else (some false)) else (some false)) else (some false)) else (some false)) else (some false))))
end
def flyleaflaw17_StackSizes.f (k : Nat) (a0 : Int) (a1 : Int) : Option (Bool) := (flyleaflaw17_awake.f).bind fun t110 => (flyleaflaw17_StackSizes.l0 k t110 (Int.tmod (wrap64 ((Int.tmod a0 10) + 10)) 10) (Int.tmod (wrap64 ((Int.tmod a1 21) + 21)) 21) (⟨#[]⟩ : ByteArray) 0)
theorem flyleaflaw17_StackSizes.mono_l : ∀ k, (∀ y0 y1 y2 y3 y4, LeO (flyleaflaw17_StackSizes.l0 k y0 y1 y2 y3 y4) (flyleaflaw17_StackSizes.l0 (k + 1) y0 y1 y2 y3 y4)) ∧ (∀ y0 y1 y2 y3 y4 y5, LeO (flyleaflaw17_StackSizes.l1 k y0 y1 y2 y3 y4 y5) (flyleaflaw17_StackSizes.l1 (k + 1) y0 y1 y2 y3 y4 y5))
  | 0 => ⟨fun _ _ _ _ _ r h => by simp [flyleaflaw17_StackSizes.l0] at h, fun _ _ _ _ _ _ r h => by simp [flyleaflaw17_StackSizes.l1] at h⟩
  | k + 1 => by
    obtain ⟨ih0, ih1⟩ := flyleaflaw17_StackSizes.mono_l k
    refine ⟨?_, ?_⟩
    · intro y0 y1 y2 y3 y4
      unfold flyleaflaw17_StackSizes.l0
      repeat' first
      | (with_reducible exact ih0 _ _ _ _ _)
      | (with_reducible exact ih1 _ _ _ _ _ _)
      | (with_reducible exact stack_Size.mono _ _ _ _)
      | (with_reducible exact LeO.refl _)
      | (with_reducible exact LeO.none _)
      | (with_reducible refine LeO.ite ?_ ?_)
      | (with_reducible refine LeO.bind ?_ (fun _ => ?_))
      | exact ih0 _ _ _ _ _
      | exact ih1 _ _ _ _ _ _
      | exact stack_Size.mono _ _ _ _
      | exact LeO.none _
      | refine LeO.ite ?_ ?_
      | refine LeO.bind ?_ (fun _ => ?_)
    · intro y0 y1 y2 y3 y4 y5
      unfold flyleaflaw17_StackSizes.l1
      repeat' first
      | (with_reducible exact ih0 _ _ _ _ _)
      | (with_reducible exact ih1 _ _ _ _ _ _)
      | (with_reducible exact stack_Size.mono _ _ _ _)
      | (with_reducible exact LeO.refl _)
      | (with_reducible exact LeO.none _)
      | (with_reducible refine LeO.ite ?_ ?_)
      | (with_reducible refine LeO.bind ?_ (fun _ => ?_))
      | exact ih0 _ _ _ _ _
      | exact ih1 _ _ _ _ _ _
      | exact stack_Size.mono _ _ _ _
      | exact LeO.none _
      | refine LeO.ite ?_ ?_
      | refine LeO.bind ?_ (fun _ => ?_)
theorem flyleaflaw17_StackSizes.mono : ∀ a0 a1 k, LeO (flyleaflaw17_StackSizes.f k a0 a1) (flyleaflaw17_StackSizes.f (k + 1) a0 a1) := by
  intro a0 a1 k
  obtain ⟨ih0, ih1⟩ := flyleaflaw17_StackSizes.mono_l k
  unfold flyleaflaw17_StackSizes.f
  repeat' first
      | (with_reducible exact ih0 _ _ _ _ _)
      | (with_reducible exact ih1 _ _ _ _ _ _)
      | (with_reducible exact stack_Size.mono _ _ _ _)
      | (with_reducible exact LeO.refl _)
      | (with_reducible exact LeO.none _)
      | (with_reducible refine LeO.ite ?_ ?_)
      | (with_reducible refine LeO.bind ?_ (fun _ => ?_))
      | exact ih0 _ _ _ _ _
      | exact ih1 _ _ _ _ _ _
      | exact stack_Size.mono _ _ _ _
      | exact LeO.none _
      | refine LeO.ite ?_ ?_
      | refine LeO.bind ?_ (fun _ => ?_)
set_option maxHeartbeats 8000000 in
set_option maxRecDepth 100000 in
theorem flyleaflaw17_StackSizes.calls (k : Nat) (a0 : Int) (a1 : Int) (r : Bool) (w : World) (h : flyleaflaw17_StackSizes.f k a0 a1 = some r) :
    Calls Try.prog 4 #[.int .i64 a0, .int .i64 a1] w fun e w' => e = .returned (.bool r) ∧ Below w.heap.size w w' := by
  have HB := Aside0.mk (Below.refl w.heap.size w)
  have H : ((flyleaflaw17_awake.f).bind fun t110 => (flyleaflaw17_StackSizes.l0 k t110 (Int.tmod (wrap64 ((Int.tmod a0 10) + 10)) 10) (Int.tmod (wrap64 ((Int.tmod a1 21) + 21)) 21) (⟨#[]⟩ : ByteArray) 0)) = some r := h
  clear h
  replace H := Option.bind_eq_some_iff.mp H
  obtain ⟨t110, A30, H⟩ := H
  replace H : (flyleaflaw17_StackSizes.l0 k t110 (Int.tmod (wrap64 ((Int.tmod a0 10) + 10)) 10) (Int.tmod (wrap64 ((Int.tmod a1 21) + 21)) 21) (⟨#[]⟩ : ByteArray) 0) = some r := H
  have A3 := Aside0.mk A30
  clear A30
  have H' := Aside0.mk H
  clear H
  go_enter Try.func4, Try.ntmps4
  go_wp2_with (first | ((with_reducible refine gate_callee (f := 8) rfl ?_); refine goesL_ (some 17) rfl rfl Try.func8 (by kernel_rfl) rfl #[] rfl (by (try simp only [List.map_toArray, List.map_cons, List.map_nil]); first | done | rfl | (simp only [List.length_drop, List.length_take]; rfl)) ?_; (with_reducible refine (flyleaflaw17_awake.calls  t110 _ A3.out).mono ?_); rintro e w4 ⟨rfl, hb⟩; refine ⟨_, rfl, ?_⟩; have n0_ := Aside0.mk (below_step (by repeat (first | (with_reducible first | exact HB.out | apply below_alloc | apply pw_below_drewN | apply below_drew1) | exact HB.out)) hb); clear HB; have HB := n0_; clear n0_; (try clear hb); (try clear hb2); (try clear hk); (try clear hi)))
  go_loopg [8, 9] k (fun kq v8 v9 w' => ∃ (x8_1 : ByteArray) (x9_1 : Int), v8 = .string x8_1 ∧ v9 = .int .i64 x9_1 ∧ Aside0 (flyleaflaw17_StackSizes.l0 kq t110 (Int.tmod (wrap64 ((Int.tmod a0 10) + 10)) 10) (Int.tmod (wrap64 ((Int.tmod a1 21) + 21)) 21) x8_1 x9_1 = some r) ∧ Aside0 (kq ≤ k) ∧ Aside0 (Below w.heap.size w w'))
  case atStart => exact ⟨((⟨#[]⟩ : ByteArray)), (0), (by first | rfl | (simp; done) | (simp [*]; done)), (by first | rfl | (simp; done) | (simp [*]; done)), H', ⟨Nat.le_refl _⟩, ⟨by repeat (first | (with_reducible first | exact HB.out | apply below_alloc | apply pw_below_drewN | apply below_drew1) | exact HB.out)⟩⟩
  case round =>
    clear H'
    try clear p2
    try clear c4
    obtain ⟨x8_1, x9_1, rfl, rfl, HA, HK1, HB⟩ := hrel
    cases gk with
    | zero => exact absurd HA.out (by simp [flyleaflaw17_StackSizes.l0])
    | succ k1 =>
      have H := HA.out
      clear HA
      simp only [flyleaflaw17_StackSizes.l0] at H
      by_cases c5 : x9_1 < (Int.tmod (wrap64 ((Int.tmod a1 21) + 21)) 21)
      · rw [if_pos c5] at H
        have c5b0 : decide (x9_1 < (Int.tmod (wrap64 ((Int.tmod a1 21) + 21)) 21)) = true := decide_eq_true c5
        clear c5
        by_cases c6 : x8_1.size + 1 ≤ 9223372036854775807
        · rw [if_pos c6] at H
          have c6b0 := eq_true c6
          have c6b1 : decide (x8_1.size + 1 ≤ 9223372036854775807) = true := decide_eq_true c6
          try have c6b2 : (9223372036854775807 < x8_1.size + 1) = False := eq_false (Nat.not_lt.2 c6)
          have H' := Aside0.mk H
          clear H
          go_wp2
          go_roundg k1
          case measure => have := HK1.out; omega
          case rel => exact ⟨(x8_1 ++ (⟨#[115]⟩ : ByteArray)), (wrap64 (x9_1 + 1)), (by first | rfl | (simp; done) | (simp [*]; done)), (by first | rfl | (simp; done) | (simp [*]; done)), H', ⟨by have := HK1.out; omega⟩, ⟨by repeat (first | (with_reducible first | exact HB.out | apply below_alloc | apply pw_below_drewN | apply below_drew1) | exact HB.out)⟩⟩
        · rw [if_neg c6] at H
          exact absurd H (by simp)
      · rw [if_neg c5] at H
        have c5b0 : decide (x9_1 < (Int.tmod (wrap64 ((Int.tmod a1 21) + 21)) 21)) = false := decide_eq_false c5
        clear c5
        have H' := Aside0.mk H
        clear H
        go_wp2
        go_loopg [10, 11] k1 (fun kq v10 v11 w' => ∃ (x10_2 : List ByteArray) (x11_2 : Int), v11 = .int .i64 x11_2 ∧ Aside0 (flyleaflaw17_StackSizes.l1 kq t110 (Int.tmod (wrap64 ((Int.tmod a0 10) + 10)) 10) (Int.tmod (wrap64 ((Int.tmod a1 21) + 21)) 21) x8_1 x10_2 x11_2 = some r) ∧ Aside0 (kq ≤ k1) ∧ Aside0 (Kd.R Kd.string 9 w' w.heap.size (fun _ => True) v10 x10_2) ∧ Aside0 (Below w.heap.size w w'))
        case atStart => exact ⟨(([] : List ByteArray)), (0), (by first | rfl | (simp; done) | (simp [*]; done)), H', ⟨Nat.le_refl _⟩, ⟨by first | exact Kd.R_nil _ _ _ _ _ | exact Kd.N_nil _ _ _ _ _ | exact Kd.V_nil _ _ _ _ _ | exact Kd.Q_nil _ _ _ _ _ | exact Kd.S_nil _ _ _ _ _⟩, ⟨by repeat (first | (with_reducible first | exact HB.out | apply below_alloc | apply pw_below_drewN | apply below_drew1) | exact HB.out)⟩⟩
        case round =>
          clear H'
          try clear p2
          try clear c4
          try clear c5
          try clear c5b0
          try clear c6
          try clear c6b0
          try clear c6b1
          try clear c6b2
          try clear p6
          try clear p2
          obtain ⟨x10_2, x11_2, rfl, HA, HK2, HO_10, HB⟩ := hrel
          cases gk with
          | zero => exact absurd HA.out (by simp [flyleaflaw17_StackSizes.l1])
          | succ k2 =>
            have H := HA.out
            clear HA
            simp only [flyleaflaw17_StackSizes.l1] at H
            by_cases c7 : x11_2 < (Int.tmod (wrap64 ((Int.tmod a0 10) + 10)) 10)
            · rw [if_pos c7] at H
              have c7b0 : decide (x11_2 < (Int.tmod (wrap64 ((Int.tmod a0 10) + 10)) 10)) = true := decide_eq_true c7
              clear c7
              by_cases c8 : x10_2.length < 8796093022208
              · rw [if_pos c8] at H
                have LMc8 := Aside0.mk c8
                clear c8
                obtain ⟨y111, hy111⟩ : ∃ y_ : List ByteArray, y_ = (x10_2 ++ [x8_1]) := ⟨_, rfl⟩
                replace H : (flyleaflaw17_StackSizes.l1 k2 t110 (Int.tmod (wrap64 ((Int.tmod a0 10) + 10)) 10) (Int.tmod (wrap64 ((Int.tmod a1 21) + 21)) 21) x8_1 y111 (wrap64 (x11_2 + 1))) = some r := by first | (rw [hy111]; with_reducible exact H) | (have H2_ := (Option.bind_some _ _).symm.trans H; rw [hy111]; with_reducible exact H2_) | (have H2_ := (Option.bind_some _ _).symm.trans H; with_reducible exact H2_) | with_reducible exact H | (rw [hy111]; exact H) | exact H
                have Ny111 := Aside0.mk hy111
                clear hy111
                have H' := Aside0.mk H
                clear H
                go_wp2_with (first | ((with_reducible refine gate_builtin (b := .append) (xs := #[.tmp 38, .tmp 40]) rfl ?_); (try (refine gate_guard (by rfl) ?_; dsimp only)); at_builtin; refine Kd.R_append Kd.string (w0 := w) w.heap.size rfl (.tmp 38) (.tmp 40) 22 9 (.string ⟨#[]⟩) 16 rfl Try.underlying22 info9 rfl (by decide) (by omega) u10 x10_2 x8_1 [.string x8_1] (fun _ => True) (fun _ => False) rfl rfl ?aP (fun _ hk => hk.elim) ?aF ?aO ?aB ?aS ?aL ?_; (case aP => exact rfl); (case aB => exact (by repeat (first | (with_reducible first | exact HB.out | apply below_alloc | apply pw_below_drewN | apply below_drew1) | exact HB.out))); (case aF => exact (fun _ _ => trivial)); (case aO => exact (by (with_reducible repeat (first | apply Kd.R_alloc | apply Kd.R_drewN | apply Kd.R_drew)); exact HO_10.out)); (case aS => exact (below_size (by repeat (first | (with_reducible first | exact HB.out | apply below_alloc | apply pw_below_drewN | apply below_drew1) | exact HB.out)))); (case aL => have := LMc8.out; omega); intro v112 w9 ho hb hg hat; rw [← Ny111.out] at ho; have n0_ := Aside0.mk (hb); have n1_ := Aside0.mk (ho); clear HB; clear HO_10; have HB := n0_; have HO113 := n1_; clear n0_ n1_; clear ho hb hg hat))
                go_roundg k2
                case measure => have := HK1.out; have := HK2.out; omega
                case rel => exact ⟨(y111), (wrap64 (x11_2 + 1)), (by first | rfl | (simp; done) | (simp [*]; done)), H', ⟨by have := HK1.out; have := HK2.out; omega⟩, ⟨by (with_reducible repeat (first | apply Kd.R_alloc | apply Kd.R_drewN | apply Kd.R_drew)); exact HO113.out⟩, ⟨by repeat (first | (with_reducible first | exact HB.out | apply below_alloc | apply pw_below_drewN | apply below_drew1) | exact HB.out)⟩⟩
              · rw [if_neg c8] at H
                exact absurd H (by simp)
            · rw [if_neg c7] at H
              have c7b0 : decide (x11_2 < (Int.tmod (wrap64 ((Int.tmod a0 10) + 10)) 10)) = false := decide_eq_false c7
              clear c7
              replace H := Option.bind_eq_some_iff.mp H
              obtain ⟨t114, A100, H⟩ := H
              replace H : ((stack_Build.f 2048 x10_2 ([] : List ByteArray) ([] : List (S48))).bind fun bt115 => (if t110 = true then (if (Int.tmod t114 16) = 0 then (if t114 ≥ (wrap64 (40 + (wrap64 ((Int.tmod (wrap64 ((Int.tmod a0 10) + 10)) 10) * (wrap64 ((wrap64 (8 + (Int.tmod (wrap64 ((Int.tmod a1 21) + 21)) 21))) + 1)))))) then (if t114 < (wrap64 ((wrap64 (40 + (wrap64 ((Int.tmod (wrap64 ((Int.tmod a0 10) + 10)) 10) * (wrap64 ((wrap64 (8 + (Int.tmod (wrap64 ((Int.tmod a1 21) + 21)) 21))) + 1)))))) + 16)) then (if bt115.2.2 = 0 then (if (bt115.2.1.size : Int) = t114 then (some (bt115.1 == (wrap64 (2048 - t114)))) else (some false)) else (some false)) else (some false)) else (some false)) else (some false)) else (some false))) = some r := H
              have A10 := Aside0.mk A100
              clear A100
              replace H := Option.bind_eq_some_iff.mp H
              obtain ⟨⟨t115, t116, t117⟩, A110, H⟩ := H
              replace H : (if t110 = true then (if (Int.tmod t114 16) = 0 then (if t114 ≥ (wrap64 (40 + (wrap64 ((Int.tmod (wrap64 ((Int.tmod a0 10) + 10)) 10) * (wrap64 ((wrap64 (8 + (Int.tmod (wrap64 ((Int.tmod a1 21) + 21)) 21))) + 1)))))) then (if t114 < (wrap64 ((wrap64 (40 + (wrap64 ((Int.tmod (wrap64 ((Int.tmod a0 10) + 10)) 10) * (wrap64 ((wrap64 (8 + (Int.tmod (wrap64 ((Int.tmod a1 21) + 21)) 21))) + 1)))))) + 16)) then (if t117 = 0 then (if (t116.size : Int) = t114 then (some (t115 == (wrap64 (2048 - t114)))) else (some false)) else (some false)) else (some false)) else (some false)) else (some false)) else (some false)) = some r := H
              have A11 := Aside0.mk A110
              clear A110
              by_cases c12 : t110 = true
              · subst c12
                have H1 : (if (Int.tmod t114 16) = 0 then (if t114 ≥ (wrap64 (40 + (wrap64 ((Int.tmod (wrap64 ((Int.tmod a0 10) + 10)) 10) * (wrap64 ((wrap64 (8 + (Int.tmod (wrap64 ((Int.tmod a1 21) + 21)) 21))) + 1)))))) then (if t114 < (wrap64 ((wrap64 (40 + (wrap64 ((Int.tmod (wrap64 ((Int.tmod a0 10) + 10)) 10) * (wrap64 ((wrap64 (8 + (Int.tmod (wrap64 ((Int.tmod a1 21) + 21)) 21))) + 1)))))) + 16)) then (if t117 = 0 then (if (t116.size : Int) = t114 then (some (t115 == (wrap64 (2048 - t114)))) else (some false)) else (some false)) else (some false)) else (some false)) else (some false)) = some r := by rw [if_pos rfl] at H; exact H
                clear H
                have H := H1
                clear H1
                by_cases c13 : (Int.tmod t114 16) = 0
                · rw [if_pos c13] at H
                  have c13b0 : ((Int.tmod t114 16) == 0) = true := beq_iff_eq.mpr c13
                  have c13b1 : ((Int.tmod t114 16) != 0) = false := bne_eq_false_iff_eq.mpr c13
                  clear c13
                  by_cases c14 : t114 ≥ (wrap64 (40 + (wrap64 ((Int.tmod (wrap64 ((Int.tmod a0 10) + 10)) 10) * (wrap64 ((wrap64 (8 + (Int.tmod (wrap64 ((Int.tmod a1 21) + 21)) 21))) + 1))))))
                  · rw [if_pos c14] at H
                    have c14b0 : decide ((wrap64 (40 + (wrap64 ((Int.tmod (wrap64 ((Int.tmod a0 10) + 10)) 10) * (wrap64 ((wrap64 (8 + (Int.tmod (wrap64 ((Int.tmod a1 21) + 21)) 21))) + 1)))))) ≤ t114) = true := decide_eq_true c14
                    clear c14
                    by_cases c15 : t114 < (wrap64 ((wrap64 (40 + (wrap64 ((Int.tmod (wrap64 ((Int.tmod a0 10) + 10)) 10) * (wrap64 ((wrap64 (8 + (Int.tmod (wrap64 ((Int.tmod a1 21) + 21)) 21))) + 1)))))) + 16))
                    · rw [if_pos c15] at H
                      have c15b0 : decide (t114 < (wrap64 ((wrap64 (40 + (wrap64 ((Int.tmod (wrap64 ((Int.tmod a0 10) + 10)) 10) * (wrap64 ((wrap64 (8 + (Int.tmod (wrap64 ((Int.tmod a1 21) + 21)) 21))) + 1)))))) + 16))) = true := decide_eq_true c15
                      clear c15
                      by_cases c16 : t117 = 0
                      · rw [if_pos c16] at H
                        have c16b0 : (t117 == 0) = true := beq_iff_eq.mpr c16
                        have c16b1 : (t117 != 0) = false := bne_eq_false_iff_eq.mpr c16
                        clear c16
                        by_cases c17 : (t116.size : Int) = t114
                        · rw [if_pos c17] at H
                          have c17b0 : ((t116.size : Int) == t114) = true := beq_iff_eq.mpr c17
                          have c17b1 : ((t116.size : Int) != t114) = false := bne_eq_false_iff_eq.mpr c17
                          clear c17
                          obtain rfl := Option.some.inj H
                          obtain ⟨Ao18, co18, eo18⟩ := Kd.R_slice HO_10.out
                          subst eo18
                          go_wp2_with (first | ((with_reducible refine gate_callee (f := 12) rfl ?_); refine goesL_ (some 43) rfl rfl Try.func12 (by kernel_rfl) rfl #[.slice Ao18 x10_2.length co18, .slice none 0 0, .slice none 0 0] rfl (by (try simp only [List.map_toArray, List.map_cons, List.map_nil]); first | done | rfl | (simp only [List.length_drop, List.length_take]; rfl)) ?_; (refine (stack_Size.calls k2 _ _ x10_2 _ _ ([] : List ByteArray) _ _ ([] : List (S48)) t114 _ ?side1 ?side2 ?side3 ?side4 ?side5 ?side6 A10.out).mono ?_); (case side1 => repeat (first | exact (Kd.R_reads' HO_10.out).2.2 | (with_reducible refine Kd.C_alloc ?_ _) | (with_reducible refine Kd.C_drewN ?_ _) | (with_reducible refine Kd.C_drew ?_))); (case side2 => exact (Kd.R_reads' HO_10.out).2.1); (case side3 => exact Kd.C_nil _ _); (case side4 => exact Nat.le_refl _); (case side5 => exact Kd.C_nil _ _); (case side6 => exact Nat.le_refl _); rintro e w' ⟨rfl, ⟨nd, rfl⟩⟩; refine ⟨_, rfl, ?_⟩) | ((with_reducible refine gate_callee (f := 10) rfl ?_); refine goesL_ (some 52) rfl rfl Try.func10 (by kernel_rfl) rfl #[.int .i64 2048, .slice Ao18 x10_2.length co18, .slice none 0 0, .slice none 0 0] rfl (by (try simp only [List.map_toArray, List.map_cons, List.map_nil]); first | done | rfl | (simp only [List.length_drop, List.length_take]; rfl)) ?_; (refine (stack_Build.calls 2048 _ _ x10_2 _ _ ([] : List ByteArray) _ _ ([] : List (S48)) t115 t116 t117 _ ?side1 ?side2 ?side3 ?side4 ?side5 ?side6 A11.out).mono ?_); (case side1 => repeat (first | exact (Kd.R_reads' HO_10.out).2.2 | (with_reducible refine Kd.C_alloc ?_ _) | (with_reducible refine Kd.C_drewN ?_ _) | (with_reducible refine Kd.C_drew ?_))); (case side2 => exact (Kd.R_reads' HO_10.out).2.1); (case side3 => exact Kd.C_nil _ _); (case side4 => exact Nat.le_refl _); (case side5 => exact Kd.C_nil _ _); (case side6 => exact Nat.le_refl _); rintro e w19 ⟨rfl, hb⟩; refine ⟨_, rfl, ?_⟩; have n0_ := Aside0.mk (Kd.R_below (by (with_reducible repeat (first | apply Kd.R_alloc | apply Kd.R_drewN | apply Kd.R_drew)); exact HO_10.out) hb); have n1_ := Aside0.mk (below_step (by repeat (first | (with_reducible first | exact HB.out | apply below_alloc | apply pw_below_drewN | apply below_drew1) | exact HB.out)) hb); clear HO_10; clear HB; have HO_10 := n0_; have HB := n1_; clear n0_ n1_; (try clear hb); (try clear hb2); (try clear hk); (try clear hi)))
                          go_ret
                          exact ⟨by first | rfl | (simp [errW_none, errW_some] <;> rfl) | (simp [*, errW_none, errW_some] <;> rfl), by repeat (first | (with_reducible first | exact HB.out | apply below_alloc | apply pw_below_drewN | apply below_drew1) | exact HB.out)⟩
                        · rw [if_neg c17] at H
                          have c17b0 : ((t116.size : Int) == t114) = false := beq_eq_false_iff_ne.mpr c17
                          have c17b1 : ((t116.size : Int) != t114) = true := bne_iff_ne.mpr c17
                          obtain rfl := Option.some.inj H
                          obtain ⟨Ao20, co20, eo20⟩ := Kd.R_slice HO_10.out
                          subst eo20
                          go_wp2_with (first | ((with_reducible refine gate_callee (f := 12) rfl ?_); refine goesL_ (some 43) rfl rfl Try.func12 (by kernel_rfl) rfl #[.slice Ao20 x10_2.length co20, .slice none 0 0, .slice none 0 0] rfl (by (try simp only [List.map_toArray, List.map_cons, List.map_nil]); first | done | rfl | (simp only [List.length_drop, List.length_take]; rfl)) ?_; (refine (stack_Size.calls k2 _ _ x10_2 _ _ ([] : List ByteArray) _ _ ([] : List (S48)) t114 _ ?side1 ?side2 ?side3 ?side4 ?side5 ?side6 A10.out).mono ?_); (case side1 => repeat (first | exact (Kd.R_reads' HO_10.out).2.2 | (with_reducible refine Kd.C_alloc ?_ _) | (with_reducible refine Kd.C_drewN ?_ _) | (with_reducible refine Kd.C_drew ?_))); (case side2 => exact (Kd.R_reads' HO_10.out).2.1); (case side3 => exact Kd.C_nil _ _); (case side4 => exact Nat.le_refl _); (case side5 => exact Kd.C_nil _ _); (case side6 => exact Nat.le_refl _); rintro e w' ⟨rfl, ⟨nd, rfl⟩⟩; refine ⟨_, rfl, ?_⟩) | ((with_reducible refine gate_callee (f := 10) rfl ?_); refine goesL_ (some 52) rfl rfl Try.func10 (by kernel_rfl) rfl #[.int .i64 2048, .slice Ao20 x10_2.length co20, .slice none 0 0, .slice none 0 0] rfl (by (try simp only [List.map_toArray, List.map_cons, List.map_nil]); first | done | rfl | (simp only [List.length_drop, List.length_take]; rfl)) ?_; (refine (stack_Build.calls 2048 _ _ x10_2 _ _ ([] : List ByteArray) _ _ ([] : List (S48)) t115 t116 t117 _ ?side1 ?side2 ?side3 ?side4 ?side5 ?side6 A11.out).mono ?_); (case side1 => repeat (first | exact (Kd.R_reads' HO_10.out).2.2 | (with_reducible refine Kd.C_alloc ?_ _) | (with_reducible refine Kd.C_drewN ?_ _) | (with_reducible refine Kd.C_drew ?_))); (case side2 => exact (Kd.R_reads' HO_10.out).2.1); (case side3 => exact Kd.C_nil _ _); (case side4 => exact Nat.le_refl _); (case side5 => exact Kd.C_nil _ _); (case side6 => exact Nat.le_refl _); rintro e w21 ⟨rfl, hb⟩; refine ⟨_, rfl, ?_⟩; have n0_ := Aside0.mk (Kd.R_below (by (with_reducible repeat (first | apply Kd.R_alloc | apply Kd.R_drewN | apply Kd.R_drew)); exact HO_10.out) hb); have n1_ := Aside0.mk (below_step (by repeat (first | (with_reducible first | exact HB.out | apply below_alloc | apply pw_below_drewN | apply below_drew1) | exact HB.out)) hb); clear HO_10; clear HB; have HO_10 := n0_; have HB := n1_; clear n0_ n1_; (try clear hb); (try clear hb2); (try clear hk); (try clear hi)))
                          go_ret
                          exact ⟨by first | rfl | (simp [errW_none, errW_some] <;> rfl) | (simp [*, errW_none, errW_some] <;> rfl), by repeat (first | (with_reducible first | exact HB.out | apply below_alloc | apply pw_below_drewN | apply below_drew1) | exact HB.out)⟩
                      · rw [if_neg c16] at H
                        have c16b0 : (t117 == 0) = false := beq_eq_false_iff_ne.mpr c16
                        have c16b1 : (t117 != 0) = true := bne_iff_ne.mpr c16
                        obtain rfl := Option.some.inj H
                        obtain ⟨Ao22, co22, eo22⟩ := Kd.R_slice HO_10.out
                        subst eo22
                        go_wp2_with (first | ((with_reducible refine gate_callee (f := 12) rfl ?_); refine goesL_ (some 43) rfl rfl Try.func12 (by kernel_rfl) rfl #[.slice Ao22 x10_2.length co22, .slice none 0 0, .slice none 0 0] rfl (by (try simp only [List.map_toArray, List.map_cons, List.map_nil]); first | done | rfl | (simp only [List.length_drop, List.length_take]; rfl)) ?_; (refine (stack_Size.calls k2 _ _ x10_2 _ _ ([] : List ByteArray) _ _ ([] : List (S48)) t114 _ ?side1 ?side2 ?side3 ?side4 ?side5 ?side6 A10.out).mono ?_); (case side1 => repeat (first | exact (Kd.R_reads' HO_10.out).2.2 | (with_reducible refine Kd.C_alloc ?_ _) | (with_reducible refine Kd.C_drewN ?_ _) | (with_reducible refine Kd.C_drew ?_))); (case side2 => exact (Kd.R_reads' HO_10.out).2.1); (case side3 => exact Kd.C_nil _ _); (case side4 => exact Nat.le_refl _); (case side5 => exact Kd.C_nil _ _); (case side6 => exact Nat.le_refl _); rintro e w' ⟨rfl, ⟨nd, rfl⟩⟩; refine ⟨_, rfl, ?_⟩) | ((with_reducible refine gate_callee (f := 10) rfl ?_); refine goesL_ (some 52) rfl rfl Try.func10 (by kernel_rfl) rfl #[.int .i64 2048, .slice Ao22 x10_2.length co22, .slice none 0 0, .slice none 0 0] rfl (by (try simp only [List.map_toArray, List.map_cons, List.map_nil]); first | done | rfl | (simp only [List.length_drop, List.length_take]; rfl)) ?_; (refine (stack_Build.calls 2048 _ _ x10_2 _ _ ([] : List ByteArray) _ _ ([] : List (S48)) t115 t116 t117 _ ?side1 ?side2 ?side3 ?side4 ?side5 ?side6 A11.out).mono ?_); (case side1 => repeat (first | exact (Kd.R_reads' HO_10.out).2.2 | (with_reducible refine Kd.C_alloc ?_ _) | (with_reducible refine Kd.C_drewN ?_ _) | (with_reducible refine Kd.C_drew ?_))); (case side2 => exact (Kd.R_reads' HO_10.out).2.1); (case side3 => exact Kd.C_nil _ _); (case side4 => exact Nat.le_refl _); (case side5 => exact Kd.C_nil _ _); (case side6 => exact Nat.le_refl _); rintro e w23 ⟨rfl, hb⟩; refine ⟨_, rfl, ?_⟩; have n0_ := Aside0.mk (Kd.R_below (by (with_reducible repeat (first | apply Kd.R_alloc | apply Kd.R_drewN | apply Kd.R_drew)); exact HO_10.out) hb); have n1_ := Aside0.mk (below_step (by repeat (first | (with_reducible first | exact HB.out | apply below_alloc | apply pw_below_drewN | apply below_drew1) | exact HB.out)) hb); clear HO_10; clear HB; have HO_10 := n0_; have HB := n1_; clear n0_ n1_; (try clear hb); (try clear hb2); (try clear hk); (try clear hi)))
                        go_ret
                        exact ⟨by first | rfl | (simp [errW_none, errW_some] <;> rfl) | (simp [*, errW_none, errW_some] <;> rfl), by repeat (first | (with_reducible first | exact HB.out | apply below_alloc | apply pw_below_drewN | apply below_drew1) | exact HB.out)⟩
                    · rw [if_neg c15] at H
                      have c15b0 : decide (t114 < (wrap64 ((wrap64 (40 + (wrap64 ((Int.tmod (wrap64 ((Int.tmod a0 10) + 10)) 10) * (wrap64 ((wrap64 (8 + (Int.tmod (wrap64 ((Int.tmod a1 21) + 21)) 21))) + 1)))))) + 16))) = false := decide_eq_false c15
                      clear c15
                      obtain rfl := Option.some.inj H
                      obtain ⟨Ao24, co24, eo24⟩ := Kd.R_slice HO_10.out
                      subst eo24
                      go_wp2_with (first | ((with_reducible refine gate_callee (f := 12) rfl ?_); refine goesL_ (some 43) rfl rfl Try.func12 (by kernel_rfl) rfl #[.slice Ao24 x10_2.length co24, .slice none 0 0, .slice none 0 0] rfl (by (try simp only [List.map_toArray, List.map_cons, List.map_nil]); first | done | rfl | (simp only [List.length_drop, List.length_take]; rfl)) ?_; (refine (stack_Size.calls k2 _ _ x10_2 _ _ ([] : List ByteArray) _ _ ([] : List (S48)) t114 _ ?side1 ?side2 ?side3 ?side4 ?side5 ?side6 A10.out).mono ?_); (case side1 => repeat (first | exact (Kd.R_reads' HO_10.out).2.2 | (with_reducible refine Kd.C_alloc ?_ _) | (with_reducible refine Kd.C_drewN ?_ _) | (with_reducible refine Kd.C_drew ?_))); (case side2 => exact (Kd.R_reads' HO_10.out).2.1); (case side3 => exact Kd.C_nil _ _); (case side4 => exact Nat.le_refl _); (case side5 => exact Kd.C_nil _ _); (case side6 => exact Nat.le_refl _); rintro e w' ⟨rfl, ⟨nd, rfl⟩⟩; refine ⟨_, rfl, ?_⟩) | ((with_reducible refine gate_callee (f := 10) rfl ?_); refine goesL_ (some 52) rfl rfl Try.func10 (by kernel_rfl) rfl #[.int .i64 2048, .slice Ao24 x10_2.length co24, .slice none 0 0, .slice none 0 0] rfl (by (try simp only [List.map_toArray, List.map_cons, List.map_nil]); first | done | rfl | (simp only [List.length_drop, List.length_take]; rfl)) ?_; (refine (stack_Build.calls 2048 _ _ x10_2 _ _ ([] : List ByteArray) _ _ ([] : List (S48)) t115 t116 t117 _ ?side1 ?side2 ?side3 ?side4 ?side5 ?side6 A11.out).mono ?_); (case side1 => repeat (first | exact (Kd.R_reads' HO_10.out).2.2 | (with_reducible refine Kd.C_alloc ?_ _) | (with_reducible refine Kd.C_drewN ?_ _) | (with_reducible refine Kd.C_drew ?_))); (case side2 => exact (Kd.R_reads' HO_10.out).2.1); (case side3 => exact Kd.C_nil _ _); (case side4 => exact Nat.le_refl _); (case side5 => exact Kd.C_nil _ _); (case side6 => exact Nat.le_refl _); rintro e w25 ⟨rfl, hb⟩; refine ⟨_, rfl, ?_⟩; have n0_ := Aside0.mk (Kd.R_below (by (with_reducible repeat (first | apply Kd.R_alloc | apply Kd.R_drewN | apply Kd.R_drew)); exact HO_10.out) hb); have n1_ := Aside0.mk (below_step (by repeat (first | (with_reducible first | exact HB.out | apply below_alloc | apply pw_below_drewN | apply below_drew1) | exact HB.out)) hb); clear HO_10; clear HB; have HO_10 := n0_; have HB := n1_; clear n0_ n1_; (try clear hb); (try clear hb2); (try clear hk); (try clear hi)))
                      go_ret
                      exact ⟨by first | rfl | (simp [errW_none, errW_some] <;> rfl) | (simp [*, errW_none, errW_some] <;> rfl), by repeat (first | (with_reducible first | exact HB.out | apply below_alloc | apply pw_below_drewN | apply below_drew1) | exact HB.out)⟩
                  · rw [if_neg c14] at H
                    have c14b0 : decide ((wrap64 (40 + (wrap64 ((Int.tmod (wrap64 ((Int.tmod a0 10) + 10)) 10) * (wrap64 ((wrap64 (8 + (Int.tmod (wrap64 ((Int.tmod a1 21) + 21)) 21))) + 1)))))) ≤ t114) = false := decide_eq_false c14
                    clear c14
                    obtain rfl := Option.some.inj H
                    obtain ⟨Ao26, co26, eo26⟩ := Kd.R_slice HO_10.out
                    subst eo26
                    go_wp2_with (first | ((with_reducible refine gate_callee (f := 12) rfl ?_); refine goesL_ (some 43) rfl rfl Try.func12 (by kernel_rfl) rfl #[.slice Ao26 x10_2.length co26, .slice none 0 0, .slice none 0 0] rfl (by (try simp only [List.map_toArray, List.map_cons, List.map_nil]); first | done | rfl | (simp only [List.length_drop, List.length_take]; rfl)) ?_; (refine (stack_Size.calls k2 _ _ x10_2 _ _ ([] : List ByteArray) _ _ ([] : List (S48)) t114 _ ?side1 ?side2 ?side3 ?side4 ?side5 ?side6 A10.out).mono ?_); (case side1 => repeat (first | exact (Kd.R_reads' HO_10.out).2.2 | (with_reducible refine Kd.C_alloc ?_ _) | (with_reducible refine Kd.C_drewN ?_ _) | (with_reducible refine Kd.C_drew ?_))); (case side2 => exact (Kd.R_reads' HO_10.out).2.1); (case side3 => exact Kd.C_nil _ _); (case side4 => exact Nat.le_refl _); (case side5 => exact Kd.C_nil _ _); (case side6 => exact Nat.le_refl _); rintro e w' ⟨rfl, ⟨nd, rfl⟩⟩; refine ⟨_, rfl, ?_⟩) | ((with_reducible refine gate_callee (f := 10) rfl ?_); refine goesL_ (some 52) rfl rfl Try.func10 (by kernel_rfl) rfl #[.int .i64 2048, .slice Ao26 x10_2.length co26, .slice none 0 0, .slice none 0 0] rfl (by (try simp only [List.map_toArray, List.map_cons, List.map_nil]); first | done | rfl | (simp only [List.length_drop, List.length_take]; rfl)) ?_; (refine (stack_Build.calls 2048 _ _ x10_2 _ _ ([] : List ByteArray) _ _ ([] : List (S48)) t115 t116 t117 _ ?side1 ?side2 ?side3 ?side4 ?side5 ?side6 A11.out).mono ?_); (case side1 => repeat (first | exact (Kd.R_reads' HO_10.out).2.2 | (with_reducible refine Kd.C_alloc ?_ _) | (with_reducible refine Kd.C_drewN ?_ _) | (with_reducible refine Kd.C_drew ?_))); (case side2 => exact (Kd.R_reads' HO_10.out).2.1); (case side3 => exact Kd.C_nil _ _); (case side4 => exact Nat.le_refl _); (case side5 => exact Kd.C_nil _ _); (case side6 => exact Nat.le_refl _); rintro e w27 ⟨rfl, hb⟩; refine ⟨_, rfl, ?_⟩; have n0_ := Aside0.mk (Kd.R_below (by (with_reducible repeat (first | apply Kd.R_alloc | apply Kd.R_drewN | apply Kd.R_drew)); exact HO_10.out) hb); have n1_ := Aside0.mk (below_step (by repeat (first | (with_reducible first | exact HB.out | apply below_alloc | apply pw_below_drewN | apply below_drew1) | exact HB.out)) hb); clear HO_10; clear HB; have HO_10 := n0_; have HB := n1_; clear n0_ n1_; (try clear hb); (try clear hb2); (try clear hk); (try clear hi)))
                    go_ret
                    exact ⟨by first | rfl | (simp [errW_none, errW_some] <;> rfl) | (simp [*, errW_none, errW_some] <;> rfl), by repeat (first | (with_reducible first | exact HB.out | apply below_alloc | apply pw_below_drewN | apply below_drew1) | exact HB.out)⟩
                · rw [if_neg c13] at H
                  have c13b0 : ((Int.tmod t114 16) == 0) = false := beq_eq_false_iff_ne.mpr c13
                  have c13b1 : ((Int.tmod t114 16) != 0) = true := bne_iff_ne.mpr c13
                  obtain rfl := Option.some.inj H
                  obtain ⟨Ao28, co28, eo28⟩ := Kd.R_slice HO_10.out
                  subst eo28
                  go_wp2_with (first | ((with_reducible refine gate_callee (f := 12) rfl ?_); refine goesL_ (some 43) rfl rfl Try.func12 (by kernel_rfl) rfl #[.slice Ao28 x10_2.length co28, .slice none 0 0, .slice none 0 0] rfl (by (try simp only [List.map_toArray, List.map_cons, List.map_nil]); first | done | rfl | (simp only [List.length_drop, List.length_take]; rfl)) ?_; (refine (stack_Size.calls k2 _ _ x10_2 _ _ ([] : List ByteArray) _ _ ([] : List (S48)) t114 _ ?side1 ?side2 ?side3 ?side4 ?side5 ?side6 A10.out).mono ?_); (case side1 => repeat (first | exact (Kd.R_reads' HO_10.out).2.2 | (with_reducible refine Kd.C_alloc ?_ _) | (with_reducible refine Kd.C_drewN ?_ _) | (with_reducible refine Kd.C_drew ?_))); (case side2 => exact (Kd.R_reads' HO_10.out).2.1); (case side3 => exact Kd.C_nil _ _); (case side4 => exact Nat.le_refl _); (case side5 => exact Kd.C_nil _ _); (case side6 => exact Nat.le_refl _); rintro e w' ⟨rfl, ⟨nd, rfl⟩⟩; refine ⟨_, rfl, ?_⟩) | ((with_reducible refine gate_callee (f := 10) rfl ?_); refine goesL_ (some 52) rfl rfl Try.func10 (by kernel_rfl) rfl #[.int .i64 2048, .slice Ao28 x10_2.length co28, .slice none 0 0, .slice none 0 0] rfl (by (try simp only [List.map_toArray, List.map_cons, List.map_nil]); first | done | rfl | (simp only [List.length_drop, List.length_take]; rfl)) ?_; (refine (stack_Build.calls 2048 _ _ x10_2 _ _ ([] : List ByteArray) _ _ ([] : List (S48)) t115 t116 t117 _ ?side1 ?side2 ?side3 ?side4 ?side5 ?side6 A11.out).mono ?_); (case side1 => repeat (first | exact (Kd.R_reads' HO_10.out).2.2 | (with_reducible refine Kd.C_alloc ?_ _) | (with_reducible refine Kd.C_drewN ?_ _) | (with_reducible refine Kd.C_drew ?_))); (case side2 => exact (Kd.R_reads' HO_10.out).2.1); (case side3 => exact Kd.C_nil _ _); (case side4 => exact Nat.le_refl _); (case side5 => exact Kd.C_nil _ _); (case side6 => exact Nat.le_refl _); rintro e w29 ⟨rfl, hb⟩; refine ⟨_, rfl, ?_⟩; have n0_ := Aside0.mk (Kd.R_below (by (with_reducible repeat (first | apply Kd.R_alloc | apply Kd.R_drewN | apply Kd.R_drew)); exact HO_10.out) hb); have n1_ := Aside0.mk (below_step (by repeat (first | (with_reducible first | exact HB.out | apply below_alloc | apply pw_below_drewN | apply below_drew1) | exact HB.out)) hb); clear HO_10; clear HB; have HO_10 := n0_; have HB := n1_; clear n0_ n1_; (try clear hb); (try clear hb2); (try clear hk); (try clear hi)))
                  go_ret
                  exact ⟨by first | rfl | (simp [errW_none, errW_some] <;> rfl) | (simp [*, errW_none, errW_some] <;> rfl), by repeat (first | (with_reducible first | exact HB.out | apply below_alloc | apply pw_below_drewN | apply below_drew1) | exact HB.out)⟩
              · replace c12 := Bool.eq_false_iff.mpr c12
                subst c12
                have H1 : (some false) = some r := by rw [if_neg (show ¬ (false = true) by decide)] at H; exact H
                clear H
                have H := H1
                clear H1
                obtain rfl := Option.some.inj H
                obtain ⟨Ao30, co30, eo30⟩ := Kd.R_slice HO_10.out
                subst eo30
                go_wp2_with (first | ((with_reducible refine gate_callee (f := 12) rfl ?_); refine goesL_ (some 43) rfl rfl Try.func12 (by kernel_rfl) rfl #[.slice Ao30 x10_2.length co30, .slice none 0 0, .slice none 0 0] rfl (by (try simp only [List.map_toArray, List.map_cons, List.map_nil]); first | done | rfl | (simp only [List.length_drop, List.length_take]; rfl)) ?_; (refine (stack_Size.calls k2 _ _ x10_2 _ _ ([] : List ByteArray) _ _ ([] : List (S48)) t114 _ ?side1 ?side2 ?side3 ?side4 ?side5 ?side6 A10.out).mono ?_); (case side1 => repeat (first | exact (Kd.R_reads' HO_10.out).2.2 | (with_reducible refine Kd.C_alloc ?_ _) | (with_reducible refine Kd.C_drewN ?_ _) | (with_reducible refine Kd.C_drew ?_))); (case side2 => exact (Kd.R_reads' HO_10.out).2.1); (case side3 => exact Kd.C_nil _ _); (case side4 => exact Nat.le_refl _); (case side5 => exact Kd.C_nil _ _); (case side6 => exact Nat.le_refl _); rintro e w' ⟨rfl, ⟨nd, rfl⟩⟩; refine ⟨_, rfl, ?_⟩) | ((with_reducible refine gate_callee (f := 10) rfl ?_); refine goesL_ (some 52) rfl rfl Try.func10 (by kernel_rfl) rfl #[.int .i64 2048, .slice Ao30 x10_2.length co30, .slice none 0 0, .slice none 0 0] rfl (by (try simp only [List.map_toArray, List.map_cons, List.map_nil]); first | done | rfl | (simp only [List.length_drop, List.length_take]; rfl)) ?_; (refine (stack_Build.calls 2048 _ _ x10_2 _ _ ([] : List ByteArray) _ _ ([] : List (S48)) t115 t116 t117 _ ?side1 ?side2 ?side3 ?side4 ?side5 ?side6 A11.out).mono ?_); (case side1 => repeat (first | exact (Kd.R_reads' HO_10.out).2.2 | (with_reducible refine Kd.C_alloc ?_ _) | (with_reducible refine Kd.C_drewN ?_ _) | (with_reducible refine Kd.C_drew ?_))); (case side2 => exact (Kd.R_reads' HO_10.out).2.1); (case side3 => exact Kd.C_nil _ _); (case side4 => exact Nat.le_refl _); (case side5 => exact Kd.C_nil _ _); (case side6 => exact Nat.le_refl _); rintro e w31 ⟨rfl, hb⟩; refine ⟨_, rfl, ?_⟩; have n0_ := Aside0.mk (Kd.R_below (by (with_reducible repeat (first | apply Kd.R_alloc | apply Kd.R_drewN | apply Kd.R_drew)); exact HO_10.out) hb); have n1_ := Aside0.mk (below_step (by repeat (first | (with_reducible first | exact HB.out | apply below_alloc | apply pw_below_drewN | apply below_drew1) | exact HB.out)) hb); clear HO_10; clear HB; have HO_10 := n0_; have HB := n1_; clear n0_ n1_; (try clear hb); (try clear hb2); (try clear hk); (try clear hi)))
                go_ret
                exact ⟨by first | rfl | (simp [errW_none, errW_some] <;> rfl) | (simp [*, errW_none, errW_some] <;> rfl), by repeat (first | (with_reducible first | exact HB.out | apply below_alloc | apply pw_below_drewN | apply below_drew1) | exact HB.out)⟩

/-- THE ONE PURE STATEMENT of flyleaflaw17_StackSizes: yours. -/
def flyleaflaw17_StackSizes.Pure : Prop := ∀ (a0 : Int) (a1 : Int), (Lit.int .i64 a0).wf = true → (Lit.int .i64 a1).wf = true → ∃ k, flyleaflaw17_StackSizes.f k a0 a1 = some true
theorem flyleaflaw17_StackSizes.walk (P : flyleaflaw17_StackSizes.Pure) (a0 : Int) (a1 : Int) (w : World) (w0 : (Lit.int .i64 a0).wf = true) (w1 : (Lit.int .i64 a1).wf = true) :
    Calls Try.prog 4 #[.int .i64 a0, .int .i64 a1] w fun e w' => e = .returned (.bool true) ∧ Below w.heap.size w w' := by
  obtain ⟨k, h⟩ := P a0 a1 w0 w1
  refine (flyleaflaw17_StackSizes.calls k a0 a1 true w h).mono ?_
  rintro e w' ⟨rfl, hd⟩
  exact ⟨rfl, hd⟩

end Go.Proofs.Ytokilodeihocjaa.A
