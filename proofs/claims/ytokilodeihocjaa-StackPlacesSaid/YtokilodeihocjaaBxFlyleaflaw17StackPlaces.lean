-- Laid by pr.py, a program of this session, out of the translation. Not trusted: Lean checks it.
import Derived.Test.YtokilodeihocjaaBx0
import Derived.Test.YtokilodeihocjaaBxFlyleaflaw17Awake
import Derived.Test.YtokilodeihocjaaAxFlyleafref01Get
import Derived.Test.YtokilodeihocjaaAxFlyleafref01Text
import Derived.Test.YtokilodeihocjaaBuild
namespace Go.Proofs.Ytokilodeihocjaa.A
open Go.RowKit Go.Proofs.Ytokilodeihocjaa.H Go.Proofs.YtokilodeihocjaaW.PrintWords Go.Proofs.YtokilodeihocjaaW.PrintLast Go.Proofs.YtokilodeihocjaaW.PrintMore
attribute [local go_sem] max2_int min2_int max_two min_two max_three min_three max_four min_four   -- for this text's walks alone
set_option linter.unusedVariables false
set_option linter.unusedSimpArgs false

/-! ### flyleaflaw17_StackPlaces: function 6 -/
mutual
def flyleaflaw17_StackPlaces.l0 : Nat → List Int → Bool → Int → List ByteArray → Int → Option (Bool)
  | 0, _, _, _, _, _ => none
  | k + 1, x1, x5, x6, x7, x8 => if x8 < (x1.length : Int) then (flyleaflaw17_StackPlaces.j1 k x1 x5 x6 x7 x8 (decide (x8 < 8))) else (flyleaflaw17_StackPlaces.j1 k x1 x5 x6 x7 x8 false)
def flyleaflaw17_StackPlaces.j1 : Nat → List Int → Bool → Int → List ByteArray → Int → Bool → Option (Bool)
  | 0, _, _, _, _, _, _ => none
  | k + 1, x1, x5, x6, x7, x8, x34 => if x34 = true then (flyleaflaw17_StackPlaces.l1 k x1 x5 x6 x7 x8 (⟨#[]⟩ : ByteArray) 0) else ((stack_Build.f x6 x7 ([] : List ByteArray) ([] : List (S48))).bind fun bt147 => (if bt147.2.2 = 0 then (flyleaflaw17_StackPlaces.j3 k x5 x6 x7 bt147.1 bt147.2.1 ((bt147.2.1.size : Int) != (wrap64 (x6 - bt147.1)))) else (flyleaflaw17_StackPlaces.j3 k x5 x6 x7 bt147.1 bt147.2.1 true)))
def flyleaflaw17_StackPlaces.l1 : Nat → List Int → Bool → Int → List ByteArray → Int → ByteArray → Int → Option (Bool)
  | 0, _, _, _, _, _, _, _ => none
  | k + 1, x1, x5, x6, x7, x8, x9, x10 => if 0 ≤ x8 then (if x8 < (x1.length : Int) then (if x10 < (Int.tmod (wrap64 ((Int.tmod (rd x1 x8) 20) + 20)) 20) then ((some (([(wrap64 (97 + x8)) % 256] : List Int) : List Int)).bind fun y141 => (if x9.size + (strOfNums y141).size ≤ 9223372036854775807 then (flyleaflaw17_StackPlaces.l1 k x1 x5 x6 x7 x8 (x9 ++ (strOfNums y141)) (wrap64 (x10 + 1))) else (none))) else (if x7.length < 8796093022208 then (flyleaflaw17_StackPlaces.l0 k x1 x5 x6 (x7 ++ [x9]) (wrap64 (x8 + 1))) else (none))) else (none)) else (none)
def flyleaflaw17_StackPlaces.j3 : Nat → Bool → Int → List ByteArray → Int → ByteArray → Bool → Option (Bool)
  | 0, _, _, _, _, _, _ => none
  | k + 1, x5, x6, x7, x11, x12, x75 => if x75 = true then (some false) else (flyleaflaw17_StackPlaces.l2 k x5 x7 x11 x12 x6 (wrap64 ((x7.length : Int) - 1)))
def flyleaflaw17_StackPlaces.l2 : Nat → Bool → List ByteArray → Int → ByteArray → Int → Int → Option (Bool)
  | 0, _, _, _, _, _, _ => none
  | k + 1, x5, x7, x11, x12, x14, x15 => if x15 ≥ 0 then (if 0 ≤ x15 then (if x15 < (x7.length : Int) then ((flyleafref01_Get.f k x12 (wrap64 (8 * (wrap64 (x15 + 1)))) 8).bind fun bt153 => (if bt153.2 = true then (flyleaflaw17_StackPlaces.j5 k x5 x7 x11 x12 (wrap64 ((wrap64 (x14 - ((rdOf ByteArray.empty x7 x15).size : Int))) - 1)) x15 ((wrap64 (bt153.1)) != (wrap64 ((wrap64 (x14 - ((rdOf ByteArray.empty x7 x15).size : Int))) - 1)))) else (flyleaflaw17_StackPlaces.j5 k x5 x7 x11 x12 (wrap64 ((wrap64 (x14 - ((rdOf ByteArray.empty x7 x15).size : Int))) - 1)) x15 true))) else (none)) else (none)) else ((flyleafref01_Get.f k x12 0 8).bind fun bt150 => (if x5 = true then (some ((wrap64 (bt150.1)) == (x7.length : Int))) else (some false)))
def flyleaflaw17_StackPlaces.j5 : Nat → Bool → List ByteArray → Int → ByteArray → Int → Int → Bool → Option (Bool)
  | 0, _, _, _, _, _, _, _ => none
  | k + 1, x5, x7, x11, x12, x14, x15, x107 => if x107 = true then (some false) else ((flyleafref01_Text.f k x12 (wrap64 (x14 - x11)) 1024).bind fun bt155 => (if bt155.2 = true then (if 0 ≤ x15 then (if x15 < (x7.length : Int) then (if bt155.1.toList = (rdOf ByteArray.empty x7 x15).toList then (flyleaflaw17_StackPlaces.l2 k x5 x7 x11 x12 x14 (wrap64 (x15 - 1))) else (some false)) else (none)) else (none)) else (some false)))
end
def flyleaflaw17_StackPlaces.f (k : Nat) (a0 : Int) (l1 : List Int) : Option (Bool) := (flyleaflaw17_awake.f).bind fun t139 => (flyleaflaw17_StackPlaces.l0 k l1 t139 (wrap64 (2048 + (wrap64 (16 * (Go.bits .and .i64 a0 63))))) ([] : List ByteArray) 0)
theorem flyleaflaw17_StackPlaces.mono_l : ∀ k, (∀ y0 y1 y2 y3 y4, LeO (flyleaflaw17_StackPlaces.l0 k y0 y1 y2 y3 y4) (flyleaflaw17_StackPlaces.l0 (k + 1) y0 y1 y2 y3 y4)) ∧ (∀ y0 y1 y2 y3 y4 y5, LeO (flyleaflaw17_StackPlaces.j1 k y0 y1 y2 y3 y4 y5) (flyleaflaw17_StackPlaces.j1 (k + 1) y0 y1 y2 y3 y4 y5)) ∧ (∀ y0 y1 y2 y3 y4 y5 y6, LeO (flyleaflaw17_StackPlaces.l1 k y0 y1 y2 y3 y4 y5 y6) (flyleaflaw17_StackPlaces.l1 (k + 1) y0 y1 y2 y3 y4 y5 y6)) ∧ (∀ y0 y1 y2 y3 y4 y5, LeO (flyleaflaw17_StackPlaces.j3 k y0 y1 y2 y3 y4 y5) (flyleaflaw17_StackPlaces.j3 (k + 1) y0 y1 y2 y3 y4 y5)) ∧ (∀ y0 y1 y2 y3 y4 y5, LeO (flyleaflaw17_StackPlaces.l2 k y0 y1 y2 y3 y4 y5) (flyleaflaw17_StackPlaces.l2 (k + 1) y0 y1 y2 y3 y4 y5)) ∧ (∀ y0 y1 y2 y3 y4 y5 y6, LeO (flyleaflaw17_StackPlaces.j5 k y0 y1 y2 y3 y4 y5 y6) (flyleaflaw17_StackPlaces.j5 (k + 1) y0 y1 y2 y3 y4 y5 y6))
  | 0 => ⟨fun _ _ _ _ _ r h => by simp [flyleaflaw17_StackPlaces.l0] at h, fun _ _ _ _ _ _ r h => by simp [flyleaflaw17_StackPlaces.j1] at h, fun _ _ _ _ _ _ _ r h => by simp [flyleaflaw17_StackPlaces.l1] at h, fun _ _ _ _ _ _ r h => by simp [flyleaflaw17_StackPlaces.j3] at h, fun _ _ _ _ _ _ r h => by simp [flyleaflaw17_StackPlaces.l2] at h, fun _ _ _ _ _ _ _ r h => by simp [flyleaflaw17_StackPlaces.j5] at h⟩
  | k + 1 => by
    obtain ⟨ih0, ih1, ih2, ih3, ih4, ih5⟩ := flyleaflaw17_StackPlaces.mono_l k
    refine ⟨?_, ?_, ?_, ?_, ?_, ?_⟩
    · intro y0 y1 y2 y3 y4
      unfold flyleaflaw17_StackPlaces.l0
      repeat' first
      | (with_reducible exact ih0 _ _ _ _ _)
      | (with_reducible exact ih1 _ _ _ _ _ _)
      | (with_reducible exact ih2 _ _ _ _ _ _ _)
      | (with_reducible exact ih3 _ _ _ _ _ _)
      | (with_reducible exact ih4 _ _ _ _ _ _)
      | (with_reducible exact ih5 _ _ _ _ _ _ _)
      | (with_reducible exact flyleafref01_Get.mono _ _ _ _)
      | (with_reducible exact flyleafref01_Text.mono _ _ _ _)
      | (with_reducible exact LeO.refl _)
      | (with_reducible exact LeO.none _)
      | (with_reducible refine LeO.ite ?_ ?_)
      | (with_reducible refine LeO.bind ?_ (fun _ => ?_))
      | exact ih0 _ _ _ _ _
      | exact ih1 _ _ _ _ _ _
      | exact ih2 _ _ _ _ _ _ _
      | exact ih3 _ _ _ _ _ _
      | exact ih4 _ _ _ _ _ _
      | exact ih5 _ _ _ _ _ _ _
      | exact flyleafref01_Get.mono _ _ _ _
      | exact flyleafref01_Text.mono _ _ _ _
      | exact LeO.none _
      | refine LeO.ite ?_ ?_
      | refine LeO.bind ?_ (fun _ => ?_)
    · intro y0 y1 y2 y3 y4 y5
      unfold flyleaflaw17_StackPlaces.j1
      repeat' first
      | (with_reducible exact ih0 _ _ _ _ _)
      | (with_reducible exact ih1 _ _ _ _ _ _)
      | (with_reducible exact ih2 _ _ _ _ _ _ _)
      | (with_reducible exact ih3 _ _ _ _ _ _)
      | (with_reducible exact ih4 _ _ _ _ _ _)
      | (with_reducible exact ih5 _ _ _ _ _ _ _)
      | (with_reducible exact flyleafref01_Get.mono _ _ _ _)
      | (with_reducible exact flyleafref01_Text.mono _ _ _ _)
      | (with_reducible exact LeO.refl _)
      | (with_reducible exact LeO.none _)
      | (with_reducible refine LeO.ite ?_ ?_)
      | (with_reducible refine LeO.bind ?_ (fun _ => ?_))
      | exact ih0 _ _ _ _ _
      | exact ih1 _ _ _ _ _ _
      | exact ih2 _ _ _ _ _ _ _
      | exact ih3 _ _ _ _ _ _
      | exact ih4 _ _ _ _ _ _
      | exact ih5 _ _ _ _ _ _ _
      | exact flyleafref01_Get.mono _ _ _ _
      | exact flyleafref01_Text.mono _ _ _ _
      | exact LeO.none _
      | refine LeO.ite ?_ ?_
      | refine LeO.bind ?_ (fun _ => ?_)
    · intro y0 y1 y2 y3 y4 y5 y6
      unfold flyleaflaw17_StackPlaces.l1
      repeat' first
      | (with_reducible exact ih0 _ _ _ _ _)
      | (with_reducible exact ih1 _ _ _ _ _ _)
      | (with_reducible exact ih2 _ _ _ _ _ _ _)
      | (with_reducible exact ih3 _ _ _ _ _ _)
      | (with_reducible exact ih4 _ _ _ _ _ _)
      | (with_reducible exact ih5 _ _ _ _ _ _ _)
      | (with_reducible exact flyleafref01_Get.mono _ _ _ _)
      | (with_reducible exact flyleafref01_Text.mono _ _ _ _)
      | (with_reducible exact LeO.refl _)
      | (with_reducible exact LeO.none _)
      | (with_reducible refine LeO.ite ?_ ?_)
      | (with_reducible refine LeO.bind ?_ (fun _ => ?_))
      | exact ih0 _ _ _ _ _
      | exact ih1 _ _ _ _ _ _
      | exact ih2 _ _ _ _ _ _ _
      | exact ih3 _ _ _ _ _ _
      | exact ih4 _ _ _ _ _ _
      | exact ih5 _ _ _ _ _ _ _
      | exact flyleafref01_Get.mono _ _ _ _
      | exact flyleafref01_Text.mono _ _ _ _
      | exact LeO.none _
      | refine LeO.ite ?_ ?_
      | refine LeO.bind ?_ (fun _ => ?_)
    · intro y0 y1 y2 y3 y4 y5
      unfold flyleaflaw17_StackPlaces.j3
      repeat' first
      | (with_reducible exact ih0 _ _ _ _ _)
      | (with_reducible exact ih1 _ _ _ _ _ _)
      | (with_reducible exact ih2 _ _ _ _ _ _ _)
      | (with_reducible exact ih3 _ _ _ _ _ _)
      | (with_reducible exact ih4 _ _ _ _ _ _)
      | (with_reducible exact ih5 _ _ _ _ _ _ _)
      | (with_reducible exact flyleafref01_Get.mono _ _ _ _)
      | (with_reducible exact flyleafref01_Text.mono _ _ _ _)
      | (with_reducible exact LeO.refl _)
      | (with_reducible exact LeO.none _)
      | (with_reducible refine LeO.ite ?_ ?_)
      | (with_reducible refine LeO.bind ?_ (fun _ => ?_))
      | exact ih0 _ _ _ _ _
      | exact ih1 _ _ _ _ _ _
      | exact ih2 _ _ _ _ _ _ _
      | exact ih3 _ _ _ _ _ _
      | exact ih4 _ _ _ _ _ _
      | exact ih5 _ _ _ _ _ _ _
      | exact flyleafref01_Get.mono _ _ _ _
      | exact flyleafref01_Text.mono _ _ _ _
      | exact LeO.none _
      | refine LeO.ite ?_ ?_
      | refine LeO.bind ?_ (fun _ => ?_)
    · intro y0 y1 y2 y3 y4 y5
      unfold flyleaflaw17_StackPlaces.l2
      repeat' first
      | (with_reducible exact ih0 _ _ _ _ _)
      | (with_reducible exact ih1 _ _ _ _ _ _)
      | (with_reducible exact ih2 _ _ _ _ _ _ _)
      | (with_reducible exact ih3 _ _ _ _ _ _)
      | (with_reducible exact ih4 _ _ _ _ _ _)
      | (with_reducible exact ih5 _ _ _ _ _ _ _)
      | (with_reducible exact flyleafref01_Get.mono _ _ _ _)
      | (with_reducible exact flyleafref01_Text.mono _ _ _ _)
      | (with_reducible exact LeO.refl _)
      | (with_reducible exact LeO.none _)
      | (with_reducible refine LeO.ite ?_ ?_)
      | (with_reducible refine LeO.bind ?_ (fun _ => ?_))
      | exact ih0 _ _ _ _ _
      | exact ih1 _ _ _ _ _ _
      | exact ih2 _ _ _ _ _ _ _
      | exact ih3 _ _ _ _ _ _
      | exact ih4 _ _ _ _ _ _
      | exact ih5 _ _ _ _ _ _ _
      | exact flyleafref01_Get.mono _ _ _ _
      | exact flyleafref01_Text.mono _ _ _ _
      | exact LeO.none _
      | refine LeO.ite ?_ ?_
      | refine LeO.bind ?_ (fun _ => ?_)
    · intro y0 y1 y2 y3 y4 y5 y6
      unfold flyleaflaw17_StackPlaces.j5
      repeat' first
      | (with_reducible exact ih0 _ _ _ _ _)
      | (with_reducible exact ih1 _ _ _ _ _ _)
      | (with_reducible exact ih2 _ _ _ _ _ _ _)
      | (with_reducible exact ih3 _ _ _ _ _ _)
      | (with_reducible exact ih4 _ _ _ _ _ _)
      | (with_reducible exact ih5 _ _ _ _ _ _ _)
      | (with_reducible exact flyleafref01_Get.mono _ _ _ _)
      | (with_reducible exact flyleafref01_Text.mono _ _ _ _)
      | (with_reducible exact LeO.refl _)
      | (with_reducible exact LeO.none _)
      | (with_reducible refine LeO.ite ?_ ?_)
      | (with_reducible refine LeO.bind ?_ (fun _ => ?_))
      | exact ih0 _ _ _ _ _
      | exact ih1 _ _ _ _ _ _
      | exact ih2 _ _ _ _ _ _ _
      | exact ih3 _ _ _ _ _ _
      | exact ih4 _ _ _ _ _ _
      | exact ih5 _ _ _ _ _ _ _
      | exact flyleafref01_Get.mono _ _ _ _
      | exact flyleafref01_Text.mono _ _ _ _
      | exact LeO.none _
      | refine LeO.ite ?_ ?_
      | refine LeO.bind ?_ (fun _ => ?_)
theorem flyleaflaw17_StackPlaces.mono : ∀ a0 a1 k, LeO (flyleaflaw17_StackPlaces.f k a0 a1) (flyleaflaw17_StackPlaces.f (k + 1) a0 a1) := by
  intro a0 a1 k
  obtain ⟨ih0, ih1, ih2, ih3, ih4, ih5⟩ := flyleaflaw17_StackPlaces.mono_l k
  unfold flyleaflaw17_StackPlaces.f
  repeat' first
      | (with_reducible exact ih0 _ _ _ _ _)
      | (with_reducible exact ih1 _ _ _ _ _ _)
      | (with_reducible exact ih2 _ _ _ _ _ _ _)
      | (with_reducible exact ih3 _ _ _ _ _ _)
      | (with_reducible exact ih4 _ _ _ _ _ _)
      | (with_reducible exact ih5 _ _ _ _ _ _ _)
      | (with_reducible exact flyleafref01_Get.mono _ _ _ _)
      | (with_reducible exact flyleafref01_Text.mono _ _ _ _)
      | (with_reducible exact LeO.refl _)
      | (with_reducible exact LeO.none _)
      | (with_reducible refine LeO.ite ?_ ?_)
      | (with_reducible refine LeO.bind ?_ (fun _ => ?_))
      | exact ih0 _ _ _ _ _
      | exact ih1 _ _ _ _ _ _
      | exact ih2 _ _ _ _ _ _ _
      | exact ih3 _ _ _ _ _ _
      | exact ih4 _ _ _ _ _ _
      | exact ih5 _ _ _ _ _ _ _
      | exact flyleafref01_Get.mono _ _ _ _
      | exact flyleafref01_Text.mono _ _ _ _
      | exact LeO.none _
      | refine LeO.ite ?_ ?_
      | refine LeO.bind ?_ (fun _ => ?_)
set_option maxHeartbeats 8000000 in
set_option maxRecDepth 100000 in
theorem flyleaflaw17_StackPlaces.calls (k : Nat) (a0 : Int) (A1 : Option Addr) (c1 : Nat) (l1 : List Int) (r : Bool) (w : World) (hr1 : Kd.C (Kd.int .i64) w A1 l1.length l1) (hc1 : l1.length ≤ c1) (h : flyleaflaw17_StackPlaces.f k a0 l1 = some r) :
    Calls Try.prog 6 #[.int .i64 a0, .slice A1 l1.length c1] w fun e w' => e = .returned (.bool r) ∧ Below w.heap.size w w' := by
  have HR1 := Aside0.mk hr1
  have HC1 := Aside0.mk hc1
  clear hr1 hc1
  have HB := Aside0.mk (Below.refl w.heap.size w)
  have H : ((flyleaflaw17_awake.f).bind fun t139 => (flyleaflaw17_StackPlaces.l0 k l1 t139 (wrap64 (2048 + (wrap64 (16 * (Go.bits .and .i64 a0 63))))) ([] : List ByteArray) 0)) = some r := h
  clear h
  replace H := Option.bind_eq_some_iff.mp H
  obtain ⟨t139, A30, H⟩ := H
  replace H : (flyleaflaw17_StackPlaces.l0 k l1 t139 (wrap64 (2048 + (wrap64 (16 * (Go.bits .and .i64 a0 63))))) ([] : List ByteArray) 0) = some r := H
  have A3 := Aside0.mk A30
  clear A30
  have H' := Aside0.mk H
  clear H
  go_enter Try.func6, Try.ntmps6
  go_wp2_with (first | ((with_reducible refine gate_callee (f := 8) rfl ?_); refine goesL_ (some 22) rfl rfl Try.func8 (by kernel_rfl) rfl #[] rfl (by (try simp only [List.map_toArray, List.map_cons, List.map_nil]); first | done | rfl | (simp only [List.length_drop, List.length_take]; rfl)) ?_; (with_reducible refine (flyleaflaw17_awake.calls  t139 _ A3.out).mono ?_); rintro e w4 ⟨rfl, hb⟩; refine ⟨_, rfl, ?_⟩; have n0_ := Aside0.mk (below_step (by repeat (first | (with_reducible first | exact HB.out | apply below_alloc | apply pw_below_drewN | apply below_drew1) | exact HB.out)) hb); clear HB; have HB := n0_; clear n0_; (try clear hb); (try clear hb2); (try clear hk); (try clear hi)))
  go_loopg [7, 8] k (fun kq v7 v8 w' => ∃ (x7_1 : List ByteArray) (x8_1 : Int), v8 = .int .i64 x8_1 ∧ Aside0 (flyleaflaw17_StackPlaces.l0 kq l1 t139 (wrap64 (2048 + (wrap64 (16 * (Go.bits .and .i64 a0 63))))) x7_1 x8_1 = some r) ∧ Aside0 (kq ≤ k) ∧ Aside0 (Kd.R Kd.string 9 w' w.heap.size (fun _ => True) v7 x7_1) ∧ Aside0 (Below w.heap.size w w'))
  case atStart => exact ⟨(([] : List ByteArray)), (0), (by first | rfl | (simp; done) | (simp [*]; done)), H', ⟨Nat.le_refl _⟩, ⟨by first | exact Kd.R_nil _ _ _ _ _ | exact Kd.N_nil _ _ _ _ _ | exact Kd.V_nil _ _ _ _ _ | exact Kd.Q_nil _ _ _ _ _ | exact Kd.S_nil _ _ _ _ _⟩, ⟨by repeat (first | (with_reducible first | exact HB.out | apply below_alloc | apply pw_below_drewN | apply below_drew1) | exact HB.out)⟩⟩
  case round =>
    clear H'
    try clear c1
    try clear p2
    obtain ⟨x7_1, x8_1, rfl, HA, HK1, HO_7, HB⟩ := hrel
    cases gk with
    | zero => exact absurd HA.out (by simp [flyleaflaw17_StackPlaces.l0])
    | succ k1 =>
      have H := HA.out
      clear HA
      simp only [flyleaflaw17_StackPlaces.l0] at H
      have HC5 := Aside0.mk H
      clear H
      go_upto_region 5 with (fail)
      go_cut [34] (fun v34 wc => ∃ (kq : Nat) (x34_4 : Bool), v34 = .bool x34_4 ∧ Aside0 (flyleaflaw17_StackPlaces.j1 kq l1 t139 (wrap64 (2048 + (wrap64 (16 * (Go.bits .and .i64 a0 63))))) x7_1 x8_1 x34_4 = some r) ∧ Aside0 (kq ≤ k1) ∧ Aside0 (Kd.R Kd.string 9 wc w.heap.size (fun _ => True) u7 x7_1) ∧ Aside0 (Below w.heap.size w wc))
      case first =>
        have H := HC5.out
        clear HC5
        by_cases c6 : x8_1 < (l1.length : Int)
        · rw [if_pos c6] at H
          have c6b0 : decide (x8_1 < (l1.length : Int)) = true := decide_eq_true c6
          clear c6
          (first | rw [c6b0] | (simp only [i64_w, i32_w]; rw [c6b0]) | skip)
          have H' := Aside0.mk H
          clear H
          go_wp2
          go_meet
          case rel => exact ⟨_, (decide (x8_1 < 8)), (by first | rfl | (simp; done) | (simp [*]; done)), H', ⟨by have := HK1.out; first | omega | exact Nat.le_refl _⟩, ⟨by (with_reducible repeat (first | apply Kd.R_alloc | apply Kd.R_drewN | apply Kd.R_drew)); exact HO_7.out⟩, ⟨by repeat (first | (with_reducible first | exact HB.out | apply below_alloc | apply pw_below_drewN | apply below_drew1) | exact HB.out)⟩⟩
        · rw [if_neg c6] at H
          have c6b0 : decide (x8_1 < (l1.length : Int)) = false := decide_eq_false c6
          clear c6
          (first | rw [c6b0] | (simp only [i64_w, i32_w]; rw [c6b0]) | skip)
          have H' := Aside0.mk H
          clear H
          go_wp2
          go_meet
          case rel => exact ⟨_, (false), (by first | rfl | (simp; done) | (simp [*]; done)), H', ⟨by have := HK1.out; first | omega | exact Nat.le_refl _⟩, ⟨by (with_reducible repeat (first | apply Kd.R_alloc | apply Kd.R_drewN | apply Kd.R_drew)); exact HO_7.out⟩, ⟨by repeat (first | (with_reducible first | exact HB.out | apply below_alloc | apply pw_below_drewN | apply below_drew1) | exact HB.out)⟩⟩
      case rest =>
        clear HC5
        try clear c1
        try clear p2
        try clear c6
        try clear c6b0
        try clear p6
        try clear p2
        obtain ⟨kq, x34_4, rfl, HA, HJ4, HO_7, HB⟩ := hcut
        cases kq with
        | zero => exact absurd HA.out (by simp [flyleaflaw17_StackPlaces.j1])
        | succ kj4 =>
          have H := HA.out
          clear HA
          simp only [flyleaflaw17_StackPlaces.j1] at H
          by_cases c7 : x34_4 = true
          · subst c7
            have H1 : (flyleaflaw17_StackPlaces.l1 kj4 l1 t139 (wrap64 (2048 + (wrap64 (16 * (Go.bits .and .i64 a0 63))))) x7_1 x8_1 (⟨#[]⟩ : ByteArray) 0) = some r := by rw [if_pos rfl] at H; exact H
            clear H
            have H := H1
            clear H1
            have H' := Aside0.mk H
            clear H
            go_wp2
            go_loopg [9, 10] kj4 (fun kq v9 v10 w' => ∃ (x9_3 : ByteArray) (x10_3 : Int), v9 = .string x9_3 ∧ v10 = .int .i64 x10_3 ∧ Aside0 (flyleaflaw17_StackPlaces.l1 kq l1 t139 (wrap64 (2048 + (wrap64 (16 * (Go.bits .and .i64 a0 63))))) x7_1 x8_1 x9_3 x10_3 = some r) ∧ Aside0 (kq ≤ kj4) ∧ Aside0 (Kd.R Kd.string 9 w' w.heap.size (fun _ => True) u7 x7_1) ∧ Aside0 (Below w.heap.size w w'))
            case atStart => exact ⟨((⟨#[]⟩ : ByteArray)), (0), (by first | rfl | (simp; done) | (simp [*]; done)), (by first | rfl | (simp; done) | (simp [*]; done)), H', ⟨Nat.le_refl _⟩, ⟨by (with_reducible repeat (first | apply Kd.R_alloc | apply Kd.R_drewN | apply Kd.R_drew)); exact HO_7.out⟩, ⟨by repeat (first | (with_reducible first | exact HB.out | apply below_alloc | apply pw_below_drewN | apply below_drew1) | exact HB.out)⟩⟩
            case round =>
              clear H'
              try clear c1
              try clear p2
              try clear c6
              try clear c6b0
              try clear p6
              try clear c7
              try clear p2
              try clear p6
              obtain ⟨x9_3, x10_3, rfl, rfl, HA, HK3, HO_7, HB⟩ := hrel
              cases gk with
              | zero => exact absurd HA.out (by simp [flyleaflaw17_StackPlaces.l1])
              | succ k3 =>
                have H := HA.out
                clear HA
                simp only [flyleaflaw17_StackPlaces.l1] at H
                by_cases c8 : 0 ≤ x8_1
                · rw [if_pos c8] at H
                  have c8b0 : decide (0 ≤ x8_1) = true := decide_eq_true c8
                  clear c8
                  by_cases c9 : x8_1 < (l1.length : Int)
                  · rw [if_pos c9] at H
                    have c9b0 : decide (x8_1 < (l1.length : Int)) = true := decide_eq_true c9
                    clear c9
                    by_cases c10 : x10_3 < (Int.tmod (wrap64 ((Int.tmod (rd l1 x8_1) 20) + 20)) 20)
                    · rw [if_pos c10] at H
                      have c10b0 : decide (x10_3 < (Int.tmod (wrap64 ((Int.tmod (rd l1 x8_1) 20) + 20)) 20)) = true := decide_eq_true c10
                      clear c10
                      obtain ⟨y141, hy141⟩ : ∃ y_ : List Int, y_ = (([(wrap64 (97 + x8_1)) % 256] : List Int)) := ⟨_, rfl⟩
                      replace H : (if x9_3.size + (strOfNums y141).size ≤ 9223372036854775807 then (flyleaflaw17_StackPlaces.l1 k3 l1 t139 (wrap64 (2048 + (wrap64 (16 * (Go.bits .and .i64 a0 63))))) x7_1 x8_1 (x9_3 ++ (strOfNums y141)) (wrap64 (x10_3 + 1))) else (none)) = some r := by first | (rw [hy141]; with_reducible exact H) | (have H2_ := (Option.bind_some _ _).symm.trans H; rw [hy141]; with_reducible exact H2_) | (have H2_ := (Option.bind_some _ _).symm.trans H; with_reducible exact H2_) | with_reducible exact H | (rw [hy141]; exact H) | exact H
                      have Ny141 := Aside0.mk hy141
                      clear hy141
                      by_cases c11 : x9_3.size + (strOfNums y141).size ≤ 9223372036854775807
                      · rw [if_pos c11] at H
                        have c11b0 := eq_true c11
                        have c11b1 : decide (x9_3.size + (strOfNums y141).size ≤ 9223372036854775807) = true := decide_eq_true c11
                        try have c11b2 : (9223372036854775807 < x9_3.size + (strOfNums y141).size) = False := eq_false (Nat.not_lt.2 c11)
                        have H' := Aside0.mk H
                        clear H
                        have p140 : 0 ≤ (x8_1 : Int) := of_decide_eq_true (by first | (with_reducible assumption) | assumption)
                        have q140 : x8_1 < (l1.length : Int) := of_decide_eq_true (by first | (with_reducible assumption) | assumption)
                        obtain ⟨ad140, e140, hx140_0⟩ := Kd.at_int HR1.out x8_1 p140 q140
                        cases e140
                        replace hx140_0 := (HB.out.cell (World.block_lt_of_cell? w _ hx140_0)).trans hx140_0
                        replace p140 := eq_true p140
                        replace q140 := eq_true q140
                        go_wp2_with (first | ((with_reducible refine gate_dst (N := 52) rfl ?_); (try (refine gate_guard (by rfl) ?_; dsimp only)); refine Kd.R_lit (Kd.int .u8) _ 5 ?hg (N := 52) ?hd (xs := ([(wrap64 (97 + x8_1)) % 256] : List Int)) (inner := [.int .u8 ((wrap64 (97 + x8_1)) % 256)]) (ok := fun _ => True) (okp := fun _ => True) ?hr ?hp (fun _ hk => hk) trivial (Below.refl _ _) (Nat.le_refl _) (by simp) ?_; (case hd => rfl); (case hg => rfl); (case hr => first | (go_simp; done) | (go_simp; rfl)); (case hp => exact (Reps.one (show Kd.M (Kd.int .u8) _ _ _ ((wrap64 (97 + x8_1)) % 256) [.int .u8 ((wrap64 (97 + x8_1)) % 256)] from rfl) (Reps.none _ _))); intro v142 w12 ho13 hb hg_ hnew_; clear hg_ hnew_; (first | rw [← Ny141.out] at ho13 | (simp only [Int.reduceToNat] at ho13; rw [← Ny141.out] at ho13)); have n0_ := Aside0.mk (Kd.R_below (by (with_reducible repeat (first | apply Kd.R_alloc | apply Kd.R_drewN | apply Kd.R_drew)); exact HO_7.out) hb); have n1_ := Aside0.mk (Kd.R_lower ho13 (below_size (by repeat (first | (with_reducible first | exact HB.out | apply below_alloc | apply pw_below_drewN | apply below_drew1) | exact HB.out)))); have n2_ := Aside0.mk (below_step (by repeat (first | (with_reducible first | exact HB.out | apply below_alloc | apply pw_below_drewN | apply below_drew1) | exact HB.out)) hb); clear HO_7; clear HB; have HO_7 := n0_; have HO143 := n1_; have HB := n2_; clear n0_ n1_ n2_; clear hb ho13; have hcv14 := own_string (P := Try.prog) Try.underlying37 Try.underlying5 Try.underlying9 (Kd.own_of_R HO143.out)))
                        go_roundg k3
                        case measure => have := HK1.out; have := HJ4.out; have := HK3.out; omega
                        case rel => exact ⟨(x9_3 ++ (strOfNums y141)), (wrap64 (x10_3 + 1)), (by first | rfl | (simp; done) | (simp [*]; done)), (by first | rfl | (simp; done) | (simp [*]; done)), H', ⟨by have := HK1.out; have := HJ4.out; have := HK3.out; omega⟩, ⟨by (with_reducible repeat (first | apply Kd.R_alloc | apply Kd.R_drewN | apply Kd.R_drew)); exact HO_7.out⟩, ⟨by repeat (first | (with_reducible first | exact HB.out | apply below_alloc | apply pw_below_drewN | apply below_drew1) | exact HB.out)⟩⟩
                      · rw [if_neg c11] at H
                        exact absurd H (by simp)
                    · rw [if_neg c10] at H
                      have c10b0 : decide (x10_3 < (Int.tmod (wrap64 ((Int.tmod (rd l1 x8_1) 20) + 20)) 20)) = false := decide_eq_false c10
                      clear c10
                      by_cases c15 : x7_1.length < 8796093022208
                      · rw [if_pos c15] at H
                        have LMc15 := Aside0.mk c15
                        clear c15
                        obtain ⟨y144, hy144⟩ : ∃ y_ : List ByteArray, y_ = (x7_1 ++ [x9_3]) := ⟨_, rfl⟩
                        replace H : (flyleaflaw17_StackPlaces.l0 k3 l1 t139 (wrap64 (2048 + (wrap64 (16 * (Go.bits .and .i64 a0 63))))) y144 (wrap64 (x8_1 + 1))) = some r := by first | (rw [hy144]; with_reducible exact H) | (have H2_ := (Option.bind_some _ _).symm.trans H; rw [hy144]; with_reducible exact H2_) | (have H2_ := (Option.bind_some _ _).symm.trans H; with_reducible exact H2_) | with_reducible exact H | (rw [hy144]; exact H) | exact H
                        have Ny144 := Aside0.mk hy144
                        clear hy144
                        have H' := Aside0.mk H
                        clear H
                        have p140 : 0 ≤ (x8_1 : Int) := of_decide_eq_true (by first | (with_reducible assumption) | assumption)
                        have q140 : x8_1 < (l1.length : Int) := of_decide_eq_true (by first | (with_reducible assumption) | assumption)
                        obtain ⟨ad140, e140, hx140_0⟩ := Kd.at_int HR1.out x8_1 p140 q140
                        cases e140
                        replace hx140_0 := (HB.out.cell (World.block_lt_of_cell? w _ hx140_0)).trans hx140_0
                        replace p140 := eq_true p140
                        replace q140 := eq_true q140
                        go_wp2_with (first | ((with_reducible refine gate_builtin (b := .append) (xs := #[.tmp 55, .tmp 57]) rfl ?_); (try (refine gate_guard (by rfl) ?_; dsimp only)); at_builtin; refine Kd.R_append Kd.string (w0 := w) w.heap.size rfl (.tmp 55) (.tmp 57) 22 9 (.string ⟨#[]⟩) 16 rfl Try.underlying22 info9 rfl (by decide) (by omega) u7 x7_1 x9_3 [.string x9_3] (fun _ => True) (fun _ => False) rfl rfl ?aP (fun _ hk => hk.elim) ?aF ?aO ?aB ?aS ?aL ?_; (case aP => exact rfl); (case aB => exact (by repeat (first | (with_reducible first | exact HB.out | apply below_alloc | apply pw_below_drewN | apply below_drew1) | exact HB.out))); (case aF => exact (fun _ _ => trivial)); (case aO => exact (by (with_reducible repeat (first | apply Kd.R_alloc | apply Kd.R_drewN | apply Kd.R_drew)); exact HO_7.out)); (case aS => exact (below_size (by repeat (first | (with_reducible first | exact HB.out | apply below_alloc | apply pw_below_drewN | apply below_drew1) | exact HB.out)))); (case aL => have := LMc15.out; omega); intro v145 w16 ho hb hg hat; rw [← Ny144.out] at ho; have n0_ := Aside0.mk (hb); have n1_ := Aside0.mk (ho); clear HB; clear HO_7; have HB := n0_; have HO146 := n1_; clear n0_ n1_; clear ho hb hg hat))
                        go_roundg k3
                        case measure => have := HK1.out; have := HJ4.out; have := HK3.out; omega
                        case rel => exact ⟨(y144), (wrap64 (x8_1 + 1)), (by first | rfl | (simp; done) | (simp [*]; done)), H', ⟨by have := HK1.out; have := HJ4.out; have := HK3.out; omega⟩, ⟨by (with_reducible repeat (first | apply Kd.R_alloc | apply Kd.R_drewN | apply Kd.R_drew)); exact HO146.out⟩, ⟨by repeat (first | (with_reducible first | exact HB.out | apply below_alloc | apply pw_below_drewN | apply below_drew1) | exact HB.out)⟩⟩
                      · rw [if_neg c15] at H
                        exact absurd H (by simp)
                  · rw [if_neg c9] at H
                    exact absurd H (by simp)
                · rw [if_neg c8] at H
                  exact absurd H (by simp)
          · replace c7 := Bool.eq_false_iff.mpr c7
            subst c7
            have H1 : ((stack_Build.f (wrap64 (2048 + (wrap64 (16 * (Go.bits .and .i64 a0 63))))) x7_1 ([] : List ByteArray) ([] : List (S48))).bind fun bt147 => (if bt147.2.2 = 0 then (flyleaflaw17_StackPlaces.j3 kj4 t139 (wrap64 (2048 + (wrap64 (16 * (Go.bits .and .i64 a0 63))))) x7_1 bt147.1 bt147.2.1 ((bt147.2.1.size : Int) != (wrap64 ((wrap64 (2048 + (wrap64 (16 * (Go.bits .and .i64 a0 63))))) - bt147.1)))) else (flyleaflaw17_StackPlaces.j3 kj4 t139 (wrap64 (2048 + (wrap64 (16 * (Go.bits .and .i64 a0 63))))) x7_1 bt147.1 bt147.2.1 true))) = some r := by rw [if_neg (show ¬ (false = true) by decide)] at H; exact H
            clear H
            have H := H1
            clear H1
            replace H := Option.bind_eq_some_iff.mp H
            obtain ⟨⟨t147, t148, t149⟩, A170, H⟩ := H
            replace H : (if t149 = 0 then (flyleaflaw17_StackPlaces.j3 kj4 t139 (wrap64 (2048 + (wrap64 (16 * (Go.bits .and .i64 a0 63))))) x7_1 t147 t148 ((t148.size : Int) != (wrap64 ((wrap64 (2048 + (wrap64 (16 * (Go.bits .and .i64 a0 63))))) - t147)))) else (flyleaflaw17_StackPlaces.j3 kj4 t139 (wrap64 (2048 + (wrap64 (16 * (Go.bits .and .i64 a0 63))))) x7_1 t147 t148 true)) = some r := H
            have A17 := Aside0.mk A170
            clear A170
            have HC18 := Aside0.mk H
            clear H
            obtain ⟨Ao19, co19, eo19⟩ := Kd.R_slice HO_7.out
            subst eo19
            go_upto_region 14 with (first | ((with_reducible refine gate_callee (f := 10) rfl ?_); refine goesL_ (some 62) rfl rfl Try.func10 (by kernel_rfl) rfl #[.int .i64 (wrap64 (2048 + (wrap64 (16 * (Go.bits .and .i64 a0 63))))), .slice Ao19 x7_1.length co19, .slice none 0 0, .slice none 0 0] rfl (by (try simp only [List.map_toArray, List.map_cons, List.map_nil]); first | done | rfl | (simp only [List.length_drop, List.length_take]; rfl)) ?_; (refine (stack_Build.calls (wrap64 (2048 + (wrap64 (16 * (Go.bits .and .i64 a0 63))))) _ _ x7_1 _ _ ([] : List ByteArray) _ _ ([] : List (S48)) t147 t148 t149 _ ?side1 ?side2 ?side3 ?side4 ?side5 ?side6 A17.out).mono ?_); (case side1 => repeat (first | exact (Kd.R_reads' HO_7.out).2.2 | (with_reducible refine Kd.C_alloc ?_ _) | (with_reducible refine Kd.C_drewN ?_ _) | (with_reducible refine Kd.C_drew ?_))); (case side2 => exact (Kd.R_reads' HO_7.out).2.1); (case side3 => exact Kd.C_nil _ _); (case side4 => exact Nat.le_refl _); (case side5 => exact Kd.C_nil _ _); (case side6 => exact Nat.le_refl _); rintro e w20 ⟨rfl, hb⟩; refine ⟨_, rfl, ?_⟩; have n0_ := Aside0.mk (Kd.R_below (by (with_reducible repeat (first | apply Kd.R_alloc | apply Kd.R_drewN | apply Kd.R_drew)); exact HO_7.out) hb); have n1_ := Aside0.mk (below_step (by repeat (first | (with_reducible first | exact HB.out | apply below_alloc | apply pw_below_drewN | apply below_drew1) | exact HB.out)) hb); clear HO_7; clear HB; have HO_7 := n0_; have HB := n1_; clear n0_ n1_; (try clear hb); (try clear hb2); (try clear hk); (try clear hi)))
            (try simp only [Act.put, List.setIfInBounds_toArray, List.set_cons_zero, List.set_cons_succ])
            go_cut [75] (fun v75 wc => ∃ (kq : Nat) (x75_17 : Bool), v75 = .bool x75_17 ∧ Aside0 (flyleaflaw17_StackPlaces.j3 kq t139 (wrap64 (2048 + (wrap64 (16 * (Go.bits .and .i64 a0 63))))) x7_1 t147 t148 x75_17 = some r) ∧ Aside0 (kq ≤ kj4) ∧ Aside0 (Kd.R Kd.string 9 wc w.heap.size (fun _ => True) (.slice Ao19 x7_1.length co19) x7_1) ∧ Aside0 (Below w.heap.size w wc))
            case first =>
              have H := HC18.out
              clear HC18
              by_cases c21 : t149 = 0
              · rw [if_pos c21] at H
                have c21b0 : (t149 == 0) = true := beq_iff_eq.mpr c21
                have c21b1 : (t149 != 0) = false := bne_eq_false_iff_eq.mpr c21
                clear c21
                (first | rw [c21b0] | (simp only [i64_w, i32_w]; rw [c21b0]) | skip)
                have H' := Aside0.mk H
                clear H
                go_wp2
                go_meet
                case rel => exact ⟨_, (((t148.size : Int) != (wrap64 ((wrap64 (2048 + (wrap64 (16 * (Go.bits .and .i64 a0 63))))) - t147)))), (by first | rfl | (simp; done) | (simp [*]; done)), H', ⟨by have := HK1.out; have := HJ4.out; first | omega | exact Nat.le_refl _⟩, ⟨by (with_reducible repeat (first | apply Kd.R_alloc | apply Kd.R_drewN | apply Kd.R_drew)); exact HO_7.out⟩, ⟨by repeat (first | (with_reducible first | exact HB.out | apply below_alloc | apply pw_below_drewN | apply below_drew1) | exact HB.out)⟩⟩
              · rw [if_neg c21] at H
                have c21b0 : (t149 == 0) = false := beq_eq_false_iff_ne.mpr c21
                have c21b1 : (t149 != 0) = true := bne_iff_ne.mpr c21
                (first | rw [c21b0] | (simp only [i64_w, i32_w]; rw [c21b0]) | skip)
                have H' := Aside0.mk H
                clear H
                go_wp2
                go_meet
                case rel => exact ⟨_, (true), (by first | rfl | (simp; done) | (simp [*]; done)), H', ⟨by have := HK1.out; have := HJ4.out; first | omega | exact Nat.le_refl _⟩, ⟨by (with_reducible repeat (first | apply Kd.R_alloc | apply Kd.R_drewN | apply Kd.R_drew)); exact HO_7.out⟩, ⟨by repeat (first | (with_reducible first | exact HB.out | apply below_alloc | apply pw_below_drewN | apply below_drew1) | exact HB.out)⟩⟩
            case rest =>
              clear HC18
              try clear c1
              try clear p1
              try clear q1
              try clear hx1
              try clear hcv1
              try clear c2
              try clear p2
              try clear c6
              try clear c6b0
              try clear p6
              try clear c7
              try clear c8
              try clear c8b0
              try clear c9
              try clear c9b0
              try clear c10
              try clear c10b0
              try clear c11
              try clear c11b0
              try clear c11b1
              try clear c11b2
              try clear p14
              try clear q14
              try clear hx14
              try clear hcv14
              try clear c15
              try clear c21
              try clear c21b0
              try clear c21b1
              try clear hx140_0
              try clear p140
              try clear p2
              try clear p6
              try clear q140
              obtain ⟨kq, x75_17, rfl, HA, HJ17, HO_7, HB⟩ := hcut
              cases kq with
              | zero => exact absurd HA.out (by simp [flyleaflaw17_StackPlaces.j3])
              | succ kj17 =>
                have H := HA.out
                clear HA
                simp only [flyleaflaw17_StackPlaces.j3] at H
                by_cases c22 : x75_17 = true
                · subst c22
                  have H1 : (some false) = some r := by rw [if_pos rfl] at H; exact H
                  clear H
                  have H := H1
                  clear H1
                  obtain rfl := Option.some.inj H
                  go_wp2
                  go_ret
                  exact ⟨by first | rfl | (simp [errW_none, errW_some] <;> rfl) | (simp [*, errW_none, errW_some] <;> rfl), by repeat (first | (with_reducible first | exact HB.out | apply below_alloc | apply pw_below_drewN | apply below_drew1) | exact HB.out)⟩
                · replace c22 := Bool.eq_false_iff.mpr c22
                  subst c22
                  have H1 : (flyleaflaw17_StackPlaces.l2 kj17 t139 x7_1 t147 t148 (wrap64 (2048 + (wrap64 (16 * (Go.bits .and .i64 a0 63))))) (wrap64 ((x7_1.length : Int) - 1))) = some r := by rw [if_neg (show ¬ (false = true) by decide)] at H; exact H
                  clear H
                  have H := H1
                  clear H1
                  have H' := Aside0.mk H
                  clear H
                  go_wp2
                  go_loopg [14, 15] kj17 (fun kq v14 v15 w' => ∃ (x14_4 : Int) (x15_4 : Int), v14 = .int .i64 x14_4 ∧ v15 = .int .i64 x15_4 ∧ Aside0 (flyleaflaw17_StackPlaces.l2 kq t139 x7_1 t147 t148 x14_4 x15_4 = some r) ∧ Aside0 (kq ≤ kj17) ∧ Aside0 (Kd.R Kd.string 9 w' w.heap.size (fun _ => True) (.slice Ao19 x7_1.length co19) x7_1) ∧ Aside0 (Below w.heap.size w w'))
                  case atStart => exact ⟨((wrap64 (2048 + (wrap64 (16 * (Go.bits .and .i64 a0 63)))))), (wrap64 ((x7_1.length : Int) - 1)), (by first | rfl | (simp; done) | (simp [*]; done)), (by first | rfl | (simp; done) | (simp [*]; done)), H', ⟨Nat.le_refl _⟩, ⟨by (with_reducible repeat (first | apply Kd.R_alloc | apply Kd.R_drewN | apply Kd.R_drew)); exact HO_7.out⟩, ⟨by repeat (first | (with_reducible first | exact HB.out | apply below_alloc | apply pw_below_drewN | apply below_drew1) | exact HB.out)⟩⟩
                  case round =>
                    clear H'
                    try clear c1
                    try clear p1
                    try clear q1
                    try clear hx1
                    try clear hcv1
                    try clear c2
                    try clear p2
                    try clear c6
                    try clear c6b0
                    try clear p6
                    try clear c7
                    try clear c8
                    try clear c8b0
                    try clear c9
                    try clear c9b0
                    try clear c10
                    try clear c10b0
                    try clear c11
                    try clear c11b0
                    try clear c11b1
                    try clear c11b2
                    try clear p14
                    try clear q14
                    try clear hx14
                    try clear hcv14
                    try clear c15
                    try clear c21
                    try clear c21b0
                    try clear c21b1
                    try clear c22
                    try clear hx140_0
                    try clear p1
                    try clear p14
                    try clear p140
                    try clear p2
                    try clear p6
                    try clear q1
                    try clear q14
                    try clear q140
                    obtain ⟨x14_4, x15_4, rfl, rfl, HA, HK4, HO_7, HB⟩ := hrel
                    cases gk with
                    | zero => exact absurd HA.out (by simp [flyleaflaw17_StackPlaces.l2])
                    | succ k4 =>
                      have H := HA.out
                      clear HA
                      simp only [flyleaflaw17_StackPlaces.l2] at H
                      by_cases c23 : x15_4 ≥ 0
                      · rw [if_pos c23] at H
                        have c23b0 : decide (0 ≤ x15_4) = true := decide_eq_true c23
                        clear c23
                        by_cases c24 : 0 ≤ x15_4
                        · rw [if_pos c24] at H
                          have c24b0 : decide (0 ≤ x15_4) = true := decide_eq_true c24
                          clear c24
                          by_cases c25 : x15_4 < (x7_1.length : Int)
                          · rw [if_pos c25] at H
                            have c25b0 : decide (x15_4 < (x7_1.length : Int)) = true := decide_eq_true c25
                            clear c25
                            replace H := Option.bind_eq_some_iff.mp H
                            obtain ⟨⟨t153, t154⟩, A260, H⟩ := H
                            replace H : (if t154 = true then (flyleaflaw17_StackPlaces.j5 k4 t139 x7_1 t147 t148 (wrap64 ((wrap64 (x14_4 - ((rdOf ByteArray.empty x7_1 x15_4).size : Int))) - 1)) x15_4 ((wrap64 (t153)) != (wrap64 ((wrap64 (x14_4 - ((rdOf ByteArray.empty x7_1 x15_4).size : Int))) - 1)))) else (flyleaflaw17_StackPlaces.j5 k4 t139 x7_1 t147 t148 (wrap64 ((wrap64 (x14_4 - ((rdOf ByteArray.empty x7_1 x15_4).size : Int))) - 1)) x15_4 true)) = some r := H
                            have A26 := Aside0.mk A260
                            clear A260
                            have HC27 := Aside0.mk H
                            clear H
                            have p152 : 0 ≤ (x15_4 : Int) := of_decide_eq_true (by first | (with_reducible assumption) | assumption)
                            have q152 : x15_4 < (x7_1.length : Int) := of_decide_eq_true (by first | (with_reducible assumption) | assumption)
                            obtain ⟨ad152, e152, hx152_0⟩ := Kd.at_string (Kd.R_reads' HO_7.out).2.2 x15_4 p152 q152
                            cases e152
                            replace p152 := eq_true p152
                            replace q152 := eq_true q152
                            go_upto_region 22 with (first | ((with_reducible refine gate_callee (f := 14) rfl ?_); refine goesL_ (some 97) rfl rfl Try.func14 (by kernel_rfl) rfl #[.string t148, .int .i64 (wrap64 (8 * (wrap64 (x15_4 + 1)))), .int .i64 8] rfl (by (try simp only [List.map_toArray, List.map_cons, List.map_nil]); first | done | rfl | (simp only [List.length_drop, List.length_take]; rfl)) ?_; (with_reducible refine (flyleafref01_Get.calls k4 t148 (wrap64 (8 * (wrap64 (x15_4 + 1)))) 8 t153 t154 _ A26.out).mono ?_); rintro e w' ⟨rfl, ⟨nd, rfl⟩⟩; refine ⟨_, rfl, ?_⟩))
                            (try simp only [Act.put, List.setIfInBounds_toArray, List.set_cons_zero, List.set_cons_succ])
                            go_cut [107] (fun v107 wc => ∃ (kq : Nat) (x107_26 : Bool), v107 = .bool x107_26 ∧ Aside0 (flyleaflaw17_StackPlaces.j5 kq t139 x7_1 t147 t148 (wrap64 ((wrap64 (x14_4 - ((rdOf ByteArray.empty x7_1 x15_4).size : Int))) - 1)) x15_4 x107_26 = some r) ∧ Aside0 (kq ≤ k4) ∧ Aside0 (Kd.R Kd.string 9 wc w.heap.size (fun _ => True) (.slice (some ad152) x7_1.length co19) x7_1) ∧ Aside0 (Below w.heap.size w wc))
                            case first =>
                              have H := HC27.out
                              clear HC27
                              by_cases c28 : t154 = true
                              · subst c28
                                have H1 : (flyleaflaw17_StackPlaces.j5 k4 t139 x7_1 t147 t148 (wrap64 ((wrap64 (x14_4 - ((rdOf ByteArray.empty x7_1 x15_4).size : Int))) - 1)) x15_4 ((wrap64 (t153)) != (wrap64 ((wrap64 (x14_4 - ((rdOf ByteArray.empty x7_1 x15_4).size : Int))) - 1)))) = some r := by rw [if_pos rfl] at H; exact H
                                clear H
                                have H := H1
                                clear H1
                                have H' := Aside0.mk H
                                clear H
                                go_wp2
                                go_meet
                                case rel => exact ⟨_, (((wrap64 (t153)) != (wrap64 ((wrap64 (x14_4 - ((rdOf ByteArray.empty x7_1 x15_4).size : Int))) - 1)))), (by first | rfl | (simp; done) | (simp [*]; done)), H', ⟨by have := HK1.out; have := HJ4.out; have := HJ17.out; have := HK4.out; first | omega | exact Nat.le_refl _⟩, ⟨by (with_reducible repeat (first | apply Kd.R_alloc | apply Kd.R_drewN | apply Kd.R_drew)); exact HO_7.out⟩, ⟨by repeat (first | (with_reducible first | exact HB.out | apply below_alloc | apply pw_below_drewN | apply below_drew1) | exact HB.out)⟩⟩
                              · replace c28 := Bool.eq_false_iff.mpr c28
                                subst c28
                                have H1 : (flyleaflaw17_StackPlaces.j5 k4 t139 x7_1 t147 t148 (wrap64 ((wrap64 (x14_4 - ((rdOf ByteArray.empty x7_1 x15_4).size : Int))) - 1)) x15_4 true) = some r := by rw [if_neg (show ¬ (false = true) by decide)] at H; exact H
                                clear H
                                have H := H1
                                clear H1
                                have H' := Aside0.mk H
                                clear H
                                go_wp2
                                go_meet
                                case rel => exact ⟨_, (true), (by first | rfl | (simp; done) | (simp [*]; done)), H', ⟨by have := HK1.out; have := HJ4.out; have := HJ17.out; have := HK4.out; first | omega | exact Nat.le_refl _⟩, ⟨by (with_reducible repeat (first | apply Kd.R_alloc | apply Kd.R_drewN | apply Kd.R_drew)); exact HO_7.out⟩, ⟨by repeat (first | (with_reducible first | exact HB.out | apply below_alloc | apply pw_below_drewN | apply below_drew1) | exact HB.out)⟩⟩
                            case rest =>
                              clear HC27
                              try clear c1
                              try clear p1
                              try clear q1
                              try clear hx1
                              try clear hcv1
                              try clear c2
                              try clear p2
                              try clear c6
                              try clear c6b0
                              try clear p6
                              try clear c7
                              try clear c8
                              try clear c8b0
                              try clear c9
                              try clear c9b0
                              try clear c10
                              try clear c10b0
                              try clear c11
                              try clear c11b0
                              try clear c11b1
                              try clear c11b2
                              try clear c14
                              try clear p14
                              try clear q14
                              try clear hx14
                              try clear hcv14
                              try clear c15
                              try clear p15
                              try clear q15
                              try clear hx15
                              try clear c21
                              try clear c21b0
                              try clear c21b1
                              try clear c22
                              try clear c23
                              try clear c23b0
                              try clear c24
                              try clear c24b0
                              try clear c25
                              try clear c25b0
                              try clear c28
                              try clear hx140_0
                              try clear hx152_0
                              try clear p1
                              try clear p14
                              try clear p140
                              try clear p152
                              try clear p2
                              try clear p6
                              try clear q1
                              try clear q14
                              try clear q140
                              try clear q152
                              obtain ⟨kq, x107_26, rfl, HA, HJ26, HO_7, HB⟩ := hcut
                              cases kq with
                              | zero => exact absurd HA.out (by simp [flyleaflaw17_StackPlaces.j5])
                              | succ kj26 =>
                                have H := HA.out
                                clear HA
                                simp only [flyleaflaw17_StackPlaces.j5] at H
                                by_cases c29 : x107_26 = true
                                · subst c29
                                  have H1 : (some false) = some r := by rw [if_pos rfl] at H; exact H
                                  clear H
                                  have H := H1
                                  clear H1
                                  obtain rfl := Option.some.inj H
                                  go_wp2
                                  go_ret
                                  exact ⟨by first | rfl | (simp [errW_none, errW_some] <;> rfl) | (simp [*, errW_none, errW_some] <;> rfl), by repeat (first | (with_reducible first | exact HB.out | apply below_alloc | apply pw_below_drewN | apply below_drew1) | exact HB.out)⟩
                                · replace c29 := Bool.eq_false_iff.mpr c29
                                  subst c29
                                  have H1 : ((flyleafref01_Text.f kj26 t148 (wrap64 ((wrap64 ((wrap64 (x14_4 - ((rdOf ByteArray.empty x7_1 x15_4).size : Int))) - 1)) - t147)) 1024).bind fun bt155 => (if bt155.2 = true then (if 0 ≤ x15_4 then (if x15_4 < (x7_1.length : Int) then (if bt155.1.toList = (rdOf ByteArray.empty x7_1 x15_4).toList then (flyleaflaw17_StackPlaces.l2 kj26 t139 x7_1 t147 t148 (wrap64 ((wrap64 (x14_4 - ((rdOf ByteArray.empty x7_1 x15_4).size : Int))) - 1)) (wrap64 (x15_4 - 1))) else (some false)) else (none)) else (none)) else (some false))) = some r := by rw [if_neg (show ¬ (false = true) by decide)] at H; exact H
                                  clear H
                                  have H := H1
                                  clear H1
                                  replace H := Option.bind_eq_some_iff.mp H
                                  obtain ⟨⟨t155, t156⟩, A300, H⟩ := H
                                  replace H : (if t156 = true then (if 0 ≤ x15_4 then (if x15_4 < (x7_1.length : Int) then (if t155.toList = (rdOf ByteArray.empty x7_1 x15_4).toList then (flyleaflaw17_StackPlaces.l2 kj26 t139 x7_1 t147 t148 (wrap64 ((wrap64 (x14_4 - ((rdOf ByteArray.empty x7_1 x15_4).size : Int))) - 1)) (wrap64 (x15_4 - 1))) else (some false)) else (none)) else (none)) else (some false)) = some r := H
                                  have A30 := Aside0.mk A300
                                  clear A300
                                  by_cases c31 : t156 = true
                                  · subst c31
                                    have H1 : (if 0 ≤ x15_4 then (if x15_4 < (x7_1.length : Int) then (if t155.toList = (rdOf ByteArray.empty x7_1 x15_4).toList then (flyleaflaw17_StackPlaces.l2 kj26 t139 x7_1 t147 t148 (wrap64 ((wrap64 (x14_4 - ((rdOf ByteArray.empty x7_1 x15_4).size : Int))) - 1)) (wrap64 (x15_4 - 1))) else (some false)) else (none)) else (none)) = some r := by rw [if_pos rfl] at H; exact H
                                    clear H
                                    have H := H1
                                    clear H1
                                    by_cases c32 : 0 ≤ x15_4
                                    · rw [if_pos c32] at H
                                      have c32b0 : decide (0 ≤ x15_4) = true := decide_eq_true c32
                                      clear c32
                                      by_cases c33 : x15_4 < (x7_1.length : Int)
                                      · rw [if_pos c33] at H
                                        have c33b0 : decide (x15_4 < (x7_1.length : Int)) = true := decide_eq_true c33
                                        clear c33
                                        by_cases c34 : t155.toList = (rdOf ByteArray.empty x7_1 x15_4).toList
                                        · rw [if_pos c34] at H
                                          have c34b0 : (t155.toList == (rdOf ByteArray.empty x7_1 x15_4).toList) = true := beq_iff_eq.mpr c34
                                          have c34b1 : (t155.toList != (rdOf ByteArray.empty x7_1 x15_4).toList) = false := bne_eq_false_iff_eq.mpr c34
                                          clear c34
                                          have H' := Aside0.mk H
                                          clear H
                                          go_wp2_with (first | ((with_reducible refine gate_callee (f := 15) rfl ?_); refine goesL_ (some 113) rfl rfl Try.func15 (by kernel_rfl) rfl #[.string t148, .int .i64 (wrap64 ((wrap64 ((wrap64 (x14_4 - ((rdOf ByteArray.empty x7_1 x15_4).size : Int))) - 1)) - t147)), .int .i64 1024] rfl (by (try simp only [List.map_toArray, List.map_cons, List.map_nil]); first | done | rfl | (simp only [List.length_drop, List.length_take]; rfl)) ?_; (with_reducible refine (flyleafref01_Text.calls kj26 t148 (wrap64 ((wrap64 ((wrap64 (x14_4 - ((rdOf ByteArray.empty x7_1 x15_4).size : Int))) - 1)) - t147)) 1024 t155 true _ A30.out).mono ?_); rintro e w' ⟨rfl, ⟨nd, rfl⟩⟩; refine ⟨_, rfl, ?_⟩; have p157 : 0 ≤ (x15_4 : Int) := of_decide_eq_true (by first | (with_reducible assumption) | assumption); have q157 : x15_4 < (x7_1.length : Int) := of_decide_eq_true (by first | (with_reducible assumption) | assumption); obtain ⟨ad157, e157, hx157_0⟩ := Kd.at_string (Kd.R_reads' HO_7.out).2.2 x15_4 p157 q157; obtain rfl : ad152 = ad157 := (by injection e157); replace p157 := eq_true p157; replace q157 := eq_true q157))
                                          go_roundg kj26
                                          case measure => have := HK1.out; have := HJ4.out; have := HJ17.out; have := HK4.out; have := HJ26.out; omega
                                          case rel => exact ⟨((wrap64 ((wrap64 (x14_4 - ((rdOf ByteArray.empty x7_1 x15_4).size : Int))) - 1))), (wrap64 (x15_4 - 1)), (by first | rfl | (simp; done) | (simp [*]; done)), (by first | rfl | (simp; done) | (simp [*]; done)), H', ⟨by have := HK1.out; have := HJ4.out; have := HJ17.out; have := HK4.out; have := HJ26.out; omega⟩, ⟨by (with_reducible repeat (first | apply Kd.R_alloc | apply Kd.R_drewN | apply Kd.R_drew)); exact HO_7.out⟩, ⟨by repeat (first | (with_reducible first | exact HB.out | apply below_alloc | apply pw_below_drewN | apply below_drew1) | exact HB.out)⟩⟩
                                        · rw [if_neg c34] at H
                                          have c34b0 : (t155.toList == (rdOf ByteArray.empty x7_1 x15_4).toList) = false := beq_eq_false_iff_ne.mpr c34
                                          have c34b1 : (t155.toList != (rdOf ByteArray.empty x7_1 x15_4).toList) = true := bne_iff_ne.mpr c34
                                          obtain rfl := Option.some.inj H
                                          go_wp2_with (first | ((with_reducible refine gate_callee (f := 15) rfl ?_); refine goesL_ (some 113) rfl rfl Try.func15 (by kernel_rfl) rfl #[.string t148, .int .i64 (wrap64 ((wrap64 ((wrap64 (x14_4 - ((rdOf ByteArray.empty x7_1 x15_4).size : Int))) - 1)) - t147)), .int .i64 1024] rfl (by (try simp only [List.map_toArray, List.map_cons, List.map_nil]); first | done | rfl | (simp only [List.length_drop, List.length_take]; rfl)) ?_; (with_reducible refine (flyleafref01_Text.calls kj26 t148 (wrap64 ((wrap64 ((wrap64 (x14_4 - ((rdOf ByteArray.empty x7_1 x15_4).size : Int))) - 1)) - t147)) 1024 t155 true _ A30.out).mono ?_); rintro e w' ⟨rfl, ⟨nd, rfl⟩⟩; refine ⟨_, rfl, ?_⟩; have p157 : 0 ≤ (x15_4 : Int) := of_decide_eq_true (by first | (with_reducible assumption) | assumption); have q157 : x15_4 < (x7_1.length : Int) := of_decide_eq_true (by first | (with_reducible assumption) | assumption); obtain ⟨ad157, e157, hx157_0⟩ := Kd.at_string (Kd.R_reads' HO_7.out).2.2 x15_4 p157 q157; obtain rfl : ad152 = ad157 := (by injection e157); replace p157 := eq_true p157; replace q157 := eq_true q157))
                                          go_ret
                                          exact ⟨by first | rfl | (simp [errW_none, errW_some] <;> rfl) | (simp [*, errW_none, errW_some] <;> rfl), by repeat (first | (with_reducible first | exact HB.out | apply below_alloc | apply pw_below_drewN | apply below_drew1) | exact HB.out)⟩
                                      · rw [if_neg c33] at H
                                        exact absurd H (by simp)
                                    · rw [if_neg c32] at H
                                      exact absurd H (by simp)
                                  · replace c31 := Bool.eq_false_iff.mpr c31
                                    subst c31
                                    have H1 : (some false) = some r := by rw [if_neg (show ¬ (false = true) by decide)] at H; exact H
                                    clear H
                                    have H := H1
                                    clear H1
                                    obtain rfl := Option.some.inj H
                                    go_wp2_with (first | ((with_reducible refine gate_callee (f := 15) rfl ?_); refine goesL_ (some 113) rfl rfl Try.func15 (by kernel_rfl) rfl #[.string t148, .int .i64 (wrap64 ((wrap64 ((wrap64 (x14_4 - ((rdOf ByteArray.empty x7_1 x15_4).size : Int))) - 1)) - t147)), .int .i64 1024] rfl (by (try simp only [List.map_toArray, List.map_cons, List.map_nil]); first | done | rfl | (simp only [List.length_drop, List.length_take]; rfl)) ?_; (with_reducible refine (flyleafref01_Text.calls kj26 t148 (wrap64 ((wrap64 ((wrap64 (x14_4 - ((rdOf ByteArray.empty x7_1 x15_4).size : Int))) - 1)) - t147)) 1024 t155 false _ A30.out).mono ?_); rintro e w' ⟨rfl, ⟨nd, rfl⟩⟩; refine ⟨_, rfl, ?_⟩))
                                    go_ret
                                    exact ⟨by first | rfl | (simp [errW_none, errW_some] <;> rfl) | (simp [*, errW_none, errW_some] <;> rfl), by repeat (first | (with_reducible first | exact HB.out | apply below_alloc | apply pw_below_drewN | apply below_drew1) | exact HB.out)⟩
                          · rw [if_neg c25] at H
                            exact absurd H (by simp)
                        · rw [if_neg c24] at H
                          exact absurd H (by simp)
                      · rw [if_neg c23] at H
                        have c23b0 : decide (0 ≤ x15_4) = false := decide_eq_false c23
                        clear c23
                        replace H := Option.bind_eq_some_iff.mp H
                        obtain ⟨⟨t150, t151⟩, A350, H⟩ := H
                        replace H : (if t139 = true then (some ((wrap64 (t150)) == (x7_1.length : Int))) else (some false)) = some r := H
                        have A35 := Aside0.mk A350
                        clear A350
                        by_cases c36 : t139 = true
                        · subst c36
                          have H1 : (some ((wrap64 (t150)) == (x7_1.length : Int))) = some r := by rw [if_pos rfl] at H; exact H
                          clear H
                          have H := H1
                          clear H1
                          obtain rfl := Option.some.inj H
                          go_wp2_with (first | ((with_reducible refine gate_callee (f := 14) rfl ?_); refine goesL_ (some 128) rfl rfl Try.func14 (by kernel_rfl) rfl #[.string t148, .int .i64 0, .int .i64 8] rfl (by (try simp only [List.map_toArray, List.map_cons, List.map_nil]); first | done | rfl | (simp only [List.length_drop, List.length_take]; rfl)) ?_; (with_reducible refine (flyleafref01_Get.calls k4 t148 0 8 t150 t151 _ A35.out).mono ?_); rintro e w' ⟨rfl, ⟨nd, rfl⟩⟩; refine ⟨_, rfl, ?_⟩))
                          go_ret
                          exact ⟨by first | rfl | (simp [errW_none, errW_some] <;> rfl) | (simp [*, errW_none, errW_some] <;> rfl), by repeat (first | (with_reducible first | exact HB.out | apply below_alloc | apply pw_below_drewN | apply below_drew1) | exact HB.out)⟩
                        · replace c36 := Bool.eq_false_iff.mpr c36
                          subst c36
                          have H1 : (some false) = some r := by rw [if_neg (show ¬ (false = true) by decide)] at H; exact H
                          clear H
                          have H := H1
                          clear H1
                          obtain rfl := Option.some.inj H
                          go_wp2_with (first | ((with_reducible refine gate_callee (f := 14) rfl ?_); refine goesL_ (some 128) rfl rfl Try.func14 (by kernel_rfl) rfl #[.string t148, .int .i64 0, .int .i64 8] rfl (by (try simp only [List.map_toArray, List.map_cons, List.map_nil]); first | done | rfl | (simp only [List.length_drop, List.length_take]; rfl)) ?_; (with_reducible refine (flyleafref01_Get.calls k4 t148 0 8 t150 t151 _ A35.out).mono ?_); rintro e w' ⟨rfl, ⟨nd, rfl⟩⟩; refine ⟨_, rfl, ?_⟩))
                          go_ret
                          exact ⟨by first | rfl | (simp [errW_none, errW_some] <;> rfl) | (simp [*, errW_none, errW_some] <;> rfl), by repeat (first | (with_reducible first | exact HB.out | apply below_alloc | apply pw_below_drewN | apply below_drew1) | exact HB.out)⟩

/-- THE ONE PURE STATEMENT of flyleaflaw17_StackPlaces: yours. -/
def flyleaflaw17_StackPlaces.Pure : Prop := ∀ (a0 : Int) (l1 : List Int), (Lit.int .i64 a0).wf = true → l1.length ≤ maxLen → l1.length * 8 ≤ 140737488351232 → (∀ x ∈ l1, (Lit.int .i64 x).wf = true) → ∃ k, flyleaflaw17_StackPlaces.f k a0 l1 = some true
theorem flyleaflaw17_StackPlaces.walk (P : flyleaflaw17_StackPlaces.Pure) (a0 : Int) (a1 : Option Addr) (len1 cap1 : Nat) (z1 : List Int) (w : World) (w0 : (Lit.int .i64 a0).wf = true) (w1 : (a1 = none ∧ len1 = 0 ∧ cap1 = 0 ∧ z1 = []) ∨ ∃ x, a1 = some x ∧ len1 ≤ cap1 ∧ cap1 ≤ maxLen ∧ z1.length = cap1 ∧ (∀ i, i < z1.length → w.cell? (x.add i) = some (.int .i64 (z1.getD i 0))) ∧ ∀ n ∈ z1, (Lit.int .i64 n).wf = true) (y1 : len1 * 8 ≤ 140737488351232) :
    Calls Try.prog 6 #[.int .i64 a0, .slice a1 len1 cap1] w fun e w' => e = .returned (.bool true) ∧ Below w.heap.size w w' := by
  obtain ⟨l1, rfl, hr1, hm1, hw1, hc1⟩ := ReadsInt.ofRowC w1
  obtain ⟨k, h⟩ := P a0 l1 w0 hm1 y1 hw1
  refine (flyleaflaw17_StackPlaces.calls k a0 _ _ l1 true w (Kd.C_of_reads (d := (0 : Int)) (h1 := fun _ => rfl) hr1) hc1 h).mono ?_
  rintro e w' ⟨rfl, hd⟩
  exact ⟨rfl, hd⟩

end Go.Proofs.Ytokilodeihocjaa.A
