-- Laid by pr.py, a program of this session, out of the translation. Not trusted: Lean checks it.
import Derived.Test.YtokilodeihocjaaBx0
import Derived.Test.YtokilodeihocjaaBxFlyleaflaw17Awake
import Derived.Test.YtokilodeihocjaaAxFlyleafref01Fill
import Derived.Test.YtokilodeihocjaaAxFlyleafref09SameTexts
import Derived.Test.YtokilodeihocjaaAxFlyleafref17Same
import Derived.Test.YtokilodeihocjaaAxStackSize
import Derived.Test.YtokilodeihocjaaBuild
import Derived.Test.YtokilodeihocjaaReadF
namespace Go.Proofs.Ytokilodeihocjaa.A
open Go.RowKit Go.Proofs.Ytokilodeihocjaa.H Go.Proofs.YtokilodeihocjaaW.PrintWords Go.Proofs.YtokilodeihocjaaW.PrintLast Go.Proofs.YtokilodeihocjaaW.PrintMore
attribute [local go_sem] max2_int min2_int max_two min_two max_three min_three max_four min_four   -- for this text's walks alone
set_option linter.unusedVariables false
set_option linter.unusedSimpArgs false

/-! ### flyleaflaw17_StackBack: function 7 -/
mutual
def flyleaflaw17_StackBack.l0 : Nat → List (S46) → List (S46) → Int → Bool → List ByteArray → List ByteArray → Int → Option (Bool)
  | 0, _, _, _, _, _, _, _ => none
  | k + 1, x0, x1, x2, x7, x8, x9, x11 => if x11 < (x0.length : Int) then (flyleaflaw17_StackBack.j1 k x0 x1 x2 x7 x8 x9 ([] : List (S48)) x11 (decide (x11 < 10))) else (flyleaflaw17_StackBack.j1 k x0 x1 x2 x7 x8 x9 ([] : List (S48)) x11 false)
def flyleaflaw17_StackBack.j1 : Nat → List (S46) → List (S46) → Int → Bool → List ByteArray → List ByteArray → List (S48) → Int → Bool → Option (Bool)
  | 0, _, _, _, _, _, _, _, _, _ => none
  | k + 1, x0, x1, x2, x7, x8, x9, x10, x11, x35 => if x35 = true then (if 0 ≤ x11 then (if x11 < (x0.length : Int) then (flyleaflaw17_StackBack.l1 k x0 x1 x2 x7 x8 x9 x11 (⟨#[]⟩ : ByteArray) (Go.bits .and .i64 ((rd_T46 x0 x11).f1) 4095)) else (none)) else (none)) else (flyleaflaw17_StackBack.l2 k x1 x2 x7 x8 x9 x10 0)
def flyleaflaw17_StackBack.l1 : Nat → List (S46) → List (S46) → Int → Bool → List ByteArray → List ByteArray → Int → ByteArray → Int → Option (Bool)
  | 0, _, _, _, _, _, _, _, _, _ => none
  | k + 1, x0, x1, x2, x7, x8, x9, x11, x12, x13 => if x13 > 0 then ((some (([(wrap64 (97 + (Int.tmod x13 8))) % 256] : List Int) : List Int)).bind fun y162 => (if x12.size + (strOfNums y162).size ≤ 9223372036854775807 then (flyleaflaw17_StackBack.l1 k x0 x1 x2 x7 x8 x9 x11 (x12 ++ (strOfNums y162)) (wrap64 (Int.tdiv x13 8))) else (none))) else (if 0 ≤ x11 then (if x11 < (x0.length : Int) then (if (Go.bits .and .i64 ((rd_T46 x0 x11).f0) 1) = 0 then (if x8.length < 8796093022208 then (flyleaflaw17_StackBack.l0 k x0 x1 x2 x7 (x8 ++ [x12]) x9 (wrap64 (x11 + 1))) else (none)) else (if x9.length < 8796093022208 then (flyleaflaw17_StackBack.l0 k x0 x1 x2 x7 x8 (x9 ++ [x12]) (wrap64 (x11 + 1))) else (none))) else (none)) else (none))
def flyleaflaw17_StackBack.j4 : Nat → Int → Bool → List ByteArray → List ByteArray → List (S48) → Option (Bool)
  | 0, _, _, _, _, _ => none
  | k + 1, x2, x7, x8, x9, x10 => (stack_Build.f (wrap64 (1024 + (wrap64 (16 * (Go.bits .and .i64 x2 4095))))) x8 x9 x10).bind fun bt177 => (if bt177.2.2 = 0 then (if (bt177.2.1.size : Int) = (wrap64 ((wrap64 (1024 + (wrap64 (16 * (Go.bits .and .i64 x2 4095))))) - bt177.1)) then (if (Int.tmod bt177.1 16) = 0 then ((stack_Size.f k x8 x9 x10).bind fun t180 => (flyleaflaw17_StackBack.j5 k x2 x7 x8 x9 x10 bt177.1 bt177.2.1 ((bt177.2.1.size : Int) != t180))) else (flyleaflaw17_StackBack.j5 k x2 x7 x8 x9 x10 bt177.1 bt177.2.1 true)) else (flyleaflaw17_StackBack.j5 k x2 x7 x8 x9 x10 bt177.1 bt177.2.1 true)) else (flyleaflaw17_StackBack.j5 k x2 x7 x8 x9 x10 bt177.1 bt177.2.1 true))
def flyleaflaw17_StackBack.j5 : Nat → Int → Bool → List ByteArray → List ByteArray → List (S48) → Int → ByteArray → Bool → Option (Bool)
  | 0, _, _, _, _, _, _, _, _ => none
  | k + 1, x2, x7, x8, x9, x10, x16, x17, x134 => if x134 = true then (some false) else ((flyleafref01_Fill.f (⟨#[]⟩ : ByteArray) (wrap64 (16 * (Go.bits .and .i64 (x2 / 4096) 15)))).bind fun t181 => (if t181.size + x17.size ≤ 9223372036854775807 then ((stack_Read.f (t181 ++ x17) (wrap64 (x16 - (wrap64 (16 * (Go.bits .and .i64 (x2 / 4096) 15))))) x16).bind fun bt182 => ((flyleafref09_SameTexts.f k bt182.1 x8).bind fun t192 => ((flyleafref09_SameTexts.f k bt182.2.1 x9).bind fun t193 => ((flyleafref17_Same.f k bt182.2.2.1 x10).bind fun t194 => (if x7 = true then (if bt182.2.2.2 = true then (if t192 = true then (if t193 = true then (some t194) else (some false)) else (some false)) else (some false)) else (some false)))))) else (none)))
def flyleaflaw17_StackBack.l2 : Nat → List (S46) → Int → Bool → List ByteArray → List ByteArray → List (S48) → Int → Option (Bool)
  | 0, _, _, _, _, _, _, _ => none
  | k + 1, x1, x2, x7, x8, x9, x10, x14 => if x14 < (x1.length : Int) then (if x14 < 8 then (if 0 ≤ x14 then (if x10.length < 8796093022208 then (flyleaflaw17_StackBack.l2 k x1 x2 x7 x8 x9 (x10 ++ [(⟨wrap64 (1 + (Go.bits .and .i64 ((rd_T46 x1 x14).f0) 1023)), Go.bits .and .i64 ((rd_T46 x1 x14).f1) 1099511627775⟩ : S48)]) (wrap64 (x14 + 1))) else (none)) else (none)) else (flyleaflaw17_StackBack.j4 k x2 x7 x8 x9 x10)) else (flyleaflaw17_StackBack.j4 k x2 x7 x8 x9 x10)
end
def flyleaflaw17_StackBack.f (k : Nat) (l0 : List (S46)) (l1 : List (S46)) (a2 : Int) : Option (Bool) := (flyleaflaw17_awake.f).bind fun t160 => (flyleaflaw17_StackBack.l0 k l0 l1 a2 t160 ([] : List ByteArray) ([] : List ByteArray) 0)
theorem flyleaflaw17_StackBack.mono_l : ∀ k, (∀ y0 y1 y2 y3 y4 y5 y6, LeO (flyleaflaw17_StackBack.l0 k y0 y1 y2 y3 y4 y5 y6) (flyleaflaw17_StackBack.l0 (k + 1) y0 y1 y2 y3 y4 y5 y6)) ∧ (∀ y0 y1 y2 y3 y4 y5 y6 y7 y8, LeO (flyleaflaw17_StackBack.j1 k y0 y1 y2 y3 y4 y5 y6 y7 y8) (flyleaflaw17_StackBack.j1 (k + 1) y0 y1 y2 y3 y4 y5 y6 y7 y8)) ∧ (∀ y0 y1 y2 y3 y4 y5 y6 y7 y8, LeO (flyleaflaw17_StackBack.l1 k y0 y1 y2 y3 y4 y5 y6 y7 y8) (flyleaflaw17_StackBack.l1 (k + 1) y0 y1 y2 y3 y4 y5 y6 y7 y8)) ∧ (∀ y0 y1 y2 y3 y4, LeO (flyleaflaw17_StackBack.j4 k y0 y1 y2 y3 y4) (flyleaflaw17_StackBack.j4 (k + 1) y0 y1 y2 y3 y4)) ∧ (∀ y0 y1 y2 y3 y4 y5 y6 y7, LeO (flyleaflaw17_StackBack.j5 k y0 y1 y2 y3 y4 y5 y6 y7) (flyleaflaw17_StackBack.j5 (k + 1) y0 y1 y2 y3 y4 y5 y6 y7)) ∧ (∀ y0 y1 y2 y3 y4 y5 y6, LeO (flyleaflaw17_StackBack.l2 k y0 y1 y2 y3 y4 y5 y6) (flyleaflaw17_StackBack.l2 (k + 1) y0 y1 y2 y3 y4 y5 y6))
  | 0 => ⟨fun _ _ _ _ _ _ _ r h => by simp [flyleaflaw17_StackBack.l0] at h, fun _ _ _ _ _ _ _ _ _ r h => by simp [flyleaflaw17_StackBack.j1] at h, fun _ _ _ _ _ _ _ _ _ r h => by simp [flyleaflaw17_StackBack.l1] at h, fun _ _ _ _ _ r h => by simp [flyleaflaw17_StackBack.j4] at h, fun _ _ _ _ _ _ _ _ r h => by simp [flyleaflaw17_StackBack.j5] at h, fun _ _ _ _ _ _ _ r h => by simp [flyleaflaw17_StackBack.l2] at h⟩
  | k + 1 => by
    obtain ⟨ih0, ih1, ih2, ih3, ih4, ih5⟩ := flyleaflaw17_StackBack.mono_l k
    refine ⟨?_, ?_, ?_, ?_, ?_, ?_⟩
    · intro y0 y1 y2 y3 y4 y5 y6
      unfold flyleaflaw17_StackBack.l0
      repeat' first
      | (with_reducible exact ih0 _ _ _ _ _ _ _)
      | (with_reducible exact ih1 _ _ _ _ _ _ _ _ _)
      | (with_reducible exact ih2 _ _ _ _ _ _ _ _ _)
      | (with_reducible exact ih3 _ _ _ _ _)
      | (with_reducible exact ih4 _ _ _ _ _ _ _ _)
      | (with_reducible exact ih5 _ _ _ _ _ _ _)
      | (with_reducible exact flyleafref09_SameTexts.mono _ _ _)
      | (with_reducible exact flyleafref17_Same.mono _ _ _)
      | (with_reducible exact stack_Size.mono _ _ _ _)
      | (with_reducible exact LeO.refl _)
      | (with_reducible exact LeO.none _)
      | (with_reducible refine LeO.ite ?_ ?_)
      | (with_reducible refine LeO.bind ?_ (fun _ => ?_))
      | exact ih0 _ _ _ _ _ _ _
      | exact ih1 _ _ _ _ _ _ _ _ _
      | exact ih2 _ _ _ _ _ _ _ _ _
      | exact ih3 _ _ _ _ _
      | exact ih4 _ _ _ _ _ _ _ _
      | exact ih5 _ _ _ _ _ _ _
      | exact flyleafref09_SameTexts.mono _ _ _
      | exact flyleafref17_Same.mono _ _ _
      | exact stack_Size.mono _ _ _ _
      | exact LeO.none _
      | refine LeO.ite ?_ ?_
      | refine LeO.bind ?_ (fun _ => ?_)
    · intro y0 y1 y2 y3 y4 y5 y6 y7 y8
      unfold flyleaflaw17_StackBack.j1
      repeat' first
      | (with_reducible exact ih0 _ _ _ _ _ _ _)
      | (with_reducible exact ih1 _ _ _ _ _ _ _ _ _)
      | (with_reducible exact ih2 _ _ _ _ _ _ _ _ _)
      | (with_reducible exact ih3 _ _ _ _ _)
      | (with_reducible exact ih4 _ _ _ _ _ _ _ _)
      | (with_reducible exact ih5 _ _ _ _ _ _ _)
      | (with_reducible exact flyleafref09_SameTexts.mono _ _ _)
      | (with_reducible exact flyleafref17_Same.mono _ _ _)
      | (with_reducible exact stack_Size.mono _ _ _ _)
      | (with_reducible exact LeO.refl _)
      | (with_reducible exact LeO.none _)
      | (with_reducible refine LeO.ite ?_ ?_)
      | (with_reducible refine LeO.bind ?_ (fun _ => ?_))
      | exact ih0 _ _ _ _ _ _ _
      | exact ih1 _ _ _ _ _ _ _ _ _
      | exact ih2 _ _ _ _ _ _ _ _ _
      | exact ih3 _ _ _ _ _
      | exact ih4 _ _ _ _ _ _ _ _
      | exact ih5 _ _ _ _ _ _ _
      | exact flyleafref09_SameTexts.mono _ _ _
      | exact flyleafref17_Same.mono _ _ _
      | exact stack_Size.mono _ _ _ _
      | exact LeO.none _
      | refine LeO.ite ?_ ?_
      | refine LeO.bind ?_ (fun _ => ?_)
    · intro y0 y1 y2 y3 y4 y5 y6 y7 y8
      unfold flyleaflaw17_StackBack.l1
      repeat' first
      | (with_reducible exact ih0 _ _ _ _ _ _ _)
      | (with_reducible exact ih1 _ _ _ _ _ _ _ _ _)
      | (with_reducible exact ih2 _ _ _ _ _ _ _ _ _)
      | (with_reducible exact ih3 _ _ _ _ _)
      | (with_reducible exact ih4 _ _ _ _ _ _ _ _)
      | (with_reducible exact ih5 _ _ _ _ _ _ _)
      | (with_reducible exact flyleafref09_SameTexts.mono _ _ _)
      | (with_reducible exact flyleafref17_Same.mono _ _ _)
      | (with_reducible exact stack_Size.mono _ _ _ _)
      | (with_reducible exact LeO.refl _)
      | (with_reducible exact LeO.none _)
      | (with_reducible refine LeO.ite ?_ ?_)
      | (with_reducible refine LeO.bind ?_ (fun _ => ?_))
      | exact ih0 _ _ _ _ _ _ _
      | exact ih1 _ _ _ _ _ _ _ _ _
      | exact ih2 _ _ _ _ _ _ _ _ _
      | exact ih3 _ _ _ _ _
      | exact ih4 _ _ _ _ _ _ _ _
      | exact ih5 _ _ _ _ _ _ _
      | exact flyleafref09_SameTexts.mono _ _ _
      | exact flyleafref17_Same.mono _ _ _
      | exact stack_Size.mono _ _ _ _
      | exact LeO.none _
      | refine LeO.ite ?_ ?_
      | refine LeO.bind ?_ (fun _ => ?_)
    · intro y0 y1 y2 y3 y4
      unfold flyleaflaw17_StackBack.j4
      repeat' first
      | (with_reducible exact ih0 _ _ _ _ _ _ _)
      | (with_reducible exact ih1 _ _ _ _ _ _ _ _ _)
      | (with_reducible exact ih2 _ _ _ _ _ _ _ _ _)
      | (with_reducible exact ih3 _ _ _ _ _)
      | (with_reducible exact ih4 _ _ _ _ _ _ _ _)
      | (with_reducible exact ih5 _ _ _ _ _ _ _)
      | (with_reducible exact flyleafref09_SameTexts.mono _ _ _)
      | (with_reducible exact flyleafref17_Same.mono _ _ _)
      | (with_reducible exact stack_Size.mono _ _ _ _)
      | (with_reducible exact LeO.refl _)
      | (with_reducible exact LeO.none _)
      | (with_reducible refine LeO.ite ?_ ?_)
      | (with_reducible refine LeO.bind ?_ (fun _ => ?_))
      | exact ih0 _ _ _ _ _ _ _
      | exact ih1 _ _ _ _ _ _ _ _ _
      | exact ih2 _ _ _ _ _ _ _ _ _
      | exact ih3 _ _ _ _ _
      | exact ih4 _ _ _ _ _ _ _ _
      | exact ih5 _ _ _ _ _ _ _
      | exact flyleafref09_SameTexts.mono _ _ _
      | exact flyleafref17_Same.mono _ _ _
      | exact stack_Size.mono _ _ _ _
      | exact LeO.none _
      | refine LeO.ite ?_ ?_
      | refine LeO.bind ?_ (fun _ => ?_)
    · intro y0 y1 y2 y3 y4 y5 y6 y7
      unfold flyleaflaw17_StackBack.j5
      repeat' first
      | (with_reducible exact ih0 _ _ _ _ _ _ _)
      | (with_reducible exact ih1 _ _ _ _ _ _ _ _ _)
      | (with_reducible exact ih2 _ _ _ _ _ _ _ _ _)
      | (with_reducible exact ih3 _ _ _ _ _)
      | (with_reducible exact ih4 _ _ _ _ _ _ _ _)
      | (with_reducible exact ih5 _ _ _ _ _ _ _)
      | (with_reducible exact flyleafref09_SameTexts.mono _ _ _)
      | (with_reducible exact flyleafref17_Same.mono _ _ _)
      | (with_reducible exact stack_Size.mono _ _ _ _)
      | (with_reducible exact LeO.refl _)
      | (with_reducible exact LeO.none _)
      | (with_reducible refine LeO.ite ?_ ?_)
      | (with_reducible refine LeO.bind ?_ (fun _ => ?_))
      | exact ih0 _ _ _ _ _ _ _
      | exact ih1 _ _ _ _ _ _ _ _ _
      | exact ih2 _ _ _ _ _ _ _ _ _
      | exact ih3 _ _ _ _ _
      | exact ih4 _ _ _ _ _ _ _ _
      | exact ih5 _ _ _ _ _ _ _
      | exact flyleafref09_SameTexts.mono _ _ _
      | exact flyleafref17_Same.mono _ _ _
      | exact stack_Size.mono _ _ _ _
      | exact LeO.none _
      | refine LeO.ite ?_ ?_
      | refine LeO.bind ?_ (fun _ => ?_)
    · intro y0 y1 y2 y3 y4 y5 y6
      unfold flyleaflaw17_StackBack.l2
      repeat' first
      | (with_reducible exact ih0 _ _ _ _ _ _ _)
      | (with_reducible exact ih1 _ _ _ _ _ _ _ _ _)
      | (with_reducible exact ih2 _ _ _ _ _ _ _ _ _)
      | (with_reducible exact ih3 _ _ _ _ _)
      | (with_reducible exact ih4 _ _ _ _ _ _ _ _)
      | (with_reducible exact ih5 _ _ _ _ _ _ _)
      | (with_reducible exact flyleafref09_SameTexts.mono _ _ _)
      | (with_reducible exact flyleafref17_Same.mono _ _ _)
      | (with_reducible exact stack_Size.mono _ _ _ _)
      | (with_reducible exact LeO.refl _)
      | (with_reducible exact LeO.none _)
      | (with_reducible refine LeO.ite ?_ ?_)
      | (with_reducible refine LeO.bind ?_ (fun _ => ?_))
      | exact ih0 _ _ _ _ _ _ _
      | exact ih1 _ _ _ _ _ _ _ _ _
      | exact ih2 _ _ _ _ _ _ _ _ _
      | exact ih3 _ _ _ _ _
      | exact ih4 _ _ _ _ _ _ _ _
      | exact ih5 _ _ _ _ _ _ _
      | exact flyleafref09_SameTexts.mono _ _ _
      | exact flyleafref17_Same.mono _ _ _
      | exact stack_Size.mono _ _ _ _
      | exact LeO.none _
      | refine LeO.ite ?_ ?_
      | refine LeO.bind ?_ (fun _ => ?_)
theorem flyleaflaw17_StackBack.mono : ∀ a0 a1 a2 k, LeO (flyleaflaw17_StackBack.f k a0 a1 a2) (flyleaflaw17_StackBack.f (k + 1) a0 a1 a2) := by
  intro a0 a1 a2 k
  obtain ⟨ih0, ih1, ih2, ih3, ih4, ih5⟩ := flyleaflaw17_StackBack.mono_l k
  unfold flyleaflaw17_StackBack.f
  repeat' first
      | (with_reducible exact ih0 _ _ _ _ _ _ _)
      | (with_reducible exact ih1 _ _ _ _ _ _ _ _ _)
      | (with_reducible exact ih2 _ _ _ _ _ _ _ _ _)
      | (with_reducible exact ih3 _ _ _ _ _)
      | (with_reducible exact ih4 _ _ _ _ _ _ _ _)
      | (with_reducible exact ih5 _ _ _ _ _ _ _)
      | (with_reducible exact flyleafref09_SameTexts.mono _ _ _)
      | (with_reducible exact flyleafref17_Same.mono _ _ _)
      | (with_reducible exact stack_Size.mono _ _ _ _)
      | (with_reducible exact LeO.refl _)
      | (with_reducible exact LeO.none _)
      | (with_reducible refine LeO.ite ?_ ?_)
      | (with_reducible refine LeO.bind ?_ (fun _ => ?_))
      | exact ih0 _ _ _ _ _ _ _
      | exact ih1 _ _ _ _ _ _ _ _ _
      | exact ih2 _ _ _ _ _ _ _ _ _
      | exact ih3 _ _ _ _ _
      | exact ih4 _ _ _ _ _ _ _ _
      | exact ih5 _ _ _ _ _ _ _
      | exact flyleafref09_SameTexts.mono _ _ _
      | exact flyleafref17_Same.mono _ _ _
      | exact stack_Size.mono _ _ _ _
      | exact LeO.none _
      | refine LeO.ite ?_ ?_
      | refine LeO.bind ?_ (fun _ => ?_)
def flyleaflaw17_StackBack.T19 : Bool × List (List Nat × List Nat) := (true, [([], []), ([], []), ([], []), ([1, 2], [1, 2]), ([3], [3]), ([4], [4]), ([5], [5]), ([6], [6]), ([], []), ([], []), ([8, 9], [8, 9]), ([10], [10]), ([11], [11]), ([12], [12]), ([7, 13], [7, 13]), ([14], [14]), ([0, 15], [0, 15]), ([16, 16, 0, 1, 2, 3, 4, 5, 6, 7, 8, 9, 10, 11, 12, 13, 14, 15, 16], [0, 16])])
def flyleaflaw17_StackBack.B19 : List Nat := [0, 0, 0, 6, 14, 30, 62, 126, 0, 0, 768, 1792, 3840, 7936, 16382, 32766, 65535, 131071]
theorem flyleaflaw17_StackBack.tab19 : rtab .any (opsOf Try.f7 19) = flyleaflaw17_StackBack.T19 := by kernel_rfl
theorem flyleaflaw17_StackBack.bits19 : waitsOk flyleaflaw17_StackBack.T19.2 flyleaflaw17_StackBack.B19 = true := by kernel_rfl
set_option maxHeartbeats 8000000 in
set_option maxRecDepth 100000 in
theorem flyleaflaw17_StackBack.calls (k : Nat) (A0 : Option Addr) (c0 : Nat) (l0 : List (S46)) (A1 : Option Addr) (c1 : Nat) (l1 : List (S46)) (a2 : Int) (r : Bool) (w : World) (hr0 : Kd.C k46 w A0 l0.length l0) (hc0 : l0.length ≤ c0) (hr1 : Kd.C k46 w A1 l1.length l1) (hc1 : l1.length ≤ c1) (h : flyleaflaw17_StackBack.f k l0 l1 a2 = some r) :
    Calls Try.prog 7 #[.slice A0 l0.length c0, .slice A1 l1.length c1, .int .i64 a2] w fun e w' => e = .returned (.bool r) ∧ Below w.heap.size w w' := by
  have hu48 := Try.underlying48
  have HR0 := Aside0.mk hr0
  have HC0 := Aside0.mk hc0
  clear hr0 hc0
  have HR1 := Aside0.mk hr1
  have HC1 := Aside0.mk hc1
  clear hr1 hc1
  have HB := Aside0.mk (Below.refl w.heap.size w)
  have H : ((flyleaflaw17_awake.f).bind fun t160 => (flyleaflaw17_StackBack.l0 k l0 l1 a2 t160 ([] : List ByteArray) ([] : List ByteArray) 0)) = some r := h
  clear h
  replace H := Option.bind_eq_some_iff.mp H
  obtain ⟨t160, A40, H⟩ := H
  replace H : (flyleaflaw17_StackBack.l0 k l0 l1 a2 t160 ([] : List ByteArray) ([] : List ByteArray) 0) = some r := H
  have A4 := Aside0.mk A40
  clear A40
  have H' := Aside0.mk H
  clear H
  go_enter Try.func7, Try.ntmps7
  go_wp2_with (first | ((with_reducible refine gate_callee (f := 8) rfl ?_); refine goesL_ (some 27) rfl rfl Try.func8 (by kernel_rfl) rfl #[] rfl (by (try simp only [List.map_toArray, List.map_cons, List.map_nil]); first | done | rfl | (simp only [List.length_drop, List.length_take]; rfl)) ?_; (with_reducible refine (flyleaflaw17_awake.calls  t160 _ A4.out).mono ?_); rintro e w5 ⟨rfl, hb⟩; refine ⟨_, rfl, ?_⟩; have n0_ := Aside0.mk (below_step (by repeat (first | (with_reducible first | exact HB.out | apply below_alloc | apply pw_below_drewN | apply below_drew1) | exact HB.out)) hb); clear HB; have HB := n0_; clear n0_; (try clear hb); (try clear hb2); (try clear hk); (try clear hi)))
  go_loopg [8, 9, 11] k (fun kq v8 v9 v11 w' => ∃ (x8_1 : List ByteArray) (x9_1 : List ByteArray) (x11_1 : Int), v11 = .int .i64 x11_1 ∧ Aside0 (flyleaflaw17_StackBack.l0 kq l0 l1 a2 t160 x8_1 x9_1 x11_1 = some r) ∧ Aside0 (kq ≤ k) ∧ Aside0 (Kd.R Kd.string 9 w' w.heap.size (fun k_ => some k_ ≠ (v9 : Value).ownBlock) v8 x8_1) ∧ Aside0 (Kd.R Kd.string 9 w' w.heap.size (fun k_ => some k_ ≠ (v8 : Value).ownBlock) v9 x9_1) ∧ Aside0 (Below w.heap.size w w'))
  case atStart => exact ⟨(([] : List ByteArray)), (([] : List ByteArray)), (0), (by first | rfl | (simp; done) | (simp [*]; done)), H', ⟨Nat.le_refl _⟩, ⟨by first | exact Kd.R_nil _ _ _ _ _ | exact Kd.N_nil _ _ _ _ _ | exact Kd.V_nil _ _ _ _ _ | exact Kd.Q_nil _ _ _ _ _ | exact Kd.S_nil _ _ _ _ _⟩, ⟨by first | exact Kd.R_nil _ _ _ _ _ | exact Kd.N_nil _ _ _ _ _ | exact Kd.V_nil _ _ _ _ _ | exact Kd.Q_nil _ _ _ _ _ | exact Kd.S_nil _ _ _ _ _⟩, ⟨by repeat (first | (with_reducible first | exact HB.out | apply below_alloc | apply pw_below_drewN | apply below_drew1) | exact HB.out)⟩⟩
  case round =>
    clear H'
    try clear c1
    try clear p2
    obtain ⟨x8_1, x9_1, x11_1, rfl, HA, HK1, HO_8, HO_9, HB⟩ := hrel
    cases gk with
    | zero => exact absurd HA.out (by simp [flyleaflaw17_StackBack.l0])
    | succ k1 =>
      have H := HA.out
      clear HA
      simp only [flyleaflaw17_StackBack.l0] at H
      have HC6 := Aside0.mk H
      clear H
      go_upto_region 6 with (fail)
      go_cut [35] (fun v35 wc => ∃ (kq : Nat) (x35_5 : Bool), v35 = .bool x35_5 ∧ Aside0 (flyleaflaw17_StackBack.j1 kq l0 l1 a2 t160 x8_1 x9_1 ([] : List (S48)) x11_1 x35_5 = some r) ∧ Aside0 (kq ≤ k1) ∧ Aside0 (Kd.R Kd.string 9 wc w.heap.size (fun k_ => some k_ ≠ (u9 : Value).ownBlock) u8 x8_1) ∧ Aside0 (Kd.R Kd.string 9 wc w.heap.size (fun k_ => some k_ ≠ (u8 : Value).ownBlock) u9 x9_1) ∧ Aside0 (Kd.R k48 48 wc w.heap.size (fun _ => True) (.slice none 0 0) ([] : List (S48))) ∧ Aside0 (Below w.heap.size w wc))
      case first =>
        have H := HC6.out
        clear HC6
        by_cases c7 : x11_1 < (l0.length : Int)
        · rw [if_pos c7] at H
          have c7b0 : decide (x11_1 < (l0.length : Int)) = true := decide_eq_true c7
          clear c7
          (first | rw [c7b0] | (simp only [i64_w, i32_w]; rw [c7b0]) | skip)
          have H' := Aside0.mk H
          clear H
          go_wp2
          go_meet
          case rel => exact ⟨_, (decide (x11_1 < 10)), (by first | rfl | (simp; done) | (simp [*]; done)), H', ⟨by have := HK1.out; first | omega | exact Nat.le_refl _⟩, ⟨by (with_reducible repeat (first | apply Kd.R_alloc | apply Kd.R_drewN | apply Kd.R_drew)); exact HO_8.out⟩, ⟨by (with_reducible repeat (first | apply Kd.R_alloc | apply Kd.R_drewN | apply Kd.R_drew)); exact HO_9.out⟩, ⟨by first | exact Kd.R_nil _ _ _ _ _ | exact Kd.N_nil _ _ _ _ _ | exact Kd.V_nil _ _ _ _ _ | exact Kd.Q_nil _ _ _ _ _ | exact Kd.S_nil _ _ _ _ _⟩, ⟨by repeat (first | (with_reducible first | exact HB.out | apply below_alloc | apply pw_below_drewN | apply below_drew1) | exact HB.out)⟩⟩
        · rw [if_neg c7] at H
          have c7b0 : decide (x11_1 < (l0.length : Int)) = false := decide_eq_false c7
          clear c7
          (first | rw [c7b0] | (simp only [i64_w, i32_w]; rw [c7b0]) | skip)
          have H' := Aside0.mk H
          clear H
          go_wp2
          go_meet
          case rel => exact ⟨_, (false), (by first | rfl | (simp; done) | (simp [*]; done)), H', ⟨by have := HK1.out; first | omega | exact Nat.le_refl _⟩, ⟨by (with_reducible repeat (first | apply Kd.R_alloc | apply Kd.R_drewN | apply Kd.R_drew)); exact HO_8.out⟩, ⟨by (with_reducible repeat (first | apply Kd.R_alloc | apply Kd.R_drewN | apply Kd.R_drew)); exact HO_9.out⟩, ⟨by first | exact Kd.R_nil _ _ _ _ _ | exact Kd.N_nil _ _ _ _ _ | exact Kd.V_nil _ _ _ _ _ | exact Kd.Q_nil _ _ _ _ _ | exact Kd.S_nil _ _ _ _ _⟩, ⟨by repeat (first | (with_reducible first | exact HB.out | apply below_alloc | apply pw_below_drewN | apply below_drew1) | exact HB.out)⟩⟩
      case rest =>
        clear HC6
        try clear c1
        try clear p2
        try clear c7
        try clear c7b0
        try clear p2
        obtain ⟨kq, x35_5, rfl, HA, HJ5, HO_8, HO_9, HO_10, HB⟩ := hcut
        cases kq with
        | zero => exact absurd HA.out (by simp [flyleaflaw17_StackBack.j1])
        | succ kj5 =>
          have H := HA.out
          clear HA
          simp only [flyleaflaw17_StackBack.j1] at H
          by_cases c8 : x35_5 = true
          · subst c8
            have H1 : (if 0 ≤ x11_1 then (if x11_1 < (l0.length : Int) then (flyleaflaw17_StackBack.l1 kj5 l0 l1 a2 t160 x8_1 x9_1 x11_1 (⟨#[]⟩ : ByteArray) (Go.bits .and .i64 ((rd_T46 l0 x11_1).f1) 4095)) else (none)) else (none)) = some r := by rw [if_pos rfl] at H; exact H
            clear H
            have H := H1
            clear H1
            by_cases c9 : 0 ≤ x11_1
            · rw [if_pos c9] at H
              have c9b0 : decide (0 ≤ x11_1) = true := decide_eq_true c9
              clear c9
              by_cases c10 : x11_1 < (l0.length : Int)
              · rw [if_pos c10] at H
                have c10b0 : decide (x11_1 < (l0.length : Int)) = true := decide_eq_true c10
                clear c10
                have H' := Aside0.mk H
                clear H
                have p161 : 0 ≤ (x11_1 : Int) := of_decide_eq_true (by first | (with_reducible assumption) | assumption)
                have q161 : x11_1 < (l0.length : Int) := of_decide_eq_true (by first | (with_reducible assumption) | assumption)
                obtain ⟨ad161, e161, hx161_0, hx161_1⟩ := at_T46 HR0.out x11_1 p161 q161
                cases e161
                replace hx161_0 := (HB.out.cell (World.block_lt_of_cell? w _ hx161_0)).trans hx161_0
                replace hx161_1 := (HB.out.cell (World.block_lt_of_cell? w _ hx161_1)).trans hx161_1
                replace p161 := eq_true p161
                replace q161 := eq_true q161
                go_wp2
                go_loopg [12, 13] kj5 (fun kq v12 v13 w' => ∃ (x12_3 : ByteArray) (x13_3 : Int), v12 = .string x12_3 ∧ v13 = .int .i64 x13_3 ∧ Aside0 (flyleaflaw17_StackBack.l1 kq l0 l1 a2 t160 x8_1 x9_1 x11_1 x12_3 x13_3 = some r) ∧ Aside0 (kq ≤ kj5) ∧ Aside0 (Kd.R Kd.string 9 w' w.heap.size (fun k_ => some k_ ≠ (u9 : Value).ownBlock) u8 x8_1) ∧ Aside0 (Kd.R Kd.string 9 w' w.heap.size (fun k_ => some k_ ≠ (u8 : Value).ownBlock) u9 x9_1) ∧ Aside0 (Below w.heap.size w w'))
                case atStart => exact ⟨((⟨#[]⟩ : ByteArray)), (Go.bits .and .i64 ((rd_T46 l0 x11_1).f1) 4095), (by first | rfl | (simp; done) | (simp [*]; done)), (by first | rfl | (simp; done) | (simp [*]; done)), H', ⟨Nat.le_refl _⟩, ⟨by (with_reducible repeat (first | apply Kd.R_alloc | apply Kd.R_drewN | apply Kd.R_drew)); exact HO_8.out⟩, ⟨by (with_reducible repeat (first | apply Kd.R_alloc | apply Kd.R_drewN | apply Kd.R_drew)); exact HO_9.out⟩, ⟨by repeat (first | (with_reducible first | exact HB.out | apply below_alloc | apply pw_below_drewN | apply below_drew1) | exact HB.out)⟩⟩
                case round =>
                  clear H'
                  try clear c1
                  try clear p1
                  try clear q1
                  try clear hx1
                  try clear p2
                  try clear c7
                  try clear c7b0
                  try clear c8
                  try clear c9
                  try clear c9b0
                  try clear c10
                  try clear c10b0
                  try clear hx161_0
                  try clear hx161_1
                  try clear p161
                  try clear p2
                  try clear q161
                  obtain ⟨x12_3, x13_3, rfl, rfl, HA, HK3, HO_8, HO_9, HB⟩ := hrel
                  cases gk with
                  | zero => exact absurd HA.out (by simp [flyleaflaw17_StackBack.l1])
                  | succ k3 =>
                    have H := HA.out
                    clear HA
                    simp only [flyleaflaw17_StackBack.l1] at H
                    by_cases c11 : x13_3 > 0
                    · rw [if_pos c11] at H
                      have c11b0 : decide (0 < x13_3) = true := decide_eq_true c11
                      clear c11
                      obtain ⟨y162, hy162⟩ : ∃ y_ : List Int, y_ = (([(wrap64 (97 + (Int.tmod x13_3 8))) % 256] : List Int)) := ⟨_, rfl⟩
                      replace H : (if x12_3.size + (strOfNums y162).size ≤ 9223372036854775807 then (flyleaflaw17_StackBack.l1 k3 l0 l1 a2 t160 x8_1 x9_1 x11_1 (x12_3 ++ (strOfNums y162)) (wrap64 (Int.tdiv x13_3 8))) else (none)) = some r := by first | (rw [hy162]; with_reducible exact H) | (have H2_ := (Option.bind_some _ _).symm.trans H; rw [hy162]; with_reducible exact H2_) | (have H2_ := (Option.bind_some _ _).symm.trans H; with_reducible exact H2_) | with_reducible exact H | (rw [hy162]; exact H) | exact H
                      have Ny162 := Aside0.mk hy162
                      clear hy162
                      by_cases c12 : x12_3.size + (strOfNums y162).size ≤ 9223372036854775807
                      · rw [if_pos c12] at H
                        have c12b0 := eq_true c12
                        have c12b1 : decide (x12_3.size + (strOfNums y162).size ≤ 9223372036854775807) = true := decide_eq_true c12
                        try have c12b2 : (9223372036854775807 < x12_3.size + (strOfNums y162).size) = False := eq_false (Nat.not_lt.2 c12)
                        have H' := Aside0.mk H
                        clear H
                        go_wp2_with (first | ((with_reducible refine gate_dst (N := 53) rfl ?_); (try (refine gate_guard (by rfl) ?_; dsimp only)); refine Kd.R_lit (Kd.int .u8) _ 5 ?hg (N := 53) ?hd (xs := ([(wrap64 (97 + (Int.tmod x13_3 8))) % 256] : List Int)) (inner := [.int .u8 ((wrap64 (97 + (Int.tmod x13_3 8))) % 256)]) (ok := fun _ => True) (okp := fun _ => True) ?hr ?hp (fun _ hk => hk) trivial (Below.refl _ _) (Nat.le_refl _) (by simp) ?_; (case hd => rfl); (case hg => rfl); (case hr => first | (go_simp; done) | (go_simp; rfl)); (case hp => exact (Reps.one (show Kd.M (Kd.int .u8) _ _ _ ((wrap64 (97 + (Int.tmod x13_3 8))) % 256) [.int .u8 ((wrap64 (97 + (Int.tmod x13_3 8))) % 256)] from rfl) (Reps.none _ _))); intro v163 w13 ho14 hb hg_ hnew_; clear hg_ hnew_; (first | rw [← Ny162.out] at ho14 | (simp only [Int.reduceToNat] at ho14; rw [← Ny162.out] at ho14)); have n0_ := Aside0.mk (Kd.R_below (by (with_reducible repeat (first | apply Kd.R_alloc | apply Kd.R_drewN | apply Kd.R_drew)); exact HO_8.out) hb); have n1_ := Aside0.mk (Kd.R_below (by (with_reducible repeat (first | apply Kd.R_alloc | apply Kd.R_drewN | apply Kd.R_drew)); exact HO_9.out) hb); have n2_ := Aside0.mk (Kd.R_lower ho14 (below_size (by repeat (first | (with_reducible first | exact HB.out | apply below_alloc | apply pw_below_drewN | apply below_drew1) | exact HB.out)))); have n3_ := Aside0.mk (below_step (by repeat (first | (with_reducible first | exact HB.out | apply below_alloc | apply pw_below_drewN | apply below_drew1) | exact HB.out)) hb); clear HO_8; clear HO_9; clear HB; have HO_8 := n0_; have HO_9 := n1_; have HO164 := n2_; have HB := n3_; clear n0_ n1_ n2_ n3_; clear hb ho14; have hcv15 := own_string (P := Try.prog) Try.underlying37 Try.underlying5 Try.underlying9 (Kd.own_of_R HO164.out)))
                        go_roundg k3
                        case measure => have := HK1.out; have := HJ5.out; have := HK3.out; omega
                        case rel => exact ⟨(x12_3 ++ (strOfNums y162)), (wrap64 (Int.tdiv x13_3 8)), (by first | rfl | (simp; done) | (simp [*]; done)), (by first | rfl | (simp; done) | (simp [*]; done)), H', ⟨by have := HK1.out; have := HJ5.out; have := HK3.out; omega⟩, ⟨by (with_reducible repeat (first | apply Kd.R_alloc | apply Kd.R_drewN | apply Kd.R_drew)); exact HO_8.out⟩, ⟨by (with_reducible repeat (first | apply Kd.R_alloc | apply Kd.R_drewN | apply Kd.R_drew)); exact HO_9.out⟩, ⟨by repeat (first | (with_reducible first | exact HB.out | apply below_alloc | apply pw_below_drewN | apply below_drew1) | exact HB.out)⟩⟩
                      · rw [if_neg c12] at H
                        exact absurd H (by simp)
                    · rw [if_neg c11] at H
                      have c11b0 : decide (0 < x13_3) = false := decide_eq_false c11
                      clear c11
                      by_cases c16 : 0 ≤ x11_1
                      · rw [if_pos c16] at H
                        have c16b0 : decide (0 ≤ x11_1) = true := decide_eq_true c16
                        clear c16
                        by_cases c17 : x11_1 < (l0.length : Int)
                        · rw [if_pos c17] at H
                          have c17b0 : decide (x11_1 < (l0.length : Int)) = true := decide_eq_true c17
                          clear c17
                          by_cases c18 : (Go.bits .and .i64 ((rd_T46 l0 x11_1).f0) 1) = 0
                          · rw [if_pos c18] at H
                            have c18b0 : ((Go.bits .and .i64 ((rd_T46 l0 x11_1).f0) 1) == 0) = true := beq_iff_eq.mpr c18
                            have c18b1 : ((Go.bits .and .i64 ((rd_T46 l0 x11_1).f0) 1) != 0) = false := bne_eq_false_iff_eq.mpr c18
                            clear c18
                            by_cases c19 : x8_1.length < 8796093022208
                            · rw [if_pos c19] at H
                              have LMc19 := Aside0.mk c19
                              clear c19
                              obtain ⟨y166, hy166⟩ : ∃ y_ : List ByteArray, y_ = (x8_1 ++ [x12_3]) := ⟨_, rfl⟩
                              replace H : (flyleaflaw17_StackBack.l0 k3 l0 l1 a2 t160 y166 x9_1 (wrap64 (x11_1 + 1))) = some r := by first | (rw [hy166]; with_reducible exact H) | (have H2_ := (Option.bind_some _ _).symm.trans H; rw [hy166]; with_reducible exact H2_) | (have H2_ := (Option.bind_some _ _).symm.trans H; with_reducible exact H2_) | with_reducible exact H | (rw [hy166]; exact H) | exact H
                              have Ny166 := Aside0.mk hy166
                              clear hy166
                              have H' := Aside0.mk H
                              clear H
                              have p165 : 0 ≤ (x11_1 : Int) := of_decide_eq_true (by first | (with_reducible assumption) | assumption)
                              have q165 : x11_1 < (l0.length : Int) := of_decide_eq_true (by first | (with_reducible assumption) | assumption)
                              obtain ⟨ad165, e165, hx165_0, hx165_1⟩ := at_T46 HR0.out x11_1 p165 q165
                              obtain rfl : ad161 = ad165 := (by injection e165)
                              replace hx165_0 := (HB.out.cell (World.block_lt_of_cell? w _ hx165_0)).trans hx165_0
                              replace hx165_1 := (HB.out.cell (World.block_lt_of_cell? w _ hx165_1)).trans hx165_1
                              replace p165 := eq_true p165
                              replace q165 := eq_true q165
                              go_wp2_with (first | ((with_reducible refine gate_builtin (b := .append) (xs := #[.tmp 63, .tmp 65]) rfl ?_); (try (refine gate_guard (by rfl) ?_; dsimp only)); at_builtin; refine Kd.R_append Kd.string (w0 := w) w.heap.size rfl (.tmp 63) (.tmp 65) 22 9 (.string ⟨#[]⟩) 16 rfl Try.underlying22 info9 rfl (by decide) (by omega) u8 x8_1 x12_3 [.string x12_3] (fun k_ => some k_ ≠ (u9 : Value).ownBlock) (fun _ => False) rfl rfl ?aP (fun _ hk => hk.elim) ?aF ?aO ?aB ?aS ?aL ?_; (case aP => exact rfl); (case aB => exact (by repeat (first | (with_reducible first | exact HB.out | apply below_alloc | apply pw_below_drewN | apply below_drew1) | exact HB.out))); (case aF => exact (fun k_ hk => Kd.fresh' (Kd.R_lt (by (with_reducible repeat (first | apply Kd.R_alloc | apply Kd.R_drewN | apply Kd.R_drew)); exact HO_9.out)) k_ hk)); (case aO => exact (by (with_reducible repeat (first | apply Kd.R_alloc | apply Kd.R_drewN | apply Kd.R_drew)); exact HO_8.out)); (case aS => exact (below_size (by repeat (first | (with_reducible first | exact HB.out | apply below_alloc | apply pw_below_drewN | apply below_drew1) | exact HB.out)))); (case aL => have := LMc19.out; omega); intro v167 w20 ho hb hg hat; rw [← Ny166.out] at ho; have n0_ := Aside0.mk (Kd.R_after (ok := (fun _ => True)) (by (with_reducible repeat (first | apply Kd.R_alloc | apply Kd.R_drewN | apply Kd.R_drew)); exact Kd.R_mono HO_9.out (fun _ hk => ⟨trivial, hk⟩)) hg hat); have n1_ := Aside0.mk (hb); have n2_ := Aside0.mk (ho); clear HO_9; clear HB; clear HO_8; have HO_9 := n0_; have HB := n1_; have HO168 := n2_; clear n0_ n1_ n2_; clear ho hb hg hat))
                              go_roundg k3
                              case measure => have := HK1.out; have := HJ5.out; have := HK3.out; omega
                              case rel => exact ⟨(y166), (x9_1), (wrap64 (x11_1 + 1)), (by first | rfl | (simp; done) | (simp [*]; done)), H', ⟨by have := HK1.out; have := HJ5.out; have := HK3.out; omega⟩, ⟨by (with_reducible repeat (first | apply Kd.R_alloc | apply Kd.R_drewN | apply Kd.R_drew)); exact HO168.out⟩, ⟨by (with_reducible repeat (first | apply Kd.R_alloc | apply Kd.R_drewN | apply Kd.R_drew)); exact Kd.R_mono HO_9.out (fun _ hk => hk.2)⟩, ⟨by repeat (first | (with_reducible first | exact HB.out | apply below_alloc | apply pw_below_drewN | apply below_drew1) | exact HB.out)⟩⟩
                            · rw [if_neg c19] at H
                              exact absurd H (by simp)
                          · rw [if_neg c18] at H
                            have c18b0 : ((Go.bits .and .i64 ((rd_T46 l0 x11_1).f0) 1) == 0) = false := beq_eq_false_iff_ne.mpr c18
                            have c18b1 : ((Go.bits .and .i64 ((rd_T46 l0 x11_1).f0) 1) != 0) = true := bne_iff_ne.mpr c18
                            by_cases c21 : x9_1.length < 8796093022208
                            · rw [if_pos c21] at H
                              have LMc21 := Aside0.mk c21
                              clear c21
                              obtain ⟨y169, hy169⟩ : ∃ y_ : List ByteArray, y_ = (x9_1 ++ [x12_3]) := ⟨_, rfl⟩
                              replace H : (flyleaflaw17_StackBack.l0 k3 l0 l1 a2 t160 x8_1 y169 (wrap64 (x11_1 + 1))) = some r := by first | (rw [hy169]; with_reducible exact H) | (have H2_ := (Option.bind_some _ _).symm.trans H; rw [hy169]; with_reducible exact H2_) | (have H2_ := (Option.bind_some _ _).symm.trans H; with_reducible exact H2_) | with_reducible exact H | (rw [hy169]; exact H) | exact H
                              have Ny169 := Aside0.mk hy169
                              clear hy169
                              have H' := Aside0.mk H
                              clear H
                              have p165 : 0 ≤ (x11_1 : Int) := of_decide_eq_true (by first | (with_reducible assumption) | assumption)
                              have q165 : x11_1 < (l0.length : Int) := of_decide_eq_true (by first | (with_reducible assumption) | assumption)
                              obtain ⟨ad165, e165, hx165_0, hx165_1⟩ := at_T46 HR0.out x11_1 p165 q165
                              obtain rfl : ad161 = ad165 := (by injection e165)
                              replace hx165_0 := (HB.out.cell (World.block_lt_of_cell? w _ hx165_0)).trans hx165_0
                              replace hx165_1 := (HB.out.cell (World.block_lt_of_cell? w _ hx165_1)).trans hx165_1
                              replace p165 := eq_true p165
                              replace q165 := eq_true q165
                              go_wp2_with (first | ((with_reducible refine gate_builtin (b := .append) (xs := #[.tmp 67, .tmp 69]) rfl ?_); (try (refine gate_guard (by rfl) ?_; dsimp only)); at_builtin; refine Kd.R_append Kd.string (w0 := w) w.heap.size rfl (.tmp 67) (.tmp 69) 22 9 (.string ⟨#[]⟩) 16 rfl Try.underlying22 info9 rfl (by decide) (by omega) u9 x9_1 x12_3 [.string x12_3] (fun k_ => some k_ ≠ (u8 : Value).ownBlock) (fun _ => False) rfl rfl ?aP (fun _ hk => hk.elim) ?aF ?aO ?aB ?aS ?aL ?_; (case aP => exact rfl); (case aB => exact (by repeat (first | (with_reducible first | exact HB.out | apply below_alloc | apply pw_below_drewN | apply below_drew1) | exact HB.out))); (case aF => exact (fun k_ hk => Kd.fresh' (Kd.R_lt (by (with_reducible repeat (first | apply Kd.R_alloc | apply Kd.R_drewN | apply Kd.R_drew)); exact HO_8.out)) k_ hk)); (case aO => exact (by (with_reducible repeat (first | apply Kd.R_alloc | apply Kd.R_drewN | apply Kd.R_drew)); exact HO_9.out)); (case aS => exact (below_size (by repeat (first | (with_reducible first | exact HB.out | apply below_alloc | apply pw_below_drewN | apply below_drew1) | exact HB.out)))); (case aL => have := LMc21.out; omega); intro v170 w22 ho hb hg hat; rw [← Ny169.out] at ho; have n0_ := Aside0.mk (Kd.R_after (ok := (fun _ => True)) (by (with_reducible repeat (first | apply Kd.R_alloc | apply Kd.R_drewN | apply Kd.R_drew)); exact Kd.R_mono HO_8.out (fun _ hk => ⟨trivial, hk⟩)) hg hat); have n1_ := Aside0.mk (hb); have n2_ := Aside0.mk (ho); clear HO_8; clear HB; clear HO_9; have HO_8 := n0_; have HB := n1_; have HO171 := n2_; clear n0_ n1_ n2_; clear ho hb hg hat))
                              go_roundg k3
                              case measure => have := HK1.out; have := HJ5.out; have := HK3.out; omega
                              case rel => exact ⟨(x8_1), (y169), (wrap64 (x11_1 + 1)), (by first | rfl | (simp; done) | (simp [*]; done)), H', ⟨by have := HK1.out; have := HJ5.out; have := HK3.out; omega⟩, ⟨by (with_reducible repeat (first | apply Kd.R_alloc | apply Kd.R_drewN | apply Kd.R_drew)); exact Kd.R_mono HO_8.out (fun _ hk => hk.2)⟩, ⟨by (with_reducible repeat (first | apply Kd.R_alloc | apply Kd.R_drewN | apply Kd.R_drew)); exact HO171.out⟩, ⟨by repeat (first | (with_reducible first | exact HB.out | apply below_alloc | apply pw_below_drewN | apply below_drew1) | exact HB.out)⟩⟩
                            · rw [if_neg c21] at H
                              exact absurd H (by simp)
                        · rw [if_neg c17] at H
                          exact absurd H (by simp)
                      · rw [if_neg c16] at H
                        exact absurd H (by simp)
              · rw [if_neg c10] at H
                exact absurd H (by simp)
            · rw [if_neg c9] at H
              exact absurd H (by simp)
          · replace c8 := Bool.eq_false_iff.mpr c8
            subst c8
            have H1 : (flyleaflaw17_StackBack.l2 kj5 l1 a2 t160 x8_1 x9_1 ([] : List (S48)) 0) = some r := by rw [if_neg (show ¬ (false = true) by decide)] at H; exact H
            clear H
            have H := H1
            clear H1
            have HC23 := Aside0.mk H
            clear H
            go_upto_block 4 with (fail)
            go_cut [10] (fun v10 wc => ∃ (kq : Nat) (x10_22 : List (S48)), Aside0 (flyleaflaw17_StackBack.j4 kq a2 t160 x8_1 x9_1 x10_22 = some r) ∧ Aside0 (kq ≤ kj5) ∧ Aside0 (Kd.R Kd.string 9 wc w.heap.size (fun k_ => some k_ ≠ (u9 : Value).ownBlock) u8 x8_1) ∧ Aside0 (Kd.R Kd.string 9 wc w.heap.size (fun k_ => some k_ ≠ (u8 : Value).ownBlock) u9 x9_1) ∧ Aside0 (Kd.R k48 48 wc w.heap.size (fun _ => True) v10 x10_22) ∧ Aside0 (Below w.heap.size w wc))
            case first =>
              have H := HC23.out
              clear HC23
              have H' := Aside0.mk H
              clear H
              go_wp2
              go_loopg [10, 14] kj5 (fun kq v10 v14 w' => ∃ (x10_3 : List (S48)) (x14_3 : Int), v14 = .int .i64 x14_3 ∧ Aside0 (flyleaflaw17_StackBack.l2 kq l1 a2 t160 x8_1 x9_1 x10_3 x14_3 = some r) ∧ Aside0 (kq ≤ kj5) ∧ Aside0 (Kd.R Kd.string 9 w' w.heap.size (fun k_ => some k_ ≠ (u9 : Value).ownBlock) u8 x8_1) ∧ Aside0 (Kd.R Kd.string 9 w' w.heap.size (fun k_ => some k_ ≠ (u8 : Value).ownBlock) u9 x9_1) ∧ Aside0 (Kd.R k48 48 w' w.heap.size (fun _ => True) v10 x10_3) ∧ Aside0 (Below w.heap.size w w'))
              case atStart => exact ⟨(([] : List (S48))), (0), (by first | rfl | (simp; done) | (simp [*]; done)), H', ⟨Nat.le_refl _⟩, ⟨by (with_reducible repeat (first | apply Kd.R_alloc | apply Kd.R_drewN | apply Kd.R_drew)); exact HO_8.out⟩, ⟨by (with_reducible repeat (first | apply Kd.R_alloc | apply Kd.R_drewN | apply Kd.R_drew)); exact HO_9.out⟩, ⟨by (with_reducible repeat (first | apply Kd.R_alloc | apply Kd.R_drewN | apply Kd.R_drew)); exact HO_10.out⟩, ⟨by repeat (first | (with_reducible first | exact HB.out | apply below_alloc | apply pw_below_drewN | apply below_drew1) | exact HB.out)⟩⟩
              case round =>
                clear H'
                try clear c1
                try clear p1
                try clear q1
                try clear hx1
                try clear hcv1
                try clear c2
                try clear p2
                try clear p6
                try clear c7
                try clear c7b0
                try clear c8
                try clear c9
                try clear c9b0
                try clear c10
                try clear c10b0
                try clear c11
                try clear c11b0
                try clear c12
                try clear c12b0
                try clear c12b1
                try clear c12b2
                try clear hcv15
                try clear c16
                try clear c16b0
                try clear p16
                try clear q16
                try clear hx16
                try clear c17
                try clear c17b0
                try clear c18
                try clear c18b0
                try clear c18b1
                try clear c19
                try clear c21
                try clear hx161_0
                try clear hx161_1
                try clear hx165_0
                try clear hx165_1
                try clear p1
                try clear p161
                try clear p165
                try clear p2
                try clear q1
                try clear q161
                try clear q165
                obtain ⟨x10_3, x14_3, rfl, HA, HK3, HO_8, HO_9, HO_10, HB⟩ := hrel
                cases gk with
                | zero => exact absurd HA.out (by simp [flyleaflaw17_StackBack.l2])
                | succ k3 =>
                  have H := HA.out
                  clear HA
                  simp only [flyleaflaw17_StackBack.l2] at H
                  by_cases c24 : x14_3 < (l1.length : Int)
                  · rw [if_pos c24] at H
                    have c24b0 : decide (x14_3 < (l1.length : Int)) = true := decide_eq_true c24
                    clear c24
                    (first | rw [c24b0] | (simp only [i64_w, i32_w]; rw [c24b0]) | skip)
                    by_cases c25 : x14_3 < 8
                    · rw [if_pos c25] at H
                      have c25b0 : decide (x14_3 < 8) = true := decide_eq_true c25
                      clear c25
                      by_cases c26 : 0 ≤ x14_3
                      · rw [if_pos c26] at H
                        have c26b0 : decide (0 ≤ x14_3) = true := decide_eq_true c26
                        clear c26
                        by_cases c27 : x10_3.length < 8796093022208
                        · rw [if_pos c27] at H
                          have LMc27 := Aside0.mk c27
                          clear c27
                          obtain ⟨y174, hy174⟩ : ∃ y_ : List (S48), y_ = (x10_3 ++ [(⟨wrap64 (1 + (Go.bits .and .i64 ((rd_T46 l1 x14_3).f0) 1023)), Go.bits .and .i64 ((rd_T46 l1 x14_3).f1) 1099511627775⟩ : S48)]) := ⟨_, rfl⟩
                          replace H : (flyleaflaw17_StackBack.l2 k3 l1 a2 t160 x8_1 x9_1 y174 (wrap64 (x14_3 + 1))) = some r := by first | (rw [hy174]; with_reducible exact H) | (have H2_ := (Option.bind_some _ _).symm.trans H; rw [hy174]; with_reducible exact H2_) | (have H2_ := (Option.bind_some _ _).symm.trans H; with_reducible exact H2_) | with_reducible exact H | (rw [hy174]; exact H) | exact H
                          have Ny174 := Aside0.mk hy174
                          clear hy174
                          have H' := Aside0.mk H
                          clear H
                          try go_wp2
                          have n0_ := Aside0.mk (Kd.R_drew HO_8.out)
                          have n1_ := Aside0.mk (Kd.R_drew HO_9.out)
                          have n2_ := Aside0.mk (Kd.R_drew HO_10.out)
                          have n3_ := Aside0.mk (below_drew1 HB.out)
                          clear HO_8
                          clear HO_9
                          clear HO_10
                          clear HB
                          have HO_8 := n0_
                          have HO_9 := n1_
                          have HO_10 := n2_
                          have HB := n3_
                          clear n0_ n1_ n2_ n3_
                          have p172 : 0 ≤ (x14_3 : Int) := of_decide_eq_true (by first | (with_reducible assumption) | assumption)
                          have q172 : x14_3 < (l1.length : Int) := of_decide_eq_true (by first | (with_reducible assumption) | assumption)
                          obtain ⟨ad172, e172, hx172_0, hx172_1⟩ := at_T46 HR1.out x14_3 p172 q172
                          have hw172_1 := hx172_1
                          have hw172_0 := hx172_0
                          cases e172
                          replace hx172_0 := (HB.out.cell (World.block_lt_of_cell? w _ hx172_0)).trans hx172_0
                          replace hx172_1 := (HB.out.cell (World.block_lt_of_cell? w _ hx172_1)).trans hx172_1
                          replace p172 := eq_true p172
                          replace q172 := eq_true q172
                          have p173 : 0 ≤ (x14_3 : Int) := of_decide_eq_true (by first | (with_reducible assumption) | assumption)
                          have q173 : x14_3 < (l1.length : Int) := of_decide_eq_true (by first | (with_reducible assumption) | assumption)
                          obtain ⟨ad173, e173, hx173_0, hx173_1⟩ := at_T46 HR1.out x14_3 p173 q173
                          have hw173_1 := hx173_1
                          have hw173_0 := hx173_0
                          obtain rfl : ad172 = ad173 := (by injection e173)
                          replace hx173_0 := (HB.out.cell (World.block_lt_of_cell? w _ hx173_0)).trans hx173_0
                          replace hx173_1 := (HB.out.cell (World.block_lt_of_cell? w _ hx173_1)).trans hx173_1
                          replace p173 := eq_true p173
                          replace q173 := eq_true q173
                          refine start_ (n := 18) (S := fun w' => w'.cell? (ad172.add ((x14_3).toNat * 2)) = some (.int .i64 ((rd_T46 l1 x14_3).f0)) ∧ w'.cell? ⟨(ad172.add ((x14_3).toNat * 2)).block, (ad172.add ((x14_3).toNat * 2)).off + 1, none⟩ = some (.int .i64 ((rd_T46 l1 x14_3).f1)) ∧ w'.cell? (ad172.add ((x14_3).toNat * 2)) = some (.int .i64 ((rd_T46 l1 x14_3).f0)) ∧ w'.cell? ⟨(ad172.add ((x14_3).toNat * 2)).block, (ad172.add ((x14_3).toNat * 2)).off + 1, none⟩ = some (.int .i64 ((rd_T46 l1 x14_3).f1))) (ds := []) #[false, false, false, false, false, false, false, false, false, false, false, false, false, false, false, false, false, false] (by kernel_rfl) rfl rfl ⟨((HB.out.cell (World.block_lt_of_cell? w _ hw172_0)).trans hw172_0), ((HB.out.cell (World.block_lt_of_cell? w _ hw172_1)).trans hw172_1), ((HB.out.cell (World.block_lt_of_cell? w _ hw173_0)).trans hw173_0), ((HB.out.cell (World.block_lt_of_cell? w _ hw173_1)).trans hw173_1)⟩ (fun hHeld => ?_); refine with_tabW flyleaflaw17_StackBack.tab19 flyleaflaw17_StackBack.bits19 (fun HT_ HW_ => ?_)
                          generalize wr.drew = w28 at HO_8 HO_9 HO_10 HB hx172_0 hx172_1 hx173_0 hx173_1 hHeld ⊢
                          refine pure_ (i := 0) (N := some 81) (v := ?_) (a' := ?_) #[true, false, false, false, false, false, false, false, false, false, false, false, false, false, false, false, false, false] rfl rfl (any_of HT_.out (by kernel_rfl)) (fun _ _ _ h => h) (Or.inl ⟨by rfl, ?_⟩) ?_ ?_
                          rotate_left
                          · intro w'
                            go_simp
                            with_reducible rfl
                          rotate_left
                          · simp only [Act.put, List.setIfInBounds_toArray, List.set_cons_zero, List.set_cons_succ, i64_w, i32_w]
                            rfl
                          refine pure_ (i := 1) (N := some 82) (v := ?_) (a' := ?_) #[true, true, false, false, false, false, false, false, false, false, false, false, false, false, false, false, false, false] rfl rfl (any_of HT_.out (by kernel_rfl)) (fun _ _ _ h => h) (Or.inl ⟨by rfl, ?_⟩) ?_ ?_
                          rotate_left
                          · intro w'
                            go_simp
                            with_reducible rfl
                          rotate_left
                          · simp only [Act.put, List.setIfInBounds_toArray, List.set_cons_zero, List.set_cons_succ, i64_w, i32_w]
                            rfl
                          refine pure_ (i := 2) (N := some 83) (v := ?_) (a' := ?_) #[true, true, true, false, false, false, false, false, false, false, false, false, false, false, false, false, false, false] rfl rfl (any_of HT_.out (by kernel_rfl)) (fun _ _ _ h => h) (Or.inl ⟨by rfl, ?_⟩) ?_ ?_
                          rotate_left
                          · intro w'
                            go_simp
                            with_reducible rfl
                          rotate_left
                          · simp only [Act.put, List.setIfInBounds_toArray, List.set_cons_zero, List.set_cons_succ, i64_w, i32_w]
                            rfl
                          refine pure_ (i := 3) (N := some 84) (v := ?_) (a' := ?_) #[true, true, true, true, false, false, false, false, false, false, false, false, false, false, false, false, false, false] rfl rfl (any_of HT_.out (by kernel_rfl)) (fun _ _ _ h => h) (Or.inl ⟨by rfl, ?_⟩) ?_ ?_
                          rotate_left
                          · intro w'
                            go_simp
                            with_reducible rfl
                          rotate_left
                          · simp only [Act.put, List.setIfInBounds_toArray, List.set_cons_zero, List.set_cons_succ, i64_w, i32_w]
                            rfl
                          refine pure_ (i := 4) (N := some 85) (v := ?_) (a' := ?_) #[true, true, true, true, true, false, false, false, false, false, false, false, false, false, false, false, false, false] rfl rfl (any_of HT_.out (by kernel_rfl)) (fun _ _ _ h => h) (Or.inl ⟨by rfl, ?_⟩) ?_ ?_
                          rotate_left
                          · intro w'
                            go_simp
                            with_reducible rfl
                          rotate_left
                          · simp only [Act.put, List.setIfInBounds_toArray, List.set_cons_zero, List.set_cons_succ, i64_w, i32_w]
                            rfl
                          refine pure_ (i := 8) (N := some 89) (v := ?_) (a' := ?_) #[true, true, true, true, true, false, false, false, true, false, false, false, false, false, false, false, false, false] rfl rfl (any_of HT_.out (by kernel_rfl)) (fun _ _ _ h => h) (Or.inl ⟨by rfl, ?_⟩) ?_ ?_
                          rotate_left
                          · intro w'
                            go_simp
                            with_reducible rfl
                          rotate_left
                          · simp only [Act.put, List.setIfInBounds_toArray, List.set_cons_zero, List.set_cons_succ, i64_w, i32_w]
                            rfl
                          refine pure_ (i := 9) (N := some 90) (v := ?_) (a' := ?_) #[true, true, true, true, true, false, false, false, true, true, false, false, false, false, false, false, false, false] rfl rfl (any_of HT_.out (by kernel_rfl)) (fun _ _ _ h => h) (Or.inl ⟨by rfl, ?_⟩) ?_ ?_
                          rotate_left
                          · intro w'
                            go_simp
                            with_reducible rfl
                          rotate_left
                          · simp only [Act.put, List.setIfInBounds_toArray, List.set_cons_zero, List.set_cons_succ, i64_w, i32_w]
                            rfl
                          refine pure_ (i := 10) (N := some 91) (v := ?_) (a' := ?_) #[true, true, true, true, true, false, false, false, true, true, true, false, false, false, false, false, false, false] rfl rfl (any_of HT_.out (by kernel_rfl)) (fun _ _ _ h => h) (Or.inl ⟨by rfl, ?_⟩) ?_ ?_
                          rotate_left
                          · intro w'
                            go_simp
                            with_reducible rfl
                          rotate_left
                          · simp only [Act.put, List.setIfInBounds_toArray, List.set_cons_zero, List.set_cons_succ, i64_w, i32_w]
                            rfl
                          refine pure_ (i := 11) (N := some 92) (v := ?_) (a' := ?_) #[true, true, true, true, true, false, false, false, true, true, true, true, false, false, false, false, false, false] rfl rfl (any_of HT_.out (by kernel_rfl)) (fun _ _ _ h => h) (Or.inl ⟨by rfl, ?_⟩) ?_ ?_
                          rotate_left
                          · intro w'
                            go_simp
                            with_reducible rfl
                          rotate_left
                          · simp only [Act.put, List.setIfInBounds_toArray, List.set_cons_zero, List.set_cons_succ, i64_w, i32_w]
                            rfl
                          refine take_ (i := 5) (N := some 86) (v := ?_) (a' := ?_) #[true, true, true, true, true, true, false, false, true, true, true, true, false, false, false, false, false, false] rfl rfl (take_ofW HT_.out HW_.out (by kernel_rfl)) (fun _ _ _ h => h) (Or.inl ⟨by rfl, ?_⟩) hHeld ?_ ?_
                          rotate_left
                          · rintro w' ⟨s0, s1, s2, s3⟩
                            go_simp
                            with_reducible rfl
                          rotate_left
                          · simp only [Act.put, List.setIfInBounds_toArray, List.set_cons_zero, List.set_cons_succ, i64_w, i32_w]
                            rfl
                          refine pure_ (i := 6) (N := some 87) (v := ?_) (a' := ?_) #[true, true, true, true, true, true, true, false, true, true, true, true, false, false, false, false, false, false] rfl rfl (any_of HT_.out (by kernel_rfl)) (fun _ _ _ h => h) (Or.inl ⟨by rfl, ?_⟩) ?_ ?_
                          rotate_left
                          · intro w'
                            go_simp
                            with_reducible rfl
                          rotate_left
                          · simp only [Act.put, List.setIfInBounds_toArray, List.set_cons_zero, List.set_cons_succ, i64_w, i32_w]
                            rfl
                          refine pure_ (i := 7) (N := some 88) (v := ?_) (a' := ?_) #[true, true, true, true, true, true, true, true, true, true, true, true, false, false, false, false, false, false] rfl rfl (any_of HT_.out (by kernel_rfl)) (fun _ _ _ h => h) (Or.inl ⟨by rfl, ?_⟩) ?_ ?_
                          rotate_left
                          · intro w'
                            go_simp
                            with_reducible rfl
                          rotate_left
                          · simp only [Act.put, List.setIfInBounds_toArray, List.set_cons_zero, List.set_cons_succ, i64_w, i32_w]
                            rfl
                          refine take_ (i := 12) (N := some 93) (v := ?_) (a' := ?_) #[true, true, true, true, true, true, true, true, true, true, true, true, true, false, false, false, false, false] rfl rfl (take_ofW HT_.out HW_.out (by kernel_rfl)) (fun _ _ _ h => h) (Or.inl ⟨by rfl, ?_⟩) hHeld ?_ ?_
                          rotate_left
                          · rintro w' ⟨s0, s1, s2, s3⟩
                            go_simp
                            with_reducible rfl
                          rotate_left
                          · simp only [Act.put, List.setIfInBounds_toArray, List.set_cons_zero, List.set_cons_succ, i64_w, i32_w]
                            rfl
                          refine pure_ (i := 13) (N := some 94) (v := ?_) (a' := ?_) #[true, true, true, true, true, true, true, true, true, true, true, true, true, true, false, false, false, false] rfl rfl (any_of HT_.out (by kernel_rfl)) (fun _ _ _ h => h) (Or.inl ⟨by rfl, ?_⟩) ?_ ?_
                          rotate_left
                          · intro w'
                            go_simp
                            with_reducible rfl
                          rotate_left
                          · simp only [Act.put, List.setIfInBounds_toArray, List.set_cons_zero, List.set_cons_succ, i64_w, i32_w]
                            rfl
                          refine pure_ (i := 14) (N := some 95) (v := ?_) (a' := ?_) #[true, true, true, true, true, true, true, true, true, true, true, true, true, true, true, false, false, false] rfl rfl (any_of HT_.out (by kernel_rfl)) (fun _ _ _ h => h) (Or.inl ⟨by rfl, ?_⟩) ?_ ?_
                          rotate_left
                          · intro w'
                            go_simp
                            with_reducible rfl
                          rotate_left
                          · simp only [Act.put, List.setIfInBounds_toArray, List.set_cons_zero, List.set_cons_succ, i64_w, i32_w]
                            rfl
                          refine one_ (i := 15) (N := some 96) #[true, true, true, true, true, true, true, true, true, true, true, true, true, true, true, true, false, false] rfl rfl (one_of HT_.out (by kernel_rfl)) (by decide) (fun K hK => ?_)
                          refine value_ (w1 := ?_) (v := ?_) (by rfl) rfl ?_ ?_
                          rotate_left 2
                          · go_simp
                            constructor
                            · rfl
                            · rfl
                          refine hK.out _ _ ⟨(World.cell?_alloc_lt _ _ _ (World.block_lt_of_cell? _ _ (((HB.out.cell (World.block_lt_of_cell? w _ hw172_0)).trans hw172_0)))).trans (((HB.out.cell (World.block_lt_of_cell? w _ hw172_0)).trans hw172_0)), (World.cell?_alloc_lt _ _ _ (World.block_lt_of_cell? _ _ (((HB.out.cell (World.block_lt_of_cell? w _ hw172_1)).trans hw172_1)))).trans (((HB.out.cell (World.block_lt_of_cell? w _ hw172_1)).trans hw172_1)), (World.cell?_alloc_lt _ _ _ (World.block_lt_of_cell? _ _ (((HB.out.cell (World.block_lt_of_cell? w _ hw173_0)).trans hw173_0)))).trans (((HB.out.cell (World.block_lt_of_cell? w _ hw173_0)).trans hw173_0)), (World.cell?_alloc_lt _ _ _ (World.block_lt_of_cell? _ _ (((HB.out.cell (World.block_lt_of_cell? w _ hw173_1)).trans hw173_1)))).trans (((HB.out.cell (World.block_lt_of_cell? w _ hw173_1)).trans hw173_1))⟩ (fun hHeld => ?_)
                          clear hK K
                          refine norm_ (a' := ?_) ?_ ?_
                          rotate_left
                          · show Act.put _ (some 96) _ = _
                            simp only [Act.put, List.setIfInBounds_toArray, List.set_cons_zero, List.set_cons_succ, i64_w, i32_w]
                            rfl
                          refine one_ (i := 16) (N := some 97) #[true, true, true, true, true, true, true, true, true, true, true, true, true, true, true, true, true, false] rfl rfl (one_of HT_.out (by kernel_rfl)) (by decide) (fun K hK => ?_)
                          refine Kd.R_append_step k48 (w0 := w) w.heap.size (by rfl) (.tmp 81) (.tmp 96) 23 48 (.agg #[(.int .i64 0), (.int .i64 0)]) 16 rfl Try.underlying23 info48 rfl (by decide) (by omega) u10 x10_3 (⟨wrap64 (1 + (Go.bits .and .i64 ((rd_T46 l1 x14_3).f0) 1023)), Go.bits .and .i64 ((rd_T46 l1 x14_3).f1) 1099511627775⟩ : S48) [.int .i64 (wrap64 (1 + (Go.bits .and .i64 ((rd_T46 l1 x14_3).f0) 1023))), .int .i64 (Go.bits .and .i64 ((rd_T46 l1 x14_3).f1) 1099511627775)] (fun _ => True) (fun _ => False) rfl rfl ?aP (fun _ hk => hk.elim) ?aF ?aO ?aB ?aS ?aL ?_
                          (case aP => exact k48_mkM _ _ _ (⟨wrap64 (1 + (Go.bits .and .i64 ((rd_T46 l1 x14_3).f0) 1023)), Go.bits .and .i64 ((rd_T46 l1 x14_3).f1) 1099511627775⟩ : S48))
                          (case aB => exact (by repeat (first | (with_reducible first | exact HB.out | apply below_alloc | apply pw_below_drewN | apply below_drew1) | exact HB.out)))
                          (case aF => exact (fun _ _ => trivial))
                          (case aO => exact (by (with_reducible repeat (first | apply Kd.R_alloc | apply Kd.R_drewN | apply Kd.R_drew)); exact HO_10.out))
                          (case aS => exact (below_size (by repeat (first | (with_reducible first | exact HB.out | apply below_alloc | apply pw_below_drewN | apply below_drew1) | exact HB.out))))
                          (case aL => have := LMc27.out; omega)
                          intro v175 w29 ho hb hg hat
                          rw [← Ny174.out] at ho
                          have n0_ := Aside0.mk (Kd.R_over' (by (with_reducible repeat (first | apply Kd.R_alloc | apply Kd.R_drewN | apply Kd.R_drew)); exact HO_8.out) (Kd.R_typed (by (with_reducible repeat (first | apply Kd.R_alloc | apply Kd.R_drewN | apply Kd.R_drew)); exact HO_10.out)) (by decide) hg)
                          have n1_ := Aside0.mk (Kd.R_over' (by (with_reducible repeat (first | apply Kd.R_alloc | apply Kd.R_drewN | apply Kd.R_drew)); exact HO_9.out) (Kd.R_typed (by (with_reducible repeat (first | apply Kd.R_alloc | apply Kd.R_drewN | apply Kd.R_drew)); exact HO_10.out)) (by decide) hg)
                          have n2_ := Aside0.mk (hb)
                          have n3_ := Aside0.mk (ho)
                          clear HO_8
                          clear HO_9
                          clear HB
                          clear HO_10
                          have HO_8 := n0_
                          have HO_9 := n1_
                          have HB := n2_
                          have HO176 := n3_
                          clear n0_ n1_ n2_ n3_
                          clear ho hb hg hat
                          refine hK.out _ _ ⟨((HB.out.cell (World.block_lt_of_cell? w _ hw172_0)).trans hw172_0), ((HB.out.cell (World.block_lt_of_cell? w _ hw172_1)).trans hw172_1), ((HB.out.cell (World.block_lt_of_cell? w _ hw173_0)).trans hw173_0), ((HB.out.cell (World.block_lt_of_cell? w _ hw173_1)).trans hw173_1)⟩ (fun hHeld => ?_)
                          clear hK K
                          refine norm_ (a' := ?_) ?_ ?_
                          rotate_left
                          · show Act.put _ (some 97) _ = _
                            simp only [Act.put, List.setIfInBounds_toArray, List.set_cons_zero, List.set_cons_succ, i64_w, i32_w]
                            rfl
                          refine pure_ (i := 17) (N := some 10) (v := ?_) (a' := ?_) #[true, true, true, true, true, true, true, true, true, true, true, true, true, true, true, true, true, true] rfl rfl (any_of HT_.out (by kernel_rfl)) (fun _ _ _ h => h) (Or.inl ⟨by rfl, ?_⟩) ?_ ?_
                          rotate_left
                          · intro w'
                            go_simp
                            with_reducible rfl
                          rotate_left
                          · simp only [Act.put, List.setIfInBounds_toArray, List.set_cons_zero, List.set_cons_succ, i64_w, i32_w]
                            rfl
                          refine done_ (done_of HT_.out (by kernel_rfl)) ?_
                          try go_wp2
                          go_roundg k3
                          case measure => have := HK1.out; have := HJ5.out; have := HK3.out; omega
                          case rel => exact ⟨(y174), (wrap64 (x14_3 + 1)), (by first | rfl | (simp; done) | (simp [*]; done)), H', ⟨by have := HK1.out; have := HJ5.out; have := HK3.out; omega⟩, ⟨by (with_reducible repeat (first | apply Kd.R_alloc | apply Kd.R_drewN | apply Kd.R_drew)); exact HO_8.out⟩, ⟨by (with_reducible repeat (first | apply Kd.R_alloc | apply Kd.R_drewN | apply Kd.R_drew)); exact HO_9.out⟩, ⟨by (with_reducible repeat (first | apply Kd.R_alloc | apply Kd.R_drewN | apply Kd.R_drew)); exact HO176.out⟩, ⟨by repeat (first | (with_reducible first | exact HB.out | apply below_alloc | apply pw_below_drewN | apply below_drew1) | exact HB.out)⟩⟩
                        · rw [if_neg c27] at H
                          exact absurd H (by simp)
                      · rw [if_neg c26] at H
                        exact absurd H (by simp)
                    · rw [if_neg c25] at H
                      have c25b0 : decide (x14_3 < 8) = false := decide_eq_false c25
                      clear c25
                      have H' := Aside0.mk H
                      clear H
                      go_wp2
                      go_meet
                      case rel => exact ⟨_, (x10_3), H', ⟨by have := HK1.out; have := HJ5.out; have := HK3.out; first | omega | exact Nat.le_refl _⟩, ⟨by (with_reducible repeat (first | apply Kd.R_alloc | apply Kd.R_drewN | apply Kd.R_drew)); exact HO_8.out⟩, ⟨by (with_reducible repeat (first | apply Kd.R_alloc | apply Kd.R_drewN | apply Kd.R_drew)); exact HO_9.out⟩, ⟨by (with_reducible repeat (first | apply Kd.R_alloc | apply Kd.R_drewN | apply Kd.R_drew)); exact HO_10.out⟩, ⟨by repeat (first | (with_reducible first | exact HB.out | apply below_alloc | apply pw_below_drewN | apply below_drew1) | exact HB.out)⟩⟩
                  · rw [if_neg c24] at H
                    have c24b0 : decide (x14_3 < (l1.length : Int)) = false := decide_eq_false c24
                    clear c24
                    (first | rw [c24b0] | (simp only [i64_w, i32_w]; rw [c24b0]) | skip)
                    have H' := Aside0.mk H
                    clear H
                    go_wp2
                    go_meet
                    case rel => exact ⟨_, (x10_3), H', ⟨by have := HK1.out; have := HJ5.out; have := HK3.out; first | omega | exact Nat.le_refl _⟩, ⟨by (with_reducible repeat (first | apply Kd.R_alloc | apply Kd.R_drewN | apply Kd.R_drew)); exact HO_8.out⟩, ⟨by (with_reducible repeat (first | apply Kd.R_alloc | apply Kd.R_drewN | apply Kd.R_drew)); exact HO_9.out⟩, ⟨by (with_reducible repeat (first | apply Kd.R_alloc | apply Kd.R_drewN | apply Kd.R_drew)); exact HO_10.out⟩, ⟨by repeat (first | (with_reducible first | exact HB.out | apply below_alloc | apply pw_below_drewN | apply below_drew1) | exact HB.out)⟩⟩
            case rest =>
              clear HC23
              try clear c1
              try clear p1
              try clear q1
              try clear hx1
              try clear hcv1
              try clear c2
              try clear p2
              try clear p6
              try clear c7
              try clear c7b0
              try clear c8
              try clear c9
              try clear c9b0
              try clear c10
              try clear c10b0
              try clear c11
              try clear c11b0
              try clear c12
              try clear c12b0
              try clear c12b1
              try clear c12b2
              try clear hcv15
              try clear c16
              try clear c16b0
              try clear p16
              try clear q16
              try clear hx16
              try clear c17
              try clear c17b0
              try clear p17
              try clear q17
              try clear hx17
              try clear c18
              try clear c18b0
              try clear c18b1
              try clear c19
              try clear c21
              try clear c24
              try clear c24b0
              try clear c25
              try clear c25b0
              try clear c26
              try clear c26b0
              try clear c27
              try clear hx161_0
              try clear hx161_1
              try clear hx165_0
              try clear hx165_1
              try clear hx172_0
              try clear hx172_1
              try clear hx173_0
              try clear hx173_1
              try clear p1
              try clear p16
              try clear p161
              try clear p165
              try clear p172
              try clear p173
              try clear p2
              try clear p6
              try clear q1
              try clear q16
              try clear q161
              try clear q165
              try clear q172
              try clear q173
              obtain ⟨kq, x10_22, HA, HJ22, HO_8, HO_9, HO_10, HB⟩ := hcut
              cases kq with
              | zero => exact absurd HA.out (by simp [flyleaflaw17_StackBack.j4])
              | succ kj22 =>
                have H := HA.out
                clear HA
                simp only [flyleaflaw17_StackBack.j4] at H
                replace H := Option.bind_eq_some_iff.mp H
                obtain ⟨⟨t177, t178, t179⟩, A300, H⟩ := H
                replace H : (if t179 = 0 then (if (t178.size : Int) = (wrap64 ((wrap64 (1024 + (wrap64 (16 * (Go.bits .and .i64 a2 4095))))) - t177)) then (if (Int.tmod t177 16) = 0 then ((stack_Size.f kj22 x8_1 x9_1 x10_22).bind fun t180 => (flyleaflaw17_StackBack.j5 kj22 a2 t160 x8_1 x9_1 x10_22 t177 t178 ((t178.size : Int) != t180))) else (flyleaflaw17_StackBack.j5 kj22 a2 t160 x8_1 x9_1 x10_22 t177 t178 true)) else (flyleaflaw17_StackBack.j5 kj22 a2 t160 x8_1 x9_1 x10_22 t177 t178 true)) else (flyleaflaw17_StackBack.j5 kj22 a2 t160 x8_1 x9_1 x10_22 t177 t178 true)) = some r := H
                have A30 := Aside0.mk A300
                clear A300
                have HC31 := Aside0.mk H
                clear H
                obtain ⟨Ao32, co32, eo32⟩ := Kd.R_slice HO_8.out
                subst eo32
                obtain ⟨Ao33, co33, eo33⟩ := Kd.R_slice HO_9.out
                subst eo33
                obtain ⟨Ao34, co34, eo34⟩ := Kd.R_slice HO_10.out
                subst eo34
                go_upto_region 22 with (first | ((with_reducible refine gate_callee (f := 10) rfl ?_); refine goesL_ (some 107) rfl rfl Try.func10 (by kernel_rfl) rfl #[.int .i64 (wrap64 (1024 + (wrap64 (16 * (Go.bits .and .i64 a2 4095))))), .slice Ao32 x8_1.length co32, .slice Ao33 x9_1.length co33, .slice Ao34 x10_22.length co34] rfl (by (try simp only [List.map_toArray, List.map_cons, List.map_nil]); first | done | rfl | (simp only [List.length_drop, List.length_take]; rfl)) ?_; (with_reducible refine (stack_Build.calls (wrap64 (1024 + (wrap64 (16 * (Go.bits .and .i64 a2 4095))))) _ _ x8_1 _ _ x9_1 _ _ x10_22 t177 t178 t179 _ ?side1 ?side2 ?side3 ?side4 ?side5 ?side6 A30.out).mono ?_); (case side1 => repeat (first | exact (Kd.R_reads' HO_8.out).2.2 | (with_reducible refine Kd.C_alloc ?_ _) | (with_reducible refine Kd.C_drewN ?_ _) | (with_reducible refine Kd.C_drew ?_))); (case side2 => exact (Kd.R_reads' HO_8.out).2.1); (case side3 => repeat (first | exact (Kd.R_reads' HO_9.out).2.2 | (with_reducible refine Kd.C_alloc ?_ _) | (with_reducible refine Kd.C_drewN ?_ _) | (with_reducible refine Kd.C_drew ?_))); (case side4 => exact (Kd.R_reads' HO_9.out).2.1); (case side5 => repeat (first | exact (Kd.R_reads' HO_10.out).2.2 | (with_reducible refine Kd.C_alloc ?_ _) | (with_reducible refine Kd.C_drewN ?_ _) | (with_reducible refine Kd.C_drew ?_))); (case side6 => exact (Kd.R_reads' HO_10.out).2.1); rintro e w35 ⟨rfl, hb⟩; refine ⟨_, rfl, ?_⟩; have n0_ := Aside0.mk (Kd.R_below (by (with_reducible repeat (first | apply Kd.R_alloc | apply Kd.R_drewN | apply Kd.R_drew)); exact HO_8.out) hb); have n1_ := Aside0.mk (Kd.R_below (by (with_reducible repeat (first | apply Kd.R_alloc | apply Kd.R_drewN | apply Kd.R_drew)); exact HO_9.out) hb); have n2_ := Aside0.mk (Kd.R_below (by (with_reducible repeat (first | apply Kd.R_alloc | apply Kd.R_drewN | apply Kd.R_drew)); exact HO_10.out) hb); have n3_ := Aside0.mk (below_step (by repeat (first | (with_reducible first | exact HB.out | apply below_alloc | apply pw_below_drewN | apply below_drew1) | exact HB.out)) hb); clear HO_8; clear HO_9; clear HO_10; clear HB; have HO_8 := n0_; have HO_9 := n1_; have HO_10 := n2_; have HB := n3_; clear n0_ n1_ n2_ n3_; (try clear hb); (try clear hb2); (try clear hk); (try clear hi)))
                (try simp only [Act.put, List.setIfInBounds_toArray, List.set_cons_zero, List.set_cons_succ])
                go_cut [134] (fun v134 wc => ∃ (kq : Nat) (x134_30 : Bool), v134 = .bool x134_30 ∧ Aside0 (flyleaflaw17_StackBack.j5 kq a2 t160 x8_1 x9_1 x10_22 t177 t178 x134_30 = some r) ∧ Aside0 (kq ≤ kj22) ∧ Aside0 (Kd.R Kd.string 9 wc w.heap.size (fun k_ => some k_ ≠ ((.slice Ao33 x9_1.length co33) : Value).ownBlock) (.slice Ao32 x8_1.length co32) x8_1) ∧ Aside0 (Kd.R Kd.string 9 wc w.heap.size (fun k_ => some k_ ≠ ((.slice Ao32 x8_1.length co32) : Value).ownBlock) (.slice Ao33 x9_1.length co33) x9_1) ∧ Aside0 (Kd.R k48 48 wc w.heap.size (fun _ => True) (.slice Ao34 x10_22.length co34) x10_22) ∧ Aside0 (Below w.heap.size w wc))
                case first =>
                  have H := HC31.out
                  clear HC31
                  by_cases c36 : t179 = 0
                  · rw [if_pos c36] at H
                    have c36b0 : (t179 == 0) = true := beq_iff_eq.mpr c36
                    have c36b1 : (t179 != 0) = false := bne_eq_false_iff_eq.mpr c36
                    clear c36
                    (first | rw [c36b0] | (simp only [i64_w, i32_w]; rw [c36b0]) | skip)
                    by_cases c37 : (t178.size : Int) = (wrap64 ((wrap64 (1024 + (wrap64 (16 * (Go.bits .and .i64 a2 4095))))) - t177))
                    · rw [if_pos c37] at H
                      have c37b0 : ((t178.size : Int) == (wrap64 ((wrap64 (1024 + (wrap64 (16 * (Go.bits .and .i64 a2 4095))))) - t177))) = true := beq_iff_eq.mpr c37
                      have c37b1 : ((t178.size : Int) != (wrap64 ((wrap64 (1024 + (wrap64 (16 * (Go.bits .and .i64 a2 4095))))) - t177))) = false := bne_eq_false_iff_eq.mpr c37
                      clear c37
                      by_cases c38 : (Int.tmod t177 16) = 0
                      · rw [if_pos c38] at H
                        have c38b0 : ((Int.tmod t177 16) == 0) = true := beq_iff_eq.mpr c38
                        have c38b1 : ((Int.tmod t177 16) != 0) = false := bne_eq_false_iff_eq.mpr c38
                        clear c38
                        replace H := Option.bind_eq_some_iff.mp H
                        obtain ⟨t180, A390, H⟩ := H
                        replace H : (flyleaflaw17_StackBack.j5 kj22 a2 t160 x8_1 x9_1 x10_22 t177 t178 ((t178.size : Int) != t180)) = some r := H
                        have A39 := Aside0.mk A390
                        clear A390
                        have H' := Aside0.mk H
                        clear H
                        go_wp2_with (first | (go_at_call 12; (with_reducible refine (stack_Size.calls kj22 _ _ x8_1 _ _ x9_1 _ _ x10_22 t180 _ ?side1 ?side2 ?side3 ?side4 ?side5 ?side6 A39.out).mono ?_); (case side1 => repeat (first | exact (Kd.R_reads' HO_8.out).2.2 | (with_reducible refine Kd.C_alloc ?_ _) | (with_reducible refine Kd.C_drewN ?_ _) | (with_reducible refine Kd.C_drew ?_))); (case side2 => exact (Kd.R_reads' HO_8.out).2.1); (case side3 => repeat (first | exact (Kd.R_reads' HO_9.out).2.2 | (with_reducible refine Kd.C_alloc ?_ _) | (with_reducible refine Kd.C_drewN ?_ _) | (with_reducible refine Kd.C_drew ?_))); (case side4 => exact (Kd.R_reads' HO_9.out).2.1); (case side5 => repeat (first | exact (Kd.R_reads' HO_10.out).2.2 | (with_reducible refine Kd.C_alloc ?_ _) | (with_reducible refine Kd.C_drewN ?_ _) | (with_reducible refine Kd.C_drew ?_))); (case side6 => exact (Kd.R_reads' HO_10.out).2.1); rintro e w' ⟨rfl, ⟨nd, rfl⟩⟩))
                        go_meet
                        case rel => exact ⟨_, (((t178.size : Int) != t180)), (by first | rfl | (simp; done) | (simp [*]; done)), H', ⟨by have := HK1.out; have := HJ5.out; have := HJ22.out; first | omega | exact Nat.le_refl _⟩, ⟨by (with_reducible repeat (first | apply Kd.R_alloc | apply Kd.R_drewN | apply Kd.R_drew)); exact HO_8.out⟩, ⟨by (with_reducible repeat (first | apply Kd.R_alloc | apply Kd.R_drewN | apply Kd.R_drew)); exact HO_9.out⟩, ⟨by (with_reducible repeat (first | apply Kd.R_alloc | apply Kd.R_drewN | apply Kd.R_drew)); exact HO_10.out⟩, ⟨by repeat (first | (with_reducible first | exact HB.out | apply below_alloc | apply pw_below_drewN | apply below_drew1) | exact HB.out)⟩⟩
                      · rw [if_neg c38] at H
                        have c38b0 : ((Int.tmod t177 16) == 0) = false := beq_eq_false_iff_ne.mpr c38
                        have c38b1 : ((Int.tmod t177 16) != 0) = true := bne_iff_ne.mpr c38
                        have H' := Aside0.mk H
                        clear H
                        go_wp2
                        go_meet
                        case rel => exact ⟨_, (true), (by first | rfl | (simp; done) | (simp [*]; done)), H', ⟨by have := HK1.out; have := HJ5.out; have := HJ22.out; first | omega | exact Nat.le_refl _⟩, ⟨by (with_reducible repeat (first | apply Kd.R_alloc | apply Kd.R_drewN | apply Kd.R_drew)); exact HO_8.out⟩, ⟨by (with_reducible repeat (first | apply Kd.R_alloc | apply Kd.R_drewN | apply Kd.R_drew)); exact HO_9.out⟩, ⟨by (with_reducible repeat (first | apply Kd.R_alloc | apply Kd.R_drewN | apply Kd.R_drew)); exact HO_10.out⟩, ⟨by repeat (first | (with_reducible first | exact HB.out | apply below_alloc | apply pw_below_drewN | apply below_drew1) | exact HB.out)⟩⟩
                    · rw [if_neg c37] at H
                      have c37b0 : ((t178.size : Int) == (wrap64 ((wrap64 (1024 + (wrap64 (16 * (Go.bits .and .i64 a2 4095))))) - t177))) = false := beq_eq_false_iff_ne.mpr c37
                      have c37b1 : ((t178.size : Int) != (wrap64 ((wrap64 (1024 + (wrap64 (16 * (Go.bits .and .i64 a2 4095))))) - t177))) = true := bne_iff_ne.mpr c37
                      have H' := Aside0.mk H
                      clear H
                      go_wp2
                      go_meet
                      case rel => exact ⟨_, (true), (by first | rfl | (simp; done) | (simp [*]; done)), H', ⟨by have := HK1.out; have := HJ5.out; have := HJ22.out; first | omega | exact Nat.le_refl _⟩, ⟨by (with_reducible repeat (first | apply Kd.R_alloc | apply Kd.R_drewN | apply Kd.R_drew)); exact HO_8.out⟩, ⟨by (with_reducible repeat (first | apply Kd.R_alloc | apply Kd.R_drewN | apply Kd.R_drew)); exact HO_9.out⟩, ⟨by (with_reducible repeat (first | apply Kd.R_alloc | apply Kd.R_drewN | apply Kd.R_drew)); exact HO_10.out⟩, ⟨by repeat (first | (with_reducible first | exact HB.out | apply below_alloc | apply pw_below_drewN | apply below_drew1) | exact HB.out)⟩⟩
                  · rw [if_neg c36] at H
                    have c36b0 : (t179 == 0) = false := beq_eq_false_iff_ne.mpr c36
                    have c36b1 : (t179 != 0) = true := bne_iff_ne.mpr c36
                    (first | rw [c36b0] | (simp only [i64_w, i32_w]; rw [c36b0]) | skip)
                    have H' := Aside0.mk H
                    clear H
                    go_wp2
                    go_meet
                    case rel => exact ⟨_, (true), (by first | rfl | (simp; done) | (simp [*]; done)), H', ⟨by have := HK1.out; have := HJ5.out; have := HJ22.out; first | omega | exact Nat.le_refl _⟩, ⟨by (with_reducible repeat (first | apply Kd.R_alloc | apply Kd.R_drewN | apply Kd.R_drew)); exact HO_8.out⟩, ⟨by (with_reducible repeat (first | apply Kd.R_alloc | apply Kd.R_drewN | apply Kd.R_drew)); exact HO_9.out⟩, ⟨by (with_reducible repeat (first | apply Kd.R_alloc | apply Kd.R_drewN | apply Kd.R_drew)); exact HO_10.out⟩, ⟨by repeat (first | (with_reducible first | exact HB.out | apply below_alloc | apply pw_below_drewN | apply below_drew1) | exact HB.out)⟩⟩
                case rest =>
                  clear HC31
                  try clear c1
                  try clear p1
                  try clear q1
                  try clear hx1
                  try clear hcv1
                  try clear c2
                  try clear p2
                  try clear c3
                  try clear p6
                  try clear c7
                  try clear c7b0
                  try clear c8
                  try clear c9
                  try clear c9b0
                  try clear c10
                  try clear c10b0
                  try clear c11
                  try clear c11b0
                  try clear c12
                  try clear c12b0
                  try clear c12b1
                  try clear c12b2
                  try clear hcv15
                  try clear c16
                  try clear c16b0
                  try clear p16
                  try clear q16
                  try clear hx16
                  try clear c17
                  try clear c17b0
                  try clear p17
                  try clear q17
                  try clear hx17
                  try clear c18
                  try clear c18b0
                  try clear c18b1
                  try clear c19
                  try clear c21
                  try clear c24
                  try clear c24b0
                  try clear c25
                  try clear c25b0
                  try clear c26
                  try clear c26b0
                  try clear c27
                  try clear c36
                  try clear c36b0
                  try clear c36b1
                  try clear c37
                  try clear c37b0
                  try clear c37b1
                  try clear c38
                  try clear c38b0
                  try clear c38b1
                  try clear hx161_0
                  try clear hx161_1
                  try clear hx165_0
                  try clear hx165_1
                  try clear hx172_0
                  try clear hx172_1
                  try clear hx173_0
                  try clear hx173_1
                  try clear p1
                  try clear p16
                  try clear p161
                  try clear p165
                  try clear p17
                  try clear p172
                  try clear p173
                  try clear p2
                  try clear p6
                  try clear q1
                  try clear q16
                  try clear q161
                  try clear q165
                  try clear q17
                  try clear q172
                  try clear q173
                  obtain ⟨kq, x134_30, rfl, HA, HJ30, HO_8, HO_9, HO_10, HB⟩ := hcut
                  cases kq with
                  | zero => exact absurd HA.out (by simp [flyleaflaw17_StackBack.j5])
                  | succ kj30 =>
                    have H := HA.out
                    clear HA
                    simp only [flyleaflaw17_StackBack.j5] at H
                    by_cases c40 : x134_30 = true
                    · subst c40
                      have H1 : (some false) = some r := by rw [if_pos rfl] at H; exact H
                      clear H
                      have H := H1
                      clear H1
                      obtain rfl := Option.some.inj H
                      go_wp2
                      go_ret
                      exact ⟨by first | rfl | (simp [errW_none, errW_some] <;> rfl) | (simp [*, errW_none, errW_some] <;> rfl), by repeat (first | (with_reducible first | exact HB.out | apply below_alloc | apply pw_below_drewN | apply below_drew1) | exact HB.out)⟩
                    · replace c40 := Bool.eq_false_iff.mpr c40
                      subst c40
                      have H1 : ((flyleafref01_Fill.f (⟨#[]⟩ : ByteArray) (wrap64 (16 * (Go.bits .and .i64 (a2 / 4096) 15)))).bind fun t181 => (if t181.size + t178.size ≤ 9223372036854775807 then ((stack_Read.f (t181 ++ t178) (wrap64 (t177 - (wrap64 (16 * (Go.bits .and .i64 (a2 / 4096) 15))))) t177).bind fun bt182 => ((flyleafref09_SameTexts.f kj30 bt182.1 x8_1).bind fun t192 => ((flyleafref09_SameTexts.f kj30 bt182.2.1 x9_1).bind fun t193 => ((flyleafref17_Same.f kj30 bt182.2.2.1 x10_22).bind fun t194 => (if t160 = true then (if bt182.2.2.2 = true then (if t192 = true then (if t193 = true then (some t194) else (some false)) else (some false)) else (some false)) else (some false)))))) else (none))) = some r := by rw [if_neg (show ¬ (false = true) by decide)] at H; exact H
                      clear H
                      have H := H1
                      clear H1
                      replace H := Option.bind_eq_some_iff.mp H
                      obtain ⟨t181, A410, H⟩ := H
                      replace H : (if t181.size + t178.size ≤ 9223372036854775807 then ((stack_Read.f (t181 ++ t178) (wrap64 (t177 - (wrap64 (16 * (Go.bits .and .i64 (a2 / 4096) 15))))) t177).bind fun bt182 => ((flyleafref09_SameTexts.f kj30 bt182.1 x8_1).bind fun t192 => ((flyleafref09_SameTexts.f kj30 bt182.2.1 x9_1).bind fun t193 => ((flyleafref17_Same.f kj30 bt182.2.2.1 x10_22).bind fun t194 => (if t160 = true then (if bt182.2.2.2 = true then (if t192 = true then (if t193 = true then (some t194) else (some false)) else (some false)) else (some false)) else (some false)))))) else (none)) = some r := H
                      have A41 := Aside0.mk A410
                      clear A410
                      by_cases c42 : t181.size + t178.size ≤ 9223372036854775807
                      · rw [if_pos c42] at H
                        have c42b0 := eq_true c42
                        have c42b1 : decide (t181.size + t178.size ≤ 9223372036854775807) = true := decide_eq_true c42
                        try have c42b2 : (9223372036854775807 < t181.size + t178.size) = False := eq_false (Nat.not_lt.2 c42)
                        replace H := Option.bind_eq_some_iff.mp H
                        obtain ⟨⟨t182, t183, t184, t185⟩, A430, H⟩ := H
                        replace H : ((flyleafref09_SameTexts.f kj30 t182 x8_1).bind fun t192 => ((flyleafref09_SameTexts.f kj30 t183 x9_1).bind fun t193 => ((flyleafref17_Same.f kj30 t184 x10_22).bind fun t194 => (if t160 = true then (if t185 = true then (if t192 = true then (if t193 = true then (some t194) else (some false)) else (some false)) else (some false)) else (some false))))) = some r := H
                        have A43 := Aside0.mk A430
                        clear A430
                        replace H := Option.bind_eq_some_iff.mp H
                        obtain ⟨t192, A440, H⟩ := H
                        replace H : ((flyleafref09_SameTexts.f kj30 t183 x9_1).bind fun t193 => ((flyleafref17_Same.f kj30 t184 x10_22).bind fun t194 => (if t160 = true then (if t185 = true then (if t192 = true then (if t193 = true then (some t194) else (some false)) else (some false)) else (some false)) else (some false)))) = some r := H
                        have A44 := Aside0.mk A440
                        clear A440
                        replace H := Option.bind_eq_some_iff.mp H
                        obtain ⟨t193, A450, H⟩ := H
                        replace H : ((flyleafref17_Same.f kj30 t184 x10_22).bind fun t194 => (if t160 = true then (if t185 = true then (if t192 = true then (if t193 = true then (some t194) else (some false)) else (some false)) else (some false)) else (some false))) = some r := H
                        have A45 := Aside0.mk A450
                        clear A450
                        replace H := Option.bind_eq_some_iff.mp H
                        obtain ⟨t194, A460, H⟩ := H
                        replace H : (if t160 = true then (if t185 = true then (if t192 = true then (if t193 = true then (some t194) else (some false)) else (some false)) else (some false)) else (some false)) = some r := H
                        have A46 := Aside0.mk A460
                        clear A460
                        by_cases c47 : t160 = true
                        · subst c47
                          have H1 : (if t185 = true then (if t192 = true then (if t193 = true then (some t194) else (some false)) else (some false)) else (some false)) = some r := by rw [if_pos rfl] at H; exact H
                          clear H
                          have H := H1
                          clear H1
                          by_cases c48 : t185 = true
                          · subst c48
                            have H1 : (if t192 = true then (if t193 = true then (some t194) else (some false)) else (some false)) = some r := by rw [if_pos rfl] at H; exact H
                            clear H
                            have H := H1
                            clear H1
                            by_cases c49 : t192 = true
                            · subst c49
                              have H1 : (if t193 = true then (some t194) else (some false)) = some r := by rw [if_pos rfl] at H; exact H
                              clear H
                              have H := H1
                              clear H1
                              by_cases c50 : t193 = true
                              · subst c50
                                have H1 : (some t194) = some r := by rw [if_pos rfl] at H; exact H
                                clear H
                                have H := H1
                                clear H1
                                obtain rfl := Option.some.inj H
                                go_wp2_with (first | ((with_reducible refine gate_callee (f := 17) rfl ?_); refine goesL_ (some 141) rfl rfl Try.func17 (by kernel_rfl) rfl #[.string (⟨#[]⟩ : ByteArray), .int .i64 (wrap64 (16 * (Go.bits .and .i64 (a2 / 4096) 15)))] rfl (by (try simp only [List.map_toArray, List.map_cons, List.map_nil]); first | done | rfl | (simp only [List.length_drop, List.length_take]; rfl)) ?_; (with_reducible refine (flyleafref01_Fill.calls (⟨#[]⟩ : ByteArray) (wrap64 (16 * (Go.bits .and .i64 (a2 / 4096) 15))) t181 _ A41.out).mono ?_); rintro e w51 ⟨rfl, hb⟩; refine ⟨_, rfl, ?_⟩; have n0_ := Aside0.mk (Kd.R_below (by (with_reducible repeat (first | apply Kd.R_alloc | apply Kd.R_drewN | apply Kd.R_drew)); exact HO_8.out) hb); have n1_ := Aside0.mk (Kd.R_below (by (with_reducible repeat (first | apply Kd.R_alloc | apply Kd.R_drewN | apply Kd.R_drew)); exact HO_9.out) hb); have n2_ := Aside0.mk (Kd.R_below (by (with_reducible repeat (first | apply Kd.R_alloc | apply Kd.R_drewN | apply Kd.R_drew)); exact HO_10.out) hb); have n3_ := Aside0.mk (below_step (by repeat (first | (with_reducible first | exact HB.out | apply below_alloc | apply pw_below_drewN | apply below_drew1) | exact HB.out)) hb); clear HO_8; clear HO_9; clear HO_10; clear HB; have HO_8 := n0_; have HO_9 := n1_; have HO_10 := n2_; have HB := n3_; clear n0_ n1_ n2_ n3_; (try clear hb); (try clear hb2); (try clear hk); (try clear hi)) | ((with_reducible refine gate_callee (f := 16) rfl ?_); refine goesL_ (some 148) rfl rfl Try.func16 (by kernel_rfl) rfl #[.string (t181 ++ t178), .int .i64 (wrap64 (t177 - (wrap64 (16 * (Go.bits .and .i64 (a2 / 4096) 15))))), .int .i64 t177] rfl (by (try simp only [List.map_toArray, List.map_cons, List.map_nil]); first | done | rfl | (simp only [List.length_drop, List.length_take]; rfl)) ?_; (with_reducible refine (stack_Read.calls (t181 ++ t178) (wrap64 (t177 - (wrap64 (16 * (Go.bits .and .i64 (a2 / 4096) 15))))) t177 t182 t183 t184 true _ A43.out).mono ?_); rintro e w52 ⟨v186, v188, v190, rfl, ho0, ho1, ho2, hb⟩; refine ⟨_, rfl, ?_⟩; have n0_ := Aside0.mk (Kd.R_mono (Kd.R_told (Kd.R_told (Kd.R_old (by (with_reducible repeat (first | apply Kd.R_alloc | apply Kd.R_drewN | apply Kd.R_drew)); exact HO_8.out) hb) (Kd.R_base ho0)) (Kd.R_base ho1)) (fun _ h_ => h_.1)); have n1_ := Aside0.mk (Kd.R_mono (Kd.R_told (Kd.R_told (Kd.R_old (by (with_reducible repeat (first | apply Kd.R_alloc | apply Kd.R_drewN | apply Kd.R_drew)); exact HO_9.out) hb) (Kd.R_base ho0)) (Kd.R_base ho1)) (fun _ h_ => h_.1)); have n2_ := Aside0.mk (Kd.R_elder' (by (with_reducible repeat (first | apply Kd.R_alloc | apply Kd.R_drewN | apply Kd.R_drew)); exact HO_10.out) (Kd.R_base ho2) hb); have n3_ := Aside0.mk (Kd.R_lower (Kd.R_new' (Kd.R_new' ho0 (Kd.R_lt (by (with_reducible repeat (first | apply Kd.R_alloc | apply Kd.R_drewN | apply Kd.R_drew)); exact HO_8.out))) (Kd.R_lt (by (with_reducible repeat (first | apply Kd.R_alloc | apply Kd.R_drewN | apply Kd.R_drew)); exact HO_9.out))) (below_size (by repeat (first | (with_reducible first | exact HB.out | apply below_alloc | apply pw_below_drewN | apply below_drew1) | exact HB.out)))); have n4_ := Aside0.mk (Kd.R_lower (Kd.R_new' (Kd.R_new' ho1 (Kd.R_lt (by (with_reducible repeat (first | apply Kd.R_alloc | apply Kd.R_drewN | apply Kd.R_drew)); exact HO_8.out))) (Kd.R_lt (by (with_reducible repeat (first | apply Kd.R_alloc | apply Kd.R_drewN | apply Kd.R_drew)); exact HO_9.out))) (below_size (by repeat (first | (with_reducible first | exact HB.out | apply below_alloc | apply pw_below_drewN | apply below_drew1) | exact HB.out)))); have n5_ := Aside0.mk (Kd.R_lower (Kd.R_new' ho2 (Kd.R_lt (by (with_reducible repeat (first | apply Kd.R_alloc | apply Kd.R_drewN | apply Kd.R_drew)); exact HO_10.out))) (below_size (by repeat (first | (with_reducible first | exact HB.out | apply below_alloc | apply pw_below_drewN | apply below_drew1) | exact HB.out)))); have n6_ := Aside0.mk (below_step (by repeat (first | (with_reducible first | exact HB.out | apply below_alloc | apply pw_below_drewN | apply below_drew1) | exact HB.out)) hb); clear HO_8; clear HO_9; clear HO_10; clear HB; have HO_8 := n0_; have HO_9 := n1_; have HO_10 := n2_; have HO187 := n3_; have HO189 := n4_; have HO191 := n5_; have HB := n6_; clear n0_ n1_ n2_ n3_ n4_ n5_ n6_; (try clear hb); (try clear hb2); (try clear hk); (try clear hi); (try clear ho0); (try clear ho1); (try clear ho2); obtain ⟨Ao53, co53, eo53⟩ := Kd.R_slice HO187.out; subst eo53) | ((with_reducible refine gate_callee (f := 18) rfl ?_); refine goesL_ (some 155) rfl rfl Try.func18 (by kernel_rfl) rfl #[.slice Ao53 t182.length co53, .slice Ao32 x8_1.length co32] rfl (by (try simp only [List.map_toArray, List.map_cons, List.map_nil]); first | done | rfl | (simp only [List.length_drop, List.length_take]; rfl)) ?_; (with_reducible refine (flyleafref09_SameTexts.calls kj30 _ _ t182 _ _ x8_1 true _ ?side1 ?side2 ?side3 ?side4 A44.out).mono ?_); (case side1 => repeat (first | exact (Kd.R_reads' HO187.out).2.2 | (with_reducible refine Kd.C_alloc ?_ _) | (with_reducible refine Kd.C_drewN ?_ _) | (with_reducible refine Kd.C_drew ?_))); (case side2 => exact (Kd.R_reads' HO187.out).2.1); (case side3 => repeat (first | exact (Kd.R_reads' HO_8.out).2.2 | (with_reducible refine Kd.C_alloc ?_ _) | (with_reducible refine Kd.C_drewN ?_ _) | (with_reducible refine Kd.C_drew ?_))); (case side4 => exact (Kd.R_reads' HO_8.out).2.1); rintro e w' ⟨rfl, ⟨nd, rfl⟩⟩; refine ⟨_, rfl, ?_⟩; obtain ⟨Ao54, co54, eo54⟩ := Kd.R_slice HO189.out; subst eo54) | ((with_reducible refine gate_callee (f := 18) rfl ?_); refine goesL_ (some 158) rfl rfl Try.func18 (by kernel_rfl) rfl #[.slice Ao54 t183.length co54, .slice Ao33 x9_1.length co33] rfl (by (try simp only [List.map_toArray, List.map_cons, List.map_nil]); first | done | rfl | (simp only [List.length_drop, List.length_take]; rfl)) ?_; (with_reducible refine (flyleafref09_SameTexts.calls kj30 _ _ t183 _ _ x9_1 true _ ?side1 ?side2 ?side3 ?side4 A45.out).mono ?_); (case side1 => repeat (first | exact (Kd.R_reads' HO189.out).2.2 | (with_reducible refine Kd.C_alloc ?_ _) | (with_reducible refine Kd.C_drewN ?_ _) | (with_reducible refine Kd.C_drew ?_))); (case side2 => exact (Kd.R_reads' HO189.out).2.1); (case side3 => repeat (first | exact (Kd.R_reads' HO_9.out).2.2 | (with_reducible refine Kd.C_alloc ?_ _) | (with_reducible refine Kd.C_drewN ?_ _) | (with_reducible refine Kd.C_drew ?_))); (case side4 => exact (Kd.R_reads' HO_9.out).2.1); rintro e w' ⟨rfl, ⟨nd, rfl⟩⟩; refine ⟨_, rfl, ?_⟩; obtain ⟨Ao55, co55, eo55⟩ := Kd.R_slice HO191.out; subst eo55) | ((with_reducible refine gate_callee (f := 19) rfl ?_); refine goesL_ (some 161) rfl rfl Try.func19 (by kernel_rfl) rfl #[.slice Ao55 t184.length co55, .slice Ao34 x10_22.length co34] rfl (by (try simp only [List.map_toArray, List.map_cons, List.map_nil]); first | done | rfl | (simp only [List.length_drop, List.length_take]; rfl)) ?_; (with_reducible refine (flyleafref17_Same.calls kj30 _ _ t184 _ _ x10_22 t194 _ ?side1 ?side2 ?side3 ?side4 A46.out).mono ?_); (case side1 => repeat (first | exact (Kd.R_reads' HO191.out).2.2 | (with_reducible refine Kd.C_alloc ?_ _) | (with_reducible refine Kd.C_drewN ?_ _) | (with_reducible refine Kd.C_drew ?_))); (case side2 => exact (Kd.R_reads' HO191.out).2.1); (case side3 => repeat (first | exact (Kd.R_reads' HO_10.out).2.2 | (with_reducible refine Kd.C_alloc ?_ _) | (with_reducible refine Kd.C_drewN ?_ _) | (with_reducible refine Kd.C_drew ?_))); (case side4 => exact (Kd.R_reads' HO_10.out).2.1); rintro e w' ⟨rfl, ⟨nd, rfl⟩⟩; refine ⟨_, rfl, ?_⟩))
                                go_ret
                                exact ⟨by first | rfl | (simp [errW_none, errW_some] <;> rfl) | (simp [*, errW_none, errW_some] <;> rfl), by repeat (first | (with_reducible first | exact HB.out | apply below_alloc | apply pw_below_drewN | apply below_drew1) | exact HB.out)⟩
                              · replace c50 := Bool.eq_false_iff.mpr c50
                                subst c50
                                have H1 : (some false) = some r := by rw [if_neg (show ¬ (false = true) by decide)] at H; exact H
                                clear H
                                have H := H1
                                clear H1
                                obtain rfl := Option.some.inj H
                                go_wp2_with (first | ((with_reducible refine gate_callee (f := 17) rfl ?_); refine goesL_ (some 141) rfl rfl Try.func17 (by kernel_rfl) rfl #[.string (⟨#[]⟩ : ByteArray), .int .i64 (wrap64 (16 * (Go.bits .and .i64 (a2 / 4096) 15)))] rfl (by (try simp only [List.map_toArray, List.map_cons, List.map_nil]); first | done | rfl | (simp only [List.length_drop, List.length_take]; rfl)) ?_; (with_reducible refine (flyleafref01_Fill.calls (⟨#[]⟩ : ByteArray) (wrap64 (16 * (Go.bits .and .i64 (a2 / 4096) 15))) t181 _ A41.out).mono ?_); rintro e w56 ⟨rfl, hb⟩; refine ⟨_, rfl, ?_⟩; have n0_ := Aside0.mk (Kd.R_below (by (with_reducible repeat (first | apply Kd.R_alloc | apply Kd.R_drewN | apply Kd.R_drew)); exact HO_8.out) hb); have n1_ := Aside0.mk (Kd.R_below (by (with_reducible repeat (first | apply Kd.R_alloc | apply Kd.R_drewN | apply Kd.R_drew)); exact HO_9.out) hb); have n2_ := Aside0.mk (Kd.R_below (by (with_reducible repeat (first | apply Kd.R_alloc | apply Kd.R_drewN | apply Kd.R_drew)); exact HO_10.out) hb); have n3_ := Aside0.mk (below_step (by repeat (first | (with_reducible first | exact HB.out | apply below_alloc | apply pw_below_drewN | apply below_drew1) | exact HB.out)) hb); clear HO_8; clear HO_9; clear HO_10; clear HB; have HO_8 := n0_; have HO_9 := n1_; have HO_10 := n2_; have HB := n3_; clear n0_ n1_ n2_ n3_; (try clear hb); (try clear hb2); (try clear hk); (try clear hi)) | ((with_reducible refine gate_callee (f := 16) rfl ?_); refine goesL_ (some 148) rfl rfl Try.func16 (by kernel_rfl) rfl #[.string (t181 ++ t178), .int .i64 (wrap64 (t177 - (wrap64 (16 * (Go.bits .and .i64 (a2 / 4096) 15))))), .int .i64 t177] rfl (by (try simp only [List.map_toArray, List.map_cons, List.map_nil]); first | done | rfl | (simp only [List.length_drop, List.length_take]; rfl)) ?_; (with_reducible refine (stack_Read.calls (t181 ++ t178) (wrap64 (t177 - (wrap64 (16 * (Go.bits .and .i64 (a2 / 4096) 15))))) t177 t182 t183 t184 true _ A43.out).mono ?_); rintro e w57 ⟨v186, v188, v190, rfl, ho0, ho1, ho2, hb⟩; refine ⟨_, rfl, ?_⟩; have n0_ := Aside0.mk (Kd.R_mono (Kd.R_told (Kd.R_told (Kd.R_old (by (with_reducible repeat (first | apply Kd.R_alloc | apply Kd.R_drewN | apply Kd.R_drew)); exact HO_8.out) hb) (Kd.R_base ho0)) (Kd.R_base ho1)) (fun _ h_ => h_.1)); have n1_ := Aside0.mk (Kd.R_mono (Kd.R_told (Kd.R_told (Kd.R_old (by (with_reducible repeat (first | apply Kd.R_alloc | apply Kd.R_drewN | apply Kd.R_drew)); exact HO_9.out) hb) (Kd.R_base ho0)) (Kd.R_base ho1)) (fun _ h_ => h_.1)); have n2_ := Aside0.mk (Kd.R_elder' (by (with_reducible repeat (first | apply Kd.R_alloc | apply Kd.R_drewN | apply Kd.R_drew)); exact HO_10.out) (Kd.R_base ho2) hb); have n3_ := Aside0.mk (Kd.R_lower (Kd.R_new' (Kd.R_new' ho0 (Kd.R_lt (by (with_reducible repeat (first | apply Kd.R_alloc | apply Kd.R_drewN | apply Kd.R_drew)); exact HO_8.out))) (Kd.R_lt (by (with_reducible repeat (first | apply Kd.R_alloc | apply Kd.R_drewN | apply Kd.R_drew)); exact HO_9.out))) (below_size (by repeat (first | (with_reducible first | exact HB.out | apply below_alloc | apply pw_below_drewN | apply below_drew1) | exact HB.out)))); have n4_ := Aside0.mk (Kd.R_lower (Kd.R_new' (Kd.R_new' ho1 (Kd.R_lt (by (with_reducible repeat (first | apply Kd.R_alloc | apply Kd.R_drewN | apply Kd.R_drew)); exact HO_8.out))) (Kd.R_lt (by (with_reducible repeat (first | apply Kd.R_alloc | apply Kd.R_drewN | apply Kd.R_drew)); exact HO_9.out))) (below_size (by repeat (first | (with_reducible first | exact HB.out | apply below_alloc | apply pw_below_drewN | apply below_drew1) | exact HB.out)))); have n5_ := Aside0.mk (Kd.R_lower (Kd.R_new' ho2 (Kd.R_lt (by (with_reducible repeat (first | apply Kd.R_alloc | apply Kd.R_drewN | apply Kd.R_drew)); exact HO_10.out))) (below_size (by repeat (first | (with_reducible first | exact HB.out | apply below_alloc | apply pw_below_drewN | apply below_drew1) | exact HB.out)))); have n6_ := Aside0.mk (below_step (by repeat (first | (with_reducible first | exact HB.out | apply below_alloc | apply pw_below_drewN | apply below_drew1) | exact HB.out)) hb); clear HO_8; clear HO_9; clear HO_10; clear HB; have HO_8 := n0_; have HO_9 := n1_; have HO_10 := n2_; have HO187 := n3_; have HO189 := n4_; have HO191 := n5_; have HB := n6_; clear n0_ n1_ n2_ n3_ n4_ n5_ n6_; (try clear hb); (try clear hb2); (try clear hk); (try clear hi); (try clear ho0); (try clear ho1); (try clear ho2); obtain ⟨Ao58, co58, eo58⟩ := Kd.R_slice HO187.out; subst eo58) | ((with_reducible refine gate_callee (f := 18) rfl ?_); refine goesL_ (some 155) rfl rfl Try.func18 (by kernel_rfl) rfl #[.slice Ao58 t182.length co58, .slice Ao32 x8_1.length co32] rfl (by (try simp only [List.map_toArray, List.map_cons, List.map_nil]); first | done | rfl | (simp only [List.length_drop, List.length_take]; rfl)) ?_; (with_reducible refine (flyleafref09_SameTexts.calls kj30 _ _ t182 _ _ x8_1 true _ ?side1 ?side2 ?side3 ?side4 A44.out).mono ?_); (case side1 => repeat (first | exact (Kd.R_reads' HO187.out).2.2 | (with_reducible refine Kd.C_alloc ?_ _) | (with_reducible refine Kd.C_drewN ?_ _) | (with_reducible refine Kd.C_drew ?_))); (case side2 => exact (Kd.R_reads' HO187.out).2.1); (case side3 => repeat (first | exact (Kd.R_reads' HO_8.out).2.2 | (with_reducible refine Kd.C_alloc ?_ _) | (with_reducible refine Kd.C_drewN ?_ _) | (with_reducible refine Kd.C_drew ?_))); (case side4 => exact (Kd.R_reads' HO_8.out).2.1); rintro e w' ⟨rfl, ⟨nd, rfl⟩⟩; refine ⟨_, rfl, ?_⟩; obtain ⟨Ao59, co59, eo59⟩ := Kd.R_slice HO189.out; subst eo59) | ((with_reducible refine gate_callee (f := 18) rfl ?_); refine goesL_ (some 158) rfl rfl Try.func18 (by kernel_rfl) rfl #[.slice Ao59 t183.length co59, .slice Ao33 x9_1.length co33] rfl (by (try simp only [List.map_toArray, List.map_cons, List.map_nil]); first | done | rfl | (simp only [List.length_drop, List.length_take]; rfl)) ?_; (with_reducible refine (flyleafref09_SameTexts.calls kj30 _ _ t183 _ _ x9_1 false _ ?side1 ?side2 ?side3 ?side4 A45.out).mono ?_); (case side1 => repeat (first | exact (Kd.R_reads' HO189.out).2.2 | (with_reducible refine Kd.C_alloc ?_ _) | (with_reducible refine Kd.C_drewN ?_ _) | (with_reducible refine Kd.C_drew ?_))); (case side2 => exact (Kd.R_reads' HO189.out).2.1); (case side3 => repeat (first | exact (Kd.R_reads' HO_9.out).2.2 | (with_reducible refine Kd.C_alloc ?_ _) | (with_reducible refine Kd.C_drewN ?_ _) | (with_reducible refine Kd.C_drew ?_))); (case side4 => exact (Kd.R_reads' HO_9.out).2.1); rintro e w' ⟨rfl, ⟨nd, rfl⟩⟩; refine ⟨_, rfl, ?_⟩; obtain ⟨Ao60, co60, eo60⟩ := Kd.R_slice HO191.out; subst eo60) | ((with_reducible refine gate_callee (f := 19) rfl ?_); refine goesL_ (some 161) rfl rfl Try.func19 (by kernel_rfl) rfl #[.slice Ao60 t184.length co60, .slice Ao34 x10_22.length co34] rfl (by (try simp only [List.map_toArray, List.map_cons, List.map_nil]); first | done | rfl | (simp only [List.length_drop, List.length_take]; rfl)) ?_; (with_reducible refine (flyleafref17_Same.calls kj30 _ _ t184 _ _ x10_22 t194 _ ?side1 ?side2 ?side3 ?side4 A46.out).mono ?_); (case side1 => repeat (first | exact (Kd.R_reads' HO191.out).2.2 | (with_reducible refine Kd.C_alloc ?_ _) | (with_reducible refine Kd.C_drewN ?_ _) | (with_reducible refine Kd.C_drew ?_))); (case side2 => exact (Kd.R_reads' HO191.out).2.1); (case side3 => repeat (first | exact (Kd.R_reads' HO_10.out).2.2 | (with_reducible refine Kd.C_alloc ?_ _) | (with_reducible refine Kd.C_drewN ?_ _) | (with_reducible refine Kd.C_drew ?_))); (case side4 => exact (Kd.R_reads' HO_10.out).2.1); rintro e w' ⟨rfl, ⟨nd, rfl⟩⟩; refine ⟨_, rfl, ?_⟩))
                                go_ret
                                exact ⟨by first | rfl | (simp [errW_none, errW_some] <;> rfl) | (simp [*, errW_none, errW_some] <;> rfl), by repeat (first | (with_reducible first | exact HB.out | apply below_alloc | apply pw_below_drewN | apply below_drew1) | exact HB.out)⟩
                            · replace c49 := Bool.eq_false_iff.mpr c49
                              subst c49
                              have H1 : (some false) = some r := by rw [if_neg (show ¬ (false = true) by decide)] at H; exact H
                              clear H
                              have H := H1
                              clear H1
                              obtain rfl := Option.some.inj H
                              go_wp2_with (first | ((with_reducible refine gate_callee (f := 17) rfl ?_); refine goesL_ (some 141) rfl rfl Try.func17 (by kernel_rfl) rfl #[.string (⟨#[]⟩ : ByteArray), .int .i64 (wrap64 (16 * (Go.bits .and .i64 (a2 / 4096) 15)))] rfl (by (try simp only [List.map_toArray, List.map_cons, List.map_nil]); first | done | rfl | (simp only [List.length_drop, List.length_take]; rfl)) ?_; (with_reducible refine (flyleafref01_Fill.calls (⟨#[]⟩ : ByteArray) (wrap64 (16 * (Go.bits .and .i64 (a2 / 4096) 15))) t181 _ A41.out).mono ?_); rintro e w61 ⟨rfl, hb⟩; refine ⟨_, rfl, ?_⟩; have n0_ := Aside0.mk (Kd.R_below (by (with_reducible repeat (first | apply Kd.R_alloc | apply Kd.R_drewN | apply Kd.R_drew)); exact HO_8.out) hb); have n1_ := Aside0.mk (Kd.R_below (by (with_reducible repeat (first | apply Kd.R_alloc | apply Kd.R_drewN | apply Kd.R_drew)); exact HO_9.out) hb); have n2_ := Aside0.mk (Kd.R_below (by (with_reducible repeat (first | apply Kd.R_alloc | apply Kd.R_drewN | apply Kd.R_drew)); exact HO_10.out) hb); have n3_ := Aside0.mk (below_step (by repeat (first | (with_reducible first | exact HB.out | apply below_alloc | apply pw_below_drewN | apply below_drew1) | exact HB.out)) hb); clear HO_8; clear HO_9; clear HO_10; clear HB; have HO_8 := n0_; have HO_9 := n1_; have HO_10 := n2_; have HB := n3_; clear n0_ n1_ n2_ n3_; (try clear hb); (try clear hb2); (try clear hk); (try clear hi)) | ((with_reducible refine gate_callee (f := 16) rfl ?_); refine goesL_ (some 148) rfl rfl Try.func16 (by kernel_rfl) rfl #[.string (t181 ++ t178), .int .i64 (wrap64 (t177 - (wrap64 (16 * (Go.bits .and .i64 (a2 / 4096) 15))))), .int .i64 t177] rfl (by (try simp only [List.map_toArray, List.map_cons, List.map_nil]); first | done | rfl | (simp only [List.length_drop, List.length_take]; rfl)) ?_; (with_reducible refine (stack_Read.calls (t181 ++ t178) (wrap64 (t177 - (wrap64 (16 * (Go.bits .and .i64 (a2 / 4096) 15))))) t177 t182 t183 t184 true _ A43.out).mono ?_); rintro e w62 ⟨v186, v188, v190, rfl, ho0, ho1, ho2, hb⟩; refine ⟨_, rfl, ?_⟩; have n0_ := Aside0.mk (Kd.R_mono (Kd.R_told (Kd.R_told (Kd.R_old (by (with_reducible repeat (first | apply Kd.R_alloc | apply Kd.R_drewN | apply Kd.R_drew)); exact HO_8.out) hb) (Kd.R_base ho0)) (Kd.R_base ho1)) (fun _ h_ => h_.1)); have n1_ := Aside0.mk (Kd.R_mono (Kd.R_told (Kd.R_told (Kd.R_old (by (with_reducible repeat (first | apply Kd.R_alloc | apply Kd.R_drewN | apply Kd.R_drew)); exact HO_9.out) hb) (Kd.R_base ho0)) (Kd.R_base ho1)) (fun _ h_ => h_.1)); have n2_ := Aside0.mk (Kd.R_elder' (by (with_reducible repeat (first | apply Kd.R_alloc | apply Kd.R_drewN | apply Kd.R_drew)); exact HO_10.out) (Kd.R_base ho2) hb); have n3_ := Aside0.mk (Kd.R_lower (Kd.R_new' (Kd.R_new' ho0 (Kd.R_lt (by (with_reducible repeat (first | apply Kd.R_alloc | apply Kd.R_drewN | apply Kd.R_drew)); exact HO_8.out))) (Kd.R_lt (by (with_reducible repeat (first | apply Kd.R_alloc | apply Kd.R_drewN | apply Kd.R_drew)); exact HO_9.out))) (below_size (by repeat (first | (with_reducible first | exact HB.out | apply below_alloc | apply pw_below_drewN | apply below_drew1) | exact HB.out)))); have n4_ := Aside0.mk (Kd.R_lower (Kd.R_new' (Kd.R_new' ho1 (Kd.R_lt (by (with_reducible repeat (first | apply Kd.R_alloc | apply Kd.R_drewN | apply Kd.R_drew)); exact HO_8.out))) (Kd.R_lt (by (with_reducible repeat (first | apply Kd.R_alloc | apply Kd.R_drewN | apply Kd.R_drew)); exact HO_9.out))) (below_size (by repeat (first | (with_reducible first | exact HB.out | apply below_alloc | apply pw_below_drewN | apply below_drew1) | exact HB.out)))); have n5_ := Aside0.mk (Kd.R_lower (Kd.R_new' ho2 (Kd.R_lt (by (with_reducible repeat (first | apply Kd.R_alloc | apply Kd.R_drewN | apply Kd.R_drew)); exact HO_10.out))) (below_size (by repeat (first | (with_reducible first | exact HB.out | apply below_alloc | apply pw_below_drewN | apply below_drew1) | exact HB.out)))); have n6_ := Aside0.mk (below_step (by repeat (first | (with_reducible first | exact HB.out | apply below_alloc | apply pw_below_drewN | apply below_drew1) | exact HB.out)) hb); clear HO_8; clear HO_9; clear HO_10; clear HB; have HO_8 := n0_; have HO_9 := n1_; have HO_10 := n2_; have HO187 := n3_; have HO189 := n4_; have HO191 := n5_; have HB := n6_; clear n0_ n1_ n2_ n3_ n4_ n5_ n6_; (try clear hb); (try clear hb2); (try clear hk); (try clear hi); (try clear ho0); (try clear ho1); (try clear ho2); obtain ⟨Ao63, co63, eo63⟩ := Kd.R_slice HO187.out; subst eo63) | ((with_reducible refine gate_callee (f := 18) rfl ?_); refine goesL_ (some 155) rfl rfl Try.func18 (by kernel_rfl) rfl #[.slice Ao63 t182.length co63, .slice Ao32 x8_1.length co32] rfl (by (try simp only [List.map_toArray, List.map_cons, List.map_nil]); first | done | rfl | (simp only [List.length_drop, List.length_take]; rfl)) ?_; (with_reducible refine (flyleafref09_SameTexts.calls kj30 _ _ t182 _ _ x8_1 false _ ?side1 ?side2 ?side3 ?side4 A44.out).mono ?_); (case side1 => repeat (first | exact (Kd.R_reads' HO187.out).2.2 | (with_reducible refine Kd.C_alloc ?_ _) | (with_reducible refine Kd.C_drewN ?_ _) | (with_reducible refine Kd.C_drew ?_))); (case side2 => exact (Kd.R_reads' HO187.out).2.1); (case side3 => repeat (first | exact (Kd.R_reads' HO_8.out).2.2 | (with_reducible refine Kd.C_alloc ?_ _) | (with_reducible refine Kd.C_drewN ?_ _) | (with_reducible refine Kd.C_drew ?_))); (case side4 => exact (Kd.R_reads' HO_8.out).2.1); rintro e w' ⟨rfl, ⟨nd, rfl⟩⟩; refine ⟨_, rfl, ?_⟩; obtain ⟨Ao64, co64, eo64⟩ := Kd.R_slice HO189.out; subst eo64) | ((with_reducible refine gate_callee (f := 18) rfl ?_); refine goesL_ (some 158) rfl rfl Try.func18 (by kernel_rfl) rfl #[.slice Ao64 t183.length co64, .slice Ao33 x9_1.length co33] rfl (by (try simp only [List.map_toArray, List.map_cons, List.map_nil]); first | done | rfl | (simp only [List.length_drop, List.length_take]; rfl)) ?_; (with_reducible refine (flyleafref09_SameTexts.calls kj30 _ _ t183 _ _ x9_1 t193 _ ?side1 ?side2 ?side3 ?side4 A45.out).mono ?_); (case side1 => repeat (first | exact (Kd.R_reads' HO189.out).2.2 | (with_reducible refine Kd.C_alloc ?_ _) | (with_reducible refine Kd.C_drewN ?_ _) | (with_reducible refine Kd.C_drew ?_))); (case side2 => exact (Kd.R_reads' HO189.out).2.1); (case side3 => repeat (first | exact (Kd.R_reads' HO_9.out).2.2 | (with_reducible refine Kd.C_alloc ?_ _) | (with_reducible refine Kd.C_drewN ?_ _) | (with_reducible refine Kd.C_drew ?_))); (case side4 => exact (Kd.R_reads' HO_9.out).2.1); rintro e w' ⟨rfl, ⟨nd, rfl⟩⟩; refine ⟨_, rfl, ?_⟩; obtain ⟨Ao65, co65, eo65⟩ := Kd.R_slice HO191.out; subst eo65) | ((with_reducible refine gate_callee (f := 19) rfl ?_); refine goesL_ (some 161) rfl rfl Try.func19 (by kernel_rfl) rfl #[.slice Ao65 t184.length co65, .slice Ao34 x10_22.length co34] rfl (by (try simp only [List.map_toArray, List.map_cons, List.map_nil]); first | done | rfl | (simp only [List.length_drop, List.length_take]; rfl)) ?_; (with_reducible refine (flyleafref17_Same.calls kj30 _ _ t184 _ _ x10_22 t194 _ ?side1 ?side2 ?side3 ?side4 A46.out).mono ?_); (case side1 => repeat (first | exact (Kd.R_reads' HO191.out).2.2 | (with_reducible refine Kd.C_alloc ?_ _) | (with_reducible refine Kd.C_drewN ?_ _) | (with_reducible refine Kd.C_drew ?_))); (case side2 => exact (Kd.R_reads' HO191.out).2.1); (case side3 => repeat (first | exact (Kd.R_reads' HO_10.out).2.2 | (with_reducible refine Kd.C_alloc ?_ _) | (with_reducible refine Kd.C_drewN ?_ _) | (with_reducible refine Kd.C_drew ?_))); (case side4 => exact (Kd.R_reads' HO_10.out).2.1); rintro e w' ⟨rfl, ⟨nd, rfl⟩⟩; refine ⟨_, rfl, ?_⟩))
                              go_ret
                              exact ⟨by first | rfl | (simp [errW_none, errW_some] <;> rfl) | (simp [*, errW_none, errW_some] <;> rfl), by repeat (first | (with_reducible first | exact HB.out | apply below_alloc | apply pw_below_drewN | apply below_drew1) | exact HB.out)⟩
                          · replace c48 := Bool.eq_false_iff.mpr c48
                            subst c48
                            have H1 : (some false) = some r := by rw [if_neg (show ¬ (false = true) by decide)] at H; exact H
                            clear H
                            have H := H1
                            clear H1
                            obtain rfl := Option.some.inj H
                            go_wp2_with (first | ((with_reducible refine gate_callee (f := 17) rfl ?_); refine goesL_ (some 141) rfl rfl Try.func17 (by kernel_rfl) rfl #[.string (⟨#[]⟩ : ByteArray), .int .i64 (wrap64 (16 * (Go.bits .and .i64 (a2 / 4096) 15)))] rfl (by (try simp only [List.map_toArray, List.map_cons, List.map_nil]); first | done | rfl | (simp only [List.length_drop, List.length_take]; rfl)) ?_; (with_reducible refine (flyleafref01_Fill.calls (⟨#[]⟩ : ByteArray) (wrap64 (16 * (Go.bits .and .i64 (a2 / 4096) 15))) t181 _ A41.out).mono ?_); rintro e w66 ⟨rfl, hb⟩; refine ⟨_, rfl, ?_⟩; have n0_ := Aside0.mk (Kd.R_below (by (with_reducible repeat (first | apply Kd.R_alloc | apply Kd.R_drewN | apply Kd.R_drew)); exact HO_8.out) hb); have n1_ := Aside0.mk (Kd.R_below (by (with_reducible repeat (first | apply Kd.R_alloc | apply Kd.R_drewN | apply Kd.R_drew)); exact HO_9.out) hb); have n2_ := Aside0.mk (Kd.R_below (by (with_reducible repeat (first | apply Kd.R_alloc | apply Kd.R_drewN | apply Kd.R_drew)); exact HO_10.out) hb); have n3_ := Aside0.mk (below_step (by repeat (first | (with_reducible first | exact HB.out | apply below_alloc | apply pw_below_drewN | apply below_drew1) | exact HB.out)) hb); clear HO_8; clear HO_9; clear HO_10; clear HB; have HO_8 := n0_; have HO_9 := n1_; have HO_10 := n2_; have HB := n3_; clear n0_ n1_ n2_ n3_; (try clear hb); (try clear hb2); (try clear hk); (try clear hi)) | ((with_reducible refine gate_callee (f := 16) rfl ?_); refine goesL_ (some 148) rfl rfl Try.func16 (by kernel_rfl) rfl #[.string (t181 ++ t178), .int .i64 (wrap64 (t177 - (wrap64 (16 * (Go.bits .and .i64 (a2 / 4096) 15))))), .int .i64 t177] rfl (by (try simp only [List.map_toArray, List.map_cons, List.map_nil]); first | done | rfl | (simp only [List.length_drop, List.length_take]; rfl)) ?_; (with_reducible refine (stack_Read.calls (t181 ++ t178) (wrap64 (t177 - (wrap64 (16 * (Go.bits .and .i64 (a2 / 4096) 15))))) t177 t182 t183 t184 false _ A43.out).mono ?_); rintro e w67 ⟨v186, v188, v190, rfl, ho0, ho1, ho2, hb⟩; refine ⟨_, rfl, ?_⟩; have n0_ := Aside0.mk (Kd.R_mono (Kd.R_told (Kd.R_told (Kd.R_old (by (with_reducible repeat (first | apply Kd.R_alloc | apply Kd.R_drewN | apply Kd.R_drew)); exact HO_8.out) hb) (Kd.R_base ho0)) (Kd.R_base ho1)) (fun _ h_ => h_.1)); have n1_ := Aside0.mk (Kd.R_mono (Kd.R_told (Kd.R_told (Kd.R_old (by (with_reducible repeat (first | apply Kd.R_alloc | apply Kd.R_drewN | apply Kd.R_drew)); exact HO_9.out) hb) (Kd.R_base ho0)) (Kd.R_base ho1)) (fun _ h_ => h_.1)); have n2_ := Aside0.mk (Kd.R_elder' (by (with_reducible repeat (first | apply Kd.R_alloc | apply Kd.R_drewN | apply Kd.R_drew)); exact HO_10.out) (Kd.R_base ho2) hb); have n3_ := Aside0.mk (Kd.R_lower (Kd.R_new' (Kd.R_new' ho0 (Kd.R_lt (by (with_reducible repeat (first | apply Kd.R_alloc | apply Kd.R_drewN | apply Kd.R_drew)); exact HO_8.out))) (Kd.R_lt (by (with_reducible repeat (first | apply Kd.R_alloc | apply Kd.R_drewN | apply Kd.R_drew)); exact HO_9.out))) (below_size (by repeat (first | (with_reducible first | exact HB.out | apply below_alloc | apply pw_below_drewN | apply below_drew1) | exact HB.out)))); have n4_ := Aside0.mk (Kd.R_lower (Kd.R_new' (Kd.R_new' ho1 (Kd.R_lt (by (with_reducible repeat (first | apply Kd.R_alloc | apply Kd.R_drewN | apply Kd.R_drew)); exact HO_8.out))) (Kd.R_lt (by (with_reducible repeat (first | apply Kd.R_alloc | apply Kd.R_drewN | apply Kd.R_drew)); exact HO_9.out))) (below_size (by repeat (first | (with_reducible first | exact HB.out | apply below_alloc | apply pw_below_drewN | apply below_drew1) | exact HB.out)))); have n5_ := Aside0.mk (Kd.R_lower (Kd.R_new' ho2 (Kd.R_lt (by (with_reducible repeat (first | apply Kd.R_alloc | apply Kd.R_drewN | apply Kd.R_drew)); exact HO_10.out))) (below_size (by repeat (first | (with_reducible first | exact HB.out | apply below_alloc | apply pw_below_drewN | apply below_drew1) | exact HB.out)))); have n6_ := Aside0.mk (below_step (by repeat (first | (with_reducible first | exact HB.out | apply below_alloc | apply pw_below_drewN | apply below_drew1) | exact HB.out)) hb); clear HO_8; clear HO_9; clear HO_10; clear HB; have HO_8 := n0_; have HO_9 := n1_; have HO_10 := n2_; have HO187 := n3_; have HO189 := n4_; have HO191 := n5_; have HB := n6_; clear n0_ n1_ n2_ n3_ n4_ n5_ n6_; (try clear hb); (try clear hb2); (try clear hk); (try clear hi); (try clear ho0); (try clear ho1); (try clear ho2); obtain ⟨Ao68, co68, eo68⟩ := Kd.R_slice HO187.out; subst eo68) | ((with_reducible refine gate_callee (f := 18) rfl ?_); refine goesL_ (some 155) rfl rfl Try.func18 (by kernel_rfl) rfl #[.slice Ao68 t182.length co68, .slice Ao32 x8_1.length co32] rfl (by (try simp only [List.map_toArray, List.map_cons, List.map_nil]); first | done | rfl | (simp only [List.length_drop, List.length_take]; rfl)) ?_; (with_reducible refine (flyleafref09_SameTexts.calls kj30 _ _ t182 _ _ x8_1 t192 _ ?side1 ?side2 ?side3 ?side4 A44.out).mono ?_); (case side1 => repeat (first | exact (Kd.R_reads' HO187.out).2.2 | (with_reducible refine Kd.C_alloc ?_ _) | (with_reducible refine Kd.C_drewN ?_ _) | (with_reducible refine Kd.C_drew ?_))); (case side2 => exact (Kd.R_reads' HO187.out).2.1); (case side3 => repeat (first | exact (Kd.R_reads' HO_8.out).2.2 | (with_reducible refine Kd.C_alloc ?_ _) | (with_reducible refine Kd.C_drewN ?_ _) | (with_reducible refine Kd.C_drew ?_))); (case side4 => exact (Kd.R_reads' HO_8.out).2.1); rintro e w' ⟨rfl, ⟨nd, rfl⟩⟩; refine ⟨_, rfl, ?_⟩; obtain ⟨Ao69, co69, eo69⟩ := Kd.R_slice HO189.out; subst eo69) | ((with_reducible refine gate_callee (f := 18) rfl ?_); refine goesL_ (some 158) rfl rfl Try.func18 (by kernel_rfl) rfl #[.slice Ao69 t183.length co69, .slice Ao33 x9_1.length co33] rfl (by (try simp only [List.map_toArray, List.map_cons, List.map_nil]); first | done | rfl | (simp only [List.length_drop, List.length_take]; rfl)) ?_; (with_reducible refine (flyleafref09_SameTexts.calls kj30 _ _ t183 _ _ x9_1 t193 _ ?side1 ?side2 ?side3 ?side4 A45.out).mono ?_); (case side1 => repeat (first | exact (Kd.R_reads' HO189.out).2.2 | (with_reducible refine Kd.C_alloc ?_ _) | (with_reducible refine Kd.C_drewN ?_ _) | (with_reducible refine Kd.C_drew ?_))); (case side2 => exact (Kd.R_reads' HO189.out).2.1); (case side3 => repeat (first | exact (Kd.R_reads' HO_9.out).2.2 | (with_reducible refine Kd.C_alloc ?_ _) | (with_reducible refine Kd.C_drewN ?_ _) | (with_reducible refine Kd.C_drew ?_))); (case side4 => exact (Kd.R_reads' HO_9.out).2.1); rintro e w' ⟨rfl, ⟨nd, rfl⟩⟩; refine ⟨_, rfl, ?_⟩; obtain ⟨Ao70, co70, eo70⟩ := Kd.R_slice HO191.out; subst eo70) | ((with_reducible refine gate_callee (f := 19) rfl ?_); refine goesL_ (some 161) rfl rfl Try.func19 (by kernel_rfl) rfl #[.slice Ao70 t184.length co70, .slice Ao34 x10_22.length co34] rfl (by (try simp only [List.map_toArray, List.map_cons, List.map_nil]); first | done | rfl | (simp only [List.length_drop, List.length_take]; rfl)) ?_; (with_reducible refine (flyleafref17_Same.calls kj30 _ _ t184 _ _ x10_22 t194 _ ?side1 ?side2 ?side3 ?side4 A46.out).mono ?_); (case side1 => repeat (first | exact (Kd.R_reads' HO191.out).2.2 | (with_reducible refine Kd.C_alloc ?_ _) | (with_reducible refine Kd.C_drewN ?_ _) | (with_reducible refine Kd.C_drew ?_))); (case side2 => exact (Kd.R_reads' HO191.out).2.1); (case side3 => repeat (first | exact (Kd.R_reads' HO_10.out).2.2 | (with_reducible refine Kd.C_alloc ?_ _) | (with_reducible refine Kd.C_drewN ?_ _) | (with_reducible refine Kd.C_drew ?_))); (case side4 => exact (Kd.R_reads' HO_10.out).2.1); rintro e w' ⟨rfl, ⟨nd, rfl⟩⟩; refine ⟨_, rfl, ?_⟩))
                            go_ret
                            exact ⟨by first | rfl | (simp [errW_none, errW_some] <;> rfl) | (simp [*, errW_none, errW_some] <;> rfl), by repeat (first | (with_reducible first | exact HB.out | apply below_alloc | apply pw_below_drewN | apply below_drew1) | exact HB.out)⟩
                        · replace c47 := Bool.eq_false_iff.mpr c47
                          subst c47
                          have H1 : (some false) = some r := by rw [if_neg (show ¬ (false = true) by decide)] at H; exact H
                          clear H
                          have H := H1
                          clear H1
                          obtain rfl := Option.some.inj H
                          go_wp2_with (first | ((with_reducible refine gate_callee (f := 17) rfl ?_); refine goesL_ (some 141) rfl rfl Try.func17 (by kernel_rfl) rfl #[.string (⟨#[]⟩ : ByteArray), .int .i64 (wrap64 (16 * (Go.bits .and .i64 (a2 / 4096) 15)))] rfl (by (try simp only [List.map_toArray, List.map_cons, List.map_nil]); first | done | rfl | (simp only [List.length_drop, List.length_take]; rfl)) ?_; (with_reducible refine (flyleafref01_Fill.calls (⟨#[]⟩ : ByteArray) (wrap64 (16 * (Go.bits .and .i64 (a2 / 4096) 15))) t181 _ A41.out).mono ?_); rintro e w71 ⟨rfl, hb⟩; refine ⟨_, rfl, ?_⟩; have n0_ := Aside0.mk (Kd.R_below (by (with_reducible repeat (first | apply Kd.R_alloc | apply Kd.R_drewN | apply Kd.R_drew)); exact HO_8.out) hb); have n1_ := Aside0.mk (Kd.R_below (by (with_reducible repeat (first | apply Kd.R_alloc | apply Kd.R_drewN | apply Kd.R_drew)); exact HO_9.out) hb); have n2_ := Aside0.mk (Kd.R_below (by (with_reducible repeat (first | apply Kd.R_alloc | apply Kd.R_drewN | apply Kd.R_drew)); exact HO_10.out) hb); have n3_ := Aside0.mk (below_step (by repeat (first | (with_reducible first | exact HB.out | apply below_alloc | apply pw_below_drewN | apply below_drew1) | exact HB.out)) hb); clear HO_8; clear HO_9; clear HO_10; clear HB; have HO_8 := n0_; have HO_9 := n1_; have HO_10 := n2_; have HB := n3_; clear n0_ n1_ n2_ n3_; (try clear hb); (try clear hb2); (try clear hk); (try clear hi)) | ((with_reducible refine gate_callee (f := 16) rfl ?_); refine goesL_ (some 148) rfl rfl Try.func16 (by kernel_rfl) rfl #[.string (t181 ++ t178), .int .i64 (wrap64 (t177 - (wrap64 (16 * (Go.bits .and .i64 (a2 / 4096) 15))))), .int .i64 t177] rfl (by (try simp only [List.map_toArray, List.map_cons, List.map_nil]); first | done | rfl | (simp only [List.length_drop, List.length_take]; rfl)) ?_; (with_reducible refine (stack_Read.calls (t181 ++ t178) (wrap64 (t177 - (wrap64 (16 * (Go.bits .and .i64 (a2 / 4096) 15))))) t177 t182 t183 t184 t185 _ A43.out).mono ?_); rintro e w72 ⟨v186, v188, v190, rfl, ho0, ho1, ho2, hb⟩; refine ⟨_, rfl, ?_⟩; have n0_ := Aside0.mk (Kd.R_mono (Kd.R_told (Kd.R_told (Kd.R_old (by (with_reducible repeat (first | apply Kd.R_alloc | apply Kd.R_drewN | apply Kd.R_drew)); exact HO_8.out) hb) (Kd.R_base ho0)) (Kd.R_base ho1)) (fun _ h_ => h_.1)); have n1_ := Aside0.mk (Kd.R_mono (Kd.R_told (Kd.R_told (Kd.R_old (by (with_reducible repeat (first | apply Kd.R_alloc | apply Kd.R_drewN | apply Kd.R_drew)); exact HO_9.out) hb) (Kd.R_base ho0)) (Kd.R_base ho1)) (fun _ h_ => h_.1)); have n2_ := Aside0.mk (Kd.R_elder' (by (with_reducible repeat (first | apply Kd.R_alloc | apply Kd.R_drewN | apply Kd.R_drew)); exact HO_10.out) (Kd.R_base ho2) hb); have n3_ := Aside0.mk (Kd.R_lower (Kd.R_new' (Kd.R_new' ho0 (Kd.R_lt (by (with_reducible repeat (first | apply Kd.R_alloc | apply Kd.R_drewN | apply Kd.R_drew)); exact HO_8.out))) (Kd.R_lt (by (with_reducible repeat (first | apply Kd.R_alloc | apply Kd.R_drewN | apply Kd.R_drew)); exact HO_9.out))) (below_size (by repeat (first | (with_reducible first | exact HB.out | apply below_alloc | apply pw_below_drewN | apply below_drew1) | exact HB.out)))); have n4_ := Aside0.mk (Kd.R_lower (Kd.R_new' (Kd.R_new' ho1 (Kd.R_lt (by (with_reducible repeat (first | apply Kd.R_alloc | apply Kd.R_drewN | apply Kd.R_drew)); exact HO_8.out))) (Kd.R_lt (by (with_reducible repeat (first | apply Kd.R_alloc | apply Kd.R_drewN | apply Kd.R_drew)); exact HO_9.out))) (below_size (by repeat (first | (with_reducible first | exact HB.out | apply below_alloc | apply pw_below_drewN | apply below_drew1) | exact HB.out)))); have n5_ := Aside0.mk (Kd.R_lower (Kd.R_new' ho2 (Kd.R_lt (by (with_reducible repeat (first | apply Kd.R_alloc | apply Kd.R_drewN | apply Kd.R_drew)); exact HO_10.out))) (below_size (by repeat (first | (with_reducible first | exact HB.out | apply below_alloc | apply pw_below_drewN | apply below_drew1) | exact HB.out)))); have n6_ := Aside0.mk (below_step (by repeat (first | (with_reducible first | exact HB.out | apply below_alloc | apply pw_below_drewN | apply below_drew1) | exact HB.out)) hb); clear HO_8; clear HO_9; clear HO_10; clear HB; have HO_8 := n0_; have HO_9 := n1_; have HO_10 := n2_; have HO187 := n3_; have HO189 := n4_; have HO191 := n5_; have HB := n6_; clear n0_ n1_ n2_ n3_ n4_ n5_ n6_; (try clear hb); (try clear hb2); (try clear hk); (try clear hi); (try clear ho0); (try clear ho1); (try clear ho2); obtain ⟨Ao73, co73, eo73⟩ := Kd.R_slice HO187.out; subst eo73) | ((with_reducible refine gate_callee (f := 18) rfl ?_); refine goesL_ (some 155) rfl rfl Try.func18 (by kernel_rfl) rfl #[.slice Ao73 t182.length co73, .slice Ao32 x8_1.length co32] rfl (by (try simp only [List.map_toArray, List.map_cons, List.map_nil]); first | done | rfl | (simp only [List.length_drop, List.length_take]; rfl)) ?_; (with_reducible refine (flyleafref09_SameTexts.calls kj30 _ _ t182 _ _ x8_1 t192 _ ?side1 ?side2 ?side3 ?side4 A44.out).mono ?_); (case side1 => repeat (first | exact (Kd.R_reads' HO187.out).2.2 | (with_reducible refine Kd.C_alloc ?_ _) | (with_reducible refine Kd.C_drewN ?_ _) | (with_reducible refine Kd.C_drew ?_))); (case side2 => exact (Kd.R_reads' HO187.out).2.1); (case side3 => repeat (first | exact (Kd.R_reads' HO_8.out).2.2 | (with_reducible refine Kd.C_alloc ?_ _) | (with_reducible refine Kd.C_drewN ?_ _) | (with_reducible refine Kd.C_drew ?_))); (case side4 => exact (Kd.R_reads' HO_8.out).2.1); rintro e w' ⟨rfl, ⟨nd, rfl⟩⟩; refine ⟨_, rfl, ?_⟩; obtain ⟨Ao74, co74, eo74⟩ := Kd.R_slice HO189.out; subst eo74) | ((with_reducible refine gate_callee (f := 18) rfl ?_); refine goesL_ (some 158) rfl rfl Try.func18 (by kernel_rfl) rfl #[.slice Ao74 t183.length co74, .slice Ao33 x9_1.length co33] rfl (by (try simp only [List.map_toArray, List.map_cons, List.map_nil]); first | done | rfl | (simp only [List.length_drop, List.length_take]; rfl)) ?_; (with_reducible refine (flyleafref09_SameTexts.calls kj30 _ _ t183 _ _ x9_1 t193 _ ?side1 ?side2 ?side3 ?side4 A45.out).mono ?_); (case side1 => repeat (first | exact (Kd.R_reads' HO189.out).2.2 | (with_reducible refine Kd.C_alloc ?_ _) | (with_reducible refine Kd.C_drewN ?_ _) | (with_reducible refine Kd.C_drew ?_))); (case side2 => exact (Kd.R_reads' HO189.out).2.1); (case side3 => repeat (first | exact (Kd.R_reads' HO_9.out).2.2 | (with_reducible refine Kd.C_alloc ?_ _) | (with_reducible refine Kd.C_drewN ?_ _) | (with_reducible refine Kd.C_drew ?_))); (case side4 => exact (Kd.R_reads' HO_9.out).2.1); rintro e w' ⟨rfl, ⟨nd, rfl⟩⟩; refine ⟨_, rfl, ?_⟩; obtain ⟨Ao75, co75, eo75⟩ := Kd.R_slice HO191.out; subst eo75) | ((with_reducible refine gate_callee (f := 19) rfl ?_); refine goesL_ (some 161) rfl rfl Try.func19 (by kernel_rfl) rfl #[.slice Ao75 t184.length co75, .slice Ao34 x10_22.length co34] rfl (by (try simp only [List.map_toArray, List.map_cons, List.map_nil]); first | done | rfl | (simp only [List.length_drop, List.length_take]; rfl)) ?_; (with_reducible refine (flyleafref17_Same.calls kj30 _ _ t184 _ _ x10_22 t194 _ ?side1 ?side2 ?side3 ?side4 A46.out).mono ?_); (case side1 => repeat (first | exact (Kd.R_reads' HO191.out).2.2 | (with_reducible refine Kd.C_alloc ?_ _) | (with_reducible refine Kd.C_drewN ?_ _) | (with_reducible refine Kd.C_drew ?_))); (case side2 => exact (Kd.R_reads' HO191.out).2.1); (case side3 => repeat (first | exact (Kd.R_reads' HO_10.out).2.2 | (with_reducible refine Kd.C_alloc ?_ _) | (with_reducible refine Kd.C_drewN ?_ _) | (with_reducible refine Kd.C_drew ?_))); (case side4 => exact (Kd.R_reads' HO_10.out).2.1); rintro e w' ⟨rfl, ⟨nd, rfl⟩⟩; refine ⟨_, rfl, ?_⟩))
                          go_ret
                          exact ⟨by first | rfl | (simp [errW_none, errW_some] <;> rfl) | (simp [*, errW_none, errW_some] <;> rfl), by repeat (first | (with_reducible first | exact HB.out | apply below_alloc | apply pw_below_drewN | apply below_drew1) | exact HB.out)⟩
                      · rw [if_neg c42] at H
                        exact absurd H (by simp)

end Go.Proofs.Ytokilodeihocjaa.A
