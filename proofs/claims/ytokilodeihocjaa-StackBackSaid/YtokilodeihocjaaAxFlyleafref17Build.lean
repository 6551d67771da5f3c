-- Laid by pr.py, a program of this session, out of the translation. Not trusted: Lean checks it.
import Derived.Test.YtokilodeihocjaaAx0
import Derived.Test.YtokilodeihocjaaAxFlyleafref17Texts
import Derived.Test.YtokilodeihocjaaAxFlyleafref17Size
import Derived.Test.YtokilodeihocjaaAxFlyleafref01Fill
import Derived.Test.YtokilodeihocjaaAxFlyleafref17Plain
import Derived.Test.YtokilodeihocjaaAxFlyleafref01Put
namespace Go.Proofs.Ytokilodeihocjaa.A
open Go.RowKit Go.Proofs.YtokilodeihocjaaW.PrintWords Go.Proofs.YtokilodeihocjaaW.PrintLast Go.Proofs.YtokilodeihocjaaW.PrintMore
attribute [local go_sem] max2_int min2_int max_two min_two max_three min_three max_four min_four   -- for this text's walks alone
set_option linter.unusedVariables false
set_option linter.unusedSimpArgs false

/-! ### flyleafref17_Build: function 11 -/
mutual
def flyleafref17_Build.j0 : Nat → Int → List ByteArray → List ByteArray → List (S48) → Bool → Option (Int × ByteArray × Int)
  | 0, _, _, _, _, _ => none
  | k + 1, x0, x1, x2, x3, x41 => if x41 = true then (some (0, (⟨#[]⟩ : ByteArray), 1)) else (flyleafref17_Build.l0 k x0 x1 x2 x3 0)
def flyleafref17_Build.l0 : Nat → Int → List ByteArray → List ByteArray → List (S48) → Int → Option (Int × ByteArray × Int)
  | 0, _, _, _, _, _ => none
  | k + 1, x0, x1, x2, x3, x11 => if x11 < (x3.length : Int) then (if 0 ≤ x11 then (if ((rd_T48 x3 x11).f0) < 1 then (some (0, (⟨#[]⟩ : ByteArray), 1)) else (if ((rd_T48 x3 x11).f0) > 1099511627776 then (some (0, (⟨#[]⟩ : ByteArray), 1)) else (if ((rd_T48 x3 x11).f1) < 0 then (some (0, (⟨#[]⟩ : ByteArray), 1)) else (if ((rd_T48 x3 x11).f1) > 1099511627776 then (some (0, (⟨#[]⟩ : ByteArray), 1)) else (flyleafref17_Build.l0 k x0 x1 x2 x3 (wrap64 (x11 + 1))))))) else (none)) else ((flyleafref17_Size.f k x1 x2 x3).bind fun t155 => (if t155 > 1024 then (flyleafref17_Build.j2 k x0 x1 x2 x3 t155 true) else (flyleafref17_Build.j2 k x0 x1 x2 x3 t155 (decide (t155 > x0)))))
def flyleafref17_Build.j2 : Nat → Int → List ByteArray → List ByteArray → List (S48) → Int → Bool → Option (Int × ByteArray × Int)
  | 0, _, _, _, _, _, _ => none
  | k + 1, x0, x1, x2, x3, x12, x90 => if x90 = true then (some (0, (⟨#[]⟩ : ByteArray), 11)) else ((flyleafref17_texts.f k x1).bind fun t156 => ((flyleafref17_texts.f k x2).bind fun t157 => ((flyleafref01_Put.f k (IntKind.u64.wrap ((x1.length : Int))) 8).bind fun t158 => (flyleafref17_Build.l1 k x0 x1 x2 x3 x12 (wrap64 ((wrap64 (x0 - t156)) - t157)) t158 (⟨#[]⟩ : ByteArray) 0))))
def flyleafref17_Build.l1 : Nat → Int → List ByteArray → List ByteArray → List (S48) → Int → Int → ByteArray → ByteArray → Int → Option (Int × ByteArray × Int)
  | 0, _, _, _, _, _, _, _, _, _ => none
  | k + 1, x0, x1, x2, x3, x12, x13, x14, x15, x16 => if x16 < (x1.length : Int) then ((flyleafref01_Put.f k (IntKind.u64.wrap (x13)) 8).bind fun t159 => (if x14.size + t159.size ≤ 9223372036854775807 then (if 0 ≤ x16 then (if x15.size + (rdOf ByteArray.empty x1 x16).size ≤ 9223372036854775807 then (if (x15 ++ (rdOf ByteArray.empty x1 x16)).size + 1 ≤ 9223372036854775807 then (flyleafref17_Build.l1 k x0 x1 x2 x3 x12 (wrap64 ((wrap64 (x13 + ((rdOf ByteArray.empty x1 x16).size : Int))) + 1)) (x14 ++ t159) ((x15 ++ (rdOf ByteArray.empty x1 x16)) ++ (⟨#[0]⟩ : ByteArray)) (wrap64 (x16 + 1))) else (none)) else (none)) else (none)) else (none))) else ((flyleafref01_Put.f k 0 8).bind fun t162 => (if x14.size + t162.size ≤ 9223372036854775807 then (flyleafref17_Build.l2 k x0 x2 x3 x12 x13 (x14 ++ t162) x15 0) else (none)))
def flyleafref17_Build.l2 : Nat → Int → List ByteArray → List (S48) → Int → Int → ByteArray → ByteArray → Int → Option (Int × ByteArray × Int)
  | 0, _, _, _, _, _, _, _, _ => none
  | k + 1, x0, x2, x3, x12, x13, x14, x15, x17 => if x17 < (x2.length : Int) then ((flyleafref01_Put.f k (IntKind.u64.wrap (x13)) 8).bind fun t163 => (if x14.size + t163.size ≤ 9223372036854775807 then (if 0 ≤ x17 then (if x15.size + (rdOf ByteArray.empty x2 x17).size ≤ 9223372036854775807 then (if (x15 ++ (rdOf ByteArray.empty x2 x17)).size + 1 ≤ 9223372036854775807 then (flyleafref17_Build.l2 k x0 x2 x3 x12 (wrap64 ((wrap64 (x13 + ((rdOf ByteArray.empty x2 x17).size : Int))) + 1)) (x14 ++ t163) ((x15 ++ (rdOf ByteArray.empty x2 x17)) ++ (⟨#[0]⟩ : ByteArray)) (wrap64 (x17 + 1))) else (none)) else (none)) else (none)) else (none))) else ((flyleafref01_Put.f k 0 8).bind fun t166 => (if x14.size + t166.size ≤ 9223372036854775807 then (flyleafref17_Build.l3 k x0 x3 x12 (x14 ++ t166) x15 0) else (none)))
def flyleafref17_Build.l3 : Nat → Int → List (S48) → Int → ByteArray → ByteArray → Int → Option (Int × ByteArray × Int)
  | 0, _, _, _, _, _, _ => none
  | k + 1, x0, x3, x12, x14, x15, x18 => if x18 < (x3.length : Int) then (if 0 ≤ x18 then ((flyleafref01_Put.f k (IntKind.u64.wrap ((rd_T48 x3 x18).f0)) 8).bind fun t168 => (if x14.size + t168.size ≤ 9223372036854775807 then ((flyleafref01_Put.f k (IntKind.u64.wrap ((rd_T48 x3 x18).f1)) 8).bind fun t170 => (if (x14 ++ t168).size + t170.size ≤ 9223372036854775807 then (flyleafref17_Build.l3 k x0 x3 x12 ((x14 ++ t168) ++ t170) x15 (wrap64 (x18 + 1))) else (none))) else (none))) else (none)) else ((flyleafref01_Put.f k 0 8).bind fun t171 => (if x14.size + t171.size ≤ 9223372036854775807 then ((flyleafref01_Put.f k 0 8).bind fun t172 => (if (x14 ++ t171).size + t172.size ≤ 9223372036854775807 then ((flyleafref01_Fill.f ((x14 ++ t171) ++ t172) (wrap64 (x12 - (x15.size : Int)))).bind fun t173 => (if t173.size + x15.size ≤ 9223372036854775807 then (some (wrap64 (x0 - x12), t173 ++ x15, 0)) else (none))) else (none))) else (none)))
end
def flyleafref17_Build.f (k : Nat) (a0 : Int) (l1 : List ByteArray) (l2 : List ByteArray) (l3 : List (S48)) : Option (Int × ByteArray × Int) := (flyleafref17_plain.f k l1).bind fun t149 => ((flyleafref17_plain.f k l2).bind fun t150 => (if a0 < 0 then (flyleafref17_Build.j0 k a0 l1 l2 l3 true) else (if a0 > 262144 then (flyleafref17_Build.j0 k a0 l1 l2 l3 true) else (if (Int.tmod a0 16) = 0 then (if t149 = true then (flyleafref17_Build.j0 k a0 l1 l2 l3 (!t150)) else (flyleafref17_Build.j0 k a0 l1 l2 l3 true)) else (flyleafref17_Build.j0 k a0 l1 l2 l3 true)))))
theorem flyleafref17_Build.mono_l : ∀ k, (∀ y0 y1 y2 y3 y4, LeO (flyleafref17_Build.j0 k y0 y1 y2 y3 y4) (flyleafref17_Build.j0 (k + 1) y0 y1 y2 y3 y4)) ∧ (∀ y0 y1 y2 y3 y4, LeO (flyleafref17_Build.l0 k y0 y1 y2 y3 y4) (flyleafref17_Build.l0 (k + 1) y0 y1 y2 y3 y4)) ∧ (∀ y0 y1 y2 y3 y4 y5, LeO (flyleafref17_Build.j2 k y0 y1 y2 y3 y4 y5) (flyleafref17_Build.j2 (k + 1) y0 y1 y2 y3 y4 y5)) ∧ (∀ y0 y1 y2 y3 y4 y5 y6 y7 y8, LeO (flyleafref17_Build.l1 k y0 y1 y2 y3 y4 y5 y6 y7 y8) (flyleafref17_Build.l1 (k + 1) y0 y1 y2 y3 y4 y5 y6 y7 y8)) ∧ (∀ y0 y1 y2 y3 y4 y5 y6 y7, LeO (flyleafref17_Build.l2 k y0 y1 y2 y3 y4 y5 y6 y7) (flyleafref17_Build.l2 (k + 1) y0 y1 y2 y3 y4 y5 y6 y7)) ∧ (∀ y0 y1 y2 y3 y4 y5, LeO (flyleafref17_Build.l3 k y0 y1 y2 y3 y4 y5) (flyleafref17_Build.l3 (k + 1) y0 y1 y2 y3 y4 y5))
  | 0 => ⟨fun _ _ _ _ _ r h => by simp [flyleafref17_Build.j0] at h, fun _ _ _ _ _ r h => by simp [flyleafref17_Build.l0] at h, fun _ _ _ _ _ _ r h => by simp [flyleafref17_Build.j2] at h, fun _ _ _ _ _ _ _ _ _ r h => by simp [flyleafref17_Build.l1] at h, fun _ _ _ _ _ _ _ _ r h => by simp [flyleafref17_Build.l2] at h, fun _ _ _ _ _ _ r h => by simp [flyleafref17_Build.l3] at h⟩
  | k + 1 => by
    obtain ⟨ih0, ih1, ih2, ih3, ih4, ih5⟩ := flyleafref17_Build.mono_l k
    refine ⟨?_, ?_, ?_, ?_, ?_, ?_⟩
    · intro y0 y1 y2 y3 y4
      unfold flyleafref17_Build.j0
      repeat' first
      | (with_reducible exact ih0 _ _ _ _ _)
      | (with_reducible exact ih1 _ _ _ _ _)
      | (with_reducible exact ih2 _ _ _ _ _ _)
      | (with_reducible exact ih3 _ _ _ _ _ _ _ _ _)
      | (with_reducible exact ih4 _ _ _ _ _ _ _ _)
      | (with_reducible exact ih5 _ _ _ _ _ _)
      | (with_reducible exact flyleafref01_Put.mono _ _ _)
      | (with_reducible exact flyleafref17_Size.mono _ _ _ _)
      | (with_reducible exact flyleafref17_plain.mono _ _)
      | (with_reducible exact flyleafref17_texts.mono _ _)
      | (with_reducible exact LeO.refl _)
      | (with_reducible exact LeO.none _)
      | (with_reducible refine LeO.ite ?_ ?_)
      | (with_reducible refine LeO.bind ?_ (fun _ => ?_))
      | exact ih0 _ _ _ _ _
      | exact ih1 _ _ _ _ _
      | exact ih2 _ _ _ _ _ _
      | exact ih3 _ _ _ _ _ _ _ _ _
      | exact ih4 _ _ _ _ _ _ _ _
      | exact ih5 _ _ _ _ _ _
      | exact flyleafref01_Put.mono _ _ _
      | exact flyleafref17_Size.mono _ _ _ _
      | exact flyleafref17_plain.mono _ _
      | exact flyleafref17_texts.mono _ _
      | exact LeO.none _
      | refine LeO.ite ?_ ?_
      | refine LeO.bind ?_ (fun _ => ?_)
    · intro y0 y1 y2 y3 y4
      unfold flyleafref17_Build.l0
      repeat' first
      | (with_reducible exact ih0 _ _ _ _ _)
      | (with_reducible exact ih1 _ _ _ _ _)
      | (with_reducible exact ih2 _ _ _ _ _ _)
      | (with_reducible exact ih3 _ _ _ _ _ _ _ _ _)
      | (with_reducible exact ih4 _ _ _ _ _ _ _ _)
      | (with_reducible exact ih5 _ _ _ _ _ _)
      | (with_reducible exact flyleafref01_Put.mono _ _ _)
      | (with_reducible exact flyleafref17_Size.mono _ _ _ _)
      | (with_reducible exact flyleafref17_plain.mono _ _)
      | (with_reducible exact flyleafref17_texts.mono _ _)
      | (with_reducible exact LeO.refl _)
      | (with_reducible exact LeO.none _)
      | (with_reducible refine LeO.ite ?_ ?_)
      | (with_reducible refine LeO.bind ?_ (fun _ => ?_))
      | exact ih0 _ _ _ _ _
      | exact ih1 _ _ _ _ _
      | exact ih2 _ _ _ _ _ _
      | exact ih3 _ _ _ _ _ _ _ _ _
      | exact ih4 _ _ _ _ _ _ _ _
      | exact ih5 _ _ _ _ _ _
      | exact flyleafref01_Put.mono _ _ _
      | exact flyleafref17_Size.mono _ _ _ _
      | exact flyleafref17_plain.mono _ _
      | exact flyleafref17_texts.mono _ _
      | exact LeO.none _
      | refine LeO.ite ?_ ?_
      | refine LeO.bind ?_ (fun _ => ?_)
    · intro y0 y1 y2 y3 y4 y5
      unfold flyleafref17_Build.j2
      repeat' first
      | (with_reducible exact ih0 _ _ _ _ _)
      | (with_reducible exact ih1 _ _ _ _ _)
      | (with_reducible exact ih2 _ _ _ _ _ _)
      | (with_reducible exact ih3 _ _ _ _ _ _ _ _ _)
      | (with_reducible exact ih4 _ _ _ _ _ _ _ _)
      | (with_reducible exact ih5 _ _ _ _ _ _)
      | (with_reducible exact flyleafref01_Put.mono _ _ _)
      | (with_reducible exact flyleafref17_Size.mono _ _ _ _)
      | (with_reducible exact flyleafref17_plain.mono _ _)
      | (with_reducible exact flyleafref17_texts.mono _ _)
      | (with_reducible exact LeO.refl _)
      | (with_reducible exact LeO.none _)
      | (with_reducible refine LeO.ite ?_ ?_)
      | (with_reducible refine LeO.bind ?_ (fun _ => ?_))
      | exact ih0 _ _ _ _ _
      | exact ih1 _ _ _ _ _
      | exact ih2 _ _ _ _ _ _
      | exact ih3 _ _ _ _ _ _ _ _ _
      | exact ih4 _ _ _ _ _ _ _ _
      | exact ih5 _ _ _ _ _ _
      | exact flyleafref01_Put.mono _ _ _
      | exact flyleafref17_Size.mono _ _ _ _
      | exact flyleafref17_plain.mono _ _
      | exact flyleafref17_texts.mono _ _
      | exact LeO.none _
      | refine LeO.ite ?_ ?_
      | refine LeO.bind ?_ (fun _ => ?_)
    · intro y0 y1 y2 y3 y4 y5 y6 y7 y8
      unfold flyleafref17_Build.l1
      repeat' first
      | (with_reducible exact ih0 _ _ _ _ _)
      | (with_reducible exact ih1 _ _ _ _ _)
      | (with_reducible exact ih2 _ _ _ _ _ _)
      | (with_reducible exact ih3 _ _ _ _ _ _ _ _ _)
      | (with_reducible exact ih4 _ _ _ _ _ _ _ _)
      | (with_reducible exact ih5 _ _ _ _ _ _)
      | (with_reducible exact flyleafref01_Put.mono _ _ _)
      | (with_reducible exact flyleafref17_Size.mono _ _ _ _)
      | (with_reducible exact flyleafref17_plain.mono _ _)
      | (with_reducible exact flyleafref17_texts.mono _ _)
      | (with_reducible exact LeO.refl _)
      | (with_reducible exact LeO.none _)
      | (with_reducible refine LeO.ite ?_ ?_)
      | (with_reducible refine LeO.bind ?_ (fun _ => ?_))
      | exact ih0 _ _ _ _ _
      | exact ih1 _ _ _ _ _
      | exact ih2 _ _ _ _ _ _
      | exact ih3 _ _ _ _ _ _ _ _ _
      | exact ih4 _ _ _ _ _ _ _ _
      | exact ih5 _ _ _ _ _ _
      | exact flyleafref01_Put.mono _ _ _
      | exact flyleafref17_Size.mono _ _ _ _
      | exact flyleafref17_plain.mono _ _
      | exact flyleafref17_texts.mono _ _
      | exact LeO.none _
      | refine LeO.ite ?_ ?_
      | refine LeO.bind ?_ (fun _ => ?_)
    · intro y0 y1 y2 y3 y4 y5 y6 y7
      unfold flyleafref17_Build.l2
      repeat' first
      | (with_reducible exact ih0 _ _ _ _ _)
      | (with_reducible exact ih1 _ _ _ _ _)
      | (with_reducible exact ih2 _ _ _ _ _ _)
      | (with_reducible exact ih3 _ _ _ _ _ _ _ _ _)
      | (with_reducible exact ih4 _ _ _ _ _ _ _ _)
      | (with_reducible exact ih5 _ _ _ _ _ _)
      | (with_reducible exact flyleafref01_Put.mono _ _ _)
      | (with_reducible exact flyleafref17_Size.mono _ _ _ _)
      | (with_reducible exact flyleafref17_plain.mono _ _)
      | (with_reducible exact flyleafref17_texts.mono _ _)
      | (with_reducible exact LeO.refl _)
      | (with_reducible exact LeO.none _)
      | (with_reducible refine LeO.ite ?_ ?_)
      | (with_reducible refine LeO.bind ?_ (fun _ => ?_))
      | exact ih0 _ _ _ _ _
      | exact ih1 _ _ _ _ _
      | exact ih2 _ _ _ _ _ _
      | exact ih3 _ _ _ _ _ _ _ _ _
      | exact ih4 _ _ _ _ _ _ _ _
      | exact ih5 _ _ _ _ _ _
      | exact flyleafref01_Put.mono _ _ _
      | exact flyleafref17_Size.mono _ _ _ _
      | exact flyleafref17_plain.mono _ _
      | exact flyleafref17_texts.mono _ _
      | exact LeO.none _
      | refine LeO.ite ?_ ?_
      | refine LeO.bind ?_ (fun _ => ?_)
    · intro y0 y1 y2 y3 y4 y5
      unfold flyleafref17_Build.l3
      repeat' first
      | (with_reducible exact ih0 _ _ _ _ _)
      | (with_reducible exact ih1 _ _ _ _ _)
      | (with_reducible exact ih2 _ _ _ _ _ _)
      | (with_reducible exact ih3 _ _ _ _ _ _ _ _ _)
      | (with_reducible exact ih4 _ _ _ _ _ _ _ _)
      | (with_reducible exact ih5 _ _ _ _ _ _)
      | (with_reducible exact flyleafref01_Put.mono _ _ _)
      | (with_reducible exact flyleafref17_Size.mono _ _ _ _)
      | (with_reducible exact flyleafref17_plain.mono _ _)
      | (with_reducible exact flyleafref17_texts.mono _ _)
      | (with_reducible exact LeO.refl _)
      | (with_reducible exact LeO.none _)
      | (with_reducible refine LeO.ite ?_ ?_)
      | (with_reducible refine LeO.bind ?_ (fun _ => ?_))
      | exact ih0 _ _ _ _ _
      | exact ih1 _ _ _ _ _
      | exact ih2 _ _ _ _ _ _
      | exact ih3 _ _ _ _ _ _ _ _ _
      | exact ih4 _ _ _ _ _ _ _ _
      | exact ih5 _ _ _ _ _ _
      | exact flyleafref01_Put.mono _ _ _
      | exact flyleafref17_Size.mono _ _ _ _
      | exact flyleafref17_plain.mono _ _
      | exact flyleafref17_texts.mono _ _
      | exact LeO.none _
      | refine LeO.ite ?_ ?_
      | refine LeO.bind ?_ (fun _ => ?_)
theorem flyleafref17_Build.mono : ∀ a0 a1 a2 a3 k, LeO (flyleafref17_Build.f k a0 a1 a2 a3) (flyleafref17_Build.f (k + 1) a0 a1 a2 a3) := by
  intro a0 a1 a2 a3 k
  obtain ⟨ih0, ih1, ih2, ih3, ih4, ih5⟩ := flyleafref17_Build.mono_l k
  unfold flyleafref17_Build.f
  repeat' first
      | (with_reducible exact ih0 _ _ _ _ _)
      | (with_reducible exact ih1 _ _ _ _ _)
      | (with_reducible exact ih2 _ _ _ _ _ _)
      | (with_reducible exact ih3 _ _ _ _ _ _ _ _ _)
      | (with_reducible exact ih4 _ _ _ _ _ _ _ _)
      | (with_reducible exact ih5 _ _ _ _ _ _)
      | (with_reducible exact flyleafref01_Put.mono _ _ _)
      | (with_reducible exact flyleafref17_Size.mono _ _ _ _)
      | (with_reducible exact flyleafref17_plain.mono _ _)
      | (with_reducible exact flyleafref17_texts.mono _ _)
      | (with_reducible exact LeO.refl _)
      | (with_reducible exact LeO.none _)
      | (with_reducible refine LeO.ite ?_ ?_)
      | (with_reducible refine LeO.bind ?_ (fun _ => ?_))
      | exact ih0 _ _ _ _ _
      | exact ih1 _ _ _ _ _
      | exact ih2 _ _ _ _ _ _
      | exact ih3 _ _ _ _ _ _ _ _ _
      | exact ih4 _ _ _ _ _ _ _ _
      | exact ih5 _ _ _ _ _ _
      | exact flyleafref01_Put.mono _ _ _
      | exact flyleafref17_Size.mono _ _ _ _
      | exact flyleafref17_plain.mono _ _
      | exact flyleafref17_texts.mono _ _
      | exact LeO.none _
      | refine LeO.ite ?_ ?_
      | refine LeO.bind ?_ (fun _ => ?_)
def flyleafref17_Build.T33 : Bool × List (List Nat × List Nat) := (true, [([], []), ([], []), ([], []), ([1, 2], [1, 2]), ([3], [3]), ([4], [4]), ([5], [5]), ([6], [6]), ([0, 7], [0, 7]), ([], []), ([], []), ([9, 10], [9, 10]), ([11], [11]), ([12], [12]), ([13], [13]), ([14, 7], [14]), ([8, 15], [8, 15]), ([16, 15, 0, 1, 2, 3, 4, 5, 6, 7, 8, 9, 10, 11, 12, 13, 14, 15, 16], [0, 16])])
def flyleafref17_Build.B33 : List Nat := [0, 0, 0, 6, 14, 30, 62, 126, 255, 0, 0, 1536, 3584, 7680, 15872, 32510, 65535, 131071]
theorem flyleafref17_Build.tab33 : rtab .any (opsOf Try.f11 33) = flyleafref17_Build.T33 := by kernel_rfl
theorem flyleafref17_Build.bits33 : waitsOk flyleafref17_Build.T33.2 flyleafref17_Build.B33 = true := by kernel_rfl
set_option maxHeartbeats 8000000 in
set_option maxRecDepth 100000 in
theorem flyleafref17_Build.calls (k : Nat) (a0 : Int) (A1 : Option Addr) (c1 : Nat) (l1 : List ByteArray) (A2 : Option Addr) (c2 : Nat) (l2 : List ByteArray) (A3 : Option Addr) (c3 : Nat) (l3 : List (S48)) (r1 : Int) (r2 : ByteArray) (r3 : Int) (w : World) (hr1 : Kd.C Kd.string w A1 l1.length l1) (hc1 : l1.length ≤ c1) (hr2 : Kd.C Kd.string w A2 l2.length l2) (hc2 : l2.length ≤ c2) (hr3 : Kd.C k48 w A3 l3.length l3) (hc3 : l3.length ≤ c3) (h : flyleafref17_Build.f k a0 l1 l2 l3 = some (r1, r2, r3)) :
    Calls Try.prog 11 #[.int .i64 a0, .slice A1 l1.length c1, .slice A2 l2.length c2, .slice A3 l3.length c3] w fun e w' => e = .returned (.agg #[.int .i64 r1, .string r2, .int .i64 r3]) ∧ Below w.heap.size w w' := by
  have hu32 := Try.underlying32
  have HR1 := Aside0.mk hr1
  have HC1 := Aside0.mk hc1
  clear hr1 hc1
  have HR2 := Aside0.mk hr2
  have HC2 := Aside0.mk hc2
  clear hr2 hc2
  have HR3 := Aside0.mk hr3
  have HC3 := Aside0.mk hc3
  clear hr3 hc3
  have HB := Aside0.mk (Below.refl w.heap.size w)
  have H : ((flyleafref17_plain.f k l1).bind fun t149 => ((flyleafref17_plain.f k l2).bind fun t150 => (if a0 < 0 then (flyleafref17_Build.j0 k a0 l1 l2 l3 true) else (if a0 > 262144 then (flyleafref17_Build.j0 k a0 l1 l2 l3 true) else (if (Int.tmod a0 16) = 0 then (if t149 = true then (flyleafref17_Build.j0 k a0 l1 l2 l3 (!t150)) else (flyleafref17_Build.j0 k a0 l1 l2 l3 true)) else (flyleafref17_Build.j0 k a0 l1 l2 l3 true)))))) = some (r1, r2, r3) := h
  clear h
  replace H := Option.bind_eq_some_iff.mp H
  obtain ⟨t149, A50, H⟩ := H
  replace H : ((flyleafref17_plain.f k l2).bind fun t150 => (if a0 < 0 then (flyleafref17_Build.j0 k a0 l1 l2 l3 true) else (if a0 > 262144 then (flyleafref17_Build.j0 k a0 l1 l2 l3 true) else (if (Int.tmod a0 16) = 0 then (if t149 = true then (flyleafref17_Build.j0 k a0 l1 l2 l3 (!t150)) else (flyleafref17_Build.j0 k a0 l1 l2 l3 true)) else (flyleafref17_Build.j0 k a0 l1 l2 l3 true))))) = some (r1, r2, r3) := H
  have A5 := Aside0.mk A50
  clear A50
  replace H := Option.bind_eq_some_iff.mp H
  obtain ⟨t150, A60, H⟩ := H
  replace H : (if a0 < 0 then (flyleafref17_Build.j0 k a0 l1 l2 l3 true) else (if a0 > 262144 then (flyleafref17_Build.j0 k a0 l1 l2 l3 true) else (if (Int.tmod a0 16) = 0 then (if t149 = true then (flyleafref17_Build.j0 k a0 l1 l2 l3 (!t150)) else (flyleafref17_Build.j0 k a0 l1 l2 l3 true)) else (flyleafref17_Build.j0 k a0 l1 l2 l3 true)))) = some (r1, r2, r3) := H
  have A6 := Aside0.mk A60
  clear A60
  have HC7 := Aside0.mk H
  clear H
  go_enter Try.func11, Try.ntmps11
  go_upto_region 3 with (first | ((with_reducible refine gate_dst (N := 8) rfl ?_); refine box_event ?hg (N := 8) ?hd (cs := #[.int .i64 0, .string (⟨#[]⟩ : ByteArray), .int .i64 0]) (t := 32) ?hr ?_; (case hd => rfl); (case hg => rfl); (case hr => first | (go_simp; done) | (go_simp; rfl)); intro gb148 hg w8 hbox hb; have n0_ := Aside0.mk (below_step (by repeat (first | (with_reducible first | exact HB.out | apply below_alloc | apply pw_below_drewN | apply below_drew1) | exact HB.out)) hb); have n1_ := Aside0.mk (hbox); have n2_ := Aside0.mk ((by rw [hg]; exact (below_size (by repeat (first | (with_reducible first | exact HB.out | apply below_alloc | apply pw_below_drewN | apply below_drew1) | exact HB.out))) : w.heap.size ≤ gb148)); have n3_ := Aside0.mk ((by rw [hg]; exact (below_size (by repeat (first | (with_reducible first | exact HB.out | apply below_alloc | apply pw_below_drewN | apply below_drew1) | exact HB.out))) : w.heap.size ≤ gb148)); clear HB; have HB := n0_; have BK148 := n1_; have GW148 := n2_; have GE148 := n3_; clear n0_ n1_ n2_ n3_; clear hb hbox hg) | ((with_reducible refine gate_callee (f := 29) rfl ?_); refine goesL_ (some 20) rfl rfl Try.func29 (by kernel_rfl) rfl #[.slice A1 l1.length c1] rfl (by (try simp only [List.map_toArray, List.map_cons, List.map_nil]); first | done | rfl | (simp only [List.length_drop, List.length_take]; rfl)) ?_; (with_reducible refine (flyleafref17_plain.calls k _ _ l1 t149 _ ?side1 ?side2 A5.out).mono ?_); (case side1 => repeat (first | exact (Kd.C_below HR1.out HB.out) | (with_reducible refine Kd.C_alloc ?_ _) | (with_reducible refine Kd.C_drewN ?_ _) | (with_reducible refine Kd.C_drew ?_))); (case side2 => exact HC1.out); rintro e w' ⟨rfl, ⟨nd, rfl⟩⟩; refine ⟨_, rfl, ?_⟩) | ((with_reducible refine gate_callee (f := 29) rfl ?_); refine goesL_ (some 22) rfl rfl Try.func29 (by kernel_rfl) rfl #[.slice A2 l2.length c2] rfl (by (try simp only [List.map_toArray, List.map_cons, List.map_nil]); first | done | rfl | (simp only [List.length_drop, List.length_take]; rfl)) ?_; (with_reducible refine (flyleafref17_plain.calls k _ _ l2 t150 _ ?side1 ?side2 A6.out).mono ?_); (case side1 => repeat (first | exact (Kd.C_below HR2.out (by repeat (first | (with_reducible first | exact HB.out | apply below_alloc | apply pw_below_drewN | apply below_drew1 | refine below_set ?_ GE148.out) | exact HB.out))) | (with_reducible refine Kd.C_alloc ?_ _) | (with_reducible refine Kd.C_drewN ?_ _) | (with_reducible refine Kd.C_drew ?_))); (case side2 => exact HC2.out); rintro e w' ⟨rfl, ⟨nd, rfl⟩⟩; refine ⟨_, rfl, ?_⟩))
  (try simp only [Act.put, List.setIfInBounds_toArray, List.set_cons_zero, List.set_cons_succ])
  go_cut [41] (fun v41 wc => ∃ (kq : Nat) (x41_6 : Bool), v41 = .bool x41_6 ∧ Aside0 (flyleafref17_Build.j0 kq a0 l1 l2 l3 x41_6 = some (r1, r2, r3)) ∧ Aside0 (kq ≤ k) ∧ Aside0 (wc.heap[gb148]? = some (.cells #[.int .i64 0, .string (⟨#[]⟩ : ByteArray), .int .i64 0] 32 (0, 0))) ∧ Aside0 (Below w.heap.size w wc))
  case first =>
    have H := HC7.out
    clear HC7
    by_cases c9 : a0 < 0
    · rw [if_pos c9] at H
      have c9b0 : decide (a0 < 0) = true := decide_eq_true c9
      clear c9
      (first | rw [c9b0] | (simp only [i64_w, i32_w]; rw [c9b0]) | skip)
      have H' := Aside0.mk H
      clear H
      go_wp2
      go_meet
      case rel => exact ⟨_, (true), (by first | rfl | (simp; done) | (simp [*]; done)), H', ⟨by first | omega | exact Nat.le_refl _⟩, ⟨by (with_reducible repeat (first | refine blk_drewN ?_ _ | refine blk_drew ?_ | refine blk_alloc ?_ _)); exact BK148.out⟩, ⟨by repeat (first | (with_reducible first | exact HB.out | apply below_alloc | apply pw_below_drewN | apply below_drew1 | refine below_set ?_ GE148.out) | exact HB.out)⟩⟩
    · rw [if_neg c9] at H
      have c9b0 : decide (a0 < 0) = false := decide_eq_false c9
      clear c9
      (first | rw [c9b0] | (simp only [i64_w, i32_w]; rw [c9b0]) | skip)
      by_cases c10 : a0 > 262144
      · rw [if_pos c10] at H
        have c10b0 : decide (262144 < a0) = true := decide_eq_true c10
        clear c10
        have H' := Aside0.mk H
        clear H
        go_wp2
        go_meet
        case rel => exact ⟨_, (true), (by first | rfl | (simp; done) | (simp [*]; done)), H', ⟨by first | omega | exact Nat.le_refl _⟩, ⟨by (with_reducible repeat (first | refine blk_drewN ?_ _ | refine blk_drew ?_ | refine blk_alloc ?_ _)); exact BK148.out⟩, ⟨by repeat (first | (with_reducible first | exact HB.out | apply below_alloc | apply pw_below_drewN | apply below_drew1 | refine below_set ?_ GE148.out) | exact HB.out)⟩⟩
      · rw [if_neg c10] at H
        have c10b0 : decide (262144 < a0) = false := decide_eq_false c10
        clear c10
        by_cases c11 : (Int.tmod a0 16) = 0
        · rw [if_pos c11] at H
          have c11b0 : ((Int.tmod a0 16) == 0) = true := beq_iff_eq.mpr c11
          have c11b1 : ((Int.tmod a0 16) != 0) = false := bne_eq_false_iff_eq.mpr c11
          clear c11
          by_cases c12 : t149 = true
          · subst c12
            have H1 : (flyleafref17_Build.j0 k a0 l1 l2 l3 (!t150)) = some (r1, r2, r3) := by rw [if_pos rfl] at H; exact H
            clear H
            have H := H1
            clear H1
            have H' := Aside0.mk H
            clear H
            go_wp2
            go_meet
            case rel => exact ⟨_, (!t150), (by first | rfl | (simp; done) | (simp [*]; done)), H', ⟨by first | omega | exact Nat.le_refl _⟩, ⟨by (with_reducible repeat (first | refine blk_drewN ?_ _ | refine blk_drew ?_ | refine blk_alloc ?_ _)); exact BK148.out⟩, ⟨by repeat (first | (with_reducible first | exact HB.out | apply below_alloc | apply pw_below_drewN | apply below_drew1 | refine below_set ?_ GE148.out) | exact HB.out)⟩⟩
          · replace c12 := Bool.eq_false_iff.mpr c12
            subst c12
            have H1 : (flyleafref17_Build.j0 k a0 l1 l2 l3 true) = some (r1, r2, r3) := by rw [if_neg (show ¬ (false = true) by decide)] at H; exact H
            clear H
            have H := H1
            clear H1
            have H' := Aside0.mk H
            clear H
            go_wp2
            go_meet
            case rel => exact ⟨_, (true), (by first | rfl | (simp; done) | (simp [*]; done)), H', ⟨by first | omega | exact Nat.le_refl _⟩, ⟨by (with_reducible repeat (first | refine blk_drewN ?_ _ | refine blk_drew ?_ | refine blk_alloc ?_ _)); exact BK148.out⟩, ⟨by repeat (first | (with_reducible first | exact HB.out | apply below_alloc | apply pw_below_drewN | apply below_drew1 | refine below_set ?_ GE148.out) | exact HB.out)⟩⟩
        · rw [if_neg c11] at H
          have c11b0 : ((Int.tmod a0 16) == 0) = false := beq_eq_false_iff_ne.mpr c11
          have c11b1 : ((Int.tmod a0 16) != 0) = true := bne_iff_ne.mpr c11
          have H' := Aside0.mk H
          clear H
          go_wp2
          go_meet
          case rel => exact ⟨_, (true), (by first | rfl | (simp; done) | (simp [*]; done)), H', ⟨by first | omega | exact Nat.le_refl _⟩, ⟨by (with_reducible repeat (first | refine blk_drewN ?_ _ | refine blk_drew ?_ | refine blk_alloc ?_ _)); exact BK148.out⟩, ⟨by repeat (first | (with_reducible first | exact HB.out | apply below_alloc | apply pw_below_drewN | apply below_drew1 | refine below_set ?_ GE148.out) | exact HB.out)⟩⟩
  case rest =>
    clear HC7
    try clear c1
    try clear c2
    try clear p2
    try clear c3
    try clear c9
    try clear c9b0
    try clear c10
    try clear c10b0
    try clear c11
    try clear c11b0
    try clear c11b1
    try clear c12
    obtain ⟨kq, x41_6, rfl, HA, HJ6, BK148, HB⟩ := hcut
    cases kq with
    | zero => exact absurd HA.out (by simp [flyleafref17_Build.j0])
    | succ kj6 =>
      have H := HA.out
      clear HA
      simp only [flyleafref17_Build.j0] at H
      by_cases c13 : x41_6 = true
      · subst c13
        have H1 : (some (0, (⟨#[]⟩ : ByteArray), 1)) = some (r1, r2, r3) := by rw [if_pos rfl] at H; exact H
        clear H
        have H := H1
        clear H1
        simp only [Option.some.injEq, Prod.mk.injEq] at H
        obtain ⟨rfl, rfl, rfl⟩ := H
        have hcz14_0 : wc.cell? ⟨gb148, 0, none⟩ = some (.int .i64 0) := (blk_cell BK148.out 0).trans rfl
        have hcz14_1 : wc.cell? ⟨gb148, 1, none⟩ = some (.string (⟨#[]⟩ : ByteArray)) := (blk_cell BK148.out 1).trans rfl
        have hcz14_2 : wc.cell? ⟨gb148, 2, none⟩ = some (.int .i64 0) := (blk_cell BK148.out 2).trans rfl
        have hfz14_0 := blk_frozen BK148.out 0
        have hfz14_1 := blk_frozen BK148.out 1
        have hfz14_2 := blk_frozen BK148.out 2
        go_wp2
        refine bodyPost_ret (results_cell_row rfl _ _ gb148 32 #[.int .i64 0, .string (⟨#[]⟩ : ByteArray), .int .i64 1] (0, 0) _ rfl (by (with_reducible repeat (first | refine blk_drewN ?_ _ | refine blk_drew ?_ | refine blk_alloc ?_ _)); refine blk_put (cs := #[.int .i64 0, .string (⟨#[]⟩ : ByteArray), .int .i64 0]) ?_ 2 _ rfl; (with_reducible repeat (first | refine blk_drewN ?_ _ | refine blk_drew ?_ | refine blk_alloc ?_ _)); refine blk_put (cs := #[.int .i64 0, .string (⟨#[]⟩ : ByteArray), .int .i64 0]) ?_ 1 _ rfl; (with_reducible repeat (first | refine blk_drewN ?_ _ | refine blk_drew ?_ | refine blk_alloc ?_ _)); refine blk_put (cs := #[.int .i64 0, .string (⟨#[]⟩ : ByteArray), .int .i64 0]) ?_ 0 _ rfl; (with_reducible repeat (first | refine blk_drewN ?_ _ | refine blk_drew ?_ | refine blk_alloc ?_ _)); exact BK148.out) Try.underlying32 rfl (by kernel_rfl)) rfl ?_
        exact ⟨by first | rfl | (simp [errW_none, errW_some] <;> rfl) | (simp [*, errW_none, errW_some] <;> rfl), by repeat (first | (with_reducible first | exact HB.out | apply below_alloc | apply pw_below_drewN | apply below_drew1 | refine below_set ?_ GE148.out) | exact HB.out)⟩
      · replace c13 := Bool.eq_false_iff.mpr c13
        subst c13
        have H1 : (flyleafref17_Build.l0 kj6 a0 l1 l2 l3 0) = some (r1, r2, r3) := by rw [if_neg (show ¬ (false = true) by decide)] at H; exact H
        clear H
        have H := H1
        clear H1
        have H' := Aside0.mk H
        clear H
        go_wp2
        go_loopg [11] kj6 (fun kq v11 w' => ∃ (x11_2 : Int) (x149000_2 : Int) (x149001_2 : ByteArray) (x149002_2 : Int), v11 = .int .i64 x11_2 ∧ Aside0 (flyleafref17_Build.l0 kq a0 l1 l2 l3 x11_2 = some (r1, r2, r3)) ∧ Aside0 (kq ≤ kj6) ∧ Aside0 (w'.heap[gb148]? = some (.cells #[.int .i64 x149000_2, .string x149001_2, .int .i64 x149002_2] 32 (0, 0))) ∧ Aside0 (Below w.heap.size w w'))
        case atStart => exact ⟨(0), (0), ((⟨#[]⟩ : ByteArray)), (0), (by first | rfl | (simp; done) | (simp [*]; done)), H', ⟨Nat.le_refl _⟩, ⟨by (with_reducible repeat (first | refine blk_drewN ?_ _ | refine blk_drew ?_ | refine blk_alloc ?_ _)); exact BK148.out⟩, ⟨by repeat (first | (with_reducible first | exact HB.out | apply below_alloc | apply pw_below_drewN | apply below_drew1 | refine below_set ?_ GE148.out) | exact HB.out)⟩⟩
        case round =>
          clear H'
          try clear c1
          try clear c2
          try clear p2
          try clear c3
          try clear c9
          try clear c9b0
          try clear c10
          try clear c10b0
          try clear c11
          try clear c11b0
          try clear c11b1
          try clear c12
          try clear c13
          try clear hcz14_0
          try clear hcz14_1
          try clear hcz14_2
          try clear hfz14_0
          try clear hfz14_1
          try clear hfz14_2
          try clear p2
          obtain ⟨x11_2, x149000_2, x149001_2, x149002_2, rfl, HA, HK2, BK148, HB⟩ := hrel
          cases gk with
          | zero => exact absurd HA.out (by simp [flyleafref17_Build.l0])
          | succ k2 =>
            have H := HA.out
            clear HA
            simp only [flyleafref17_Build.l0] at H
            by_cases c15 : x11_2 < (l3.length : Int)
            · rw [if_pos c15] at H
              have c15b0 : decide (x11_2 < (l3.length : Int)) = true := decide_eq_true c15
              clear c15
              by_cases c16 : 0 ≤ x11_2
              · rw [if_pos c16] at H
                have c16b0 : decide (0 ≤ x11_2) = true := decide_eq_true c16
                clear c16
                by_cases c17 : ((rd_T48 l3 x11_2).f0) < 1
                · rw [if_pos c17] at H
                  have c17b0 : decide (((rd_T48 l3 x11_2).f0) < 1) = true := decide_eq_true c17
                  clear c17
                  simp only [Option.some.injEq, Prod.mk.injEq] at H
                  obtain ⟨rfl, rfl, rfl⟩ := H
                  have p151 : 0 ≤ (x11_2 : Int) := of_decide_eq_true (by first | (with_reducible assumption) | assumption)
                  have q151 : x11_2 < (l3.length : Int) := of_decide_eq_true (by first | (with_reducible assumption) | assumption)
                  obtain ⟨ad151, e151, hx151_0, hx151_1⟩ := at_T48 HR3.out x11_2 p151 q151
                  cases e151
                  replace hx151_0 := (HB.out.cell (World.block_lt_of_cell? w _ hx151_0)).trans hx151_0
                  replace hx151_1 := (HB.out.cell (World.block_lt_of_cell? w _ hx151_1)).trans hx151_1
                  replace p151 := eq_true p151
                  replace q151 := eq_true q151
                  have hcz18_0 : wr.cell? ⟨gb148, 0, none⟩ = some (.int .i64 x149000_2) := (blk_cell BK148.out 0).trans rfl
                  have hcz18_1 : wr.cell? ⟨gb148, 1, none⟩ = some (.string x149001_2) := (blk_cell BK148.out 1).trans rfl
                  have hcz18_2 : wr.cell? ⟨gb148, 2, none⟩ = some (.int .i64 x149002_2) := (blk_cell BK148.out 2).trans rfl
                  have hfz18_0 := blk_frozen BK148.out 0
                  have hfz18_1 := blk_frozen BK148.out 1
                  have hfz18_2 := blk_frozen BK148.out 2
                  go_wp2
                  refine bodyPost_ret (results_cell_row rfl _ _ gb148 32 #[.int .i64 0, .string (⟨#[]⟩ : ByteArray), .int .i64 1] (0, 0) _ rfl (by (with_reducible repeat (first | refine blk_drewN ?_ _ | refine blk_drew ?_ | refine blk_alloc ?_ _)); refine blk_put (cs := #[.int .i64 0, .string (⟨#[]⟩ : ByteArray), .int .i64 x149002_2]) ?_ 2 _ rfl; (with_reducible repeat (first | refine blk_drewN ?_ _ | refine blk_drew ?_ | refine blk_alloc ?_ _)); refine blk_put (cs := #[.int .i64 0, .string x149001_2, .int .i64 x149002_2]) ?_ 1 _ rfl; (with_reducible repeat (first | refine blk_drewN ?_ _ | refine blk_drew ?_ | refine blk_alloc ?_ _)); refine blk_put (cs := #[.int .i64 x149000_2, .string x149001_2, .int .i64 x149002_2]) ?_ 0 _ rfl; (with_reducible repeat (first | refine blk_drewN ?_ _ | refine blk_drew ?_ | refine blk_alloc ?_ _)); exact BK148.out) Try.underlying32 rfl (by kernel_rfl)) rfl ?_
                  exact ⟨by first | rfl | (simp [errW_none, errW_some] <;> rfl) | (simp [*, errW_none, errW_some] <;> rfl), by repeat (first | (with_reducible first | exact HB.out | apply below_alloc | apply pw_below_drewN | apply below_drew1 | refine below_set ?_ GE148.out) | exact HB.out)⟩
                · rw [if_neg c17] at H
                  have c17b0 : decide (((rd_T48 l3 x11_2).f0) < 1) = false := decide_eq_false c17
                  clear c17
                  by_cases c19 : ((rd_T48 l3 x11_2).f0) > 1099511627776
                  · rw [if_pos c19] at H
                    have c19b0 : decide (1099511627776 < ((rd_T48 l3 x11_2).f0)) = true := decide_eq_true c19
                    clear c19
                    simp only [Option.some.injEq, Prod.mk.injEq] at H
                    obtain ⟨rfl, rfl, rfl⟩ := H
                    have p151 : 0 ≤ (x11_2 : Int) := of_decide_eq_true (by first | (with_reducible assumption) | assumption)
                    have q151 : x11_2 < (l3.length : Int) := of_decide_eq_true (by first | (with_reducible assumption) | assumption)
                    obtain ⟨ad151, e151, hx151_0, hx151_1⟩ := at_T48 HR3.out x11_2 p151 q151
                    cases e151
                    replace hx151_0 := (HB.out.cell (World.block_lt_of_cell? w _ hx151_0)).trans hx151_0
                    replace hx151_1 := (HB.out.cell (World.block_lt_of_cell? w _ hx151_1)).trans hx151_1
                    replace p151 := eq_true p151
                    replace q151 := eq_true q151
                    have p152 : 0 ≤ (x11_2 : Int) := of_decide_eq_true (by first | (with_reducible assumption) | assumption)
                    have q152 : x11_2 < (l3.length : Int) := of_decide_eq_true (by first | (with_reducible assumption) | assumption)
                    obtain ⟨ad152, e152, hx152_0, hx152_1⟩ := at_T48 HR3.out x11_2 p152 q152
                    obtain rfl : ad151 = ad152 := (by injection e152)
                    replace hx152_0 := (HB.out.cell (World.block_lt_of_cell? w _ hx152_0)).trans hx152_0
                    replace hx152_1 := (HB.out.cell (World.block_lt_of_cell? w _ hx152_1)).trans hx152_1
                    replace p152 := eq_true p152
                    replace q152 := eq_true q152
                    have hcz20_0 : wr.cell? ⟨gb148, 0, none⟩ = some (.int .i64 x149000_2) := (blk_cell BK148.out 0).trans rfl
                    have hcz20_1 : wr.cell? ⟨gb148, 1, none⟩ = some (.string x149001_2) := (blk_cell BK148.out 1).trans rfl
                    have hcz20_2 : wr.cell? ⟨gb148, 2, none⟩ = some (.int .i64 x149002_2) := (blk_cell BK148.out 2).trans rfl
                    have hfz20_0 := blk_frozen BK148.out 0
                    have hfz20_1 := blk_frozen BK148.out 1
                    have hfz20_2 := blk_frozen BK148.out 2
                    go_wp2
                    refine bodyPost_ret (results_cell_row rfl _ _ gb148 32 #[.int .i64 0, .string (⟨#[]⟩ : ByteArray), .int .i64 1] (0, 0) _ rfl (by (with_reducible repeat (first | refine blk_drewN ?_ _ | refine blk_drew ?_ | refine blk_alloc ?_ _)); refine blk_put (cs := #[.int .i64 0, .string (⟨#[]⟩ : ByteArray), .int .i64 x149002_2]) ?_ 2 _ rfl; (with_reducible repeat (first | refine blk_drewN ?_ _ | refine blk_drew ?_ | refine blk_alloc ?_ _)); refine blk_put (cs := #[.int .i64 0, .string x149001_2, .int .i64 x149002_2]) ?_ 1 _ rfl; (with_reducible repeat (first | refine blk_drewN ?_ _ | refine blk_drew ?_ | refine blk_alloc ?_ _)); refine blk_put (cs := #[.int .i64 x149000_2, .string x149001_2, .int .i64 x149002_2]) ?_ 0 _ rfl; (with_reducible repeat (first | refine blk_drewN ?_ _ | refine blk_drew ?_ | refine blk_alloc ?_ _)); exact BK148.out) Try.underlying32 rfl (by kernel_rfl)) rfl ?_
                    exact ⟨by first | rfl | (simp [errW_none, errW_some] <;> rfl) | (simp [*, errW_none, errW_some] <;> rfl), by repeat (first | (with_reducible first | exact HB.out | apply below_alloc | apply pw_below_drewN | apply below_drew1 | refine below_set ?_ GE148.out) | exact HB.out)⟩
                  · rw [if_neg c19] at H
                    have c19b0 : decide (1099511627776 < ((rd_T48 l3 x11_2).f0)) = false := decide_eq_false c19
                    clear c19
                    by_cases c21 : ((rd_T48 l3 x11_2).f1) < 0
                    · rw [if_pos c21] at H
                      have c21b0 : decide (((rd_T48 l3 x11_2).f1) < 0) = true := decide_eq_true c21
                      clear c21
                      simp only [Option.some.injEq, Prod.mk.injEq] at H
                      obtain ⟨rfl, rfl, rfl⟩ := H
                      have p151 : 0 ≤ (x11_2 : Int) := of_decide_eq_true (by first | (with_reducible assumption) | assumption)
                      have q151 : x11_2 < (l3.length : Int) := of_decide_eq_true (by first | (with_reducible assumption) | assumption)
                      obtain ⟨ad151, e151, hx151_0, hx151_1⟩ := at_T48 HR3.out x11_2 p151 q151
                      cases e151
                      replace hx151_0 := (HB.out.cell (World.block_lt_of_cell? w _ hx151_0)).trans hx151_0
                      replace hx151_1 := (HB.out.cell (World.block_lt_of_cell? w _ hx151_1)).trans hx151_1
                      replace p151 := eq_true p151
                      replace q151 := eq_true q151
                      have p152 : 0 ≤ (x11_2 : Int) := of_decide_eq_true (by first | (with_reducible assumption) | assumption)
                      have q152 : x11_2 < (l3.length : Int) := of_decide_eq_true (by first | (with_reducible assumption) | assumption)
                      obtain ⟨ad152, e152, hx152_0, hx152_1⟩ := at_T48 HR3.out x11_2 p152 q152
                      obtain rfl : ad151 = ad152 := (by injection e152)
                      replace hx152_0 := (HB.out.cell (World.block_lt_of_cell? w _ hx152_0)).trans hx152_0
                      replace hx152_1 := (HB.out.cell (World.block_lt_of_cell? w _ hx152_1)).trans hx152_1
                      replace p152 := eq_true p152
                      replace q152 := eq_true q152
                      have p153 : 0 ≤ (x11_2 : Int) := of_decide_eq_true (by first | (with_reducible assumption) | assumption)
                      have q153 : x11_2 < (l3.length : Int) := of_decide_eq_true (by first | (with_reducible assumption) | assumption)
                      obtain ⟨ad153, e153, hx153_0, hx153_1⟩ := at_T48 HR3.out x11_2 p153 q153
                      obtain rfl : ad151 = ad153 := (by injection e153)
                      replace hx153_0 := (HB.out.cell (World.block_lt_of_cell? w _ hx153_0)).trans hx153_0
                      replace hx153_1 := (HB.out.cell (World.block_lt_of_cell? w _ hx153_1)).trans hx153_1
                      replace p153 := eq_true p153
                      replace q153 := eq_true q153
                      have hcz22_0 : wr.cell? ⟨gb148, 0, none⟩ = some (.int .i64 x149000_2) := (blk_cell BK148.out 0).trans rfl
                      have hcz22_1 : wr.cell? ⟨gb148, 1, none⟩ = some (.string x149001_2) := (blk_cell BK148.out 1).trans rfl
                      have hcz22_2 : wr.cell? ⟨gb148, 2, none⟩ = some (.int .i64 x149002_2) := (blk_cell BK148.out 2).trans rfl
                      have hfz22_0 := blk_frozen BK148.out 0
                      have hfz22_1 := blk_frozen BK148.out 1
                      have hfz22_2 := blk_frozen BK148.out 2
                      go_wp2
                      refine bodyPost_ret (results_cell_row rfl _ _ gb148 32 #[.int .i64 0, .string (⟨#[]⟩ : ByteArray), .int .i64 1] (0, 0) _ rfl (by (with_reducible repeat (first | refine blk_drewN ?_ _ | refine blk_drew ?_ | refine blk_alloc ?_ _)); refine blk_put (cs := #[.int .i64 0, .string (⟨#[]⟩ : ByteArray), .int .i64 x149002_2]) ?_ 2 _ rfl; (with_reducible repeat (first | refine blk_drewN ?_ _ | refine blk_drew ?_ | refine blk_alloc ?_ _)); refine blk_put (cs := #[.int .i64 0, .string x149001_2, .int .i64 x149002_2]) ?_ 1 _ rfl; (with_reducible repeat (first | refine blk_drewN ?_ _ | refine blk_drew ?_ | refine blk_alloc ?_ _)); refine blk_put (cs := #[.int .i64 x149000_2, .string x149001_2, .int .i64 x149002_2]) ?_ 0 _ rfl; (with_reducible repeat (first | refine blk_drewN ?_ _ | refine blk_drew ?_ | refine blk_alloc ?_ _)); exact BK148.out) Try.underlying32 rfl (by kernel_rfl)) rfl ?_
                      exact ⟨by first | rfl | (simp [errW_none, errW_some] <;> rfl) | (simp [*, errW_none, errW_some] <;> rfl), by repeat (first | (with_reducible first | exact HB.out | apply below_alloc | apply pw_below_drewN | apply below_drew1 | refine below_set ?_ GE148.out) | exact HB.out)⟩
                    · rw [if_neg c21] at H
                      have c21b0 : decide (((rd_T48 l3 x11_2).f1) < 0) = false := decide_eq_false c21
                      clear c21
                      by_cases c23 : ((rd_T48 l3 x11_2).f1) > 1099511627776
                      · rw [if_pos c23] at H
                        have c23b0 : decide (1099511627776 < ((rd_T48 l3 x11_2).f1)) = true := decide_eq_true c23
                        clear c23
                        simp only [Option.some.injEq, Prod.mk.injEq] at H
                        obtain ⟨rfl, rfl, rfl⟩ := H
                        have p151 : 0 ≤ (x11_2 : Int) := of_decide_eq_true (by first | (with_reducible assumption) | assumption)
                        have q151 : x11_2 < (l3.length : Int) := of_decide_eq_true (by first | (with_reducible assumption) | assumption)
                        obtain ⟨ad151, e151, hx151_0, hx151_1⟩ := at_T48 HR3.out x11_2 p151 q151
                        cases e151
                        replace hx151_0 := (HB.out.cell (World.block_lt_of_cell? w _ hx151_0)).trans hx151_0
                        replace hx151_1 := (HB.out.cell (World.block_lt_of_cell? w _ hx151_1)).trans hx151_1
                        replace p151 := eq_true p151
                        replace q151 := eq_true q151
                        have p152 : 0 ≤ (x11_2 : Int) := of_decide_eq_true (by first | (with_reducible assumption) | assumption)
                        have q152 : x11_2 < (l3.length : Int) := of_decide_eq_true (by first | (with_reducible assumption) | assumption)
                        obtain ⟨ad152, e152, hx152_0, hx152_1⟩ := at_T48 HR3.out x11_2 p152 q152
                        obtain rfl : ad151 = ad152 := (by injection e152)
                        replace hx152_0 := (HB.out.cell (World.block_lt_of_cell? w _ hx152_0)).trans hx152_0
                        replace hx152_1 := (HB.out.cell (World.block_lt_of_cell? w _ hx152_1)).trans hx152_1
                        replace p152 := eq_true p152
                        replace q152 := eq_true q152
                        have p153 : 0 ≤ (x11_2 : Int) := of_decide_eq_true (by first | (with_reducible assumption) | assumption)
                        have q153 : x11_2 < (l3.length : Int) := of_decide_eq_true (by first | (with_reducible assumption) | assumption)
                        obtain ⟨ad153, e153, hx153_0, hx153_1⟩ := at_T48 HR3.out x11_2 p153 q153
                        obtain rfl : ad151 = ad153 := (by injection e153)
                        replace hx153_0 := (HB.out.cell (World.block_lt_of_cell? w _ hx153_0)).trans hx153_0
                        replace hx153_1 := (HB.out.cell (World.block_lt_of_cell? w _ hx153_1)).trans hx153_1
                        replace p153 := eq_true p153
                        replace q153 := eq_true q153
                        have p154 : 0 ≤ (x11_2 : Int) := of_decide_eq_true (by first | (with_reducible assumption) | assumption)
                        have q154 : x11_2 < (l3.length : Int) := of_decide_eq_true (by first | (with_reducible assumption) | assumption)
                        obtain ⟨ad154, e154, hx154_0, hx154_1⟩ := at_T48 HR3.out x11_2 p154 q154
                        obtain rfl : ad151 = ad154 := (by injection e154)
                        replace hx154_0 := (HB.out.cell (World.block_lt_of_cell? w _ hx154_0)).trans hx154_0
                        replace hx154_1 := (HB.out.cell (World.block_lt_of_cell? w _ hx154_1)).trans hx154_1
                        replace p154 := eq_true p154
                        replace q154 := eq_true q154
                        have hcz24_0 : wr.cell? ⟨gb148, 0, none⟩ = some (.int .i64 x149000_2) := (blk_cell BK148.out 0).trans rfl
                        have hcz24_1 : wr.cell? ⟨gb148, 1, none⟩ = some (.string x149001_2) := (blk_cell BK148.out 1).trans rfl
                        have hcz24_2 : wr.cell? ⟨gb148, 2, none⟩ = some (.int .i64 x149002_2) := (blk_cell BK148.out 2).trans rfl
                        have hfz24_0 := blk_frozen BK148.out 0
                        have hfz24_1 := blk_frozen BK148.out 1
                        have hfz24_2 := blk_frozen BK148.out 2
                        go_wp2
                        refine bodyPost_ret (results_cell_row rfl _ _ gb148 32 #[.int .i64 0, .string (⟨#[]⟩ : ByteArray), .int .i64 1] (0, 0) _ rfl (by (with_reducible repeat (first | refine blk_drewN ?_ _ | refine blk_drew ?_ | refine blk_alloc ?_ _)); refine blk_put (cs := #[.int .i64 0, .string (⟨#[]⟩ : ByteArray), .int .i64 x149002_2]) ?_ 2 _ rfl; (with_reducible repeat (first | refine blk_drewN ?_ _ | refine blk_drew ?_ | refine blk_alloc ?_ _)); refine blk_put (cs := #[.int .i64 0, .string x149001_2, .int .i64 x149002_2]) ?_ 1 _ rfl; (with_reducible repeat (first | refine blk_drewN ?_ _ | refine blk_drew ?_ | refine blk_alloc ?_ _)); refine blk_put (cs := #[.int .i64 x149000_2, .string x149001_2, .int .i64 x149002_2]) ?_ 0 _ rfl; (with_reducible repeat (first | refine blk_drewN ?_ _ | refine blk_drew ?_ | refine blk_alloc ?_ _)); exact BK148.out) Try.underlying32 rfl (by kernel_rfl)) rfl ?_
                        exact ⟨by first | rfl | (simp [errW_none, errW_some] <;> rfl) | (simp [*, errW_none, errW_some] <;> rfl), by repeat (first | (with_reducible first | exact HB.out | apply below_alloc | apply pw_below_drewN | apply below_drew1 | refine below_set ?_ GE148.out) | exact HB.out)⟩
                      · rw [if_neg c23] at H
                        have c23b0 : decide (1099511627776 < ((rd_T48 l3 x11_2).f1)) = false := decide_eq_false c23
                        clear c23
                        have H' := Aside0.mk H
                        clear H
                        have p151 : 0 ≤ (x11_2 : Int) := of_decide_eq_true (by first | (with_reducible assumption) | assumption)
                        have q151 : x11_2 < (l3.length : Int) := of_decide_eq_true (by first | (with_reducible assumption) | assumption)
                        obtain ⟨ad151, e151, hx151_0, hx151_1⟩ := at_T48 HR3.out x11_2 p151 q151
                        cases e151
                        replace hx151_0 := (HB.out.cell (World.block_lt_of_cell? w _ hx151_0)).trans hx151_0
                        replace hx151_1 := (HB.out.cell (World.block_lt_of_cell? w _ hx151_1)).trans hx151_1
                        replace p151 := eq_true p151
                        replace q151 := eq_true q151
                        have p152 : 0 ≤ (x11_2 : Int) := of_decide_eq_true (by first | (with_reducible assumption) | assumption)
                        have q152 : x11_2 < (l3.length : Int) := of_decide_eq_true (by first | (with_reducible assumption) | assumption)
                        obtain ⟨ad152, e152, hx152_0, hx152_1⟩ := at_T48 HR3.out x11_2 p152 q152
                        obtain rfl : ad151 = ad152 := (by injection e152)
                        replace hx152_0 := (HB.out.cell (World.block_lt_of_cell? w _ hx152_0)).trans hx152_0
                        replace hx152_1 := (HB.out.cell (World.block_lt_of_cell? w _ hx152_1)).trans hx152_1
                        replace p152 := eq_true p152
                        replace q152 := eq_true q152
                        have p153 : 0 ≤ (x11_2 : Int) := of_decide_eq_true (by first | (with_reducible assumption) | assumption)
                        have q153 : x11_2 < (l3.length : Int) := of_decide_eq_true (by first | (with_reducible assumption) | assumption)
                        obtain ⟨ad153, e153, hx153_0, hx153_1⟩ := at_T48 HR3.out x11_2 p153 q153
                        obtain rfl : ad151 = ad153 := (by injection e153)
                        replace hx153_0 := (HB.out.cell (World.block_lt_of_cell? w _ hx153_0)).trans hx153_0
                        replace hx153_1 := (HB.out.cell (World.block_lt_of_cell? w _ hx153_1)).trans hx153_1
                        replace p153 := eq_true p153
                        replace q153 := eq_true q153
                        have p154 : 0 ≤ (x11_2 : Int) := of_decide_eq_true (by first | (with_reducible assumption) | assumption)
                        have q154 : x11_2 < (l3.length : Int) := of_decide_eq_true (by first | (with_reducible assumption) | assumption)
                        obtain ⟨ad154, e154, hx154_0, hx154_1⟩ := at_T48 HR3.out x11_2 p154 q154
                        obtain rfl : ad151 = ad154 := (by injection e154)
                        replace hx154_0 := (HB.out.cell (World.block_lt_of_cell? w _ hx154_0)).trans hx154_0
                        replace hx154_1 := (HB.out.cell (World.block_lt_of_cell? w _ hx154_1)).trans hx154_1
                        replace p154 := eq_true p154
                        replace q154 := eq_true q154
                        go_wp2
                        go_roundg k2
                        case measure => have := HJ6.out; have := HK2.out; omega
                        case rel => exact ⟨(wrap64 (x11_2 + 1)), (x149000_2), (x149001_2), (x149002_2), (by first | rfl | (simp; done) | (simp [*]; done)), H', ⟨by have := HJ6.out; have := HK2.out; omega⟩, ⟨by (with_reducible repeat (first | refine blk_drewN ?_ _ | refine blk_drew ?_ | refine blk_alloc ?_ _)); exact BK148.out⟩, ⟨by repeat (first | (with_reducible first | exact HB.out | apply below_alloc | apply pw_below_drewN | apply below_drew1 | refine below_set ?_ GE148.out) | exact HB.out)⟩⟩
              · rw [if_neg c16] at H
                exact absurd H (by simp)
            · rw [if_neg c15] at H
              have c15b0 : decide (x11_2 < (l3.length : Int)) = false := decide_eq_false c15
              clear c15
              replace H := Option.bind_eq_some_iff.mp H
              obtain ⟨t155, A250, H⟩ := H
              replace H : (if t155 > 1024 then (flyleafref17_Build.j2 k2 a0 l1 l2 l3 t155 true) else (flyleafref17_Build.j2 k2 a0 l1 l2 l3 t155 (decide (t155 > a0)))) = some (r1, r2, r3) := H
              have A25 := Aside0.mk A250
              clear A250
              have HC26 := Aside0.mk H
              clear H
              go_upto_region 11 with (first | ((with_reducible refine gate_callee (f := 13) rfl ?_); refine goesL_ (some 83) rfl rfl Try.func13 (by kernel_rfl) rfl #[.slice A1 l1.length c1, .slice A2 l2.length c2, .slice A3 l3.length c3] rfl (by (try simp only [List.map_toArray, List.map_cons, List.map_nil]); first | done | rfl | (simp only [List.length_drop, List.length_take]; rfl)) ?_; (with_reducible refine (flyleafref17_Size.calls k2 _ _ l1 _ _ l2 _ _ l3 t155 _ ?side1 ?side2 ?side3 ?side4 ?side5 ?side6 A25.out).mono ?_); (case side1 => repeat (first | exact (Kd.C_below HR1.out HB.out) | (with_reducible refine Kd.C_alloc ?_ _) | (with_reducible refine Kd.C_drewN ?_ _) | (with_reducible refine Kd.C_drew ?_))); (case side2 => exact HC1.out); (case side3 => repeat (first | exact (Kd.C_below HR2.out HB.out) | (with_reducible refine Kd.C_alloc ?_ _) | (with_reducible refine Kd.C_drewN ?_ _) | (with_reducible refine Kd.C_drew ?_))); (case side4 => exact HC2.out); (case side5 => repeat (first | exact (Kd.C_below HR3.out HB.out) | (with_reducible refine Kd.C_alloc ?_ _) | (with_reducible refine Kd.C_drewN ?_ _) | (with_reducible refine Kd.C_drew ?_))); (case side6 => exact HC3.out); rintro e w' ⟨rfl, ⟨nd, rfl⟩⟩; refine ⟨_, rfl, ?_⟩))
              (try simp only [Act.put, List.setIfInBounds_toArray, List.set_cons_zero, List.set_cons_succ])
              go_cut [90] (fun v90 wc => ∃ (kq : Nat) (x90_25 : Bool), v90 = .bool x90_25 ∧ Aside0 (flyleafref17_Build.j2 kq a0 l1 l2 l3 t155 x90_25 = some (r1, r2, r3)) ∧ Aside0 (kq ≤ k2) ∧ Aside0 (wc.heap[gb148]? = some (.cells #[.int .i64 x149000_2, .string x149001_2, .int .i64 x149002_2] 32 (0, 0))) ∧ Aside0 (Below w.heap.size w wc))
              case first =>
                have H := HC26.out
                clear HC26
                by_cases c27 : t155 > 1024
                · rw [if_pos c27] at H
                  have c27b0 : decide (1024 < t155) = true := decide_eq_true c27
                  clear c27
                  (first | rw [c27b0] | (simp only [i64_w, i32_w]; rw [c27b0]) | skip)
                  have H' := Aside0.mk H
                  clear H
                  go_wp2
                  go_meet
                  case rel => exact ⟨_, (true), (by first | rfl | (simp; done) | (simp [*]; done)), H', ⟨by have := HJ6.out; have := HK2.out; first | omega | exact Nat.le_refl _⟩, ⟨by (with_reducible repeat (first | refine blk_drewN ?_ _ | refine blk_drew ?_ | refine blk_alloc ?_ _)); exact BK148.out⟩, ⟨by repeat (first | (with_reducible first | exact HB.out | apply below_alloc | apply pw_below_drewN | apply below_drew1 | refine below_set ?_ GE148.out) | exact HB.out)⟩⟩
                · rw [if_neg c27] at H
                  have c27b0 : decide (1024 < t155) = false := decide_eq_false c27
                  clear c27
                  (first | rw [c27b0] | (simp only [i64_w, i32_w]; rw [c27b0]) | skip)
                  have H' := Aside0.mk H
                  clear H
                  go_wp2
                  go_meet
                  case rel => exact ⟨_, (decide (t155 > a0)), (by first | rfl | (simp; done) | (simp [*]; done)), H', ⟨by have := HJ6.out; have := HK2.out; first | omega | exact Nat.le_refl _⟩, ⟨by (with_reducible repeat (first | refine blk_drewN ?_ _ | refine blk_drew ?_ | refine blk_alloc ?_ _)); exact BK148.out⟩, ⟨by repeat (first | (with_reducible first | exact HB.out | apply below_alloc | apply pw_below_drewN | apply below_drew1 | refine below_set ?_ GE148.out) | exact HB.out)⟩⟩
              case rest =>
                clear HC26
                try clear c1
                try clear p1
                try clear q1
                try clear hx1
                try clear c2
                try clear p2
                try clear c3
                try clear p6
                try clear c9
                try clear c9b0
                try clear c10
                try clear c10b0
                try clear c11
                try clear c11b0
                try clear c11b1
                try clear c12
                try clear c13
                try clear c15
                try clear c15b0
                try clear p15
                try clear q15
                try clear hx15
                try clear c16
                try clear c16b0
                try clear c17
                try clear c17b0
                try clear c19
                try clear c19b0
                try clear c21
                try clear c21b0
                try clear c23
                try clear c23b0
                try clear c27
                try clear c27b0
                try clear hcz14_0
                try clear hcz14_1
                try clear hcz14_2
                try clear hcz18_0
                try clear hcz18_1
                try clear hcz18_2
                try clear hcz20_0
                try clear hcz20_1
                try clear hcz20_2
                try clear hcz22_0
                try clear hcz22_1
                try clear hcz22_2
                try clear hcz24_0
                try clear hcz24_1
                try clear hcz24_2
                try clear hfz14_0
                try clear hfz14_1
                try clear hfz14_2
                try clear hfz18_0
                try clear hfz18_1
                try clear hfz18_2
                try clear hfz20_0
                try clear hfz20_1
                try clear hfz20_2
                try clear hfz22_0
                try clear hfz22_1
                try clear hfz22_2
                try clear hfz24_0
                try clear hfz24_1
                try clear hfz24_2
                try clear hx151_0
                try clear hx151_1
                try clear hx152_0
                try clear hx152_1
                try clear hx153_0
                try clear hx153_1
                try clear hx154_0
                try clear hx154_1
                try clear p151
                try clear p152
                try clear p153
                try clear p154
                try clear p2
                try clear q151
                try clear q152
                try clear q153
                try clear q154
                obtain ⟨kq, x90_25, rfl, HA, HJ25, BK148, HB⟩ := hcut
                cases kq with
                | zero => exact absurd HA.out (by simp [flyleafref17_Build.j2])
                | succ kj25 =>
                  have H := HA.out
                  clear HA
                  simp only [flyleafref17_Build.j2] at H
                  by_cases c28 : x90_25 = true
                  · subst c28
                    have H1 : (some (0, (⟨#[]⟩ : ByteArray), 11)) = some (r1, r2, r3) := by rw [if_pos rfl] at H; exact H
                    clear H
                    have H := H1
                    clear H1
                    simp only [Option.some.injEq, Prod.mk.injEq] at H
                    obtain ⟨rfl, rfl, rfl⟩ := H
                    have hcz29_0 : wc.cell? ⟨gb148, 0, none⟩ = some (.int .i64 x149000_2) := (blk_cell BK148.out 0).trans rfl
                    have hcz29_1 : wc.cell? ⟨gb148, 1, none⟩ = some (.string x149001_2) := (blk_cell BK148.out 1).trans rfl
                    have hcz29_2 : wc.cell? ⟨gb148, 2, none⟩ = some (.int .i64 x149002_2) := (blk_cell BK148.out 2).trans rfl
                    have hfz29_0 := blk_frozen BK148.out 0
                    have hfz29_1 := blk_frozen BK148.out 1
                    have hfz29_2 := blk_frozen BK148.out 2
                    go_wp2
                    refine bodyPost_ret (results_cell_row rfl _ _ gb148 32 #[.int .i64 0, .string (⟨#[]⟩ : ByteArray), .int .i64 11] (0, 0) _ rfl (by (with_reducible repeat (first | refine blk_drewN ?_ _ | refine blk_drew ?_ | refine blk_alloc ?_ _)); refine blk_put (cs := #[.int .i64 0, .string (⟨#[]⟩ : ByteArray), .int .i64 x149002_2]) ?_ 2 _ rfl; (with_reducible repeat (first | refine blk_drewN ?_ _ | refine blk_drew ?_ | refine blk_alloc ?_ _)); refine blk_put (cs := #[.int .i64 0, .string x149001_2, .int .i64 x149002_2]) ?_ 1 _ rfl; (with_reducible repeat (first | refine blk_drewN ?_ _ | refine blk_drew ?_ | refine blk_alloc ?_ _)); refine blk_put (cs := #[.int .i64 x149000_2, .string x149001_2, .int .i64 x149002_2]) ?_ 0 _ rfl; (with_reducible repeat (first | refine blk_drewN ?_ _ | refine blk_drew ?_ | refine blk_alloc ?_ _)); exact BK148.out) Try.underlying32 rfl (by kernel_rfl)) rfl ?_
                    exact ⟨by first | rfl | (simp [errW_none, errW_some] <;> rfl) | (simp [*, errW_none, errW_some] <;> rfl), by repeat (first | (with_reducible first | exact HB.out | apply below_alloc | apply pw_below_drewN | apply below_drew1 | refine below_set ?_ GE148.out) | exact HB.out)⟩
                  · replace c28 := Bool.eq_false_iff.mpr c28
                    subst c28
                    have H1 : ((flyleafref17_texts.f kj25 l1).bind fun t156 => ((flyleafref17_texts.f kj25 l2).bind fun t157 => ((flyleafref01_Put.f kj25 (IntKind.u64.wrap ((l1.length : Int))) 8).bind fun t158 => (flyleafref17_Build.l1 kj25 a0 l1 l2 l3 t155 (wrap64 ((wrap64 (a0 - t156)) - t157)) t158 (⟨#[]⟩ : ByteArray) 0)))) = some (r1, r2, r3) := by rw [if_neg (show ¬ (false = true) by decide)] at H; exact H
                    clear H
                    have H := H1
                    clear H1
                    replace H := Option.bind_eq_some_iff.mp H
                    obtain ⟨t156, A300, H⟩ := H
                    replace H : ((flyleafref17_texts.f kj25 l2).bind fun t157 => ((flyleafref01_Put.f kj25 (IntKind.u64.wrap ((l1.length : Int))) 8).bind fun t158 => (flyleafref17_Build.l1 kj25 a0 l1 l2 l3 t155 (wrap64 ((wrap64 (a0 - t156)) - t157)) t158 (⟨#[]⟩ : ByteArray) 0))) = some (r1, r2, r3) := H
                    have A30 := Aside0.mk A300
                    clear A300
                    replace H := Option.bind_eq_some_iff.mp H
                    obtain ⟨t157, A310, H⟩ := H
                    replace H : ((flyleafref01_Put.f kj25 (IntKind.u64.wrap ((l1.length : Int))) 8).bind fun t158 => (flyleafref17_Build.l1 kj25 a0 l1 l2 l3 t155 (wrap64 ((wrap64 (a0 - t156)) - t157)) t158 (⟨#[]⟩ : ByteArray) 0)) = some (r1, r2, r3) := H
                    have A31 := Aside0.mk A310
                    clear A310
                    replace H := Option.bind_eq_some_iff.mp H
                    obtain ⟨t158, A320, H⟩ := H
                    replace H : (flyleafref17_Build.l1 kj25 a0 l1 l2 l3 t155 (wrap64 ((wrap64 (a0 - t156)) - t157)) t158 (⟨#[]⟩ : ByteArray) 0) = some (r1, r2, r3) := H
                    have A32 := Aside0.mk A320
                    clear A320
                    have H' := Aside0.mk H
                    clear H
                    go_wp2_with (first | ((with_reducible refine gate_callee (f := 30) rfl ?_); refine goesL_ (some 94) rfl rfl Try.func30 (by kernel_rfl) rfl #[.slice A1 l1.length c1] rfl (by (try simp only [List.map_toArray, List.map_cons, List.map_nil]); first | done | rfl | (simp only [List.length_drop, List.length_take]; rfl)) ?_; (with_reducible refine (flyleafref17_texts.calls kj25 _ _ l1 t156 _ ?side1 ?side2 A30.out).mono ?_); (case side1 => repeat (first | exact (Kd.C_below HR1.out HB.out) | (with_reducible refine Kd.C_alloc ?_ _) | (with_reducible refine Kd.C_drewN ?_ _) | (with_reducible refine Kd.C_drew ?_))); (case side2 => exact HC1.out); rintro e w' ⟨rfl, ⟨nd, rfl⟩⟩; refine ⟨_, rfl, ?_⟩) | ((with_reducible refine gate_callee (f := 30) rfl ?_); refine goesL_ (some 97) rfl rfl Try.func30 (by kernel_rfl) rfl #[.slice A2 l2.length c2] rfl (by (try simp only [List.map_toArray, List.map_cons, List.map_nil]); first | done | rfl | (simp only [List.length_drop, List.length_take]; rfl)) ?_; (with_reducible refine (flyleafref17_texts.calls kj25 _ _ l2 t157 _ ?side1 ?side2 A31.out).mono ?_); (case side1 => repeat (first | exact (Kd.C_below HR2.out (by repeat (first | (with_reducible first | exact HB.out | apply below_alloc | apply pw_below_drewN | apply below_drew1 | refine below_set ?_ GE148.out) | exact HB.out))) | (with_reducible refine Kd.C_alloc ?_ _) | (with_reducible refine Kd.C_drewN ?_ _) | (with_reducible refine Kd.C_drew ?_))); (case side2 => exact HC2.out); rintro e w' ⟨rfl, ⟨nd, rfl⟩⟩; refine ⟨_, rfl, ?_⟩) | ((with_reducible refine gate_callee (f := 31) rfl ?_); refine goesL_ (some 102) rfl rfl Try.func31 (by kernel_rfl) rfl #[.int .u64 (IntKind.u64.wrap ((l1.length : Int))), .int .i64 8] rfl (by (try simp only [List.map_toArray, List.map_cons, List.map_nil]); first | done | rfl | (simp only [List.length_drop, List.length_take]; rfl)) ?_; (with_reducible refine (flyleafref01_Put.calls kj25 (IntKind.u64.wrap ((l1.length : Int))) 8 t158 _ A32.out).mono ?_); rintro e w33 ⟨rfl, hb⟩; refine ⟨_, rfl, ?_⟩; have n0_ := Aside0.mk (blk_below (g := gb148) (o := .cells #[.int .i64 x149000_2, .string x149001_2, .int .i64 x149002_2] 32 (0, 0)) (by (with_reducible repeat (first | refine blk_drewN ?_ _ | refine blk_drew ?_ | refine blk_alloc ?_ _)); exact BK148.out) hb); have n1_ := Aside0.mk (below_step (by repeat (first | (with_reducible first | exact HB.out | apply below_alloc | apply pw_below_drewN | apply below_drew1 | refine below_set ?_ GE148.out) | exact HB.out)) hb); clear BK148; clear HB; have BK148 := n0_; have HB := n1_; clear n0_ n1_; (try clear hb); (try clear hb2); (try clear hk); (try clear hi)))
                    go_loopg [13, 14, 15, 16] kj25 (fun kq v13 v14 v15 v16 w' => ∃ (x13_4 : Int) (x14_4 : ByteArray) (x15_4 : ByteArray) (x16_4 : Int), v13 = .int .i64 x13_4 ∧ v14 = .string x14_4 ∧ v15 = .string x15_4 ∧ v16 = .int .i64 x16_4 ∧ Aside0 (flyleafref17_Build.l1 kq a0 l1 l2 l3 t155 x13_4 x14_4 x15_4 x16_4 = some (r1, r2, r3)) ∧ Aside0 (kq ≤ kj25) ∧ Aside0 (w'.heap[gb148]? = some (.cells #[.int .i64 x149000_2, .string x149001_2, .int .i64 x149002_2] 32 (0, 0))) ∧ Aside0 (Below w.heap.size w w'))
                    case atStart => exact ⟨(wrap64 ((wrap64 (a0 - t156)) - t157)), (t158), ((⟨#[]⟩ : ByteArray)), (0), (by first | rfl | (simp; done) | (simp [*]; done)), (by first | rfl | (simp; done) | (simp [*]; done)), (by first | rfl | (simp; done) | (simp [*]; done)), (by first | rfl | (simp; done) | (simp [*]; done)), H', ⟨Nat.le_refl _⟩, ⟨by (with_reducible repeat (first | refine blk_drewN ?_ _ | refine blk_drew ?_ | refine blk_alloc ?_ _)); exact BK148.out⟩, ⟨by repeat (first | (with_reducible first | exact HB.out | apply below_alloc | apply pw_below_drewN | apply below_drew1 | refine below_set ?_ GE148.out) | exact HB.out)⟩⟩
                    case round =>
                      clear H'
                      try clear c1
                      try clear p1
                      try clear q1
                      try clear hx1
                      try clear c2
                      try clear p2
                      try clear c3
                      try clear p6
                      try clear c9
                      try clear c9b0
                      try clear c10
                      try clear c10b0
                      try clear c11
                      try clear c11b0
                      try clear c11b1
                      try clear c12
                      try clear c13
                      try clear c15
                      try clear c15b0
                      try clear p15
                      try clear q15
                      try clear hx15
                      try clear c16
                      try clear c16b0
                      try clear c17
                      try clear c17b0
                      try clear c19
                      try clear c19b0
                      try clear c21
                      try clear c21b0
                      try clear c23
                      try clear c23b0
                      try clear c27
                      try clear c27b0
                      try clear c28
                      try clear c29
                      try clear c30
                      try clear c31
                      try clear hcz14_0
                      try clear hcz14_1
                      try clear hcz14_2
                      try clear hcz18_0
                      try clear hcz18_1
                      try clear hcz18_2
                      try clear hcz20_0
                      try clear hcz20_1
                      try clear hcz20_2
                      try clear hcz22_0
                      try clear hcz22_1
                      try clear hcz22_2
                      try clear hcz24_0
                      try clear hcz24_1
                      try clear hcz24_2
                      try clear hcz29_0
                      try clear hcz29_1
                      try clear hcz29_2
                      try clear hfz14_0
                      try clear hfz14_1
                      try clear hfz14_2
                      try clear hfz18_0
                      try clear hfz18_1
                      try clear hfz18_2
                      try clear hfz20_0
                      try clear hfz20_1
                      try clear hfz20_2
                      try clear hfz22_0
                      try clear hfz22_1
                      try clear hfz22_2
                      try clear hfz24_0
                      try clear hfz24_1
                      try clear hfz24_2
                      try clear hfz29_0
                      try clear hfz29_1
                      try clear hfz29_2
                      try clear hx151_0
                      try clear hx151_1
                      try clear hx152_0
                      try clear hx152_1
                      try clear hx153_0
                      try clear hx153_1
                      try clear hx154_0
                      try clear hx154_1
                      try clear p1
                      try clear p15
                      try clear p151
                      try clear p152
                      try clear p153
                      try clear p154
                      try clear p2
                      try clear p6
                      try clear q1
                      try clear q15
                      try clear q151
                      try clear q152
                      try clear q153
                      try clear q154
                      obtain ⟨x13_4, x14_4, x15_4, x16_4, rfl, rfl, rfl, rfl, HA, HK4, BK148, HB⟩ := hrel
                      cases gk with
                      | zero => exact absurd HA.out (by simp [flyleafref17_Build.l1])
                      | succ k4 =>
                        have H := HA.out
                        clear HA
                        simp only [flyleafref17_Build.l1] at H
                        by_cases c34 : x16_4 < (l1.length : Int)
                        · rw [if_pos c34] at H
                          have c34b0 : decide (x16_4 < (l1.length : Int)) = true := decide_eq_true c34
                          clear c34
                          replace H := Option.bind_eq_some_iff.mp H
                          obtain ⟨t159, A350, H⟩ := H
                          replace H : (if x14_4.size + t159.size ≤ 9223372036854775807 then (if 0 ≤ x16_4 then (if x15_4.size + (rdOf ByteArray.empty l1 x16_4).size ≤ 9223372036854775807 then (if (x15_4 ++ (rdOf ByteArray.empty l1 x16_4)).size + 1 ≤ 9223372036854775807 then (flyleafref17_Build.l1 k4 a0 l1 l2 l3 t155 (wrap64 ((wrap64 (x13_4 + ((rdOf ByteArray.empty l1 x16_4).size : Int))) + 1)) (x14_4 ++ t159) ((x15_4 ++ (rdOf ByteArray.empty l1 x16_4)) ++ (⟨#[0]⟩ : ByteArray)) (wrap64 (x16_4 + 1))) else (none)) else (none)) else (none)) else (none)) = some (r1, r2, r3) := H
                          have A35 := Aside0.mk A350
                          clear A350
                          by_cases c36 : x14_4.size + t159.size ≤ 9223372036854775807
                          · rw [if_pos c36] at H
                            have c36b0 := eq_true c36
                            have c36b1 : decide (x14_4.size + t159.size ≤ 9223372036854775807) = true := decide_eq_true c36
                            try have c36b2 : (9223372036854775807 < x14_4.size + t159.size) = False := eq_false (Nat.not_lt.2 c36)
                            by_cases c37 : 0 ≤ x16_4
                            · rw [if_pos c37] at H
                              have c37b0 : decide (0 ≤ x16_4) = true := decide_eq_true c37
                              clear c37
                              by_cases c38 : x15_4.size + (rdOf ByteArray.empty l1 x16_4).size ≤ 9223372036854775807
                              · rw [if_pos c38] at H
                                have c38b0 := eq_true c38
                                have c38b1 : decide (x15_4.size + (rdOf ByteArray.empty l1 x16_4).size ≤ 9223372036854775807) = true := decide_eq_true c38
                                try have c38b2 : (9223372036854775807 < x15_4.size + (rdOf ByteArray.empty l1 x16_4).size) = False := eq_false (Nat.not_lt.2 c38)
                                by_cases c39 : (x15_4 ++ (rdOf ByteArray.empty l1 x16_4)).size + 1 ≤ 9223372036854775807
                                · rw [if_pos c39] at H
                                  have c39b0 := eq_true c39
                                  have c39b1 : decide ((x15_4 ++ (rdOf ByteArray.empty l1 x16_4)).size + 1 ≤ 9223372036854775807) = true := decide_eq_true c39
                                  try have c39b2 : (9223372036854775807 < (x15_4 ++ (rdOf ByteArray.empty l1 x16_4)).size + 1) = False := eq_false (Nat.not_lt.2 c39)
                                  try have c39n := c39b2
                                  try simp only [ByteArray.size_append] at c39n
                                  have H' := Aside0.mk H
                                  clear H
                                  go_wp2_with (first | ((with_reducible refine gate_callee (f := 31) rfl ?_); refine goesL_ (some 112) rfl rfl Try.func31 (by kernel_rfl) rfl #[.int .u64 (IntKind.u64.wrap (x13_4)), .int .i64 8] rfl (by (try simp only [List.map_toArray, List.map_cons, List.map_nil]); first | done | rfl | (simp only [List.length_drop, List.length_take]; rfl)) ?_; (with_reducible refine (flyleafref01_Put.calls k4 (IntKind.u64.wrap (x13_4)) 8 t159 _ A35.out).mono ?_); rintro e w40 ⟨rfl, hb⟩; refine ⟨_, rfl, ?_⟩; have n0_ := Aside0.mk (blk_below (g := gb148) (o := .cells #[.int .i64 x149000_2, .string x149001_2, .int .i64 x149002_2] 32 (0, 0)) (by (with_reducible repeat (first | refine blk_drewN ?_ _ | refine blk_drew ?_ | refine blk_alloc ?_ _)); exact BK148.out) hb); have n1_ := Aside0.mk (below_step (by repeat (first | (with_reducible first | exact HB.out | apply below_alloc | apply pw_below_drewN | apply below_drew1 | refine below_set ?_ GE148.out) | exact HB.out)) hb); clear BK148; clear HB; have BK148 := n0_; have HB := n1_; clear n0_ n1_; (try clear hb); (try clear hb2); (try clear hk); (try clear hi); have p160 : 0 ≤ (x16_4 : Int) := of_decide_eq_true (by first | (with_reducible assumption) | assumption); have q160 : x16_4 < (l1.length : Int) := of_decide_eq_true (by first | (with_reducible assumption) | assumption); obtain ⟨ad160, e160, hx160_0⟩ := Kd.at_string HR1.out x16_4 p160 q160; cases e160; replace hx160_0 := (HB.out.cell (World.block_lt_of_cell? w _ hx160_0)).trans hx160_0; replace p160 := eq_true p160; replace q160 := eq_true q160; have p161 : 0 ≤ (x16_4 : Int) := of_decide_eq_true (by first | (with_reducible assumption) | assumption); have q161 : x16_4 < (l1.length : Int) := of_decide_eq_true (by first | (with_reducible assumption) | assumption); obtain ⟨ad161, e161, hx161_0⟩ := Kd.at_string HR1.out x16_4 p161 q161; obtain rfl : ad160 = ad161 := (by injection e161); replace hx161_0 := (HB.out.cell (World.block_lt_of_cell? w _ hx161_0)).trans hx161_0; replace p161 := eq_true p161; replace q161 := eq_true q161))
                                  go_roundg k4
                                  case measure => have := HJ6.out; have := HK2.out; have := HJ25.out; have := HK4.out; omega
                                  case rel => exact ⟨(wrap64 ((wrap64 (x13_4 + ((rdOf ByteArray.empty l1 x16_4).size : Int))) + 1)), (x14_4 ++ t159), ((x15_4 ++ (rdOf ByteArray.empty l1 x16_4)) ++ (⟨#[0]⟩ : ByteArray)), (wrap64 (x16_4 + 1)), (by first | rfl | (simp; done) | (simp [*]; done)), (by first | rfl | (simp; done) | (simp [*]; done)), (by first | rfl | (simp; done) | (simp [*]; done)), (by first | rfl | (simp; done) | (simp [*]; done)), H', ⟨by have := HJ6.out; have := HK2.out; have := HJ25.out; have := HK4.out; omega⟩, ⟨by (with_reducible repeat (first | refine blk_drewN ?_ _ | refine blk_drew ?_ | refine blk_alloc ?_ _)); exact BK148.out⟩, ⟨by repeat (first | (with_reducible first | exact HB.out | apply below_alloc | apply pw_below_drewN | apply below_drew1 | refine below_set ?_ GE148.out) | exact HB.out)⟩⟩
                                · rw [if_neg c39] at H
                                  exact absurd H (by simp)
                              · rw [if_neg c38] at H
                                exact absurd H (by simp)
                            · rw [if_neg c37] at H
                              exact absurd H (by simp)
                          · rw [if_neg c36] at H
                            exact absurd H (by simp)
                        · rw [if_neg c34] at H
                          have c34b0 : decide (x16_4 < (l1.length : Int)) = false := decide_eq_false c34
                          clear c34
                          replace H := Option.bind_eq_some_iff.mp H
                          obtain ⟨t162, A410, H⟩ := H
                          replace H : (if x14_4.size + t162.size ≤ 9223372036854775807 then (flyleafref17_Build.l2 k4 a0 l2 l3 t155 x13_4 (x14_4 ++ t162) x15_4 0) else (none)) = some (r1, r2, r3) := H
                          have A41 := Aside0.mk A410
                          clear A410
                          by_cases c42 : x14_4.size + t162.size ≤ 9223372036854775807
                          · rw [if_pos c42] at H
                            have c42b0 := eq_true c42
                            have c42b1 : decide (x14_4.size + t162.size ≤ 9223372036854775807) = true := decide_eq_true c42
                            try have c42b2 : (9223372036854775807 < x14_4.size + t162.size) = False := eq_false (Nat.not_lt.2 c42)
                            have H' := Aside0.mk H
                            clear H
                            go_wp2_with (first | ((with_reducible refine gate_callee (f := 31) rfl ?_); refine goesL_ (some 130) rfl rfl Try.func31 (by kernel_rfl) rfl #[.int .u64 0, .int .i64 8] rfl (by (try simp only [List.map_toArray, List.map_cons, List.map_nil]); first | done | rfl | (simp only [List.length_drop, List.length_take]; rfl)) ?_; (with_reducible refine (flyleafref01_Put.calls k4 0 8 t162 _ A41.out).mono ?_); rintro e w43 ⟨rfl, hb⟩; refine ⟨_, rfl, ?_⟩; have n0_ := Aside0.mk (blk_below (g := gb148) (o := .cells #[.int .i64 x149000_2, .string x149001_2, .int .i64 x149002_2] 32 (0, 0)) (by (with_reducible repeat (first | refine blk_drewN ?_ _ | refine blk_drew ?_ | refine blk_alloc ?_ _)); exact BK148.out) hb); have n1_ := Aside0.mk (below_step (by repeat (first | (with_reducible first | exact HB.out | apply below_alloc | apply pw_below_drewN | apply below_drew1 | refine below_set ?_ GE148.out) | exact HB.out)) hb); clear BK148; clear HB; have BK148 := n0_; have HB := n1_; clear n0_ n1_; (try clear hb); (try clear hb2); (try clear hk); (try clear hi)))
                            go_loopg [13, 14, 15, 17] k4 (fun kq v13 v14 v15 v17 w' => ∃ (x13_5 : Int) (x14_5 : ByteArray) (x15_5 : ByteArray) (x17_5 : Int), v13 = .int .i64 x13_5 ∧ v14 = .string x14_5 ∧ v15 = .string x15_5 ∧ v17 = .int .i64 x17_5 ∧ Aside0 (flyleafref17_Build.l2 kq a0 l2 l3 t155 x13_5 x14_5 x15_5 x17_5 = some (r1, r2, r3)) ∧ Aside0 (kq ≤ k4) ∧ Aside0 (w'.heap[gb148]? = some (.cells #[.int .i64 x149000_2, .string x149001_2, .int .i64 x149002_2] 32 (0, 0))) ∧ Aside0 (Below w.heap.size w w'))
                            case atStart => exact ⟨(x13_4), (x14_4 ++ t162), (x15_4), (0), (by first | rfl | (simp; done) | (simp [*]; done)), (by first | rfl | (simp; done) | (simp [*]; done)), (by first | rfl | (simp; done) | (simp [*]; done)), (by first | rfl | (simp; done) | (simp [*]; done)), H', ⟨Nat.le_refl _⟩, ⟨by (with_reducible repeat (first | refine blk_drewN ?_ _ | refine blk_drew ?_ | refine blk_alloc ?_ _)); exact BK148.out⟩, ⟨by repeat (first | (with_reducible first | exact HB.out | apply below_alloc | apply pw_below_drewN | apply below_drew1 | refine below_set ?_ GE148.out) | exact HB.out)⟩⟩
                            case round =>
                              clear H'
                              try clear c1
                              try clear p1
                              try clear q1
                              try clear hx1
                              try clear c2
                              try clear p2
                              try clear c3
                              try clear c4
                              try clear p6
                              try clear c9
                              try clear c9b0
                              try clear c10
                              try clear c10b0
                              try clear c11
                              try clear c11b0
                              try clear c11b1
                              try clear c12
                              try clear c13
                              try clear c15
                              try clear c15b0
                              try clear p15
                              try clear q15
                              try clear hx15
                              try clear c16
                              try clear c16b0
                              try clear p16
                              try clear q16
                              try clear hx16
                              try clear c17
                              try clear c17b0
                              try clear c19
                              try clear c19b0
                              try clear c21
                              try clear c21b0
                              try clear c23
                              try clear c23b0
                              try clear c27
                              try clear c27b0
                              try clear c28
                              try clear c29
                              try clear c30
                              try clear c31
                              try clear c34
                              try clear c34b0
                              try clear c36
                              try clear c36b0
                              try clear c36b1
                              try clear c36b2
                              try clear c37
                              try clear c37b0
                              try clear c38
                              try clear c38b0
                              try clear c38b1
                              try clear c38b2
                              try clear c39
                              try clear c39b0
                              try clear c39b1
                              try clear c39b2
                              try clear c42
                              try clear c42b0
                              try clear c42b1
                              try clear c42b2
                              try clear hcz14_0
                              try clear hcz14_1
                              try clear hcz14_2
                              try clear hcz18_0
                              try clear hcz18_1
                              try clear hcz18_2
                              try clear hcz20_0
                              try clear hcz20_1
                              try clear hcz20_2
                              try clear hcz22_0
                              try clear hcz22_1
                              try clear hcz22_2
                              try clear hcz24_0
                              try clear hcz24_1
                              try clear hcz24_2
                              try clear hcz29_0
                              try clear hcz29_1
                              try clear hcz29_2
                              try clear hfz14_0
                              try clear hfz14_1
                              try clear hfz14_2
                              try clear hfz18_0
                              try clear hfz18_1
                              try clear hfz18_2
                              try clear hfz20_0
                              try clear hfz20_1
                              try clear hfz20_2
                              try clear hfz22_0
                              try clear hfz22_1
                              try clear hfz22_2
                              try clear hfz24_0
                              try clear hfz24_1
                              try clear hfz24_2
                              try clear hfz29_0
                              try clear hfz29_1
                              try clear hfz29_2
                              try clear hx151_0
                              try clear hx151_1
                              try clear hx152_0
                              try clear hx152_1
                              try clear hx153_0
                              try clear hx153_1
                              try clear hx154_0
                              try clear hx154_1
                              try clear hx160_0
                              try clear hx161_0
                              try clear p1
                              try clear p15
                              try clear p151
                              try clear p152
                              try clear p153
                              try clear p154
                              try clear p160
                              try clear p161
                              try clear p2
                              try clear p6
                              try clear q1
                              try clear q15
                              try clear q151
                              try clear q152
                              try clear q153
                              try clear q154
                              try clear q160
                              try clear q161
                              obtain ⟨x13_5, x14_5, x15_5, x17_5, rfl, rfl, rfl, rfl, HA, HK5, BK148, HB⟩ := hrel
                              cases gk with
                              | zero => exact absurd HA.out (by simp [flyleafref17_Build.l2])
                              | succ k5 =>
                                have H := HA.out
                                clear HA
                                simp only [flyleafref17_Build.l2] at H
                                by_cases c44 : x17_5 < (l2.length : Int)
                                · rw [if_pos c44] at H
                                  have c44b0 : decide (x17_5 < (l2.length : Int)) = true := decide_eq_true c44
                                  clear c44
                                  replace H := Option.bind_eq_some_iff.mp H
                                  obtain ⟨t163, A450, H⟩ := H
                                  replace H : (if x14_5.size + t163.size ≤ 9223372036854775807 then (if 0 ≤ x17_5 then (if x15_5.size + (rdOf ByteArray.empty l2 x17_5).size ≤ 9223372036854775807 then (if (x15_5 ++ (rdOf ByteArray.empty l2 x17_5)).size + 1 ≤ 9223372036854775807 then (flyleafref17_Build.l2 k5 a0 l2 l3 t155 (wrap64 ((wrap64 (x13_5 + ((rdOf ByteArray.empty l2 x17_5).size : Int))) + 1)) (x14_5 ++ t163) ((x15_5 ++ (rdOf ByteArray.empty l2 x17_5)) ++ (⟨#[0]⟩ : ByteArray)) (wrap64 (x17_5 + 1))) else (none)) else (none)) else (none)) else (none)) = some (r1, r2, r3) := H
                                  have A45 := Aside0.mk A450
                                  clear A450
                                  by_cases c46 : x14_5.size + t163.size ≤ 9223372036854775807
                                  · rw [if_pos c46] at H
                                    have c46b0 := eq_true c46
                                    have c46b1 : decide (x14_5.size + t163.size ≤ 9223372036854775807) = true := decide_eq_true c46
                                    try have c46b2 : (9223372036854775807 < x14_5.size + t163.size) = False := eq_false (Nat.not_lt.2 c46)
                                    by_cases c47 : 0 ≤ x17_5
                                    · rw [if_pos c47] at H
                                      have c47b0 : decide (0 ≤ x17_5) = true := decide_eq_true c47
                                      clear c47
                                      by_cases c48 : x15_5.size + (rdOf ByteArray.empty l2 x17_5).size ≤ 9223372036854775807
                                      · rw [if_pos c48] at H
                                        have c48b0 := eq_true c48
                                        have c48b1 : decide (x15_5.size + (rdOf ByteArray.empty l2 x17_5).size ≤ 9223372036854775807) = true := decide_eq_true c48
                                        try have c48b2 : (9223372036854775807 < x15_5.size + (rdOf ByteArray.empty l2 x17_5).size) = False := eq_false (Nat.not_lt.2 c48)
                                        by_cases c49 : (x15_5 ++ (rdOf ByteArray.empty l2 x17_5)).size + 1 ≤ 9223372036854775807
                                        · rw [if_pos c49] at H
                                          have c49b0 := eq_true c49
                                          have c49b1 : decide ((x15_5 ++ (rdOf ByteArray.empty l2 x17_5)).size + 1 ≤ 9223372036854775807) = true := decide_eq_true c49
                                          try have c49b2 : (9223372036854775807 < (x15_5 ++ (rdOf ByteArray.empty l2 x17_5)).size + 1) = False := eq_false (Nat.not_lt.2 c49)
                                          try have c49n := c49b2
                                          try simp only [ByteArray.size_append] at c49n
                                          have H' := Aside0.mk H
                                          clear H
                                          go_wp2_with (first | ((with_reducible refine gate_callee (f := 31) rfl ?_); refine goesL_ (some 141) rfl rfl Try.func31 (by kernel_rfl) rfl #[.int .u64 (IntKind.u64.wrap (x13_5)), .int .i64 8] rfl (by (try simp only [List.map_toArray, List.map_cons, List.map_nil]); first | done | rfl | (simp only [List.length_drop, List.length_take]; rfl)) ?_; (with_reducible refine (flyleafref01_Put.calls k5 (IntKind.u64.wrap (x13_5)) 8 t163 _ A45.out).mono ?_); rintro e w50 ⟨rfl, hb⟩; refine ⟨_, rfl, ?_⟩; have n0_ := Aside0.mk (blk_below (g := gb148) (o := .cells #[.int .i64 x149000_2, .string x149001_2, .int .i64 x149002_2] 32 (0, 0)) (by (with_reducible repeat (first | refine blk_drewN ?_ _ | refine blk_drew ?_ | refine blk_alloc ?_ _)); exact BK148.out) hb); have n1_ := Aside0.mk (below_step (by repeat (first | (with_reducible first | exact HB.out | apply below_alloc | apply pw_below_drewN | apply below_drew1 | refine below_set ?_ GE148.out) | exact HB.out)) hb); clear BK148; clear HB; have BK148 := n0_; have HB := n1_; clear n0_ n1_; (try clear hb); (try clear hb2); (try clear hk); (try clear hi); have p164 : 0 ≤ (x17_5 : Int) := of_decide_eq_true (by first | (with_reducible assumption) | assumption); have q164 : x17_5 < (l2.length : Int) := of_decide_eq_true (by first | (with_reducible assumption) | assumption); obtain ⟨ad164, e164, hx164_0⟩ := Kd.at_string HR2.out x17_5 p164 q164; cases e164; replace hx164_0 := (HB.out.cell (World.block_lt_of_cell? w _ hx164_0)).trans hx164_0; replace p164 := eq_true p164; replace q164 := eq_true q164; have p165 : 0 ≤ (x17_5 : Int) := of_decide_eq_true (by first | (with_reducible assumption) | assumption); have q165 : x17_5 < (l2.length : Int) := of_decide_eq_true (by first | (with_reducible assumption) | assumption); obtain ⟨ad165, e165, hx165_0⟩ := Kd.at_string HR2.out x17_5 p165 q165; obtain rfl : ad164 = ad165 := (by injection e165); replace hx165_0 := (HB.out.cell (World.block_lt_of_cell? w _ hx165_0)).trans hx165_0; replace p165 := eq_true p165; replace q165 := eq_true q165))
                                          go_roundg k5
                                          case measure => have := HJ6.out; have := HK2.out; have := HJ25.out; have := HK4.out; have := HK5.out; omega
                                          case rel => exact ⟨(wrap64 ((wrap64 (x13_5 + ((rdOf ByteArray.empty l2 x17_5).size : Int))) + 1)), (x14_5 ++ t163), ((x15_5 ++ (rdOf ByteArray.empty l2 x17_5)) ++ (⟨#[0]⟩ : ByteArray)), (wrap64 (x17_5 + 1)), (by first | rfl | (simp; done) | (simp [*]; done)), (by first | rfl | (simp; done) | (simp [*]; done)), (by first | rfl | (simp; done) | (simp [*]; done)), (by first | rfl | (simp; done) | (simp [*]; done)), H', ⟨by have := HJ6.out; have := HK2.out; have := HJ25.out; have := HK4.out; have := HK5.out; omega⟩, ⟨by (with_reducible repeat (first | refine blk_drewN ?_ _ | refine blk_drew ?_ | refine blk_alloc ?_ _)); exact BK148.out⟩, ⟨by repeat (first | (with_reducible first | exact HB.out | apply below_alloc | apply pw_below_drewN | apply below_drew1 | refine below_set ?_ GE148.out) | exact HB.out)⟩⟩
                                        · rw [if_neg c49] at H
                                          exact absurd H (by simp)
                                      · rw [if_neg c48] at H
                                        exact absurd H (by simp)
                                    · rw [if_neg c47] at H
                                      exact absurd H (by simp)
                                  · rw [if_neg c46] at H
                                    exact absurd H (by simp)
                                · rw [if_neg c44] at H
                                  have c44b0 : decide (x17_5 < (l2.length : Int)) = false := decide_eq_false c44
                                  clear c44
                                  replace H := Option.bind_eq_some_iff.mp H
                                  obtain ⟨t166, A510, H⟩ := H
                                  replace H : (if x14_5.size + t166.size ≤ 9223372036854775807 then (flyleafref17_Build.l3 k5 a0 l3 t155 (x14_5 ++ t166) x15_5 0) else (none)) = some (r1, r2, r3) := H
                                  have A51 := Aside0.mk A510
                                  clear A510
                                  by_cases c52 : x14_5.size + t166.size ≤ 9223372036854775807
                                  · rw [if_pos c52] at H
                                    have c52b0 := eq_true c52
                                    have c52b1 : decide (x14_5.size + t166.size ≤ 9223372036854775807) = true := decide_eq_true c52
                                    try have c52b2 : (9223372036854775807 < x14_5.size + t166.size) = False := eq_false (Nat.not_lt.2 c52)
                                    have H' := Aside0.mk H
                                    clear H
                                    go_wp2_with (first | ((with_reducible refine gate_callee (f := 31) rfl ?_); refine goesL_ (some 159) rfl rfl Try.func31 (by kernel_rfl) rfl #[.int .u64 0, .int .i64 8] rfl (by (try simp only [List.map_toArray, List.map_cons, List.map_nil]); first | done | rfl | (simp only [List.length_drop, List.length_take]; rfl)) ?_; (with_reducible refine (flyleafref01_Put.calls k5 0 8 t166 _ A51.out).mono ?_); rintro e w53 ⟨rfl, hb⟩; refine ⟨_, rfl, ?_⟩; have n0_ := Aside0.mk (blk_below (g := gb148) (o := .cells #[.int .i64 x149000_2, .string x149001_2, .int .i64 x149002_2] 32 (0, 0)) (by (with_reducible repeat (first | refine blk_drewN ?_ _ | refine blk_drew ?_ | refine blk_alloc ?_ _)); exact BK148.out) hb); have n1_ := Aside0.mk (below_step (by repeat (first | (with_reducible first | exact HB.out | apply below_alloc | apply pw_below_drewN | apply below_drew1 | refine below_set ?_ GE148.out) | exact HB.out)) hb); clear BK148; clear HB; have BK148 := n0_; have HB := n1_; clear n0_ n1_; (try clear hb); (try clear hb2); (try clear hk); (try clear hi)))
                                    go_loopg [14, 18] k5 (fun kq v14 v18 w' => ∃ (x14_6 : ByteArray) (x18_6 : Int), v14 = .string x14_6 ∧ v18 = .int .i64 x18_6 ∧ Aside0 (flyleafref17_Build.l3 kq a0 l3 t155 x14_6 x15_5 x18_6 = some (r1, r2, r3)) ∧ Aside0 (kq ≤ k5) ∧ Aside0 (w'.heap[gb148]? = some (.cells #[.int .i64 x149000_2, .string x149001_2, .int .i64 x149002_2] 32 (0, 0))) ∧ Aside0 (Below w.heap.size w w'))
                                    case atStart => exact ⟨(x14_5 ++ t166), (0), (by first | rfl | (simp; done) | (simp [*]; done)), (by first | rfl | (simp; done) | (simp [*]; done)), H', ⟨Nat.le_refl _⟩, ⟨by (with_reducible repeat (first | refine blk_drewN ?_ _ | refine blk_drew ?_ | refine blk_alloc ?_ _)); exact BK148.out⟩, ⟨by repeat (first | (with_reducible first | exact HB.out | apply below_alloc | apply pw_below_drewN | apply below_drew1 | refine below_set ?_ GE148.out) | exact HB.out)⟩⟩
                                    case round =>
                                      clear H'
                                      try clear c1
                                      try clear p1
                                      try clear q1
                                      try clear hx1
                                      try clear c2
                                      try clear p2
                                      try clear c3
                                      try clear c4
                                      try clear c5
                                      try clear p6
                                      try clear c9
                                      try clear c9b0
                                      try clear c10
                                      try clear c10b0
                                      try clear c11
                                      try clear c11b0
                                      try clear c11b1
                                      try clear c12
                                      try clear c13
                                      try clear c15
                                      try clear c15b0
                                      try clear p15
                                      try clear q15
                                      try clear hx15
                                      try clear c16
                                      try clear c16b0
                                      try clear p16
                                      try clear q16
                                      try clear hx16
                                      try clear c17
                                      try clear c17b0
                                      try clear c19
                                      try clear c19b0
                                      try clear c21
                                      try clear c21b0
                                      try clear c23
                                      try clear c23b0
                                      try clear c27
                                      try clear c27b0
                                      try clear c28
                                      try clear c29
                                      try clear c30
                                      try clear c31
                                      try clear c34
                                      try clear c34b0
                                      try clear c36
                                      try clear c36b0
                                      try clear c36b1
                                      try clear c36b2
                                      try clear c37
                                      try clear c37b0
                                      try clear c38
                                      try clear c38b0
                                      try clear c38b1
                                      try clear c38b2
                                      try clear c39
                                      try clear c39b0
                                      try clear c39b1
                                      try clear c39b2
                                      try clear c42
                                      try clear c42b0
                                      try clear c42b1
                                      try clear c42b2
                                      try clear c44
                                      try clear c44b0
                                      try clear c46
                                      try clear c46b0
                                      try clear c46b1
                                      try clear c46b2
                                      try clear c47
                                      try clear c47b0
                                      try clear c48
                                      try clear c48b0
                                      try clear c48b1
                                      try clear c48b2
                                      try clear c49
                                      try clear c49b0
                                      try clear c49b1
                                      try clear c49b2
                                      try clear c52
                                      try clear c52b0
                                      try clear c52b1
                                      try clear c52b2
                                      try clear hcz14_0
                                      try clear hcz14_1
                                      try clear hcz14_2
                                      try clear hcz18_0
                                      try clear hcz18_1
                                      try clear hcz18_2
                                      try clear hcz20_0
                                      try clear hcz20_1
                                      try clear hcz20_2
                                      try clear hcz22_0
                                      try clear hcz22_1
                                      try clear hcz22_2
                                      try clear hcz24_0
                                      try clear hcz24_1
                                      try clear hcz24_2
                                      try clear hcz29_0
                                      try clear hcz29_1
                                      try clear hcz29_2
                                      try clear hfz14_0
                                      try clear hfz14_1
                                      try clear hfz14_2
                                      try clear hfz18_0
                                      try clear hfz18_1
                                      try clear hfz18_2
                                      try clear hfz20_0
                                      try clear hfz20_1
                                      try clear hfz20_2
                                      try clear hfz22_0
                                      try clear hfz22_1
                                      try clear hfz22_2
                                      try clear hfz24_0
                                      try clear hfz24_1
                                      try clear hfz24_2
                                      try clear hfz29_0
                                      try clear hfz29_1
                                      try clear hfz29_2
                                      try clear hx151_0
                                      try clear hx151_1
                                      try clear hx152_0
                                      try clear hx152_1
                                      try clear hx153_0
                                      try clear hx153_1
                                      try clear hx154_0
                                      try clear hx154_1
                                      try clear hx160_0
                                      try clear hx161_0
                                      try clear hx164_0
                                      try clear hx165_0
                                      try clear p1
                                      try clear p15
                                      try clear p151
                                      try clear p152
                                      try clear p153
                                      try clear p154
                                      try clear p16
                                      try clear p160
                                      try clear p161
                                      try clear p164
                                      try clear p165
                                      try clear p2
                                      try clear p6
                                      try clear q1
                                      try clear q15
                                      try clear q151
                                      try clear q152
                                      try clear q153
                                      try clear q154
                                      try clear q16
                                      try clear q160
                                      try clear q161
                                      try clear q164
                                      try clear q165
                                      obtain ⟨x14_6, x18_6, rfl, rfl, HA, HK6, BK148, HB⟩ := hrel
                                      cases gk with
                                      | zero => exact absurd HA.out (by simp [flyleafref17_Build.l3])
                                      | succ k6 =>
                                        have H := HA.out
                                        clear HA
                                        simp only [flyleafref17_Build.l3] at H
                                        by_cases c54 : x18_6 < (l3.length : Int)
                                        · rw [if_pos c54] at H
                                          have c54b0 : decide (x18_6 < (l3.length : Int)) = true := decide_eq_true c54
                                          clear c54
                                          by_cases c55 : 0 ≤ x18_6
                                          · rw [if_pos c55] at H
                                            have c55b0 : decide (0 ≤ x18_6) = true := decide_eq_true c55
                                            clear c55
                                            replace H := Option.bind_eq_some_iff.mp H
                                            obtain ⟨t168, A560, H⟩ := H
                                            replace H : (if x14_6.size + t168.size ≤ 9223372036854775807 then ((flyleafref01_Put.f k6 (IntKind.u64.wrap ((rd_T48 l3 x18_6).f1)) 8).bind fun t170 => (if (x14_6 ++ t168).size + t170.size ≤ 9223372036854775807 then (flyleafref17_Build.l3 k6 a0 l3 t155 ((x14_6 ++ t168) ++ t170) x15_5 (wrap64 (x18_6 + 1))) else (none))) else (none)) = some (r1, r2, r3) := H
                                            have A56 := Aside0.mk A560
                                            clear A560
                                            by_cases c57 : x14_6.size + t168.size ≤ 9223372036854775807
                                            · rw [if_pos c57] at H
                                              have c57b0 := eq_true c57
                                              have c57b1 : decide (x14_6.size + t168.size ≤ 9223372036854775807) = true := decide_eq_true c57
                                              try have c57b2 : (9223372036854775807 < x14_6.size + t168.size) = False := eq_false (Nat.not_lt.2 c57)
                                              replace H := Option.bind_eq_some_iff.mp H
                                              obtain ⟨t170, A580, H⟩ := H
                                              replace H : (if (x14_6 ++ t168).size + t170.size ≤ 9223372036854775807 then (flyleafref17_Build.l3 k6 a0 l3 t155 ((x14_6 ++ t168) ++ t170) x15_5 (wrap64 (x18_6 + 1))) else (none)) = some (r1, r2, r3) := H
                                              have A58 := Aside0.mk A580
                                              clear A580
                                              by_cases c59 : (x14_6 ++ t168).size + t170.size ≤ 9223372036854775807
                                              · rw [if_pos c59] at H
                                                have c59b0 := eq_true c59
                                                have c59b1 : decide ((x14_6 ++ t168).size + t170.size ≤ 9223372036854775807) = true := decide_eq_true c59
                                                try have c59b2 : (9223372036854775807 < (x14_6 ++ t168).size + t170.size) = False := eq_false (Nat.not_lt.2 c59)
                                                try have c59n := c59b2
                                                try simp only [ByteArray.size_append] at c59n
                                                have H' := Aside0.mk H
                                                clear H
                                                try go_wp2
                                                have n0_ := Aside0.mk (blk_drew BK148.out)
                                                have n1_ := Aside0.mk (below_drew1 HB.out)
                                                clear BK148
                                                clear HB
                                                have BK148 := n0_
                                                have HB := n1_
                                                clear n0_ n1_
                                                have p167 : 0 ≤ (x18_6 : Int) := of_decide_eq_true (by first | (with_reducible assumption) | assumption)
                                                have q167 : x18_6 < (l3.length : Int) := of_decide_eq_true (by first | (with_reducible assumption) | assumption)
                                                obtain ⟨ad167, e167, hx167_0, hx167_1⟩ := at_T48 HR3.out x18_6 p167 q167
                                                have hw167_1 := hx167_1
                                                have hw167_0 := hx167_0
                                                cases e167
                                                replace hx167_0 := (HB.out.cell (World.block_lt_of_cell? w _ hx167_0)).trans hx167_0
                                                replace hx167_1 := (HB.out.cell (World.block_lt_of_cell? w _ hx167_1)).trans hx167_1
                                                replace p167 := eq_true p167
                                                replace q167 := eq_true q167
                                                have p169 : 0 ≤ (x18_6 : Int) := of_decide_eq_true (by first | (with_reducible assumption) | assumption)
                                                have q169 : x18_6 < (l3.length : Int) := of_decide_eq_true (by first | (with_reducible assumption) | assumption)
                                                obtain ⟨ad169, e169, hx169_0, hx169_1⟩ := at_T48 HR3.out x18_6 p169 q169
                                                have hw169_1 := hx169_1
                                                have hw169_0 := hx169_0
                                                obtain rfl : ad167 = ad169 := (by injection e169)
                                                replace hx169_0 := (HB.out.cell (World.block_lt_of_cell? w _ hx169_0)).trans hx169_0
                                                replace hx169_1 := (HB.out.cell (World.block_lt_of_cell? w _ hx169_1)).trans hx169_1
                                                replace p169 := eq_true p169
                                                replace q169 := eq_true q169
                                                refine start_ (n := 18) (S := fun w' => w'.cell? (ad167.add ((x18_6).toNat * 2)) = some (.int .i64 ((rd_T48 l3 x18_6).f0)) ∧ w'.cell? ⟨(ad167.add ((x18_6).toNat * 2)).block, (ad167.add ((x18_6).toNat * 2)).off + 1, none⟩ = some (.int .i64 ((rd_T48 l3 x18_6).f1)) ∧ w'.cell? (ad167.add ((x18_6).toNat * 2)) = some (.int .i64 ((rd_T48 l3 x18_6).f0)) ∧ w'.cell? ⟨(ad167.add ((x18_6).toNat * 2)).block, (ad167.add ((x18_6).toNat * 2)).off + 1, none⟩ = some (.int .i64 ((rd_T48 l3 x18_6).f1))) (ds := []) #[false, false, false, false, false, false, false, false, false, false, false, false, false, false, false, false, false, false] (by kernel_rfl) rfl rfl ⟨((HB.out.cell (World.block_lt_of_cell? w _ hw167_0)).trans hw167_0), ((HB.out.cell (World.block_lt_of_cell? w _ hw167_1)).trans hw167_1), ((HB.out.cell (World.block_lt_of_cell? w _ hw169_0)).trans hw169_0), ((HB.out.cell (World.block_lt_of_cell? w _ hw169_1)).trans hw169_1)⟩ (fun hHeld => ?_); refine with_tabW flyleafref17_Build.tab33 flyleafref17_Build.bits33 (fun HT_ HW_ => ?_)
                                                generalize wr.drew = w60 at BK148 HB hx167_0 hx167_1 hx169_0 hx169_1 hHeld ⊢
                                                refine pure_ (i := 0) (N := some 167) (v := ?_) (a' := ?_) #[true, false, false, false, false, false, false, false, false, false, false, false, false, false, false, false, false, false] rfl rfl (any_of HT_.out (by kernel_rfl)) (fun _ _ _ h => h) (Or.inl ⟨by rfl, ?_⟩) ?_ ?_
                                                rotate_left
                                                · intro w'
                                                  go_simp
                                                  with_reducible rfl
                                                rotate_left
                                                · simp only [Act.put, List.setIfInBounds_toArray, List.set_cons_zero, List.set_cons_succ, i64_w, i32_w]
                                                  rfl
                                                refine pure_ (i := 1) (N := some 168) (v := ?_) (a' := ?_) #[true, true, false, false, false, false, false, false, false, false, false, false, false, false, false, false, false, false] rfl rfl (any_of HT_.out (by kernel_rfl)) (fun _ _ _ h => h) (Or.inl ⟨by rfl, ?_⟩) ?_ ?_
                                                rotate_left
                                                · intro w'
                                                  go_simp
                                                  with_reducible rfl
                                                rotate_left
                                                · simp only [Act.put, List.setIfInBounds_toArray, List.set_cons_zero, List.set_cons_succ, i64_w, i32_w]
                                                  rfl
                                                refine pure_ (i := 2) (N := some 169) (v := ?_) (a' := ?_) #[true, true, true, false, false, false, false, false, false, false, false, false, false, false, false, false, false, false] rfl rfl (any_of HT_.out (by kernel_rfl)) (fun _ _ _ h => h) (Or.inl ⟨by rfl, ?_⟩) ?_ ?_
                                                rotate_left
                                                · intro w'
                                                  go_simp
                                                  with_reducible rfl
                                                rotate_left
                                                · simp only [Act.put, List.setIfInBounds_toArray, List.set_cons_zero, List.set_cons_succ, i64_w, i32_w]
                                                  rfl
                                                refine pure_ (i := 3) (N := some 170) (v := ?_) (a' := ?_) #[true, true, true, true, false, false, false, false, false, false, false, false, false, false, false, false, false, false] rfl rfl (any_of HT_.out (by kernel_rfl)) (fun _ _ _ h => h) (Or.inl ⟨by rfl, ?_⟩) ?_ ?_
                                                rotate_left
                                                · intro w'
                                                  go_simp
                                                  with_reducible rfl
                                                rotate_left
                                                · simp only [Act.put, List.setIfInBounds_toArray, List.set_cons_zero, List.set_cons_succ, i64_w, i32_w]
                                                  rfl
                                                refine pure_ (i := 4) (N := some 171) (v := ?_) (a' := ?_) #[true, true, true, true, true, false, false, false, false, false, false, false, false, false, false, false, false, false] rfl rfl (any_of HT_.out (by kernel_rfl)) (fun _ _ _ h => h) (Or.inl ⟨by rfl, ?_⟩) ?_ ?_
                                                rotate_left
                                                · intro w'
                                                  go_simp
                                                  with_reducible rfl
                                                rotate_left
                                                · simp only [Act.put, List.setIfInBounds_toArray, List.set_cons_zero, List.set_cons_succ, i64_w, i32_w]
                                                  rfl
                                                refine pure_ (i := 9) (N := some 176) (v := ?_) (a' := ?_) #[true, true, true, true, true, false, false, false, false, true, false, false, false, false, false, false, false, false] rfl rfl (any_of HT_.out (by kernel_rfl)) (fun _ _ _ h => h) (Or.inl ⟨by rfl, ?_⟩) ?_ ?_
                                                rotate_left
                                                · intro w'
                                                  go_simp
                                                  with_reducible rfl
                                                rotate_left
                                                · simp only [Act.put, List.setIfInBounds_toArray, List.set_cons_zero, List.set_cons_succ, i64_w, i32_w]
                                                  rfl
                                                refine pure_ (i := 10) (N := some 177) (v := ?_) (a' := ?_) #[true, true, true, true, true, false, false, false, false, true, true, false, false, false, false, false, false, false] rfl rfl (any_of HT_.out (by kernel_rfl)) (fun _ _ _ h => h) (Or.inl ⟨by rfl, ?_⟩) ?_ ?_
                                                rotate_left
                                                · intro w'
                                                  go_simp
                                                  with_reducible rfl
                                                rotate_left
                                                · simp only [Act.put, List.setIfInBounds_toArray, List.set_cons_zero, List.set_cons_succ, i64_w, i32_w]
                                                  rfl
                                                refine pure_ (i := 11) (N := some 178) (v := ?_) (a' := ?_) #[true, true, true, true, true, false, false, false, false, true, true, true, false, false, false, false, false, false] rfl rfl (any_of HT_.out (by kernel_rfl)) (fun _ _ _ h => h) (Or.inl ⟨by rfl, ?_⟩) ?_ ?_
                                                rotate_left
                                                · intro w'
                                                  go_simp
                                                  with_reducible rfl
                                                rotate_left
                                                · simp only [Act.put, List.setIfInBounds_toArray, List.set_cons_zero, List.set_cons_succ, i64_w, i32_w]
                                                  rfl
                                                refine pure_ (i := 12) (N := some 179) (v := ?_) (a' := ?_) #[true, true, true, true, true, false, false, false, false, true, true, true, true, false, false, false, false, false] rfl rfl (any_of HT_.out (by kernel_rfl)) (fun _ _ _ h => h) (Or.inl ⟨by rfl, ?_⟩) ?_ ?_
                                                rotate_left
                                                · intro w'
                                                  go_simp
                                                  with_reducible rfl
                                                rotate_left
                                                · simp only [Act.put, List.setIfInBounds_toArray, List.set_cons_zero, List.set_cons_succ, i64_w, i32_w]
                                                  rfl
                                                refine take_ (i := 5) (N := some 172) (v := ?_) (a' := ?_) #[true, true, true, true, true, true, false, false, false, true, true, true, true, false, false, false, false, false] rfl rfl (take_ofW HT_.out HW_.out (by kernel_rfl)) (fun _ _ _ h => h) (Or.inl ⟨by rfl, ?_⟩) hHeld ?_ ?_
                                                rotate_left
                                                · rintro w' ⟨s0, s1, s2, s3⟩
                                                  go_simp
                                                  with_reducible rfl
                                                rotate_left
                                                · simp only [Act.put, List.setIfInBounds_toArray, List.set_cons_zero, List.set_cons_succ, i64_w, i32_w]
                                                  rfl
                                                refine pure_ (i := 6) (N := some 173) (v := ?_) (a' := ?_) #[true, true, true, true, true, true, true, false, false, true, true, true, true, false, false, false, false, false] rfl rfl (any_of HT_.out (by kernel_rfl)) (fun _ _ _ h => h) (Or.inl ⟨by rfl, ?_⟩) ?_ ?_
                                                rotate_left
                                                · intro w'
                                                  go_simp
                                                  with_reducible rfl
                                                rotate_left
                                                · simp only [Act.put, List.setIfInBounds_toArray, List.set_cons_zero, List.set_cons_succ, i64_w, i32_w]
                                                  rfl
                                                refine take_ (i := 13) (N := some 180) (v := ?_) (a' := ?_) #[true, true, true, true, true, true, true, false, false, true, true, true, true, true, false, false, false, false] rfl rfl (take_ofW HT_.out HW_.out (by kernel_rfl)) (fun _ _ _ h => h) (Or.inl ⟨by rfl, ?_⟩) hHeld ?_ ?_
                                                rotate_left
                                                · rintro w' ⟨s0, s1, s2, s3⟩
                                                  go_simp
                                                  with_reducible rfl
                                                rotate_left
                                                · simp only [Act.put, List.setIfInBounds_toArray, List.set_cons_zero, List.set_cons_succ, i64_w, i32_w]
                                                  rfl
                                                refine pure_ (i := 14) (N := some 181) (v := ?_) (a' := ?_) #[true, true, true, true, true, true, true, false, false, true, true, true, true, true, true, false, false, false] rfl rfl (any_of HT_.out (by kernel_rfl)) (fun _ _ _ h => h) (Or.inl ⟨by rfl, ?_⟩) ?_ ?_
                                                rotate_left
                                                · intro w'
                                                  go_simp
                                                  with_reducible rfl
                                                rotate_left
                                                · simp only [Act.put, List.setIfInBounds_toArray, List.set_cons_zero, List.set_cons_succ, i64_w, i32_w]
                                                  rfl
                                                refine one_ (i := 7) (N := some 174) #[true, true, true, true, true, true, true, true, false, true, true, true, true, true, true, false, false, false] rfl rfl (one_of HT_.out (by kernel_rfl)) (by decide) (fun K hK => ?_)
                                                refine goes_ Try.func31 (by kernel_rfl) rfl #[.int .u64 (IntKind.u64.wrap ((rd_T48 l3 x18_6).f0)), .int .i64 8] (by rfl) rfl rfl (by (try simp only [List.map_toArray, List.map_cons, List.map_nil]); first | done | rfl | (simp only [List.length_drop, List.length_take]; rfl)) ?_
                                                with_reducible refine (flyleafref01_Put.calls k6 (IntKind.u64.wrap ((rd_T48 l3 x18_6).f0)) 8 t168 _ A56.out).mono ?_
                                                rintro e w61 ⟨rfl, hb⟩
                                                refine ⟨_, rfl, ?_⟩
                                                have n0_ := Aside0.mk (blk_below (g := gb148) (o := .cells #[.int .i64 x149000_2, .string x149001_2, .int .i64 x149002_2] 32 (0, 0)) (by (with_reducible repeat (first | refine blk_drewN ?_ _ | refine blk_drew ?_ | refine blk_alloc ?_ _)); exact BK148.out) hb)
                                                have n1_ := Aside0.mk (below_step (by repeat (first | (with_reducible first | exact HB.out | apply below_alloc | apply pw_below_drewN | apply below_drew1 | refine below_set ?_ GE148.out) | exact HB.out)) hb)
                                                clear BK148
                                                clear HB
                                                have BK148 := n0_
                                                have HB := n1_
                                                clear n0_ n1_
                                                (try clear hb)
                                                (try clear hb2)
                                                (try clear hk)
                                                (try clear hi)
                                                refine hK.out _ _ ⟨((HB.out.cell (World.block_lt_of_cell? w _ hw167_0)).trans hw167_0), ((HB.out.cell (World.block_lt_of_cell? w _ hw167_1)).trans hw167_1), ((HB.out.cell (World.block_lt_of_cell? w _ hw169_0)).trans hw169_0), ((HB.out.cell (World.block_lt_of_cell? w _ hw169_1)).trans hw169_1)⟩ (fun hHeld => ?_)
                                                clear hK K
                                                refine norm_ (a' := ?_) ?_ ?_
                                                rotate_left
                                                · show Act.put _ (some 174) _ = _
                                                  simp only [Act.put, List.setIfInBounds_toArray, List.set_cons_zero, List.set_cons_succ, i64_w, i32_w]
                                                  rfl
                                                refine pure_ (i := 8) (N := some 175) (v := ?_) (a' := ?_) #[true, true, true, true, true, true, true, true, true, true, true, true, true, true, true, false, false, false] rfl rfl (any_of HT_.out (by kernel_rfl)) (fun _ _ _ h => h) (Or.inl ⟨by rfl, ?_⟩) ?_ ?_
                                                rotate_left
                                                · intro w'
                                                  go_simp
                                                  with_reducible rfl
                                                rotate_left
                                                · simp only [Act.put, List.setIfInBounds_toArray, List.set_cons_zero, List.set_cons_succ, i64_w, i32_w]
                                                  rfl
                                                refine one_ (i := 15) (N := some 182) #[true, true, true, true, true, true, true, true, true, true, true, true, true, true, true, true, false, false] rfl rfl (one_of HT_.out (by kernel_rfl)) (by decide) (fun K hK => ?_)
                                                refine goes_ Try.func31 (by kernel_rfl) rfl #[.int .u64 (IntKind.u64.wrap ((rd_T48 l3 x18_6).f1)), .int .i64 8] (by rfl) rfl rfl (by (try simp only [List.map_toArray, List.map_cons, List.map_nil]); first | done | rfl | (simp only [List.length_drop, List.length_take]; rfl)) ?_
                                                with_reducible refine (flyleafref01_Put.calls k6 (IntKind.u64.wrap ((rd_T48 l3 x18_6).f1)) 8 t170 _ A58.out).mono ?_
                                                rintro e w62 ⟨rfl, hb⟩
                                                refine ⟨_, rfl, ?_⟩
                                                have n0_ := Aside0.mk (blk_below (g := gb148) (o := .cells #[.int .i64 x149000_2, .string x149001_2, .int .i64 x149002_2] 32 (0, 0)) (by (with_reducible repeat (first | refine blk_drewN ?_ _ | refine blk_drew ?_ | refine blk_alloc ?_ _)); exact BK148.out) hb)
                                                have n1_ := Aside0.mk (below_step (by repeat (first | (with_reducible first | exact HB.out | apply below_alloc | apply pw_below_drewN | apply below_drew1 | refine below_set ?_ GE148.out) | exact HB.out)) hb)
                                                clear BK148
                                                clear HB
                                                have BK148 := n0_
                                                have HB := n1_
                                                clear n0_ n1_
                                                (try clear hb)
                                                (try clear hb2)
                                                (try clear hk)
                                                (try clear hi)
                                                refine hK.out _ _ ⟨((HB.out.cell (World.block_lt_of_cell? w _ hw167_0)).trans hw167_0), ((HB.out.cell (World.block_lt_of_cell? w _ hw167_1)).trans hw167_1), ((HB.out.cell (World.block_lt_of_cell? w _ hw169_0)).trans hw169_0), ((HB.out.cell (World.block_lt_of_cell? w _ hw169_1)).trans hw169_1)⟩ (fun hHeld => ?_)
                                                clear hK K
                                                refine norm_ (a' := ?_) ?_ ?_
                                                rotate_left
                                                · show Act.put _ (some 182) _ = _
                                                  simp only [Act.put, List.setIfInBounds_toArray, List.set_cons_zero, List.set_cons_succ, i64_w, i32_w]
                                                  rfl
                                                refine pure_ (i := 16) (N := some 183) (v := ?_) (a' := ?_) #[true, true, true, true, true, true, true, true, true, true, true, true, true, true, true, true, true, false] rfl rfl (any_of HT_.out (by kernel_rfl)) (fun _ _ _ h => h) (Or.inl ⟨by rfl, ?_⟩) ?_ ?_
                                                rotate_left
                                                · intro w'
                                                  go_simp
                                                  with_reducible rfl
                                                rotate_left
                                                · simp only [Act.put, List.setIfInBounds_toArray, List.set_cons_zero, List.set_cons_succ, i64_w, i32_w]
                                                  rfl
                                                refine pure_ (i := 17) (N := some 14) (v := ?_) (a' := ?_) #[true, true, true, true, true, true, true, true, true, true, true, true, true, true, true, true, true, true] rfl rfl (any_of HT_.out (by kernel_rfl)) (fun _ _ _ h => h) (Or.inl ⟨by rfl, ?_⟩) ?_ ?_
                                                rotate_left
                                                · intro w'
                                                  go_simp
                                                  with_reducible rfl
                                                rotate_left
                                                · simp only [Act.put, List.setIfInBounds_toArray, List.set_cons_zero, List.set_cons_succ, i64_w, i32_w]
                                                  rfl
                                                refine done_ (done_of HT_.out (by kernel_rfl)) ?_
                                                try go_wp2
                                                go_roundg k6
                                                case measure => have := HJ6.out; have := HK2.out; have := HJ25.out; have := HK4.out; have := HK5.out; have := HK6.out; omega
                                                case rel => exact ⟨((x14_6 ++ t168) ++ t170), (wrap64 (x18_6 + 1)), (by first | rfl | (simp; done) | (simp [*]; done)), (by first | rfl | (simp; done) | (simp [*]; done)), H', ⟨by have := HJ6.out; have := HK2.out; have := HJ25.out; have := HK4.out; have := HK5.out; have := HK6.out; omega⟩, ⟨by (with_reducible repeat (first | refine blk_drewN ?_ _ | refine blk_drew ?_ | refine blk_alloc ?_ _)); exact BK148.out⟩, ⟨by repeat (first | (with_reducible first | exact HB.out | apply below_alloc | apply pw_below_drewN | apply below_drew1 | refine below_set ?_ GE148.out) | exact HB.out)⟩⟩
                                              · rw [if_neg c59] at H
                                                exact absurd H (by simp)
                                            · rw [if_neg c57] at H
                                              exact absurd H (by simp)
                                          · rw [if_neg c55] at H
                                            exact absurd H (by simp)
                                        · rw [if_neg c54] at H
                                          have c54b0 : decide (x18_6 < (l3.length : Int)) = false := decide_eq_false c54
                                          clear c54
                                          replace H := Option.bind_eq_some_iff.mp H
                                          obtain ⟨t171, A630, H⟩ := H
                                          replace H : (if x14_6.size + t171.size ≤ 9223372036854775807 then ((flyleafref01_Put.f k6 0 8).bind fun t172 => (if (x14_6 ++ t171).size + t172.size ≤ 9223372036854775807 then ((flyleafref01_Fill.f ((x14_6 ++ t171) ++ t172) (wrap64 (t155 - (x15_5.size : Int)))).bind fun t173 => (if t173.size + x15_5.size ≤ 9223372036854775807 then (some (wrap64 (a0 - t155), t173 ++ x15_5, 0)) else (none))) else (none))) else (none)) = some (r1, r2, r3) := H
                                          have A63 := Aside0.mk A630
                                          clear A630
                                          by_cases c64 : x14_6.size + t171.size ≤ 9223372036854775807
                                          · rw [if_pos c64] at H
                                            have c64b0 := eq_true c64
                                            have c64b1 : decide (x14_6.size + t171.size ≤ 9223372036854775807) = true := decide_eq_true c64
                                            try have c64b2 : (9223372036854775807 < x14_6.size + t171.size) = False := eq_false (Nat.not_lt.2 c64)
                                            replace H := Option.bind_eq_some_iff.mp H
                                            obtain ⟨t172, A650, H⟩ := H
                                            replace H : (if (x14_6 ++ t171).size + t172.size ≤ 9223372036854775807 then ((flyleafref01_Fill.f ((x14_6 ++ t171) ++ t172) (wrap64 (t155 - (x15_5.size : Int)))).bind fun t173 => (if t173.size + x15_5.size ≤ 9223372036854775807 then (some (wrap64 (a0 - t155), t173 ++ x15_5, 0)) else (none))) else (none)) = some (r1, r2, r3) := H
                                            have A65 := Aside0.mk A650
                                            clear A650
                                            by_cases c66 : (x14_6 ++ t171).size + t172.size ≤ 9223372036854775807
                                            · rw [if_pos c66] at H
                                              have c66b0 := eq_true c66
                                              have c66b1 : decide ((x14_6 ++ t171).size + t172.size ≤ 9223372036854775807) = true := decide_eq_true c66
                                              try have c66b2 : (9223372036854775807 < (x14_6 ++ t171).size + t172.size) = False := eq_false (Nat.not_lt.2 c66)
                                              try have c66n := c66b2
                                              try simp only [ByteArray.size_append] at c66n
                                              replace H := Option.bind_eq_some_iff.mp H
                                              obtain ⟨t173, A670, H⟩ := H
                                              replace H : (if t173.size + x15_5.size ≤ 9223372036854775807 then (some (wrap64 (a0 - t155), t173 ++ x15_5, 0)) else (none)) = some (r1, r2, r3) := H
                                              have A67 := Aside0.mk A670
                                              clear A670
                                              by_cases c68 : t173.size + x15_5.size ≤ 9223372036854775807
                                              · rw [if_pos c68] at H
                                                have c68b0 := eq_true c68
                                                have c68b1 : decide (t173.size + x15_5.size ≤ 9223372036854775807) = true := decide_eq_true c68
                                                try have c68b2 : (9223372036854775807 < t173.size + x15_5.size) = False := eq_false (Nat.not_lt.2 c68)
                                                simp only [Option.some.injEq, Prod.mk.injEq] at H
                                                obtain ⟨rfl, rfl, rfl⟩ := H
                                                go_wp2_with (first | ((with_reducible refine gate_callee (f := 31) rfl ?_); refine goesL_ (some 185) rfl rfl Try.func31 (by kernel_rfl) rfl #[.int .u64 0, .int .i64 8] rfl (by (try simp only [List.map_toArray, List.map_cons, List.map_nil]); first | done | rfl | (simp only [List.length_drop, List.length_take]; rfl)) ?_; (with_reducible refine (flyleafref01_Put.calls k6 0 8 t171 _ A63.out).mono ?_); rintro e w69 ⟨rfl, hb⟩; refine ⟨_, rfl, ?_⟩; have n0_ := Aside0.mk (blk_below (g := gb148) (o := .cells #[.int .i64 x149000_2, .string x149001_2, .int .i64 x149002_2] 32 (0, 0)) (by (with_reducible repeat (first | refine blk_drewN ?_ _ | refine blk_drew ?_ | refine blk_alloc ?_ _)); exact BK148.out) hb); have n1_ := Aside0.mk (below_step (by repeat (first | (with_reducible first | exact HB.out | apply below_alloc | apply pw_below_drewN | apply below_drew1 | refine below_set ?_ GE148.out) | exact HB.out)) hb); clear BK148; clear HB; have BK148 := n0_; have HB := n1_; clear n0_ n1_; (try clear hb); (try clear hb2); (try clear hk); (try clear hi)) | ((with_reducible refine gate_callee (f := 31) rfl ?_); refine goesL_ (some 187) rfl rfl Try.func31 (by kernel_rfl) rfl #[.int .u64 0, .int .i64 8] rfl (by (try simp only [List.map_toArray, List.map_cons, List.map_nil]); first | done | rfl | (simp only [List.length_drop, List.length_take]; rfl)) ?_; (with_reducible refine (flyleafref01_Put.calls k6 0 8 t172 _ A65.out).mono ?_); rintro e w70 ⟨rfl, hb⟩; refine ⟨_, rfl, ?_⟩; have n0_ := Aside0.mk (blk_below (g := gb148) (o := .cells #[.int .i64 x149000_2, .string x149001_2, .int .i64 x149002_2] 32 (0, 0)) (by (with_reducible repeat (first | refine blk_drewN ?_ _ | refine blk_drew ?_ | refine blk_alloc ?_ _)); exact BK148.out) hb); have n1_ := Aside0.mk (below_step (by repeat (first | (with_reducible first | exact HB.out | apply below_alloc | apply pw_below_drewN | apply below_drew1 | refine below_set ?_ GE148.out) | exact HB.out)) hb); clear BK148; clear HB; have BK148 := n0_; have HB := n1_; clear n0_ n1_; (try clear hb); (try clear hb2); (try clear hk); (try clear hi)) | ((with_reducible refine gate_callee (f := 17) rfl ?_); refine goesL_ (some 197) rfl rfl Try.func17 (by kernel_rfl) rfl #[.string ((x14_6 ++ t171) ++ t172), .int .i64 (wrap64 (t155 - (x15_5.size : Int)))] rfl (by (try simp only [List.map_toArray, List.map_cons, List.map_nil]); first | done | rfl | (simp only [List.length_drop, List.length_take]; rfl)) ?_; (with_reducible refine (flyleafref01_Fill.calls ((x14_6 ++ t171) ++ t172) (wrap64 (t155 - (x15_5.size : Int))) t173 _ A67.out).mono ?_); rintro e w71 ⟨rfl, hb⟩; refine ⟨_, rfl, ?_⟩; have n0_ := Aside0.mk (blk_below (g := gb148) (o := .cells #[.int .i64 x149000_2, .string x149001_2, .int .i64 x149002_2] 32 (0, 0)) (by (with_reducible repeat (first | refine blk_drewN ?_ _ | refine blk_drew ?_ | refine blk_alloc ?_ _)); exact BK148.out) hb); have n1_ := Aside0.mk (below_step (by repeat (first | (with_reducible first | exact HB.out | apply below_alloc | apply pw_below_drewN | apply below_drew1 | refine below_set ?_ GE148.out) | exact HB.out)) hb); clear BK148; clear HB; have BK148 := n0_; have HB := n1_; clear n0_ n1_; (try clear hb); (try clear hb2); (try clear hk); (try clear hi); have hcz72_0 : w71.cell? ⟨gb148, 0, none⟩ = some (.int .i64 x149000_2) := (blk_cell BK148.out 0).trans rfl; have hcz72_1 : w71.cell? ⟨gb148, 1, none⟩ = some (.string x149001_2) := (blk_cell BK148.out 1).trans rfl; have hcz72_2 : w71.cell? ⟨gb148, 2, none⟩ = some (.int .i64 x149002_2) := (blk_cell BK148.out 2).trans rfl; have hfz72_0 := blk_frozen BK148.out 0; have hfz72_1 := blk_frozen BK148.out 1; have hfz72_2 := blk_frozen BK148.out 2))
                                                refine bodyPost_ret (results_cell_row rfl _ _ gb148 32 #[.int .i64 (wrap64 (a0 - t155)), .string (t173 ++ x15_5), .int .i64 0] (0, 0) _ rfl (by (with_reducible repeat (first | refine blk_drewN ?_ _ | refine blk_drew ?_ | refine blk_alloc ?_ _)); refine blk_put (cs := #[.int .i64 (wrap64 (a0 - t155)), .string (t173 ++ x15_5), .int .i64 x149002_2]) ?_ 2 _ rfl; (with_reducible repeat (first | refine blk_drewN ?_ _ | refine blk_drew ?_ | refine blk_alloc ?_ _)); refine blk_put (cs := #[.int .i64 (wrap64 (a0 - t155)), .string x149001_2, .int .i64 x149002_2]) ?_ 1 _ rfl; (with_reducible repeat (first | refine blk_drewN ?_ _ | refine blk_drew ?_ | refine blk_alloc ?_ _)); refine blk_put (cs := #[.int .i64 x149000_2, .string x149001_2, .int .i64 x149002_2]) ?_ 0 _ rfl; (with_reducible repeat (first | refine blk_drewN ?_ _ | refine blk_drew ?_ | refine blk_alloc ?_ _)); exact BK148.out) Try.underlying32 rfl (by kernel_rfl)) rfl ?_
                                                exact ⟨by first | rfl | (simp [errW_none, errW_some] <;> rfl) | (simp [*, errW_none, errW_some] <;> rfl), by repeat (first | (with_reducible first | exact HB.out | apply below_alloc | apply pw_below_drewN | apply below_drew1 | refine below_set ?_ GE148.out) | exact HB.out)⟩
                                              · rw [if_neg c68] at H
                                                exact absurd H (by simp)
                                            · rw [if_neg c66] at H
                                              exact absurd H (by simp)
                                          · rw [if_neg c64] at H
                                            exact absurd H (by simp)
                                  · rw [if_neg c52] at H
                                    exact absurd H (by simp)
                          · rw [if_neg c42] at H
                            exact absurd H (by simp)

end Go.Proofs.Ytokilodeihocjaa.A
