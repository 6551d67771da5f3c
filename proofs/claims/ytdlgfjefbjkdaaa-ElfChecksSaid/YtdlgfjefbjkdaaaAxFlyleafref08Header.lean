-- Laid by pr.py, a program of this session, out of the translation. Not trusted: Lean checks it.
import Derived.Test.YtdlgfjefbjkdaaaAx0
import Derived.Test.YtdlgfjefbjkdaaaAxFlyleafref01Fill
import Derived.Test.YtdlgfjefbjkdaaaAxFlyleafref08Put
namespace Go.Proofs.Ytdlgfjefbjkdaaa.A
open Go.RowKit Go.Proofs.YtdlgfjefbjkdaaaW.PrintWords Go.Proofs.YtdlgfjefbjkdaaaW.PrintLast Go.Proofs.YtdlgfjefbjkdaaaW.PrintMore
attribute [local go_sem] max2_int min2_int max_two min_two max_three min_three max_four min_four   -- for this text's walks alone
set_option linter.unusedVariables false
set_option linter.unusedSimpArgs false

theorem mk0_18 {p : Prop} (h : p) : Aside0 p := ⟨h⟩
theorem d118 : type_of% @blk_drewN := @blk_drewN
theorem d218 : type_of% @blk_drew := @blk_drew
theorem d318 : type_of% @blk_alloc := @blk_alloc
theorem d418 : type_of% @below_set := @below_set
theorem d518 : type_of% @blk_far := @blk_far
theorem d618 : type_of% @blk_cell := @blk_cell
theorem d718 : type_of% @blk_frozen := @blk_frozen
/-! ### flyleafref08_Header: function 18 -/
def flyleafref08_Header.l0 : Nat → ByteArray → Int → Int → Int → List (S32) → Option (ByteArray)
 | 0, _, _, _, _, _ => none
 | k + 1, x3, x4, x195000, x195001, x195002 => if x4 < (x195002.length : Int) then (if 0 ≤ x4 then ((flyleafref08_put.f k ((rd_T32 x195002 x4).f0) 4).bind fun t208 => (if x3.size + t208.size ≤ 9223372036854775807 then ((flyleafref08_put.f k ((rd_T32 x195002 x4).f1) 4).bind fun t209 => (if (x3 ++ t208).size + t209.size ≤ 9223372036854775807 then ((flyleafref08_put.f k ((rd_T32 x195002 x4).f2) 8).bind fun t210 => (if ((x3 ++ t208) ++ t209).size + t210.size ≤ 9223372036854775807 then ((flyleafref08_put.f k ((rd_T32 x195002 x4).f3) 8).bind fun t211 => (if (((x3 ++ t208) ++ t209) ++ t210).size + t211.size ≤ 9223372036854775807 then ((flyleafref08_put.f k ((rd_T32 x195002 x4).f3) 8).bind fun t212 => (if ((((x3 ++ t208) ++ t209) ++ t210) ++ t211).size + t212.size ≤ 9223372036854775807 then ((flyleafref08_put.f k ((rd_T32 x195002 x4).f4) 8).bind fun t213 => (if (((((x3 ++ t208) ++ t209) ++ t210) ++ t211) ++ t212).size + t213.size ≤ 9223372036854775807 then ((flyleafref08_put.f k ((rd_T32 x195002 x4).f5) 8).bind fun t214 => (if ((((((x3 ++ t208) ++ t209) ++ t210) ++ t211) ++ t212) ++ t213).size + t214.size ≤ 9223372036854775807 then ((flyleafref08_put.f k ((rd_T32 x195002 x4).f6) 8).bind fun t215 => (if (((((((x3 ++ t208) ++ t209) ++ t210) ++ t211) ++ t212) ++ t213) ++ t214).size + t215.size ≤ 9223372036854775807 then (flyleafref08_Header.l0 k ((((((((x3 ++ t208) ++ t209) ++ t210) ++ t211) ++ t212) ++ t213) ++ t214) ++ t215) (wrap64 (x4 + 1)) x195000 x195001 x195002) else (none))) else (none))) else (none))) else (none))) else (none))) else (none))) else (none))) else (none))) else (none)) else (some x3)
def flyleafref08_Header.f (k : Nat) (a0_0 : Int) (a0_1 : Int) (l0_2 : List (S32)) : Option (ByteArray) := (flyleafref01_Fill.f (⟨#[]⟩ : ByteArray) 9).bind fun t195 => (if 7 + t195.size ≤ 9223372036854775807 then ((flyleafref08_put.f k a0_0 2).bind fun t196 => (if ((⟨#[127, 69, 76, 70, 2, 1, 1]⟩ : ByteArray) ++ t195).size + t196.size ≤ 9223372036854775807 then ((flyleafref08_put.f k 62 2).bind fun t197 => (if (((⟨#[127, 69, 76, 70, 2, 1, 1]⟩ : ByteArray) ++ t195) ++ t196).size + t197.size ≤ 9223372036854775807 then ((flyleafref08_put.f k 1 4).bind fun t198 => (if ((((⟨#[127, 69, 76, 70, 2, 1, 1]⟩ : ByteArray) ++ t195) ++ t196) ++ t197).size + t198.size ≤ 9223372036854775807 then ((flyleafref08_put.f k a0_1 8).bind fun t199 => (if (((((⟨#[127, 69, 76, 70, 2, 1, 1]⟩ : ByteArray) ++ t195) ++ t196) ++ t197) ++ t198).size + t199.size ≤ 9223372036854775807 then ((flyleafref08_put.f k 64 8).bind fun t200 => (if ((((((⟨#[127, 69, 76, 70, 2, 1, 1]⟩ : ByteArray) ++ t195) ++ t196) ++ t197) ++ t198) ++ t199).size + t200.size ≤ 9223372036854775807 then ((flyleafref01_Fill.f (⟨#[]⟩ : ByteArray) 12).bind fun t201 => (if (((((((⟨#[127, 69, 76, 70, 2, 1, 1]⟩ : ByteArray) ++ t195) ++ t196) ++ t197) ++ t198) ++ t199) ++ t200).size + t201.size ≤ 9223372036854775807 then ((flyleafref08_put.f k 64 2).bind fun t202 => (if ((((((((⟨#[127, 69, 76, 70, 2, 1, 1]⟩ : ByteArray) ++ t195) ++ t196) ++ t197) ++ t198) ++ t199) ++ t200) ++ t201).size + t202.size ≤ 9223372036854775807 then ((flyleafref08_put.f k 56 2).bind fun t203 => (if (((((((((⟨#[127, 69, 76, 70, 2, 1, 1]⟩ : ByteArray) ++ t195) ++ t196) ++ t197) ++ t198) ++ t199) ++ t200) ++ t201) ++ t202).size + t203.size ≤ 9223372036854775807 then ((flyleafref08_put.f k (l0_2.length : Int) 2).bind fun t204 => (if ((((((((((⟨#[127, 69, 76, 70, 2, 1, 1]⟩ : ByteArray) ++ t195) ++ t196) ++ t197) ++ t198) ++ t199) ++ t200) ++ t201) ++ t202) ++ t203).size + t204.size ≤ 9223372036854775807 then ((flyleafref01_Fill.f (⟨#[]⟩ : ByteArray) 6).bind fun t205 => (if (((((((((((⟨#[127, 69, 76, 70, 2, 1, 1]⟩ : ByteArray) ++ t195) ++ t196) ++ t197) ++ t198) ++ t199) ++ t200) ++ t201) ++ t202) ++ t203) ++ t204).size + t205.size ≤ 9223372036854775807 then (flyleafref08_Header.l0 k ((((((((((((⟨#[127, 69, 76, 70, 2, 1, 1]⟩ : ByteArray) ++ t195) ++ t196) ++ t197) ++ t198) ++ t199) ++ t200) ++ t201) ++ t202) ++ t203) ++ t204) ++ t205) 0 a0_0 a0_1 l0_2) else (none))) else (none))) else (none))) else (none))) else (none))) else (none))) else (none))) else (none))) else (none))) else (none))) else (none))
theorem flyleafref08_Header.mono_l : ∀ k, (∀ y0 y1 y2 y3 y4, LeO (flyleafref08_Header.l0 k y0 y1 y2 y3 y4) (flyleafref08_Header.l0 (k + 1) y0 y1 y2 y3 y4))
 | 0 => fun _ _ _ _ _ r h => by simp [flyleafref08_Header.l0] at h
 | k + 1 => by
  have ih0 := flyleafref08_Header.mono_l k
  ·intro y0 y1 y2 y3 y4
   unfold flyleafref08_Header.l0
   repeat' first
   | (with_reducible exact ih0 _ _ _ _ _)
   | (with_reducible exact flyleafref08_put.mono _ _ _)
   | (with_reducible exact LeO.refl _)
   | (with_reducible exact LeO.none _)
   | (with_reducible refine LeO.ite ?_ ?_)
   | (with_reducible refine LeO.bind ?_ (fun _ => ?_))
   | exact ih0 _ _ _ _ _
   | exact flyleafref08_put.mono _ _ _
   | exact LeO.none _
   | refine LeO.ite ?_ ?_
   | refine LeO.bind ?_ (fun _ => ?_)
theorem flyleafref08_Header.mono : ∀ a0 a1 a2 k, LeO (flyleafref08_Header.f k a0 a1 a2) (flyleafref08_Header.f (k + 1) a0 a1 a2) := by
 intro a0 a1 a2 k
 have ih0 := flyleafref08_Header.mono_l k
 unfold flyleafref08_Header.f
 repeat' first
   | (with_reducible exact ih0 _ _ _ _ _)
   | (with_reducible exact flyleafref08_put.mono _ _ _)
   | (with_reducible exact LeO.refl _)
   | (with_reducible exact LeO.none _)
   | (with_reducible refine LeO.ite ?_ ?_)
   | (with_reducible refine LeO.bind ?_ (fun _ => ?_))
   | exact ih0 _ _ _ _ _
   | exact flyleafref08_put.mono _ _ _
   | exact LeO.none _
   | refine LeO.ite ?_ ?_
   | refine LeO.bind ?_ (fun _ => ?_)
def flyleafref08_Header.T1 : Bool × List (List Nat × List Nat) := (true, [([], []), ([0], [0]), ([], []), ([2], [2]), ([3, 0], [3]), ([1, 4], [1, 4]), ([4], []), ([5, 6], [5, 6]), ([6], []), ([7, 8], [7, 8]), ([], []), ([10], [10]), ([11, 8], [11]), ([9, 12], [9, 12]), ([12], []), ([13, 14], [13, 14]), ([14], []), ([15, 16], [15, 16]), ([16], []), ([17, 18], [17, 18]), ([18], []), ([19, 20], [19, 20]), ([], []), ([22], [22]), ([23], [23]), ([24, 20], [24]), ([21, 25], [21, 25]), ([25], []), ([26, 27], [26, 27]), ([28, 27, 0, 1, 2, 3, 4, 5, 6, 7, 8, 9, 10, 11, 12, 13, 14, 15, 16, 17, 18, 19, 20, 21, 22, 23, 24, 25, 26, 27, 28], [28])])
def flyleafref08_Header.B1 : List Nat := [0, 1, 0, 4, 13, 31, 29, 127, 93, 511, 0, 1024, 3421, 8191, 7517, 32767, 23901, 131071, 89437, 524287, 351581, 2097151, 0, 4194304, 12582912, 30760285, 67108863, 64314717, 268435455, 536870911]
theorem flyleafref08_Header.tab1 : rtab .any (opsOf Try.f18 1) = flyleafref08_Header.T1 := by kernel_rfl
theorem flyleafref08_Header.bits1 : waitsOk flyleafref08_Header.T1.2 flyleafref08_Header.B1 = true := by kernel_rfl
def flyleafref08_Header.T6 : Bool × List (List Nat × List Nat) := (true, [([], []), ([], []), ([1], [1]), ([2], [2]), ([0, 3], [0, 3]), ([], []), ([5], [5]), ([6, 3], [6]), ([4, 7], [4, 7]), ([], []), ([9], [9]), ([10, 7], [10]), ([8, 11], [8, 11]), ([], []), ([13], [13]), ([14, 11], [14]), ([12, 15], [12, 15]), ([], []), ([17], [17]), ([18, 15], [18]), ([16, 19], [16, 19]), ([], []), ([21], [21]), ([22, 19], [22]), ([20, 23], [20, 23]), ([], []), ([25], [25]), ([26, 23], [26]), ([24, 27], [24, 27]), ([], []), ([29], [29]), ([30, 27], [30]), ([28, 31], [28, 31]), ([32, 31, 0, 1, 2, 3, 4, 5, 6, 7, 8, 9, 10, 11, 12, 13, 14, 15, 16, 17, 18, 19, 20, 21, 22, 23, 24, 25, 26, 27, 28, 29, 30, 31, 32], [0, 32])])
def flyleafref08_Header.B6 : List Nat := [0, 0, 2, 6, 15, 0, 32, 110, 255, 0, 512, 1774, 4095, 0, 8192, 28398, 65535, 0, 131072, 454382, 1048575, 0, 2097152, 7270126, 16777215, 0, 33554432, 116322030, 268435455, 0, 536870912, 1861152494, 4294967295, 8589934591]
theorem flyleafref08_Header.tab6 : rtab .any (opsOf Try.f18 6) = flyleafref08_Header.T6 := by kernel_rfl
theorem flyleafref08_Header.bits6 : waitsOk flyleafref08_Header.T6.2 flyleafref08_Header.B6 = true := by kernel_rfl
set_option maxHeartbeats 8000000 in
set_option maxRecDepth 100000 in
theorem flyleafref08_Header.calls (k : Nat) (a0_0 : Int) (a0_1 : Int) (A0_2 : Option Addr) (c0_2 : Nat) (l0_2 : List (S32)) (r : ByteArray) (w : World) (hr0_2 : Kd.C k32 w A0_2 l0_2.length l0_2) (hc0_2 : l0_2.length ≤ c0_2) (h : flyleafref08_Header.f k a0_0 a0_1 l0_2 = some r) :
  Calls Try.prog 18 #[.agg #[.int .i64 a0_0, .int .i64 a0_1, .slice A0_2 l0_2.length c0_2]] w fun e w' => e = .returned (.string r) ∧ Below w.heap.size w w' := by
 have hu28 := Try.underlying28
 have hu32 := Try.underlying32
 have HR0_2 := Aside0.mk hr0_2
 have HC0_2 := Aside0.mk hc0_2
 clear hr0_2 hc0_2
 have HB := mk0_18 (Below.refl w.heap.size w)
 have H : ((flyleafref01_Fill.f (⟨#[]⟩ : ByteArray) 9).bind fun t195 => (if 7 + t195.size ≤ 9223372036854775807 then ((flyleafref08_put.f k a0_0 2).bind fun t196 => (if ((⟨#[127, 69, 76, 70, 2, 1, 1]⟩ : ByteArray) ++ t195).size + t196.size ≤ 9223372036854775807 then ((flyleafref08_put.f k 62 2).bind fun t197 => (if (((⟨#[127, 69, 76, 70, 2, 1, 1]⟩ : ByteArray) ++ t195) ++ t196).size + t197.size ≤ 9223372036854775807 then ((flyleafref08_put.f k 1 4).bind fun t198 => (if ((((⟨#[127, 69, 76, 70, 2, 1, 1]⟩ : ByteArray) ++ t195) ++ t196) ++ t197).size + t198.size ≤ 9223372036854775807 then ((flyleafref08_put.f k a0_1 8).bind fun t199 => (if (((((⟨#[127, 69, 76, 70, 2, 1, 1]⟩ : ByteArray) ++ t195) ++ t196) ++ t197) ++ t198).size + t199.size ≤ 9223372036854775807 then ((flyleafref08_put.f k 64 8).bind fun t200 => (if ((((((⟨#[127, 69, 76, 70, 2, 1, 1]⟩ : ByteArray) ++ t195) ++ t196) ++ t197) ++ t198) ++ t199).size + t200.size ≤ 9223372036854775807 then ((flyleafref01_Fill.f (⟨#[]⟩ : ByteArray) 12).bind fun t201 => (if (((((((⟨#[127, 69, 76, 70, 2, 1, 1]⟩ : ByteArray) ++ t195) ++ t196) ++ t197) ++ t198) ++ t199) ++ t200).size + t201.size ≤ 9223372036854775807 then ((flyleafref08_put.f k 64 2).bind fun t202 => (if ((((((((⟨#[127, 69, 76, 70, 2, 1, 1]⟩ : ByteArray) ++ t195) ++ t196) ++ t197) ++ t198) ++ t199) ++ t200) ++ t201).size + t202.size ≤ 9223372036854775807 then ((flyleafref08_put.f k 56 2).bind fun t203 => (if (((((((((⟨#[127, 69, 76, 70, 2, 1, 1]⟩ : ByteArray) ++ t195) ++ t196) ++ t197) ++ t198) ++ t199) ++ t200) ++ t201) ++ t202).size + t203.size ≤ 9223372036854775807 then ((flyleafref08_put.f k (l0_2.length : Int) 2).bind fun t204 => (if ((((((((((⟨#[127, 69, 76, 70, 2, 1, 1]⟩ : ByteArray) ++ t195) ++ t196) ++ t197) ++ t198) ++ t199) ++ t200) ++ t201) ++ t202) ++ t203).size + t204.size ≤ 9223372036854775807 then ((flyleafref01_Fill.f (⟨#[]⟩ : ByteArray) 6).bind fun t205 => (if (((((((((((⟨#[127, 69, 76, 70, 2, 1, 1]⟩ : ByteArray) ++ t195) ++ t196) ++ t197) ++ t198) ++ t199) ++ t200) ++ t201) ++ t202) ++ t203) ++ t204).size + t205.size ≤ 9223372036854775807 then (flyleafref08_Header.l0 k ((((((((((((⟨#[127, 69, 76, 70, 2, 1, 1]⟩ : ByteArray) ++ t195) ++ t196) ++ t197) ++ t198) ++ t199) ++ t200) ++ t201) ++ t202) ++ t203) ++ t204) ++ t205) 0 a0_0 a0_1 l0_2) else (none))) else (none))) else (none))) else (none))) else (none))) else (none))) else (none))) else (none))) else (none))) else (none))) else (none))) = some r := h
 clear h
 replace H := Option.bind_eq_some_iff.mp H
 obtain ⟨t195, A20, H⟩ := H
 replace H : (if 7 + t195.size ≤ 9223372036854775807 then ((flyleafref08_put.f k a0_0 2).bind fun t196 => (if ((⟨#[127, 69, 76, 70, 2, 1, 1]⟩ : ByteArray) ++ t195).size + t196.size ≤ 9223372036854775807 then ((flyleafref08_put.f k 62 2).bind fun t197 => (if (((⟨#[127, 69, 76, 70, 2, 1, 1]⟩ : ByteArray) ++ t195) ++ t196).size + t197.size ≤ 9223372036854775807 then ((flyleafref08_put.f k 1 4).bind fun t198 => (if ((((⟨#[127, 69, 76, 70, 2, 1, 1]⟩ : ByteArray) ++ t195) ++ t196) ++ t197).size + t198.size ≤ 9223372036854775807 then ((flyleafref08_put.f k a0_1 8).bind fun t199 => (if (((((⟨#[127, 69, 76, 70, 2, 1, 1]⟩ : ByteArray) ++ t195) ++ t196) ++ t197) ++ t198).size + t199.size ≤ 9223372036854775807 then ((flyleafref08_put.f k 64 8).bind fun t200 => (if ((((((⟨#[127, 69, 76, 70, 2, 1, 1]⟩ : ByteArray) ++ t195) ++ t196) ++ t197) ++ t198) ++ t199).size + t200.size ≤ 9223372036854775807 then ((flyleafref01_Fill.f (⟨#[]⟩ : ByteArray) 12).bind fun t201 => (if (((((((⟨#[127, 69, 76, 70, 2, 1, 1]⟩ : ByteArray) ++ t195) ++ t196) ++ t197) ++ t198) ++ t199) ++ t200).size + t201.size ≤ 9223372036854775807 then ((flyleafref08_put.f k 64 2).bind fun t202 => (if ((((((((⟨#[127, 69, 76, 70, 2, 1, 1]⟩ : ByteArray) ++ t195) ++ t196) ++ t197) ++ t198) ++ t199) ++ t200) ++ t201).size + t202.size ≤ 9223372036854775807 then ((flyleafref08_put.f k 56 2).bind fun t203 => (if (((((((((⟨#[127, 69, 76, 70, 2, 1, 1]⟩ : ByteArray) ++ t195) ++ t196) ++ t197) ++ t198) ++ t199) ++ t200) ++ t201) ++ t202).size + t203.size ≤ 9223372036854775807 then ((flyleafref08_put.f k (l0_2.length : Int) 2).bind fun t204 => (if ((((((((((⟨#[127, 69, 76, 70, 2, 1, 1]⟩ : ByteArray) ++ t195) ++ t196) ++ t197) ++ t198) ++ t199) ++ t200) ++ t201) ++ t202) ++ t203).size + t204.size ≤ 9223372036854775807 then ((flyleafref01_Fill.f (⟨#[]⟩ : ByteArray) 6).bind fun t205 => (if (((((((((((⟨#[127, 69, 76, 70, 2, 1, 1]⟩ : ByteArray) ++ t195) ++ t196) ++ t197) ++ t198) ++ t199) ++ t200) ++ t201) ++ t202) ++ t203) ++ t204).size + t205.size ≤ 9223372036854775807 then (flyleafref08_Header.l0 k ((((((((((((⟨#[127, 69, 76, 70, 2, 1, 1]⟩ : ByteArray) ++ t195) ++ t196) ++ t197) ++ t198) ++ t199) ++ t200) ++ t201) ++ t202) ++ t203) ++ t204) ++ t205) 0 a0_0 a0_1 l0_2) else (none))) else (none))) else (none))) else (none))) else (none))) else (none))) else (none))) else (none))) else (none))) else (none))) else (none)) = some r := H
 have A2 := Aside0.mk A20
 clear A20
 by_cases c3 : 7 + t195.size ≤ 9223372036854775807
 ·rw [if_pos c3] at H
  have c3b0 := eq_true c3
  have c3b1 : decide (7 + t195.size ≤ 9223372036854775807) = true := decide_eq_true c3
  try have c3b2 : (9223372036854775807 < 7 + t195.size) = False := eq_false (Nat.not_lt.2 c3)
  replace H := Option.bind_eq_some_iff.mp H
  obtain ⟨t196, A40, H⟩ := H
  replace H : (if ((⟨#[127, 69, 76, 70, 2, 1, 1]⟩ : ByteArray) ++ t195).size + t196.size ≤ 9223372036854775807 then ((flyleafref08_put.f k 62 2).bind fun t197 => (if (((⟨#[127, 69, 76, 70, 2, 1, 1]⟩ : ByteArray) ++ t195) ++ t196).size + t197.size ≤ 9223372036854775807 then ((flyleafref08_put.f k 1 4).bind fun t198 => (if ((((⟨#[127, 69, 76, 70, 2, 1, 1]⟩ : ByteArray) ++ t195) ++ t196) ++ t197).size + t198.size ≤ 9223372036854775807 then ((flyleafref08_put.f k a0_1 8).bind fun t199 => (if (((((⟨#[127, 69, 76, 70, 2, 1, 1]⟩ : ByteArray) ++ t195) ++ t196) ++ t197) ++ t198).size + t199.size ≤ 9223372036854775807 then ((flyleafref08_put.f k 64 8).bind fun t200 => (if ((((((⟨#[127, 69, 76, 70, 2, 1, 1]⟩ : ByteArray) ++ t195) ++ t196) ++ t197) ++ t198) ++ t199).size + t200.size ≤ 9223372036854775807 then ((flyleafref01_Fill.f (⟨#[]⟩ : ByteArray) 12).bind fun t201 => (if (((((((⟨#[127, 69, 76, 70, 2, 1, 1]⟩ : ByteArray) ++ t195) ++ t196) ++ t197) ++ t198) ++ t199) ++ t200).size + t201.size ≤ 9223372036854775807 then ((flyleafref08_put.f k 64 2).bind fun t202 => (if ((((((((⟨#[127, 69, 76, 70, 2, 1, 1]⟩ : ByteArray) ++ t195) ++ t196) ++ t197) ++ t198) ++ t199) ++ t200) ++ t201).size + t202.size ≤ 9223372036854775807 then ((flyleafref08_put.f k 56 2).bind fun t203 => (if (((((((((⟨#[127, 69, 76, 70, 2, 1, 1]⟩ : ByteArray) ++ t195) ++ t196) ++ t197) ++ t198) ++ t199) ++ t200) ++ t201) ++ t202).size + t203.size ≤ 9223372036854775807 then ((flyleafref08_put.f k (l0_2.length : Int) 2).bind fun t204 => (if ((((((((((⟨#[127, 69, 76, 70, 2, 1, 1]⟩ : ByteArray) ++ t195) ++ t196) ++ t197) ++ t198) ++ t199) ++ t200) ++ t201) ++ t202) ++ t203).size + t204.size ≤ 9223372036854775807 then ((flyleafref01_Fill.f (⟨#[]⟩ : ByteArray) 6).bind fun t205 => (if (((((((((((⟨#[127, 69, 76, 70, 2, 1, 1]⟩ : ByteArray) ++ t195) ++ t196) ++ t197) ++ t198) ++ t199) ++ t200) ++ t201) ++ t202) ++ t203) ++ t204).size + t205.size ≤ 9223372036854775807 then (flyleafref08_Header.l0 k ((((((((((((⟨#[127, 69, 76, 70, 2, 1, 1]⟩ : ByteArray) ++ t195) ++ t196) ++ t197) ++ t198) ++ t199) ++ t200) ++ t201) ++ t202) ++ t203) ++ t204) ++ t205) 0 a0_0 a0_1 l0_2) else (none))) else (none))) else (none))) else (none))) else (none))) else (none))) else (none))) else (none))) else (none))) else (none)) = some r := H
  have A4 := Aside0.mk A40
  clear A40
  by_cases c5 : ((⟨#[127, 69, 76, 70, 2, 1, 1]⟩ : ByteArray) ++ t195).size + t196.size ≤ 9223372036854775807
  ·rw [if_pos c5] at H
   have c5b0 := eq_true c5
   have c5b1 : decide (((⟨#[127, 69, 76, 70, 2, 1, 1]⟩ : ByteArray) ++ t195).size + t196.size ≤ 9223372036854775807) = true := decide_eq_true c5
   try have c5b2 : (9223372036854775807 < ((⟨#[127, 69, 76, 70, 2, 1, 1]⟩ : ByteArray) ++ t195).size + t196.size) = False := eq_false (Nat.not_lt.2 c5)
   try have c5n := c5b2
   try simp only [ByteArray.size_append, show (⟨#[127, 69, 76, 70, 2, 1, 1]⟩ : ByteArray).size = 7 from rfl] at c5n
   replace H := Option.bind_eq_some_iff.mp H
   obtain ⟨t197, A60, H⟩ := H
   replace H : (if (((⟨#[127, 69, 76, 70, 2, 1, 1]⟩ : ByteArray) ++ t195) ++ t196).size + t197.size ≤ 9223372036854775807 then ((flyleafref08_put.f k 1 4).bind fun t198 => (if ((((⟨#[127, 69, 76, 70, 2, 1, 1]⟩ : ByteArray) ++ t195) ++ t196) ++ t197).size + t198.size ≤ 9223372036854775807 then ((flyleafref08_put.f k a0_1 8).bind fun t199 => (if (((((⟨#[127, 69, 76, 70, 2, 1, 1]⟩ : ByteArray) ++ t195) ++ t196) ++ t197) ++ t198).size + t199.size ≤ 9223372036854775807 then ((flyleafref08_put.f k 64 8).bind fun t200 => (if ((((((⟨#[127, 69, 76, 70, 2, 1, 1]⟩ : ByteArray) ++ t195) ++ t196) ++ t197) ++ t198) ++ t199).size + t200.size ≤ 9223372036854775807 then ((flyleafref01_Fill.f (⟨#[]⟩ : ByteArray) 12).bind fun t201 => (if (((((((⟨#[127, 69, 76, 70, 2, 1, 1]⟩ : ByteArray) ++ t195) ++ t196) ++ t197) ++ t198) ++ t199) ++ t200).size + t201.size ≤ 9223372036854775807 then ((flyleafref08_put.f k 64 2).bind fun t202 => (if ((((((((⟨#[127, 69, 76, 70, 2, 1, 1]⟩ : ByteArray) ++ t195) ++ t196) ++ t197) ++ t198) ++ t199) ++ t200) ++ t201).size + t202.size ≤ 9223372036854775807 then ((flyleafref08_put.f k 56 2).bind fun t203 => (if (((((((((⟨#[127, 69, 76, 70, 2, 1, 1]⟩ : ByteArray) ++ t195) ++ t196) ++ t197) ++ t198) ++ t199) ++ t200) ++ t201) ++ t202).size + t203.size ≤ 9223372036854775807 then ((flyleafref08_put.f k (l0_2.length : Int) 2).bind fun t204 => (if ((((((((((⟨#[127, 69, 76, 70, 2, 1, 1]⟩ : ByteArray) ++ t195) ++ t196) ++ t197) ++ t198) ++ t199) ++ t200) ++ t201) ++ t202) ++ t203).size + t204.size ≤ 9223372036854775807 then ((flyleafref01_Fill.f (⟨#[]⟩ : ByteArray) 6).bind fun t205 => (if (((((((((((⟨#[127, 69, 76, 70, 2, 1, 1]⟩ : ByteArray) ++ t195) ++ t196) ++ t197) ++ t198) ++ t199) ++ t200) ++ t201) ++ t202) ++ t203) ++ t204).size + t205.size ≤ 9223372036854775807 then (flyleafref08_Header.l0 k ((((((((((((⟨#[127, 69, 76, 70, 2, 1, 1]⟩ : ByteArray) ++ t195) ++ t196) ++ t197) ++ t198) ++ t199) ++ t200) ++ t201) ++ t202) ++ t203) ++ t204) ++ t205) 0 a0_0 a0_1 l0_2) else (none))) else (none))) else (none))) else (none))) else (none))) else (none))) else (none))) else (none))) else (none)) = some r := H
   have A6 := Aside0.mk A60
   clear A60
   by_cases c7 : (((⟨#[127, 69, 76, 70, 2, 1, 1]⟩ : ByteArray) ++ t195) ++ t196).size + t197.size ≤ 9223372036854775807
   ·rw [if_pos c7] at H
    have c7b0 := eq_true c7
    have c7b1 : decide ((((⟨#[127, 69, 76, 70, 2, 1, 1]⟩ : ByteArray) ++ t195) ++ t196).size + t197.size ≤ 9223372036854775807) = true := decide_eq_true c7
    try have c7b2 : (9223372036854775807 < (((⟨#[127, 69, 76, 70, 2, 1, 1]⟩ : ByteArray) ++ t195) ++ t196).size + t197.size) = False := eq_false (Nat.not_lt.2 c7)
    try have c7n := c7b2
    try simp only [ByteArray.size_append, show (⟨#[127, 69, 76, 70, 2, 1, 1]⟩ : ByteArray).size = 7 from rfl] at c7n
    replace H := Option.bind_eq_some_iff.mp H
    obtain ⟨t198, A80, H⟩ := H
    replace H : (if ((((⟨#[127, 69, 76, 70, 2, 1, 1]⟩ : ByteArray) ++ t195) ++ t196) ++ t197).size + t198.size ≤ 9223372036854775807 then ((flyleafref08_put.f k a0_1 8).bind fun t199 => (if (((((⟨#[127, 69, 76, 70, 2, 1, 1]⟩ : ByteArray) ++ t195) ++ t196) ++ t197) ++ t198).size + t199.size ≤ 9223372036854775807 then ((flyleafref08_put.f k 64 8).bind fun t200 => (if ((((((⟨#[127, 69, 76, 70, 2, 1, 1]⟩ : ByteArray) ++ t195) ++ t196) ++ t197) ++ t198) ++ t199).size + t200.size ≤ 9223372036854775807 then ((flyleafref01_Fill.f (⟨#[]⟩ : ByteArray) 12).bind fun t201 => (if (((((((⟨#[127, 69, 76, 70, 2, 1, 1]⟩ : ByteArray) ++ t195) ++ t196) ++ t197) ++ t198) ++ t199) ++ t200).size + t201.size ≤ 9223372036854775807 then ((flyleafref08_put.f k 64 2).bind fun t202 => (if ((((((((⟨#[127, 69, 76, 70, 2, 1, 1]⟩ : ByteArray) ++ t195) ++ t196) ++ t197) ++ t198) ++ t199) ++ t200) ++ t201).size + t202.size ≤ 9223372036854775807 then ((flyleafref08_put.f k 56 2).bind fun t203 => (if (((((((((⟨#[127, 69, 76, 70, 2, 1, 1]⟩ : ByteArray) ++ t195) ++ t196) ++ t197) ++ t198) ++ t199) ++ t200) ++ t201) ++ t202).size + t203.size ≤ 9223372036854775807 then ((flyleafref08_put.f k (l0_2.length : Int) 2).bind fun t204 => (if ((((((((((⟨#[127, 69, 76, 70, 2, 1, 1]⟩ : ByteArray) ++ t195) ++ t196) ++ t197) ++ t198) ++ t199) ++ t200) ++ t201) ++ t202) ++ t203).size + t204.size ≤ 9223372036854775807 then ((flyleafref01_Fill.f (⟨#[]⟩ : ByteArray) 6).bind fun t205 => (if (((((((((((⟨#[127, 69, 76, 70, 2, 1, 1]⟩ : ByteArray) ++ t195) ++ t196) ++ t197) ++ t198) ++ t199) ++ t200) ++ t201) ++ t202) ++ t203) ++ t204).size + t205.size ≤ 9223372036854775807 then (flyleafref08_Header.l0 k ((((((((((((⟨#[127, 69, 76, 70, 2, 1, 1]⟩ : ByteArray) ++ t195) ++ t196) ++ t197) ++ t198) ++ t199) ++ t200) ++ t201) ++ t202) ++ t203) ++ t204) ++ t205) 0 a0_0 a0_1 l0_2) else (none))) else (none))) else (none))) else (none))) else (none))) else (none))) else (none))) else (none)) = some r := H
    have A8 := Aside0.mk A80
    clear A80
    by_cases c9 : ((((⟨#[127, 69, 76, 70, 2, 1, 1]⟩ : ByteArray) ++ t195) ++ t196) ++ t197).size + t198.size ≤ 9223372036854775807
    ·rw [if_pos c9] at H
     have c9b0 := eq_true c9
     have c9b1 : decide (((((⟨#[127, 69, 76, 70, 2, 1, 1]⟩ : ByteArray) ++ t195) ++ t196) ++ t197).size + t198.size ≤ 9223372036854775807) = true := decide_eq_true c9
     try have c9b2 : (9223372036854775807 < ((((⟨#[127, 69, 76, 70, 2, 1, 1]⟩ : ByteArray) ++ t195) ++ t196) ++ t197).size + t198.size) = False := eq_false (Nat.not_lt.2 c9)
     try have c9n := c9b2
     try simp only [ByteArray.size_append, show (⟨#[127, 69, 76, 70, 2, 1, 1]⟩ : ByteArray).size = 7 from rfl] at c9n
     replace H := Option.bind_eq_some_iff.mp H
     obtain ⟨t199, A100, H⟩ := H
     replace H : (if (((((⟨#[127, 69, 76, 70, 2, 1, 1]⟩ : ByteArray) ++ t195) ++ t196) ++ t197) ++ t198).size + t199.size ≤ 9223372036854775807 then ((flyleafref08_put.f k 64 8).bind fun t200 => (if ((((((⟨#[127, 69, 76, 70, 2, 1, 1]⟩ : ByteArray) ++ t195) ++ t196) ++ t197) ++ t198) ++ t199).size + t200.size ≤ 9223372036854775807 then ((flyleafref01_Fill.f (⟨#[]⟩ : ByteArray) 12).bind fun t201 => (if (((((((⟨#[127, 69, 76, 70, 2, 1, 1]⟩ : ByteArray) ++ t195) ++ t196) ++ t197) ++ t198) ++ t199) ++ t200).size + t201.size ≤ 9223372036854775807 then ((flyleafref08_put.f k 64 2).bind fun t202 => (if ((((((((⟨#[127, 69, 76, 70, 2, 1, 1]⟩ : ByteArray) ++ t195) ++ t196) ++ t197) ++ t198) ++ t199) ++ t200) ++ t201).size + t202.size ≤ 9223372036854775807 then ((flyleafref08_put.f k 56 2).bind fun t203 => (if (((((((((⟨#[127, 69, 76, 70, 2, 1, 1]⟩ : ByteArray) ++ t195) ++ t196) ++ t197) ++ t198) ++ t199) ++ t200) ++ t201) ++ t202).size + t203.size ≤ 9223372036854775807 then ((flyleafref08_put.f k (l0_2.length : Int) 2).bind fun t204 => (if ((((((((((⟨#[127, 69, 76, 70, 2, 1, 1]⟩ : ByteArray) ++ t195) ++ t196) ++ t197) ++ t198) ++ t199) ++ t200) ++ t201) ++ t202) ++ t203).size + t204.size ≤ 9223372036854775807 then ((flyleafref01_Fill.f (⟨#[]⟩ : ByteArray) 6).bind fun t205 => (if (((((((((((⟨#[127, 69, 76, 70, 2, 1, 1]⟩ : ByteArray) ++ t195) ++ t196) ++ t197) ++ t198) ++ t199) ++ t200) ++ t201) ++ t202) ++ t203) ++ t204).size + t205.size ≤ 9223372036854775807 then (flyleafref08_Header.l0 k ((((((((((((⟨#[127, 69, 76, 70, 2, 1, 1]⟩ : ByteArray) ++ t195) ++ t196) ++ t197) ++ t198) ++ t199) ++ t200) ++ t201) ++ t202) ++ t203) ++ t204) ++ t205) 0 a0_0 a0_1 l0_2) else (none))) else (none))) else (none))) else (none))) else (none))) else (none))) else (none)) = some r := H
     have A10 := Aside0.mk A100
     clear A100
     by_cases c11 : (((((⟨#[127, 69, 76, 70, 2, 1, 1]⟩ : ByteArray) ++ t195) ++ t196) ++ t197) ++ t198).size + t199.size ≤ 9223372036854775807
     ·rw [if_pos c11] at H
      have c11b0 := eq_true c11
      have c11b1 : decide ((((((⟨#[127, 69, 76, 70, 2, 1, 1]⟩ : ByteArray) ++ t195) ++ t196) ++ t197) ++ t198).size + t199.size ≤ 9223372036854775807) = true := decide_eq_true c11
      try have c11b2 : (9223372036854775807 < (((((⟨#[127, 69, 76, 70, 2, 1, 1]⟩ : ByteArray) ++ t195) ++ t196) ++ t197) ++ t198).size + t199.size) = False := eq_false (Nat.not_lt.2 c11)
      try have c11n := c11b2
      try simp only [ByteArray.size_append, show (⟨#[127, 69, 76, 70, 2, 1, 1]⟩ : ByteArray).size = 7 from rfl] at c11n
      replace H := Option.bind_eq_some_iff.mp H
      obtain ⟨t200, A120, H⟩ := H
      replace H : (if ((((((⟨#[127, 69, 76, 70, 2, 1, 1]⟩ : ByteArray) ++ t195) ++ t196) ++ t197) ++ t198) ++ t199).size + t200.size ≤ 9223372036854775807 then ((flyleafref01_Fill.f (⟨#[]⟩ : ByteArray) 12).bind fun t201 => (if (((((((⟨#[127, 69, 76, 70, 2, 1, 1]⟩ : ByteArray) ++ t195) ++ t196) ++ t197) ++ t198) ++ t199) ++ t200).size + t201.size ≤ 9223372036854775807 then ((flyleafref08_put.f k 64 2).bind fun t202 => (if ((((((((⟨#[127, 69, 76, 70, 2, 1, 1]⟩ : ByteArray) ++ t195) ++ t196) ++ t197) ++ t198) ++ t199) ++ t200) ++ t201).size + t202.size ≤ 9223372036854775807 then ((flyleafref08_put.f k 56 2).bind fun t203 => (if (((((((((⟨#[127, 69, 76, 70, 2, 1, 1]⟩ : ByteArray) ++ t195) ++ t196) ++ t197) ++ t198) ++ t199) ++ t200) ++ t201) ++ t202).size + t203.size ≤ 9223372036854775807 then ((flyleafref08_put.f k (l0_2.length : Int) 2).bind fun t204 => (if ((((((((((⟨#[127, 69, 76, 70, 2, 1, 1]⟩ : ByteArray) ++ t195) ++ t196) ++ t197) ++ t198) ++ t199) ++ t200) ++ t201) ++ t202) ++ t203).size + t204.size ≤ 9223372036854775807 then ((flyleafref01_Fill.f (⟨#[]⟩ : ByteArray) 6).bind fun t205 => (if (((((((((((⟨#[127, 69, 76, 70, 2, 1, 1]⟩ : ByteArray) ++ t195) ++ t196) ++ t197) ++ t198) ++ t199) ++ t200) ++ t201) ++ t202) ++ t203) ++ t204).size + t205.size ≤ 9223372036854775807 then (flyleafref08_Header.l0 k ((((((((((((⟨#[127, 69, 76, 70, 2, 1, 1]⟩ : ByteArray) ++ t195) ++ t196) ++ t197) ++ t198) ++ t199) ++ t200) ++ t201) ++ t202) ++ t203) ++ t204) ++ t205) 0 a0_0 a0_1 l0_2) else (none))) else (none))) else (none))) else (none))) else (none))) else (none)) = some r := H
      have A12 := Aside0.mk A120
      clear A120
      by_cases c13 : ((((((⟨#[127, 69, 76, 70, 2, 1, 1]⟩ : ByteArray) ++ t195) ++ t196) ++ t197) ++ t198) ++ t199).size + t200.size ≤ 9223372036854775807
      ·rw [if_pos c13] at H
       have c13b0 := eq_true c13
       have c13b1 : decide (((((((⟨#[127, 69, 76, 70, 2, 1, 1]⟩ : ByteArray) ++ t195) ++ t196) ++ t197) ++ t198) ++ t199).size + t200.size ≤ 9223372036854775807) = true := decide_eq_true c13
       try have c13b2 : (9223372036854775807 < ((((((⟨#[127, 69, 76, 70, 2, 1, 1]⟩ : ByteArray) ++ t195) ++ t196) ++ t197) ++ t198) ++ t199).size + t200.size) = False := eq_false (Nat.not_lt.2 c13)
       try have c13n := c13b2
       try simp only [ByteArray.size_append, show (⟨#[127, 69, 76, 70, 2, 1, 1]⟩ : ByteArray).size = 7 from rfl] at c13n
       replace H := Option.bind_eq_some_iff.mp H
       obtain ⟨t201, A140, H⟩ := H
       replace H : (if (((((((⟨#[127, 69, 76, 70, 2, 1, 1]⟩ : ByteArray) ++ t195) ++ t196) ++ t197) ++ t198) ++ t199) ++ t200).size + t201.size ≤ 9223372036854775807 then ((flyleafref08_put.f k 64 2).bind fun t202 => (if ((((((((⟨#[127, 69, 76, 70, 2, 1, 1]⟩ : ByteArray) ++ t195) ++ t196) ++ t197) ++ t198) ++ t199) ++ t200) ++ t201).size + t202.size ≤ 9223372036854775807 then ((flyleafref08_put.f k 56 2).bind fun t203 => (if (((((((((⟨#[127, 69, 76, 70, 2, 1, 1]⟩ : ByteArray) ++ t195) ++ t196) ++ t197) ++ t198) ++ t199) ++ t200) ++ t201) ++ t202).size + t203.size ≤ 9223372036854775807 then ((flyleafref08_put.f k (l0_2.length : Int) 2).bind fun t204 => (if ((((((((((⟨#[127, 69, 76, 70, 2, 1, 1]⟩ : ByteArray) ++ t195) ++ t196) ++ t197) ++ t198) ++ t199) ++ t200) ++ t201) ++ t202) ++ t203).size + t204.size ≤ 9223372036854775807 then ((flyleafref01_Fill.f (⟨#[]⟩ : ByteArray) 6).bind fun t205 => (if (((((((((((⟨#[127, 69, 76, 70, 2, 1, 1]⟩ : ByteArray) ++ t195) ++ t196) ++ t197) ++ t198) ++ t199) ++ t200) ++ t201) ++ t202) ++ t203) ++ t204).size + t205.size ≤ 9223372036854775807 then (flyleafref08_Header.l0 k ((((((((((((⟨#[127, 69, 76, 70, 2, 1, 1]⟩ : ByteArray) ++ t195) ++ t196) ++ t197) ++ t198) ++ t199) ++ t200) ++ t201) ++ t202) ++ t203) ++ t204) ++ t205) 0 a0_0 a0_1 l0_2) else (none))) else (none))) else (none))) else (none))) else (none)) = some r := H
       have A14 := Aside0.mk A140
       clear A140
       by_cases c15 : (((((((⟨#[127, 69, 76, 70, 2, 1, 1]⟩ : ByteArray) ++ t195) ++ t196) ++ t197) ++ t198) ++ t199) ++ t200).size + t201.size ≤ 9223372036854775807
       ·rw [if_pos c15] at H
        have c15b0 := eq_true c15
        have c15b1 : decide ((((((((⟨#[127, 69, 76, 70, 2, 1, 1]⟩ : ByteArray) ++ t195) ++ t196) ++ t197) ++ t198) ++ t199) ++ t200).size + t201.size ≤ 9223372036854775807) = true := decide_eq_true c15
        try have c15b2 : (9223372036854775807 < (((((((⟨#[127, 69, 76, 70, 2, 1, 1]⟩ : ByteArray) ++ t195) ++ t196) ++ t197) ++ t198) ++ t199) ++ t200).size + t201.size) = False := eq_false (Nat.not_lt.2 c15)
        try have c15n := c15b2
        try simp only [ByteArray.size_append, show (⟨#[127, 69, 76, 70, 2, 1, 1]⟩ : ByteArray).size = 7 from rfl] at c15n
        replace H := Option.bind_eq_some_iff.mp H
        obtain ⟨t202, A160, H⟩ := H
        replace H : (if ((((((((⟨#[127, 69, 76, 70, 2, 1, 1]⟩ : ByteArray) ++ t195) ++ t196) ++ t197) ++ t198) ++ t199) ++ t200) ++ t201).size + t202.size ≤ 9223372036854775807 then ((flyleafref08_put.f k 56 2).bind fun t203 => (if (((((((((⟨#[127, 69, 76, 70, 2, 1, 1]⟩ : ByteArray) ++ t195) ++ t196) ++ t197) ++ t198) ++ t199) ++ t200) ++ t201) ++ t202).size + t203.size ≤ 9223372036854775807 then ((flyleafref08_put.f k (l0_2.length : Int) 2).bind fun t204 => (if ((((((((((⟨#[127, 69, 76, 70, 2, 1, 1]⟩ : ByteArray) ++ t195) ++ t196) ++ t197) ++ t198) ++ t199) ++ t200) ++ t201) ++ t202) ++ t203).size + t204.size ≤ 9223372036854775807 then ((flyleafref01_Fill.f (⟨#[]⟩ : ByteArray) 6).bind fun t205 => (if (((((((((((⟨#[127, 69, 76, 70, 2, 1, 1]⟩ : ByteArray) ++ t195) ++ t196) ++ t197) ++ t198) ++ t199) ++ t200) ++ t201) ++ t202) ++ t203) ++ t204).size + t205.size ≤ 9223372036854775807 then (flyleafref08_Header.l0 k ((((((((((((⟨#[127, 69, 76, 70, 2, 1, 1]⟩ : ByteArray) ++ t195) ++ t196) ++ t197) ++ t198) ++ t199) ++ t200) ++ t201) ++ t202) ++ t203) ++ t204) ++ t205) 0 a0_0 a0_1 l0_2) else (none))) else (none))) else (none))) else (none)) = some r := H
        have A16 := Aside0.mk A160
        clear A160
        by_cases c17 : ((((((((⟨#[127, 69, 76, 70, 2, 1, 1]⟩ : ByteArray) ++ t195) ++ t196) ++ t197) ++ t198) ++ t199) ++ t200) ++ t201).size + t202.size ≤ 9223372036854775807
        ·rw [if_pos c17] at H
         have c17b0 := eq_true c17
         have c17b1 : decide (((((((((⟨#[127, 69, 76, 70, 2, 1, 1]⟩ : ByteArray) ++ t195) ++ t196) ++ t197) ++ t198) ++ t199) ++ t200) ++ t201).size + t202.size ≤ 9223372036854775807) = true := decide_eq_true c17
         try have c17b2 : (9223372036854775807 < ((((((((⟨#[127, 69, 76, 70, 2, 1, 1]⟩ : ByteArray) ++ t195) ++ t196) ++ t197) ++ t198) ++ t199) ++ t200) ++ t201).size + t202.size) = False := eq_false (Nat.not_lt.2 c17)
         try have c17n := c17b2
         try simp only [ByteArray.size_append, show (⟨#[127, 69, 76, 70, 2, 1, 1]⟩ : ByteArray).size = 7 from rfl] at c17n
         replace H := Option.bind_eq_some_iff.mp H
         obtain ⟨t203, A180, H⟩ := H
         replace H : (if (((((((((⟨#[127, 69, 76, 70, 2, 1, 1]⟩ : ByteArray) ++ t195) ++ t196) ++ t197) ++ t198) ++ t199) ++ t200) ++ t201) ++ t202).size + t203.size ≤ 9223372036854775807 then ((flyleafref08_put.f k (l0_2.length : Int) 2).bind fun t204 => (if ((((((((((⟨#[127, 69, 76, 70, 2, 1, 1]⟩ : ByteArray) ++ t195) ++ t196) ++ t197) ++ t198) ++ t199) ++ t200) ++ t201) ++ t202) ++ t203).size + t204.size ≤ 9223372036854775807 then ((flyleafref01_Fill.f (⟨#[]⟩ : ByteArray) 6).bind fun t205 => (if (((((((((((⟨#[127, 69, 76, 70, 2, 1, 1]⟩ : ByteArray) ++ t195) ++ t196) ++ t197) ++ t198) ++ t199) ++ t200) ++ t201) ++ t202) ++ t203) ++ t204).size + t205.size ≤ 9223372036854775807 then (flyleafref08_Header.l0 k ((((((((((((⟨#[127, 69, 76, 70, 2, 1, 1]⟩ : ByteArray) ++ t195) ++ t196) ++ t197) ++ t198) ++ t199) ++ t200) ++ t201) ++ t202) ++ t203) ++ t204) ++ t205) 0 a0_0 a0_1 l0_2) else (none))) else (none))) else (none)) = some r := H
         have A18 := Aside0.mk A180
         clear A180
         by_cases c19 : (((((((((⟨#[127, 69, 76, 70, 2, 1, 1]⟩ : ByteArray) ++ t195) ++ t196) ++ t197) ++ t198) ++ t199) ++ t200) ++ t201) ++ t202).size + t203.size ≤ 9223372036854775807
         ·rw [if_pos c19] at H
          have c19b0 := eq_true c19
          have c19b1 : decide ((((((((((⟨#[127, 69, 76, 70, 2, 1, 1]⟩ : ByteArray) ++ t195) ++ t196) ++ t197) ++ t198) ++ t199) ++ t200) ++ t201) ++ t202).size + t203.size ≤ 9223372036854775807) = true := decide_eq_true c19
          try have c19b2 : (9223372036854775807 < (((((((((⟨#[127, 69, 76, 70, 2, 1, 1]⟩ : ByteArray) ++ t195) ++ t196) ++ t197) ++ t198) ++ t199) ++ t200) ++ t201) ++ t202).size + t203.size) = False := eq_false (Nat.not_lt.2 c19)
          try have c19n := c19b2
          try simp only [ByteArray.size_append, show (⟨#[127, 69, 76, 70, 2, 1, 1]⟩ : ByteArray).size = 7 from rfl] at c19n
          replace H := Option.bind_eq_some_iff.mp H
          obtain ⟨t204, A200, H⟩ := H
          replace H : (if ((((((((((⟨#[127, 69, 76, 70, 2, 1, 1]⟩ : ByteArray) ++ t195) ++ t196) ++ t197) ++ t198) ++ t199) ++ t200) ++ t201) ++ t202) ++ t203).size + t204.size ≤ 9223372036854775807 then ((flyleafref01_Fill.f (⟨#[]⟩ : ByteArray) 6).bind fun t205 => (if (((((((((((⟨#[127, 69, 76, 70, 2, 1, 1]⟩ : ByteArray) ++ t195) ++ t196) ++ t197) ++ t198) ++ t199) ++ t200) ++ t201) ++ t202) ++ t203) ++ t204).size + t205.size ≤ 9223372036854775807 then (flyleafref08_Header.l0 k ((((((((((((⟨#[127, 69, 76, 70, 2, 1, 1]⟩ : ByteArray) ++ t195) ++ t196) ++ t197) ++ t198) ++ t199) ++ t200) ++ t201) ++ t202) ++ t203) ++ t204) ++ t205) 0 a0_0 a0_1 l0_2) else (none))) else (none)) = some r := H
          have A20 := Aside0.mk A200
          clear A200
          by_cases c21 : ((((((((((⟨#[127, 69, 76, 70, 2, 1, 1]⟩ : ByteArray) ++ t195) ++ t196) ++ t197) ++ t198) ++ t199) ++ t200) ++ t201) ++ t202) ++ t203).size + t204.size ≤ 9223372036854775807
          ·rw [if_pos c21] at H
           have c21b0 := eq_true c21
           have c21b1 : decide (((((((((((⟨#[127, 69, 76, 70, 2, 1, 1]⟩ : ByteArray) ++ t195) ++ t196) ++ t197) ++ t198) ++ t199) ++ t200) ++ t201) ++ t202) ++ t203).size + t204.size ≤ 9223372036854775807) = true := decide_eq_true c21
           try have c21b2 : (9223372036854775807 < ((((((((((⟨#[127, 69, 76, 70, 2, 1, 1]⟩ : ByteArray) ++ t195) ++ t196) ++ t197) ++ t198) ++ t199) ++ t200) ++ t201) ++ t202) ++ t203).size + t204.size) = False := eq_false (Nat.not_lt.2 c21)
           try have c21n := c21b2
           try simp only [ByteArray.size_append, show (⟨#[127, 69, 76, 70, 2, 1, 1]⟩ : ByteArray).size = 7 from rfl] at c21n
           replace H := Option.bind_eq_some_iff.mp H
           obtain ⟨t205, A220, H⟩ := H
           replace H : (if (((((((((((⟨#[127, 69, 76, 70, 2, 1, 1]⟩ : ByteArray) ++ t195) ++ t196) ++ t197) ++ t198) ++ t199) ++ t200) ++ t201) ++ t202) ++ t203) ++ t204).size + t205.size ≤ 9223372036854775807 then (flyleafref08_Header.l0 k ((((((((((((⟨#[127, 69, 76, 70, 2, 1, 1]⟩ : ByteArray) ++ t195) ++ t196) ++ t197) ++ t198) ++ t199) ++ t200) ++ t201) ++ t202) ++ t203) ++ t204) ++ t205) 0 a0_0 a0_1 l0_2) else (none)) = some r := H
           have A22 := Aside0.mk A220
           clear A220
           by_cases c23 : (((((((((((⟨#[127, 69, 76, 70, 2, 1, 1]⟩ : ByteArray) ++ t195) ++ t196) ++ t197) ++ t198) ++ t199) ++ t200) ++ t201) ++ t202) ++ t203) ++ t204).size + t205.size ≤ 9223372036854775807
           ·rw [if_pos c23] at H
            have c23b0 := eq_true c23
            have c23b1 : decide ((((((((((((⟨#[127, 69, 76, 70, 2, 1, 1]⟩ : ByteArray) ++ t195) ++ t196) ++ t197) ++ t198) ++ t199) ++ t200) ++ t201) ++ t202) ++ t203) ++ t204).size + t205.size ≤ 9223372036854775807) = true := decide_eq_true c23
            try have c23b2 : (9223372036854775807 < (((((((((((⟨#[127, 69, 76, 70, 2, 1, 1]⟩ : ByteArray) ++ t195) ++ t196) ++ t197) ++ t198) ++ t199) ++ t200) ++ t201) ++ t202) ++ t203) ++ t204).size + t205.size) = False := eq_false (Nat.not_lt.2 c23)
            try have c23n := c23b2
            try simp only [ByteArray.size_append, show (⟨#[127, 69, 76, 70, 2, 1, 1]⟩ : ByteArray).size = 7 from rfl] at c23n
            have H' := Aside0.mk H
            clear H
            go_enter Try.func18, Try.ntmps18
            try go_wp2_with (first | ((with_reducible refine gate_dst (N := 1) rfl ?_); refine box_event ?hg (N := 1) ?hd (cs := #[.int .i64 a0_0, .int .i64 a0_1, .slice A0_2 l0_2.length c0_2]) (t := 28) ?hr ?_; (case hd => rfl); (case hg => rfl); (case hr => first | (go_simp; done) | (go_simp; rfl)); intro gb194 hg w24 hbox hb; have n0_ := mk0_18 (below_step (by repeat (first | (with_reducible first | exact HB.out | apply below_alloc | apply pw_below_drewN | apply below_drew1) | exact HB.out)) hb); have n1_ := mk0_18 (hbox); have n2_ := mk0_18 ((by rw [hg]; exact (below_size (by repeat (first | (with_reducible first | exact HB.out | apply below_alloc | apply pw_below_drewN | apply below_drew1) | exact HB.out))) : w.heap.size ≤ gb194)); have n3_ := mk0_18 ((by rw [hg]; exact (below_size (by repeat (first | (with_reducible first | exact HB.out | apply below_alloc | apply pw_below_drewN | apply below_drew1) | exact HB.out))) : w.heap.size ≤ gb194)); clear HB; have HB := n0_; have BK194 := n1_; have GW194 := n2_; have GE194 := n3_; clear n0_ n1_ n2_ n3_; clear hb hbox hg))
            have n0_ := mk0_18 (d218 BK194.out)
            have n1_ := mk0_18 (below_drew1 HB.out)
            clear BK194
            clear HB
            have BK194 := n0_
            have HB := n1_
            clear n0_ n1_
            refine start_ (n := 30) (S := fun w' => w'.cell? ⟨gb194, 0, none⟩ = some (.int .i64 a0_0) ∧ w'.cell? ⟨gb194, 1, none⟩ = some (.int .i64 a0_1) ∧ w'.cell? ⟨gb194, 2, none⟩ = some (.slice A0_2 l0_2.length c0_2)) (ds := []) #[false, false, false, false, false, false, false, false, false, false, false, false, false, false, false, false, false, false, false, false, false, false, false, false, false, false, false, false, false, false] (by kernel_rfl) rfl rfl ⟨(d618 BK194.out 0).trans rfl, (d618 BK194.out 1).trans rfl, (d618 BK194.out 2).trans rfl⟩ (fun hHeld => ?_); refine with_tabW flyleafref08_Header.tab1 flyleafref08_Header.bits1 (fun HT_ HW_ => ?_)
            generalize w24.drew = w25 at BK194 HB hHeld ⊢
            refine pure_ (i := 2) (N := some 8) (v := ?_) (a' := ?_) #[false, false, true, false, false, false, false, false, false, false, false, false, false, false, false, false, false, false, false, false, false, false, false, false, false, false, false, false, false, false] rfl rfl (any_of HT_.out (by kernel_rfl)) (fun _ _ _ h => h) (Or.inl ⟨by rfl, ?_⟩) ?_ ?_
            rotate_left
            ·intro w'
             go_simp
             with_reducible rfl
            rotate_left
            ·simp only [Act.put, List.setIfInBounds_toArray, List.set_cons_zero, List.set_cons_succ, i64_w, i32_w]
             rfl
            refine pure_ (i := 10) (N := some 16) (v := ?_) (a' := ?_) #[false, false, true, false, false, false, false, false, false, false, true, false, false, false, false, false, false, false, false, false, false, false, false, false, false, false, false, false, false, false] rfl rfl (any_of HT_.out (by kernel_rfl)) (fun _ _ _ h => h) (Or.inl ⟨by rfl, ?_⟩) ?_ ?_
            rotate_left
            ·intro w'
             go_simp
             with_reducible rfl
            rotate_left
            ·simp only [Act.put, List.setIfInBounds_toArray, List.set_cons_zero, List.set_cons_succ, i64_w, i32_w]
             rfl
            refine pure_ (i := 22) (N := some 28) (v := ?_) (a' := ?_) #[false, false, true, false, false, false, false, false, false, false, true, false, false, false, false, false, false, false, false, false, false, false, true, false, false, false, false, false, false, false] rfl rfl (any_of HT_.out (by kernel_rfl)) (fun _ _ _ h => h) (Or.inl ⟨by rfl, ?_⟩) ?_ ?_
            rotate_left
            ·intro w'
             go_simp
             with_reducible rfl
            rotate_left
            ·simp only [Act.put, List.setIfInBounds_toArray, List.set_cons_zero, List.set_cons_succ, i64_w, i32_w]
             rfl
            refine take_ (i := 3) (N := some 9) (v := ?_) (a' := ?_) #[false, false, true, true, false, false, false, false, false, false, true, false, false, false, false, false, false, false, false, false, false, false, true, false, false, false, false, false, false, false] rfl rfl (take_ofW HT_.out HW_.out (by kernel_rfl)) (fun _ _ _ h => h) (Or.inl ⟨by rfl, ?_⟩) hHeld ?_ ?_
            rotate_left
            ·rintro w' ⟨s0, s1, s2⟩
             go_simp
             with_reducible rfl
            rotate_left
            ·simp only [Act.put, List.setIfInBounds_toArray, List.set_cons_zero, List.set_cons_succ, i64_w, i32_w]
             rfl
            refine take_ (i := 11) (N := some 17) (v := ?_) (a' := ?_) #[false, false, true, true, false, false, false, false, false, false, true, true, false, false, false, false, false, false, false, false, false, false, true, false, false, false, false, false, false, false] rfl rfl (take_ofW HT_.out HW_.out (by kernel_rfl)) (fun _ _ _ h => h) (Or.inl ⟨by rfl, ?_⟩) hHeld ?_ ?_
            rotate_left
            ·rintro w' ⟨s0, s1, s2⟩
             go_simp
             with_reducible rfl
            rotate_left
            ·simp only [Act.put, List.setIfInBounds_toArray, List.set_cons_zero, List.set_cons_succ, i64_w, i32_w]
             rfl
            refine take_ (i := 23) (N := some 29) (v := ?_) (a' := ?_) #[false, false, true, true, false, false, false, false, false, false, true, true, false, false, false, false, false, false, false, false, false, false, true, true, false, false, false, false, false, false] rfl rfl (take_ofW HT_.out HW_.out (by kernel_rfl)) (fun _ _ _ h => h) (Or.inl ⟨by rfl, ?_⟩) hHeld ?_ ?_
            rotate_left
            ·rintro w' ⟨s0, s1, s2⟩
             go_simp
             with_reducible rfl
            rotate_left
            ·simp only [Act.put, List.setIfInBounds_toArray, List.set_cons_zero, List.set_cons_succ, i64_w, i32_w]
             rfl
            refine pure_ (i := 24) (N := some 30) (v := ?_) (a' := ?_) #[false, false, true, true, false, false, false, false, false, false, true, true, false, false, false, false, false, false, false, false, false, false, true, true, true, false, false, false, false, false] rfl rfl (any_of HT_.out (by kernel_rfl)) (fun _ _ _ h => h) (Or.inl ⟨by rfl, ?_⟩) ?_ ?_
            rotate_left
            ·intro w'
             go_simp
             with_reducible rfl
            rotate_left
            ·simp only [Act.put, List.setIfInBounds_toArray, List.set_cons_zero, List.set_cons_succ, i64_w, i32_w]
             rfl
            refine one_ (i := 0) (N := some 6) #[true, false, true, true, false, false, false, false, false, false, true, true, false, false, false, false, false, false, false, false, false, false, true, true, true, false, false, false, false, false] rfl rfl (one_of HT_.out (by kernel_rfl)) (by decide) (fun K hK => ?_)
            refine goes_ Try.func11 (by kernel_rfl) rfl #[.string (⟨#[]⟩ : ByteArray), .int .i64 9] (by rfl) rfl rfl (by (try simp only [List.map_toArray, List.map_cons, List.map_nil]); first | done | rfl | (simp only [List.length_drop, List.length_take]; rfl)) ?_
            with_reducible refine (flyleafref01_Fill.calls (⟨#[]⟩ : ByteArray) 9 t195 _ A2.out).mono ?_
            rintro e w26 ⟨rfl, hb⟩
            refine ⟨_, rfl, ?_⟩
            have n0_ := mk0_18 (blk_below (g := gb194) (o := .cells #[.int .i64 a0_0, .int .i64 a0_1, .slice A0_2 l0_2.length c0_2] 28 (0, 0)) (by (with_reducible repeat (first | refine d118 ?_ _ | refine d218 ?_ | refine d318 ?_ _)); exact BK194.out) hb)
            have n1_ := mk0_18 (below_step (by repeat (first | (with_reducible first | exact HB.out | apply below_alloc | apply pw_below_drewN | apply below_drew1 | refine d418 ?_ GE194.out) | exact HB.out)) hb)
            clear BK194
            clear HB
            have BK194 := n0_
            have HB := n1_
            clear n0_ n1_
            (try clear hb)
            (try clear hb2)
            (try clear hk)
            (try clear hi)
            refine hK.out _ _ ⟨(d618 BK194.out 0).trans rfl, (d618 BK194.out 1).trans rfl, (d618 BK194.out 2).trans rfl⟩ (fun hHeld => ?_)
            clear hK K
            refine norm_ (a' := ?_) ?_ ?_
            rotate_left
            ·show Act.put _ (some 6) _ = _
             simp only [Act.put, List.setIfInBounds_toArray, List.set_cons_zero, List.set_cons_succ, i64_w, i32_w]
             rfl
            refine pure_ (i := 1) (N := some 7) (v := ?_) (a' := ?_) #[true, true, true, true, false, false, false, false, false, false, true, true, false, false, false, false, false, false, false, false, false, false, true, true, true, false, false, false, false, false] rfl rfl (any_of HT_.out (by kernel_rfl)) (fun _ _ _ h => h) (Or.inl ⟨by rfl, ?_⟩) ?_ ?_
            rotate_left
            ·intro w'
             go_simp
             with_reducible rfl
            rotate_left
            ·simp only [Act.put, List.setIfInBounds_toArray, List.set_cons_zero, List.set_cons_succ, i64_w, i32_w]
             rfl
            refine one_ (i := 4) (N := some 10) #[true, true, true, true, true, false, false, false, false, false, true, true, false, false, false, false, false, false, false, false, false, false, true, true, true, false, false, false, false, false] rfl rfl (one_of HT_.out (by kernel_rfl)) (by decide) (fun K hK => ?_)
            refine goes_ Try.func37 (by kernel_rfl) rfl #[.int .i64 a0_0, .int .i64 2] (by rfl) rfl rfl (by (try simp only [List.map_toArray, List.map_cons, List.map_nil]); first | done | rfl | (simp only [List.length_drop, List.length_take]; rfl)) ?_
            with_reducible refine (flyleafref08_put.calls k a0_0 2 t196 _ A4.out).mono ?_
            rintro e w27 ⟨rfl, hb⟩
            refine ⟨_, rfl, ?_⟩
            have n0_ := mk0_18 (blk_below (g := gb194) (o := .cells #[.int .i64 a0_0, .int .i64 a0_1, .slice A0_2 l0_2.length c0_2] 28 (0, 0)) (by (with_reducible repeat (first | refine d118 ?_ _ | refine d218 ?_ | refine d318 ?_ _)); exact BK194.out) hb)
            have n1_ := mk0_18 (below_step (by repeat (first | (with_reducible first | exact HB.out | apply below_alloc | apply pw_below_drewN | apply below_drew1 | refine d418 ?_ GE194.out) | exact HB.out)) hb)
            clear BK194
            clear HB
            have BK194 := n0_
            have HB := n1_
            clear n0_ n1_
            (try clear hb)
            (try clear hb2)
            (try clear hk)
            (try clear hi)
            refine hK.out _ _ ⟨(d618 BK194.out 0).trans rfl, (d618 BK194.out 1).trans rfl, (d618 BK194.out 2).trans rfl⟩ (fun hHeld => ?_)
            clear hK K
            refine norm_ (a' := ?_) ?_ ?_
            rotate_left
            ·show Act.put _ (some 10) _ = _
             simp only [Act.put, List.setIfInBounds_toArray, List.set_cons_zero, List.set_cons_succ, i64_w, i32_w]
             rfl
            refine pure_ (i := 5) (N := some 11) (v := ?_) (a' := ?_) #[true, true, true, true, true, true, false, false, false, false, true, true, false, false, false, false, false, false, false, false, false, false, true, true, true, false, false, false, false, false] rfl rfl (any_of HT_.out (by kernel_rfl)) (fun _ _ _ h => h) (Or.inl ⟨by rfl, ?_⟩) ?_ ?_
            rotate_left
            ·intro w'
             go_simp
             with_reducible rfl
            rotate_left
            ·simp only [Act.put, List.setIfInBounds_toArray, List.set_cons_zero, List.set_cons_succ, i64_w, i32_w]
             rfl
            refine one_ (i := 6) (N := some 12) #[true, true, true, true, true, true, true, false, false, false, true, true, false, false, false, false, false, false, false, false, false, false, true, true, true, false, false, false, false, false] rfl rfl (one_of HT_.out (by kernel_rfl)) (by decide) (fun K hK => ?_)
            refine goes_ Try.func37 (by kernel_rfl) rfl #[.int .i64 62, .int .i64 2] (by rfl) rfl rfl (by (try simp only [List.map_toArray, List.map_cons, List.map_nil]); first | done | rfl | (simp only [List.length_drop, List.length_take]; rfl)) ?_
            with_reducible refine (flyleafref08_put.calls k 62 2 t197 _ A6.out).mono ?_
            rintro e w28 ⟨rfl, hb⟩
            refine ⟨_, rfl, ?_⟩
            have n0_ := mk0_18 (blk_below (g := gb194) (o := .cells #[.int .i64 a0_0, .int .i64 a0_1, .slice A0_2 l0_2.length c0_2] 28 (0, 0)) (by (with_reducible repeat (first | refine d118 ?_ _ | refine d218 ?_ | refine d318 ?_ _)); exact BK194.out) hb)
            have n1_ := mk0_18 (below_step (by repeat (first | (with_reducible first | exact HB.out | apply below_alloc | apply pw_below_drewN | apply below_drew1 | refine d418 ?_ GE194.out) | exact HB.out)) hb)
            clear BK194
            clear HB
            have BK194 := n0_
            have HB := n1_
            clear n0_ n1_
            (try clear hb)
            (try clear hb2)
            (try clear hk)
            (try clear hi)
            refine hK.out _ _ ⟨(d618 BK194.out 0).trans rfl, (d618 BK194.out 1).trans rfl, (d618 BK194.out 2).trans rfl⟩ (fun hHeld => ?_)
            clear hK K
            refine norm_ (a' := ?_) ?_ ?_
            rotate_left
            ·show Act.put _ (some 12) _ = _
             simp only [Act.put, List.setIfInBounds_toArray, List.set_cons_zero, List.set_cons_succ, i64_w, i32_w]
             rfl
            refine pure_ (i := 7) (N := some 13) (v := ?_) (a' := ?_) #[true, true, true, true, true, true, true, true, false, false, true, true, false, false, false, false, false, false, false, false, false, false, true, true, true, false, false, false, false, false] rfl rfl (any_of HT_.out (by kernel_rfl)) (fun _ _ _ h => h) (Or.inl ⟨by rfl, ?_⟩) ?_ ?_
            rotate_left
            ·intro w'
             go_simp
             with_reducible rfl
            rotate_left
            ·simp only [Act.put, List.setIfInBounds_toArray, List.set_cons_zero, List.set_cons_succ, i64_w, i32_w]
             rfl
            refine one_ (i := 8) (N := some 14) #[true, true, true, true, true, true, true, true, true, false, true, true, false, false, false, false, false, false, false, false, false, false, true, true, true, false, false, false, false, false] rfl rfl (one_of HT_.out (by kernel_rfl)) (by decide) (fun K hK => ?_)
            refine goes_ Try.func37 (by kernel_rfl) rfl #[.int .i64 1, .int .i64 4] (by rfl) rfl rfl (by (try simp only [List.map_toArray, List.map_cons, List.map_nil]); first | done | rfl | (simp only [List.length_drop, List.length_take]; rfl)) ?_
            with_reducible refine (flyleafref08_put.calls k 1 4 t198 _ A8.out).mono ?_
            rintro e w29 ⟨rfl, hb⟩
            refine ⟨_, rfl, ?_⟩
            have n0_ := mk0_18 (blk_below (g := gb194) (o := .cells #[.int .i64 a0_0, .int .i64 a0_1, .slice A0_2 l0_2.length c0_2] 28 (0, 0)) (by (with_reducible repeat (first | refine d118 ?_ _ | refine d218 ?_ | refine d318 ?_ _)); exact BK194.out) hb)
            have n1_ := mk0_18 (below_step (by repeat (first | (with_reducible first | exact HB.out | apply below_alloc | apply pw_below_drewN | apply below_drew1 | refine d418 ?_ GE194.out) | exact HB.out)) hb)
            clear BK194
            clear HB
            have BK194 := n0_
            have HB := n1_
            clear n0_ n1_
            (try clear hb)
            (try clear hb2)
            (try clear hk)
            (try clear hi)
            refine hK.out _ _ ⟨(d618 BK194.out 0).trans rfl, (d618 BK194.out 1).trans rfl, (d618 BK194.out 2).trans rfl⟩ (fun hHeld => ?_)
            clear hK K
            refine norm_ (a' := ?_) ?_ ?_
            rotate_left
            ·show Act.put _ (some 14) _ = _
             simp only [Act.put, List.setIfInBounds_toArray, List.set_cons_zero, List.set_cons_succ, i64_w, i32_w]
             rfl
            refine pure_ (i := 9) (N := some 15) (v := ?_) (a' := ?_) #[true, true, true, true, true, true, true, true, true, true, true, true, false, false, false, false, false, false, false, false, false, false, true, true, true, false, false, false, false, false] rfl rfl (any_of HT_.out (by kernel_rfl)) (fun _ _ _ h => h) (Or.inl ⟨by rfl, ?_⟩) ?_ ?_
            rotate_left
            ·intro w'
             go_simp
             with_reducible rfl
            rotate_left
            ·simp only [Act.put, List.setIfInBounds_toArray, List.set_cons_zero, List.set_cons_succ, i64_w, i32_w]
             rfl
            refine one_ (i := 12) (N := some 18) #[true, true, true, true, true, true, true, true, true, true, true, true, true, false, false, false, false, false, false, false, false, false, true, true, true, false, false, false, false, false] rfl rfl (one_of HT_.out (by kernel_rfl)) (by decide) (fun K hK => ?_)
            refine goes_ Try.func37 (by kernel_rfl) rfl #[.int .i64 a0_1, .int .i64 8] (by rfl) rfl rfl (by (try simp only [List.map_toArray, List.map_cons, List.map_nil]); first | done | rfl | (simp only [List.length_drop, List.length_take]; rfl)) ?_
            with_reducible refine (flyleafref08_put.calls k a0_1 8 t199 _ A10.out).mono ?_
            rintro e w30 ⟨rfl, hb⟩
            refine ⟨_, rfl, ?_⟩
            have n0_ := mk0_18 (blk_below (g := gb194) (o := .cells #[.int .i64 a0_0, .int .i64 a0_1, .slice A0_2 l0_2.length c0_2] 28 (0, 0)) (by (with_reducible repeat (first | refine d118 ?_ _ | refine d218 ?_ | refine d318 ?_ _)); exact BK194.out) hb)
            have n1_ := mk0_18 (below_step (by repeat (first | (with_reducible first | exact HB.out | apply below_alloc | apply pw_below_drewN | apply below_drew1 | refine d418 ?_ GE194.out) | exact HB.out)) hb)
            clear BK194
            clear HB
            have BK194 := n0_
            have HB := n1_
            clear n0_ n1_
            (try clear hb)
            (try clear hb2)
            (try clear hk)
            (try clear hi)
            refine hK.out _ _ ⟨(d618 BK194.out 0).trans rfl, (d618 BK194.out 1).trans rfl, (d618 BK194.out 2).trans rfl⟩ (fun hHeld => ?_)
            clear hK K
            refine norm_ (a' := ?_) ?_ ?_
            rotate_left
            ·show Act.put _ (some 18) _ = _
             simp only [Act.put, List.setIfInBounds_toArray, List.set_cons_zero, List.set_cons_succ, i64_w, i32_w]
             rfl
            refine pure_ (i := 13) (N := some 19) (v := ?_) (a' := ?_) #[true, true, true, true, true, true, true, true, true, true, true, true, true, true, false, false, false, false, false, false, false, false, true, true, true, false, false, false, false, false] rfl rfl (any_of HT_.out (by kernel_rfl)) (fun _ _ _ h => h) (Or.inl ⟨by rfl, ?_⟩) ?_ ?_
            rotate_left
            ·intro w'
             go_simp
             with_reducible rfl
            rotate_left
            ·simp only [Act.put, List.setIfInBounds_toArray, List.set_cons_zero, List.set_cons_succ, i64_w, i32_w]
             rfl
            refine one_ (i := 14) (N := some 20) #[true, true, true, true, true, true, true, true, true, true, true, true, true, true, true, false, false, false, false, false, false, false, true, true, true, false, false, false, false, false] rfl rfl (one_of HT_.out (by kernel_rfl)) (by decide) (fun K hK => ?_)
            refine goes_ Try.func37 (by kernel_rfl) rfl #[.int .i64 64, .int .i64 8] (by rfl) rfl rfl (by (try simp only [List.map_toArray, List.map_cons, List.map_nil]); first | done | rfl | (simp only [List.length_drop, List.length_take]; rfl)) ?_
            with_reducible refine (flyleafref08_put.calls k 64 8 t200 _ A12.out).mono ?_
            rintro e w31 ⟨rfl, hb⟩
            refine ⟨_, rfl, ?_⟩
            have n0_ := mk0_18 (blk_below (g := gb194) (o := .cells #[.int .i64 a0_0, .int .i64 a0_1, .slice A0_2 l0_2.length c0_2] 28 (0, 0)) (by (with_reducible repeat (first | refine d118 ?_ _ | refine d218 ?_ | refine d318 ?_ _)); exact BK194.out) hb)
            have n1_ := mk0_18 (below_step (by repeat (first | (with_reducible first | exact HB.out | apply below_alloc | apply pw_below_drewN | apply below_drew1 | refine d418 ?_ GE194.out) | exact HB.out)) hb)
            clear BK194
            clear HB
            have BK194 := n0_
            have HB := n1_
            clear n0_ n1_
            (try clear hb)
            (try clear hb2)
            (try clear hk)
            (try clear hi)
            refine hK.out _ _ ⟨(d618 BK194.out 0).trans rfl, (d618 BK194.out 1).trans rfl, (d618 BK194.out 2).trans rfl⟩ (fun hHeld => ?_)
            clear hK K
            refine norm_ (a' := ?_) ?_ ?_
            rotate_left
            ·show Act.put _ (some 20) _ = _
             simp only [Act.put, List.setIfInBounds_toArray, List.set_cons_zero, List.set_cons_succ, i64_w, i32_w]
             rfl
            refine pure_ (i := 15) (N := some 21) (v := ?_) (a' := ?_) #[true, true, true, true, true, true, true, true, true, true, true, true, true, true, true, true, false, false, false, false, false, false, true, true, true, false, false, false, false, false] rfl rfl (any_of HT_.out (by kernel_rfl)) (fun _ _ _ h => h) (Or.inl ⟨by rfl, ?_⟩) ?_ ?_
            rotate_left
            ·intro w'
             go_simp
             with_reducible rfl
            rotate_left
            ·simp only [Act.put, List.setIfInBounds_toArray, List.set_cons_zero, List.set_cons_succ, i64_w, i32_w]
             rfl
            refine one_ (i := 16) (N := some 22) #[true, true, true, true, true, true, true, true, true, true, true, true, true, true, true, true, true, false, false, false, false, false, true, true, true, false, false, false, false, false] rfl rfl (one_of HT_.out (by kernel_rfl)) (by decide) (fun K hK => ?_)
            refine goes_ Try.func11 (by kernel_rfl) rfl #[.string (⟨#[]⟩ : ByteArray), .int .i64 12] (by rfl) rfl rfl (by (try simp only [List.map_toArray, List.map_cons, List.map_nil]); first | done | rfl | (simp only [List.length_drop, List.length_take]; rfl)) ?_
            with_reducible refine (flyleafref01_Fill.calls (⟨#[]⟩ : ByteArray) 12 t201 _ A14.out).mono ?_
            rintro e w32 ⟨rfl, hb⟩
            refine ⟨_, rfl, ?_⟩
            have n0_ := mk0_18 (blk_below (g := gb194) (o := .cells #[.int .i64 a0_0, .int .i64 a0_1, .slice A0_2 l0_2.length c0_2] 28 (0, 0)) (by (with_reducible repeat (first | refine d118 ?_ _ | refine d218 ?_ | refine d318 ?_ _)); exact BK194.out) hb)
            have n1_ := mk0_18 (below_step (by repeat (first | (with_reducible first | exact HB.out | apply below_alloc | apply pw_below_drewN | apply below_drew1 | refine d418 ?_ GE194.out) | exact HB.out)) hb)
            clear BK194
            clear HB
            have BK194 := n0_
            have HB := n1_
            clear n0_ n1_
            (try clear hb)
            (try clear hb2)
            (try clear hk)
            (try clear hi)
            refine hK.out _ _ ⟨(d618 BK194.out 0).trans rfl, (d618 BK194.out 1).trans rfl, (d618 BK194.out 2).trans rfl⟩ (fun hHeld => ?_)
            clear hK K
            refine norm_ (a' := ?_) ?_ ?_
            rotate_left
            ·show Act.put _ (some 22) _ = _
             simp only [Act.put, List.setIfInBounds_toArray, List.set_cons_zero, List.set_cons_succ, i64_w, i32_w]
             rfl
            refine pure_ (i := 17) (N := some 23) (v := ?_) (a' := ?_) #[true, true, true, true, true, true, true, true, true, true, true, true, true, true, true, true, true, true, false, false, false, false, true, true, true, false, false, false, false, false] rfl rfl (any_of HT_.out (by kernel_rfl)) (fun _ _ _ h => h) (Or.inl ⟨by rfl, ?_⟩) ?_ ?_
            rotate_left
            ·intro w'
             go_simp
             with_reducible rfl
            rotate_left
            ·simp only [Act.put, List.setIfInBounds_toArray, List.set_cons_zero, List.set_cons_succ, i64_w, i32_w]
             rfl
            refine one_ (i := 18) (N := some 24) #[true, true, true, true, true, true, true, true, true, true, true, true, true, true, true, true, true, true, true, false, false, false, true, true, true, false, false, false, false, false] rfl rfl (one_of HT_.out (by kernel_rfl)) (by decide) (fun K hK => ?_)
            refine goes_ Try.func37 (by kernel_rfl) rfl #[.int .i64 64, .int .i64 2] (by rfl) rfl rfl (by (try simp only [List.map_toArray, List.map_cons, List.map_nil]); first | done | rfl | (simp only [List.length_drop, List.length_take]; rfl)) ?_
            with_reducible refine (flyleafref08_put.calls k 64 2 t202 _ A16.out).mono ?_
            rintro e w33 ⟨rfl, hb⟩
            refine ⟨_, rfl, ?_⟩
            have n0_ := mk0_18 (blk_below (g := gb194) (o := .cells #[.int .i64 a0_0, .int .i64 a0_1, .slice A0_2 l0_2.length c0_2] 28 (0, 0)) (by (with_reducible repeat (first | refine d118 ?_ _ | refine d218 ?_ | refine d318 ?_ _)); exact BK194.out) hb)
            have n1_ := mk0_18 (below_step (by repeat (first | (with_reducible first | exact HB.out | apply below_alloc | apply pw_below_drewN | apply below_drew1 | refine d418 ?_ GE194.out) | exact HB.out)) hb)
            clear BK194
            clear HB
            have BK194 := n0_
            have HB := n1_
            clear n0_ n1_
            (try clear hb)
            (try clear hb2)
            (try clear hk)
            (try clear hi)
            refine hK.out _ _ ⟨(d618 BK194.out 0).trans rfl, (d618 BK194.out 1).trans rfl, (d618 BK194.out 2).trans rfl⟩ (fun hHeld => ?_)
            clear hK K
            refine norm_ (a' := ?_) ?_ ?_
            rotate_left
            ·show Act.put _ (some 24) _ = _
             simp only [Act.put, List.setIfInBounds_toArray, List.set_cons_zero, List.set_cons_succ, i64_w, i32_w]
             rfl
            refine pure_ (i := 19) (N := some 25) (v := ?_) (a' := ?_) #[true, true, true, true, true, true, true, true, true, true, true, true, true, true, true, true, true, true, true, true, false, false, true, true, true, false, false, false, false, false] rfl rfl (any_of HT_.out (by kernel_rfl)) (fun _ _ _ h => h) (Or.inl ⟨by rfl, ?_⟩) ?_ ?_
            rotate_left
            ·intro w'
             go_simp
             with_reducible rfl
            rotate_left
            ·simp only [Act.put, List.setIfInBounds_toArray, List.set_cons_zero, List.set_cons_succ, i64_w, i32_w]
             rfl
            refine one_ (i := 20) (N := some 26) #[true, true, true, true, true, true, true, true, true, true, true, true, true, true, true, true, true, true, true, true, true, false, true, true, true, false, false, false, false, false] rfl rfl (one_of HT_.out (by kernel_rfl)) (by decide) (fun K hK => ?_)
            refine goes_ Try.func37 (by kernel_rfl) rfl #[.int .i64 56, .int .i64 2] (by rfl) rfl rfl (by (try simp only [List.map_toArray, List.map_cons, List.map_nil]); first | done | rfl | (simp only [List.length_drop, List.length_take]; rfl)) ?_
            with_reducible refine (flyleafref08_put.calls k 56 2 t203 _ A18.out).mono ?_
            rintro e w34 ⟨rfl, hb⟩
            refine ⟨_, rfl, ?_⟩
            have n0_ := mk0_18 (blk_below (g := gb194) (o := .cells #[.int .i64 a0_0, .int .i64 a0_1, .slice A0_2 l0_2.length c0_2] 28 (0, 0)) (by (with_reducible repeat (first | refine d118 ?_ _ | refine d218 ?_ | refine d318 ?_ _)); exact BK194.out) hb)
            have n1_ := mk0_18 (below_step (by repeat (first | (with_reducible first | exact HB.out | apply below_alloc | apply pw_below_drewN | apply below_drew1 | refine d418 ?_ GE194.out) | exact HB.out)) hb)
            clear BK194
            clear HB
            have BK194 := n0_
            have HB := n1_
            clear n0_ n1_
            (try clear hb)
            (try clear hb2)
            (try clear hk)
            (try clear hi)
            refine hK.out _ _ ⟨(d618 BK194.out 0).trans rfl, (d618 BK194.out 1).trans rfl, (d618 BK194.out 2).trans rfl⟩ (fun hHeld => ?_)
            clear hK K
            refine norm_ (a' := ?_) ?_ ?_
            rotate_left
            ·show Act.put _ (some 26) _ = _
             simp only [Act.put, List.setIfInBounds_toArray, List.set_cons_zero, List.set_cons_succ, i64_w, i32_w]
             rfl
            refine pure_ (i := 21) (N := some 27) (v := ?_) (a' := ?_) #[true, true, true, true, true, true, true, true, true, true, true, true, true, true, true, true, true, true, true, true, true, true, true, true, true, false, false, false, false, false] rfl rfl (any_of HT_.out (by kernel_rfl)) (fun _ _ _ h => h) (Or.inl ⟨by rfl, ?_⟩) ?_ ?_
            rotate_left
            ·intro w'
             go_simp
             with_reducible rfl
            rotate_left
            ·simp only [Act.put, List.setIfInBounds_toArray, List.set_cons_zero, List.set_cons_succ, i64_w, i32_w]
             rfl
            refine one_ (i := 25) (N := some 31) #[true, true, true, true, true, true, true, true, true, true, true, true, true, true, true, true, true, true, true, true, true, true, true, true, true, true, false, false, false, false] rfl rfl (one_of HT_.out (by kernel_rfl)) (by decide) (fun K hK => ?_)
            refine goes_ Try.func37 (by kernel_rfl) rfl #[.int .i64 (l0_2.length : Int), .int .i64 2] (by rfl) rfl rfl (by (try simp only [List.map_toArray, List.map_cons, List.map_nil]); first | done | rfl | (simp only [List.length_drop, List.length_take]; rfl)) ?_
            with_reducible refine (flyleafref08_put.calls k (l0_2.length : Int) 2 t204 _ A20.out).mono ?_
            rintro e w35 ⟨rfl, hb⟩
            refine ⟨_, rfl, ?_⟩
            have n0_ := mk0_18 (blk_below (g := gb194) (o := .cells #[.int .i64 a0_0, .int .i64 a0_1, .slice A0_2 l0_2.length c0_2] 28 (0, 0)) (by (with_reducible repeat (first | refine d118 ?_ _ | refine d218 ?_ | refine d318 ?_ _)); exact BK194.out) hb)
            have n1_ := mk0_18 (below_step (by repeat (first | (with_reducible first | exact HB.out | apply below_alloc | apply pw_below_drewN | apply below_drew1 | refine d418 ?_ GE194.out) | exact HB.out)) hb)
            clear BK194
            clear HB
            have BK194 := n0_
            have HB := n1_
            clear n0_ n1_
            (try clear hb)
            (try clear hb2)
            (try clear hk)
            (try clear hi)
            refine hK.out _ _ ⟨(d618 BK194.out 0).trans rfl, (d618 BK194.out 1).trans rfl, (d618 BK194.out 2).trans rfl⟩ (fun hHeld => ?_)
            clear hK K
            refine norm_ (a' := ?_) ?_ ?_
            rotate_left
            ·show Act.put _ (some 31) _ = _
             simp only [Act.put, List.setIfInBounds_toArray, List.set_cons_zero, List.set_cons_succ, i64_w, i32_w]
             rfl
            refine pure_ (i := 26) (N := some 32) (v := ?_) (a' := ?_) #[true, true, true, true, true, true, true, true, true, true, true, true, true, true, true, true, true, true, true, true, true, true, true, true, true, true, true, false, false, false] rfl rfl (any_of HT_.out (by kernel_rfl)) (fun _ _ _ h => h) (Or.inl ⟨by rfl, ?_⟩) ?_ ?_
            rotate_left
            ·intro w'
             go_simp
             with_reducible rfl
            rotate_left
            ·simp only [Act.put, List.setIfInBounds_toArray, List.set_cons_zero, List.set_cons_succ, i64_w, i32_w]
             rfl
            refine one_ (i := 27) (N := some 33) #[true, true, true, true, true, true, true, true, true, true, true, true, true, true, true, true, true, true, true, true, true, true, true, true, true, true, true, true, false, false] rfl rfl (one_of HT_.out (by kernel_rfl)) (by decide) (fun K hK => ?_)
            refine goes_ Try.func11 (by kernel_rfl) rfl #[.string (⟨#[]⟩ : ByteArray), .int .i64 6] (by rfl) rfl rfl (by (try simp only [List.map_toArray, List.map_cons, List.map_nil]); first | done | rfl | (simp only [List.length_drop, List.length_take]; rfl)) ?_
            with_reducible refine (flyleafref01_Fill.calls (⟨#[]⟩ : ByteArray) 6 t205 _ A22.out).mono ?_
            rintro e w36 ⟨rfl, hb⟩
            refine ⟨_, rfl, ?_⟩
            have n0_ := mk0_18 (blk_below (g := gb194) (o := .cells #[.int .i64 a0_0, .int .i64 a0_1, .slice A0_2 l0_2.length c0_2] 28 (0, 0)) (by (with_reducible repeat (first | refine d118 ?_ _ | refine d218 ?_ | refine d318 ?_ _)); exact BK194.out) hb)
            have n1_ := mk0_18 (below_step (by repeat (first | (with_reducible first | exact HB.out | apply below_alloc | apply pw_below_drewN | apply below_drew1 | refine d418 ?_ GE194.out) | exact HB.out)) hb)
            clear BK194
            clear HB
            have BK194 := n0_
            have HB := n1_
            clear n0_ n1_
            (try clear hb)
            (try clear hb2)
            (try clear hk)
            (try clear hi)
            refine hK.out _ _ ⟨(d618 BK194.out 0).trans rfl, (d618 BK194.out 1).trans rfl, (d618 BK194.out 2).trans rfl⟩ (fun hHeld => ?_)
            clear hK K
            refine norm_ (a' := ?_) ?_ ?_
            rotate_left
            ·show Act.put _ (some 33) _ = _
             simp only [Act.put, List.setIfInBounds_toArray, List.set_cons_zero, List.set_cons_succ, i64_w, i32_w]
             rfl
            refine pure_ (i := 28) (N := some 34) (v := ?_) (a' := ?_) #[true, true, true, true, true, true, true, true, true, true, true, true, true, true, true, true, true, true, true, true, true, true, true, true, true, true, true, true, true, false] rfl rfl (any_of HT_.out (by kernel_rfl)) (fun _ _ _ h => h) (Or.inl ⟨by rfl, ?_⟩) ?_ ?_
            rotate_left
            ·intro w'
             go_simp
             with_reducible rfl
            rotate_left
            ·simp only [Act.put, List.setIfInBounds_toArray, List.set_cons_zero, List.set_cons_succ, i64_w, i32_w]
             rfl
            refine pure_ (i := 29) (N := some 3) (v := ?_) (a' := ?_) #[true, true, true, true, true, true, true, true, true, true, true, true, true, true, true, true, true, true, true, true, true, true, true, true, true, true, true, true, true, true] rfl rfl (any_of HT_.out (by kernel_rfl)) (fun _ _ _ h => h) (Or.inl ⟨by rfl, ?_⟩) ?_ ?_
            rotate_left
            ·intro w'
             go_simp
             with_reducible rfl
            rotate_left
            ·simp only [Act.put, List.setIfInBounds_toArray, List.set_cons_zero, List.set_cons_succ, i64_w, i32_w]
             rfl
            refine done_ (done_of HT_.out (by kernel_rfl)) ?_
            try go_wp2
            go_loopg [3, 4] k (fun kq v3 v4 w' => ∃ (x3_1 : ByteArray) (x4_1 : Int), v3 = .string x3_1 ∧ v4 = .int .i64 x4_1 ∧ Aside0 (flyleafref08_Header.l0 kq x3_1 x4_1 a0_0 a0_1 l0_2 = some r) ∧ Aside0 (kq ≤ k) ∧ Aside0 (w'.heap[gb194]? = some (.cells #[.int .i64 a0_0, .int .i64 a0_1, (.slice A0_2 l0_2.length c0_2)] 28 (0, 0))) ∧ Aside0 (Below w.heap.size w w'))
            case atStart => exact ⟨((((((((((((⟨#[127, 69, 76, 70, 2, 1, 1]⟩ : ByteArray) ++ t195) ++ t196) ++ t197) ++ t198) ++ t199) ++ t200) ++ t201) ++ t202) ++ t203) ++ t204) ++ t205), (0), (by first | rfl | (simp; done) | (simp [*]; done)), (by first | rfl | (simp; done) | (simp [*]; done)), H', ⟨Nat.le_refl _⟩, ⟨by (with_reducible repeat (first | refine d118 ?_ _ | refine d218 ?_ | refine d318 ?_ _)); exact BK194.out⟩, ⟨by repeat (first | (with_reducible first | exact HB.out | apply below_alloc | apply pw_below_drewN | apply below_drew1 | refine d418 ?_ GE194.out) | exact HB.out)⟩⟩
            case round =>
             clear H'
             try clear c1
             try clear c2
             try clear p2
             try clear c3
             try clear c3b0
             try clear c3b1
             try clear c3b2
             try clear c5
             try clear c5b0
             try clear c5b1
             try clear c5b2
             try clear c7
             try clear c7b0
             try clear c7b1
             try clear c7b2
             try clear c9
             try clear c9b0
             try clear c9b1
             try clear c9b2
             try clear c11
             try clear c11b0
             try clear c11b1
             try clear c11b2
             try clear c13
             try clear c13b0
             try clear c13b1
             try clear c13b2
             try clear c15
             try clear c15b0
             try clear c15b1
             try clear c15b2
             try clear c17
             try clear c17b0
             try clear c17b1
             try clear c17b2
             try clear c18
             try clear c19
             try clear c19b0
             try clear c19b1
             try clear c19b2
             try clear c21
             try clear c21b0
             try clear c21b1
             try clear c21b2
             try clear c23
             try clear c23b0
             try clear c23b1
             try clear c23b2
             obtain ⟨x3_1, x4_1, rfl, rfl, HA, HK1, BK194, HB⟩ := hrel
             cases gk with
             | zero => exact absurd HA.out (by simp [flyleafref08_Header.l0])
             | succ k1 =>
              have H := HA.out
              clear HA
              simp only [flyleafref08_Header.l0] at H
              by_cases c37 : x4_1 < (l0_2.length : Int)
              ·rw [if_pos c37] at H
               have c37b0 : decide (x4_1 < (l0_2.length : Int)) = true := decide_eq_true c37
               clear c37
               by_cases c38 : 0 ≤ x4_1
               ·rw [if_pos c38] at H
                have c38b0 : decide (0 ≤ x4_1) = true := decide_eq_true c38
                clear c38
                replace H := Option.bind_eq_some_iff.mp H
                obtain ⟨t208, A390, H⟩ := H
                replace H : (if x3_1.size + t208.size ≤ 9223372036854775807 then ((flyleafref08_put.f k1 ((rd_T32 l0_2 x4_1).f1) 4).bind fun t209 => (if (x3_1 ++ t208).size + t209.size ≤ 9223372036854775807 then ((flyleafref08_put.f k1 ((rd_T32 l0_2 x4_1).f2) 8).bind fun t210 => (if ((x3_1 ++ t208) ++ t209).size + t210.size ≤ 9223372036854775807 then ((flyleafref08_put.f k1 ((rd_T32 l0_2 x4_1).f3) 8).bind fun t211 => (if (((x3_1 ++ t208) ++ t209) ++ t210).size + t211.size ≤ 9223372036854775807 then ((flyleafref08_put.f k1 ((rd_T32 l0_2 x4_1).f3) 8).bind fun t212 => (if ((((x3_1 ++ t208) ++ t209) ++ t210) ++ t211).size + t212.size ≤ 9223372036854775807 then ((flyleafref08_put.f k1 ((rd_T32 l0_2 x4_1).f4) 8).bind fun t213 => (if (((((x3_1 ++ t208) ++ t209) ++ t210) ++ t211) ++ t212).size + t213.size ≤ 9223372036854775807 then ((flyleafref08_put.f k1 ((rd_T32 l0_2 x4_1).f5) 8).bind fun t214 => (if ((((((x3_1 ++ t208) ++ t209) ++ t210) ++ t211) ++ t212) ++ t213).size + t214.size ≤ 9223372036854775807 then ((flyleafref08_put.f k1 ((rd_T32 l0_2 x4_1).f6) 8).bind fun t215 => (if (((((((x3_1 ++ t208) ++ t209) ++ t210) ++ t211) ++ t212) ++ t213) ++ t214).size + t215.size ≤ 9223372036854775807 then (flyleafref08_Header.l0 k1 ((((((((x3_1 ++ t208) ++ t209) ++ t210) ++ t211) ++ t212) ++ t213) ++ t214) ++ t215) (wrap64 (x4_1 + 1)) a0_0 a0_1 l0_2) else (none))) else (none))) else (none))) else (none))) else (none))) else (none))) else (none))) else (none)) = some r := H
                have A39 := Aside0.mk A390
                clear A390
                by_cases c40 : x3_1.size + t208.size ≤ 9223372036854775807
                ·rw [if_pos c40] at H
                 have c40b0 := eq_true c40
                 have c40b1 : decide (x3_1.size + t208.size ≤ 9223372036854775807) = true := decide_eq_true c40
                 try have c40b2 : (9223372036854775807 < x3_1.size + t208.size) = False := eq_false (Nat.not_lt.2 c40)
                 replace H := Option.bind_eq_some_iff.mp H
                 obtain ⟨t209, A410, H⟩ := H
                 replace H : (if (x3_1 ++ t208).size + t209.size ≤ 9223372036854775807 then ((flyleafref08_put.f k1 ((rd_T32 l0_2 x4_1).f2) 8).bind fun t210 => (if ((x3_1 ++ t208) ++ t209).size + t210.size ≤ 9223372036854775807 then ((flyleafref08_put.f k1 ((rd_T32 l0_2 x4_1).f3) 8).bind fun t211 => (if (((x3_1 ++ t208) ++ t209) ++ t210).size + t211.size ≤ 9223372036854775807 then ((flyleafref08_put.f k1 ((rd_T32 l0_2 x4_1).f3) 8).bind fun t212 => (if ((((x3_1 ++ t208) ++ t209) ++ t210) ++ t211).size + t212.size ≤ 9223372036854775807 then ((flyleafref08_put.f k1 ((rd_T32 l0_2 x4_1).f4) 8).bind fun t213 => (if (((((x3_1 ++ t208) ++ t209) ++ t210) ++ t211) ++ t212).size + t213.size ≤ 9223372036854775807 then ((flyleafref08_put.f k1 ((rd_T32 l0_2 x4_1).f5) 8).bind fun t214 => (if ((((((x3_1 ++ t208) ++ t209) ++ t210) ++ t211) ++ t212) ++ t213).size + t214.size ≤ 9223372036854775807 then ((flyleafref08_put.f k1 ((rd_T32 l0_2 x4_1).f6) 8).bind fun t215 => (if (((((((x3_1 ++ t208) ++ t209) ++ t210) ++ t211) ++ t212) ++ t213) ++ t214).size + t215.size ≤ 9223372036854775807 then (flyleafref08_Header.l0 k1 ((((((((x3_1 ++ t208) ++ t209) ++ t210) ++ t211) ++ t212) ++ t213) ++ t214) ++ t215) (wrap64 (x4_1 + 1)) a0_0 a0_1 l0_2) else (none))) else (none))) else (none))) else (none))) else (none))) else (none))) else (none)) = some r := H
                 have A41 := Aside0.mk A410
                 clear A410
                 by_cases c42 : (x3_1 ++ t208).size + t209.size ≤ 9223372036854775807
                 ·rw [if_pos c42] at H
                  have c42b0 := eq_true c42
                  have c42b1 : decide ((x3_1 ++ t208).size + t209.size ≤ 9223372036854775807) = true := decide_eq_true c42
                  try have c42b2 : (9223372036854775807 < (x3_1 ++ t208).size + t209.size) = False := eq_false (Nat.not_lt.2 c42)
                  try have c42n := c42b2
                  try simp only [ByteArray.size_append] at c42n
                  replace H := Option.bind_eq_some_iff.mp H
                  obtain ⟨t210, A430, H⟩ := H
                  replace H : (if ((x3_1 ++ t208) ++ t209).size + t210.size ≤ 9223372036854775807 then ((flyleafref08_put.f k1 ((rd_T32 l0_2 x4_1).f3) 8).bind fun t211 => (if (((x3_1 ++ t208) ++ t209) ++ t210).size + t211.size ≤ 9223372036854775807 then ((flyleafref08_put.f k1 ((rd_T32 l0_2 x4_1).f3) 8).bind fun t212 => (if ((((x3_1 ++ t208) ++ t209) ++ t210) ++ t211).size + t212.size ≤ 9223372036854775807 then ((flyleafref08_put.f k1 ((rd_T32 l0_2 x4_1).f4) 8).bind fun t213 => (if (((((x3_1 ++ t208) ++ t209) ++ t210) ++ t211) ++ t212).size + t213.size ≤ 9223372036854775807 then ((flyleafref08_put.f k1 ((rd_T32 l0_2 x4_1).f5) 8).bind fun t214 => (if ((((((x3_1 ++ t208) ++ t209) ++ t210) ++ t211) ++ t212) ++ t213).size + t214.size ≤ 9223372036854775807 then ((flyleafref08_put.f k1 ((rd_T32 l0_2 x4_1).f6) 8).bind fun t215 => (if (((((((x3_1 ++ t208) ++ t209) ++ t210) ++ t211) ++ t212) ++ t213) ++ t214).size + t215.size ≤ 9223372036854775807 then (flyleafref08_Header.l0 k1 ((((((((x3_1 ++ t208) ++ t209) ++ t210) ++ t211) ++ t212) ++ t213) ++ t214) ++ t215) (wrap64 (x4_1 + 1)) a0_0 a0_1 l0_2) else (none))) else (none))) else (none))) else (none))) else (none))) else (none)) = some r := H
                  have A43 := Aside0.mk A430
                  clear A430
                  by_cases c44 : ((x3_1 ++ t208) ++ t209).size + t210.size ≤ 9223372036854775807
                  ·rw [if_pos c44] at H
                   have c44b0 := eq_true c44
                   have c44b1 : decide (((x3_1 ++ t208) ++ t209).size + t210.size ≤ 9223372036854775807) = true := decide_eq_true c44
                   try have c44b2 : (9223372036854775807 < ((x3_1 ++ t208) ++ t209).size + t210.size) = False := eq_false (Nat.not_lt.2 c44)
                   try have c44n := c44b2
                   try simp only [ByteArray.size_append] at c44n
                   replace H := Option.bind_eq_some_iff.mp H
                   obtain ⟨t211, A450, H⟩ := H
                   replace H : (if (((x3_1 ++ t208) ++ t209) ++ t210).size + t211.size ≤ 9223372036854775807 then ((flyleafref08_put.f k1 ((rd_T32 l0_2 x4_1).f3) 8).bind fun t212 => (if ((((x3_1 ++ t208) ++ t209) ++ t210) ++ t211).size + t212.size ≤ 9223372036854775807 then ((flyleafref08_put.f k1 ((rd_T32 l0_2 x4_1).f4) 8).bind fun t213 => (if (((((x3_1 ++ t208) ++ t209) ++ t210) ++ t211) ++ t212).size + t213.size ≤ 9223372036854775807 then ((flyleafref08_put.f k1 ((rd_T32 l0_2 x4_1).f5) 8).bind fun t214 => (if ((((((x3_1 ++ t208) ++ t209) ++ t210) ++ t211) ++ t212) ++ t213).size + t214.size ≤ 9223372036854775807 then ((flyleafref08_put.f k1 ((rd_T32 l0_2 x4_1).f6) 8).bind fun t215 => (if (((((((x3_1 ++ t208) ++ t209) ++ t210) ++ t211) ++ t212) ++ t213) ++ t214).size + t215.size ≤ 9223372036854775807 then (flyleafref08_Header.l0 k1 ((((((((x3_1 ++ t208) ++ t209) ++ t210) ++ t211) ++ t212) ++ t213) ++ t214) ++ t215) (wrap64 (x4_1 + 1)) a0_0 a0_1 l0_2) else (none))) else (none))) else (none))) else (none))) else (none)) = some r := H
                   have A45 := Aside0.mk A450
                   clear A450
                   by_cases c46 : (((x3_1 ++ t208) ++ t209) ++ t210).size + t211.size ≤ 9223372036854775807
                   ·rw [if_pos c46] at H
                    have c46b0 := eq_true c46
                    have c46b1 : decide ((((x3_1 ++ t208) ++ t209) ++ t210).size + t211.size ≤ 9223372036854775807) = true := decide_eq_true c46
                    try have c46b2 : (9223372036854775807 < (((x3_1 ++ t208) ++ t209) ++ t210).size + t211.size) = False := eq_false (Nat.not_lt.2 c46)
                    try have c46n := c46b2
                    try simp only [ByteArray.size_append] at c46n
                    replace H := Option.bind_eq_some_iff.mp H
                    obtain ⟨t212, A470, H⟩ := H
                    replace H : (if ((((x3_1 ++ t208) ++ t209) ++ t210) ++ t211).size + t212.size ≤ 9223372036854775807 then ((flyleafref08_put.f k1 ((rd_T32 l0_2 x4_1).f4) 8).bind fun t213 => (if (((((x3_1 ++ t208) ++ t209) ++ t210) ++ t211) ++ t212).size + t213.size ≤ 9223372036854775807 then ((flyleafref08_put.f k1 ((rd_T32 l0_2 x4_1).f5) 8).bind fun t214 => (if ((((((x3_1 ++ t208) ++ t209) ++ t210) ++ t211) ++ t212) ++ t213).size + t214.size ≤ 9223372036854775807 then ((flyleafref08_put.f k1 ((rd_T32 l0_2 x4_1).f6) 8).bind fun t215 => (if (((((((x3_1 ++ t208) ++ t209) ++ t210) ++ t211) ++ t212) ++ t213) ++ t214).size + t215.size ≤ 9223372036854775807 then (flyleafref08_Header.l0 k1 ((((((((x3_1 ++ t208) ++ t209) ++ t210) ++ t211) ++ t212) ++ t213) ++ t214) ++ t215) (wrap64 (x4_1 + 1)) a0_0 a0_1 l0_2) else (none))) else (none))) else (none))) else (none)) = some r := H
                    have A47 := Aside0.mk A470
                    clear A470
                    by_cases c48 : ((((x3_1 ++ t208) ++ t209) ++ t210) ++ t211).size + t212.size ≤ 9223372036854775807
                    ·rw [if_pos c48] at H
                     have c48b0 := eq_true c48
                     have c48b1 : decide (((((x3_1 ++ t208) ++ t209) ++ t210) ++ t211).size + t212.size ≤ 9223372036854775807) = true := decide_eq_true c48
                     try have c48b2 : (9223372036854775807 < ((((x3_1 ++ t208) ++ t209) ++ t210) ++ t211).size + t212.size) = False := eq_false (Nat.not_lt.2 c48)
                     try have c48n := c48b2
                     try simp only [ByteArray.size_append] at c48n
                     replace H := Option.bind_eq_some_iff.mp H
                     obtain ⟨t213, A490, H⟩ := H
                     replace H : (if (((((x3_1 ++ t208) ++ t209) ++ t210) ++ t211) ++ t212).size + t213.size ≤ 9223372036854775807 then ((flyleafref08_put.f k1 ((rd_T32 l0_2 x4_1).f5) 8).bind fun t214 => (if ((((((x3_1 ++ t208) ++ t209) ++ t210) ++ t211) ++ t212) ++ t213).size + t214.size ≤ 9223372036854775807 then ((flyleafref08_put.f k1 ((rd_T32 l0_2 x4_1).f6) 8).bind fun t215 => (if (((((((x3_1 ++ t208) ++ t209) ++ t210) ++ t211) ++ t212) ++ t213) ++ t214).size + t215.size ≤ 9223372036854775807 then (flyleafref08_Header.l0 k1 ((((((((x3_1 ++ t208) ++ t209) ++ t210) ++ t211) ++ t212) ++ t213) ++ t214) ++ t215) (wrap64 (x4_1 + 1)) a0_0 a0_1 l0_2) else (none))) else (none))) else (none)) = some r := H
                     have A49 := Aside0.mk A490
                     clear A490
                     by_cases c50 : (((((x3_1 ++ t208) ++ t209) ++ t210) ++ t211) ++ t212).size + t213.size ≤ 9223372036854775807
                     ·rw [if_pos c50] at H
                      have c50b0 := eq_true c50
                      have c50b1 : decide ((((((x3_1 ++ t208) ++ t209) ++ t210) ++ t211) ++ t212).size + t213.size ≤ 9223372036854775807) = true := decide_eq_true c50
                      try have c50b2 : (9223372036854775807 < (((((x3_1 ++ t208) ++ t209) ++ t210) ++ t211) ++ t212).size + t213.size) = False := eq_false (Nat.not_lt.2 c50)
                      try have c50n := c50b2
                      try simp only [ByteArray.size_append] at c50n
                      replace H := Option.bind_eq_some_iff.mp H
                      obtain ⟨t214, A510, H⟩ := H
                      replace H : (if ((((((x3_1 ++ t208) ++ t209) ++ t210) ++ t211) ++ t212) ++ t213).size + t214.size ≤ 9223372036854775807 then ((flyleafref08_put.f k1 ((rd_T32 l0_2 x4_1).f6) 8).bind fun t215 => (if (((((((x3_1 ++ t208) ++ t209) ++ t210) ++ t211) ++ t212) ++ t213) ++ t214).size + t215.size ≤ 9223372036854775807 then (flyleafref08_Header.l0 k1 ((((((((x3_1 ++ t208) ++ t209) ++ t210) ++ t211) ++ t212) ++ t213) ++ t214) ++ t215) (wrap64 (x4_1 + 1)) a0_0 a0_1 l0_2) else (none))) else (none)) = some r := H
                      have A51 := Aside0.mk A510
                      clear A510
                      by_cases c52 : ((((((x3_1 ++ t208) ++ t209) ++ t210) ++ t211) ++ t212) ++ t213).size + t214.size ≤ 9223372036854775807
                      ·rw [if_pos c52] at H
                       have c52b0 := eq_true c52
                       have c52b1 : decide (((((((x3_1 ++ t208) ++ t209) ++ t210) ++ t211) ++ t212) ++ t213).size + t214.size ≤ 9223372036854775807) = true := decide_eq_true c52
                       try have c52b2 : (9223372036854775807 < ((((((x3_1 ++ t208) ++ t209) ++ t210) ++ t211) ++ t212) ++ t213).size + t214.size) = False := eq_false (Nat.not_lt.2 c52)
                       try have c52n := c52b2
                       try simp only [ByteArray.size_append] at c52n
                       replace H := Option.bind_eq_some_iff.mp H
                       obtain ⟨t215, A530, H⟩ := H
                       replace H : (if (((((((x3_1 ++ t208) ++ t209) ++ t210) ++ t211) ++ t212) ++ t213) ++ t214).size + t215.size ≤ 9223372036854775807 then (flyleafref08_Header.l0 k1 ((((((((x3_1 ++ t208) ++ t209) ++ t210) ++ t211) ++ t212) ++ t213) ++ t214) ++ t215) (wrap64 (x4_1 + 1)) a0_0 a0_1 l0_2) else (none)) = some r := H
                       have A53 := Aside0.mk A530
                       clear A530
                       by_cases c54 : (((((((x3_1 ++ t208) ++ t209) ++ t210) ++ t211) ++ t212) ++ t213) ++ t214).size + t215.size ≤ 9223372036854775807
                       ·rw [if_pos c54] at H
                        have c54b0 := eq_true c54
                        have c54b1 : decide ((((((((x3_1 ++ t208) ++ t209) ++ t210) ++ t211) ++ t212) ++ t213) ++ t214).size + t215.size ≤ 9223372036854775807) = true := decide_eq_true c54
                        try have c54b2 : (9223372036854775807 < (((((((x3_1 ++ t208) ++ t209) ++ t210) ++ t211) ++ t212) ++ t213) ++ t214).size + t215.size) = False := eq_false (Nat.not_lt.2 c54)
                        try have c54n := c54b2
                        try simp only [ByteArray.size_append] at c54n
                        have H' := Aside0.mk H
                        clear H
                        have hcz55_0 : wr.cell? ⟨gb194, 0, none⟩ = some (.int .i64 a0_0) := (d618 BK194.out 0).trans rfl
                        have hcz55_1 : wr.cell? ⟨gb194, 1, none⟩ = some (.int .i64 a0_1) := (d618 BK194.out 1).trans rfl
                        have hcz55_2 : wr.cell? ⟨gb194, 2, none⟩ = some (.slice A0_2 l0_2.length c0_2) := (d618 BK194.out 2).trans rfl
                        have hfz55_0 := d718 BK194.out 0
                        have hfz55_1 := d718 BK194.out 1
                        have hfz55_2 := d718 BK194.out 2
                        have p206 : 0 ≤ (x4_1 : Int) := of_decide_eq_true (by first | (with_reducible assumption) | assumption)
                        have q206 : x4_1 < (l0_2.length : Int) := of_decide_eq_true (by first | (with_reducible assumption) | assumption)
                        obtain ⟨ad206, e206, hx206_0, hx206_1, hx206_2, hx206_3, hx206_4, hx206_5, hx206_6⟩ := at_T32 HR0_2.out x4_1 p206 q206
                        cases e206
                        replace hx206_0 := (HB.out.cell (World.block_lt_of_cell? w _ hx206_0)).trans hx206_0
                        replace hx206_1 := (HB.out.cell (World.block_lt_of_cell? w _ hx206_1)).trans hx206_1
                        replace hx206_2 := (HB.out.cell (World.block_lt_of_cell? w _ hx206_2)).trans hx206_2
                        replace hx206_3 := (HB.out.cell (World.block_lt_of_cell? w _ hx206_3)).trans hx206_3
                        replace hx206_4 := (HB.out.cell (World.block_lt_of_cell? w _ hx206_4)).trans hx206_4
                        replace hx206_5 := (HB.out.cell (World.block_lt_of_cell? w _ hx206_5)).trans hx206_5
                        replace hx206_6 := (HB.out.cell (World.block_lt_of_cell? w _ hx206_6)).trans hx206_6
                        replace p206 := eq_true p206
                        replace q206 := eq_true q206
                        try go_wp2_with (first | ((with_reducible refine gate_dst (N := 5) rfl ?_); refine box_event ?hg (N := 5) ?hd (cs := #[.int .i64 0, .int .i64 0, .int .i64 0, .int .i64 0, .int .i64 0, .int .i64 0, .int .i64 0]) (t := 32) ?hr ?_; (case hd => rfl); (case hg => rfl); (case hr => first | (go_simp; done) | (go_simp; rfl)); intro gb207 hg w56 hbox hb; have n0_ := mk0_18 (blk_below (g := gb194) (o := .cells #[.int .i64 a0_0, .int .i64 a0_1, .slice (some ad206) l0_2.length c0_2] 28 (0, 0)) (by (with_reducible repeat (first | refine d118 ?_ _ | refine d218 ?_ | refine d318 ?_ _)); exact BK194.out) hb); have n1_ := mk0_18 (below_step (by repeat (first | (with_reducible first | exact HB.out | apply below_alloc | apply pw_below_drewN | apply below_drew1 | refine d418 ?_ GE194.out) | exact HB.out)) hb); have n2_ := mk0_18 (hbox); have n3_ := mk0_18 ((by rw [hg]; exact (below_size (by repeat (first | (with_reducible first | exact HB.out | apply below_alloc | apply pw_below_drewN | apply below_drew1 | refine d418 ?_ GE194.out) | exact HB.out))) : w.heap.size ≤ gb207)); have n4_ := mk0_18 ((by rw [hg]; exact (below_size (by repeat (first | (with_reducible first | exact HB.out | apply below_alloc | apply pw_below_drewN | apply below_drew1 | refine d418 ?_ GE194.out) | exact HB.out))) : w.heap.size ≤ gb207)); have n5_ := mk0_18 ((by rw [hg]; exact Nat.ne_of_lt (blk_lt (g := gb194) (o := .cells #[.int .i64 a0_0, .int .i64 a0_1, .slice (some ad206) l0_2.length c0_2] 28 (0, 0)) (by (with_reducible repeat (first | refine d118 ?_ _ | refine d218 ?_ | refine d318 ?_ _)); exact BK194.out)) : gb194 ≠ gb207)); have n6_ := mk0_18 ((by rw [hg]; exact Nat.ne_of_gt (blk_lt (g := gb194) (o := .cells #[.int .i64 a0_0, .int .i64 a0_1, .slice (some ad206) l0_2.length c0_2] 28 (0, 0)) (by (with_reducible repeat (first | refine d118 ?_ _ | refine d218 ?_ | refine d318 ?_ _)); exact BK194.out)) : gb207 ≠ gb194)); clear BK194; clear HB; have BK194 := n0_; have HB := n1_; have BK207 := n2_; have GW207 := n3_; have GE207 := n4_; have NB194_207 := n5_; have NB207_194 := n6_; clear n0_ n1_ n2_ n3_ n4_ n5_ n6_; clear hb hbox hg; have hnb57 := NB207_194.out; have hnc57 := NB194_207.out; have hcz58_0 : w56.cell? ⟨gb207, 0, none⟩ = some (.int .i64 0) := (d618 BK207.out 0).trans rfl; have hcz58_1 : w56.cell? ⟨gb207, 1, none⟩ = some (.int .i64 0) := (d618 BK207.out 1).trans rfl; have hcz58_2 : w56.cell? ⟨gb207, 2, none⟩ = some (.int .i64 0) := (d618 BK207.out 2).trans rfl; have hcz58_3 : w56.cell? ⟨gb207, 3, none⟩ = some (.int .i64 0) := (d618 BK207.out 3).trans rfl; have hcz58_4 : w56.cell? ⟨gb207, 4, none⟩ = some (.int .i64 0) := (d618 BK207.out 4).trans rfl; have hcz58_5 : w56.cell? ⟨gb207, 5, none⟩ = some (.int .i64 0) := (d618 BK207.out 5).trans rfl; have hcz58_6 : w56.cell? ⟨gb207, 6, none⟩ = some (.int .i64 0) := (d618 BK207.out 6).trans rfl; have hfz58_0 := d718 BK207.out 0; have hfz58_1 := d718 BK207.out 1; have hfz58_2 := d718 BK207.out 2; have hfz58_3 := d718 BK207.out 3; have hfz58_4 := d718 BK207.out 4; have hfz58_5 := d718 BK207.out 5; have hfz58_6 := d718 BK207.out 6))
                        have n0_ : Aside0 ((((((((w56.setCell ⟨gb207, 0, none⟩ (.int .i64 ((rd_T32 l0_2 x4_1).f0))).setCell ⟨gb207, 1, none⟩ (.int .i64 ((rd_T32 l0_2 x4_1).f1))).setCell ⟨gb207, 2, none⟩ (.int .i64 ((rd_T32 l0_2 x4_1).f2))).setCell ⟨gb207, 3, none⟩ (.int .i64 ((rd_T32 l0_2 x4_1).f3))).setCell ⟨gb207, 4, none⟩ (.int .i64 ((rd_T32 l0_2 x4_1).f4))).setCell ⟨gb207, 5, none⟩ (.int .i64 ((rd_T32 l0_2 x4_1).f5))).setCell ⟨gb207, 6, none⟩ (.int .i64 ((rd_T32 l0_2 x4_1).f6))).heap[gb194]? = some (.cells #[.int .i64 a0_0, .int .i64 a0_1, .slice (some ad206) l0_2.length c0_2] 28 (0, 0))) := ⟨by (with_reducible repeat (first | refine d118 ?_ _ | refine d218 ?_ | refine d318 ?_ _)); refine d518 ?_ NB194_207.out _; (with_reducible repeat (first | refine d118 ?_ _ | refine d218 ?_ | refine d318 ?_ _)); refine d518 ?_ NB194_207.out _; (with_reducible repeat (first | refine d118 ?_ _ | refine d218 ?_ | refine d318 ?_ _)); refine d518 ?_ NB194_207.out _; (with_reducible repeat (first | refine d118 ?_ _ | refine d218 ?_ | refine d318 ?_ _)); refine d518 ?_ NB194_207.out _; (with_reducible repeat (first | refine d118 ?_ _ | refine d218 ?_ | refine d318 ?_ _)); refine d518 ?_ NB194_207.out _; (with_reducible repeat (first | refine d118 ?_ _ | refine d218 ?_ | refine d318 ?_ _)); refine d518 ?_ NB194_207.out _; (with_reducible repeat (first | refine d118 ?_ _ | refine d218 ?_ | refine d318 ?_ _)); refine d518 ?_ NB194_207.out _; (with_reducible repeat (first | refine d118 ?_ _ | refine d218 ?_ | refine d318 ?_ _)); exact BK194.out⟩
                        have n1_ : Aside0 ((((((((w56.setCell ⟨gb207, 0, none⟩ (.int .i64 ((rd_T32 l0_2 x4_1).f0))).setCell ⟨gb207, 1, none⟩ (.int .i64 ((rd_T32 l0_2 x4_1).f1))).setCell ⟨gb207, 2, none⟩ (.int .i64 ((rd_T32 l0_2 x4_1).f2))).setCell ⟨gb207, 3, none⟩ (.int .i64 ((rd_T32 l0_2 x4_1).f3))).setCell ⟨gb207, 4, none⟩ (.int .i64 ((rd_T32 l0_2 x4_1).f4))).setCell ⟨gb207, 5, none⟩ (.int .i64 ((rd_T32 l0_2 x4_1).f5))).setCell ⟨gb207, 6, none⟩ (.int .i64 ((rd_T32 l0_2 x4_1).f6))).heap[gb207]? = some (.cells #[.int .i64 ((rd_T32 l0_2 x4_1).f0), .int .i64 ((rd_T32 l0_2 x4_1).f1), .int .i64 ((rd_T32 l0_2 x4_1).f2), .int .i64 ((rd_T32 l0_2 x4_1).f3), .int .i64 ((rd_T32 l0_2 x4_1).f4), .int .i64 ((rd_T32 l0_2 x4_1).f5), .int .i64 ((rd_T32 l0_2 x4_1).f6)] 32 (0, 0))) := ⟨by (with_reducible repeat (first | refine d118 ?_ _ | refine d218 ?_ | refine d318 ?_ _)); refine blk_put (cs := #[.int .i64 ((rd_T32 l0_2 x4_1).f0), .int .i64 ((rd_T32 l0_2 x4_1).f1), .int .i64 ((rd_T32 l0_2 x4_1).f2), .int .i64 ((rd_T32 l0_2 x4_1).f3), .int .i64 ((rd_T32 l0_2 x4_1).f4), .int .i64 ((rd_T32 l0_2 x4_1).f5), .int .i64 0]) ?_ 6 _ rfl; (with_reducible repeat (first | refine d118 ?_ _ | refine d218 ?_ | refine d318 ?_ _)); refine blk_put (cs := #[.int .i64 ((rd_T32 l0_2 x4_1).f0), .int .i64 ((rd_T32 l0_2 x4_1).f1), .int .i64 ((rd_T32 l0_2 x4_1).f2), .int .i64 ((rd_T32 l0_2 x4_1).f3), .int .i64 ((rd_T32 l0_2 x4_1).f4), .int .i64 0, .int .i64 0]) ?_ 5 _ rfl; (with_reducible repeat (first | refine d118 ?_ _ | refine d218 ?_ | refine d318 ?_ _)); refine blk_put (cs := #[.int .i64 ((rd_T32 l0_2 x4_1).f0), .int .i64 ((rd_T32 l0_2 x4_1).f1), .int .i64 ((rd_T32 l0_2 x4_1).f2), .int .i64 ((rd_T32 l0_2 x4_1).f3), .int .i64 0, .int .i64 0, .int .i64 0]) ?_ 4 _ rfl; (with_reducible repeat (first | refine d118 ?_ _ | refine d218 ?_ | refine d318 ?_ _)); refine blk_put (cs := #[.int .i64 ((rd_T32 l0_2 x4_1).f0), .int .i64 ((rd_T32 l0_2 x4_1).f1), .int .i64 ((rd_T32 l0_2 x4_1).f2), .int .i64 0, .int .i64 0, .int .i64 0, .int .i64 0]) ?_ 3 _ rfl; (with_reducible repeat (first | refine d118 ?_ _ | refine d218 ?_ | refine d318 ?_ _)); refine blk_put (cs := #[.int .i64 ((rd_T32 l0_2 x4_1).f0), .int .i64 ((rd_T32 l0_2 x4_1).f1), .int .i64 0, .int .i64 0, .int .i64 0, .int .i64 0, .int .i64 0]) ?_ 2 _ rfl; (with_reducible repeat (first | refine d118 ?_ _ | refine d218 ?_ | refine d318 ?_ _)); refine blk_put (cs := #[.int .i64 ((rd_T32 l0_2 x4_1).f0), .int .i64 0, .int .i64 0, .int .i64 0, .int .i64 0, .int .i64 0, .int .i64 0]) ?_ 1 _ rfl; (with_reducible repeat (first | refine d118 ?_ _ | refine d218 ?_ | refine d318 ?_ _)); refine blk_put (cs := #[.int .i64 0, .int .i64 0, .int .i64 0, .int .i64 0, .int .i64 0, .int .i64 0, .int .i64 0]) ?_ 0 _ rfl; (with_reducible repeat (first | refine d118 ?_ _ | refine d218 ?_ | refine d318 ?_ _)); exact BK207.out⟩
                        have n2_ : Aside0 (Below w.heap.size w (((((((w56.setCell ⟨gb207, 0, none⟩ (.int .i64 ((rd_T32 l0_2 x4_1).f0))).setCell ⟨gb207, 1, none⟩ (.int .i64 ((rd_T32 l0_2 x4_1).f1))).setCell ⟨gb207, 2, none⟩ (.int .i64 ((rd_T32 l0_2 x4_1).f2))).setCell ⟨gb207, 3, none⟩ (.int .i64 ((rd_T32 l0_2 x4_1).f3))).setCell ⟨gb207, 4, none⟩ (.int .i64 ((rd_T32 l0_2 x4_1).f4))).setCell ⟨gb207, 5, none⟩ (.int .i64 ((rd_T32 l0_2 x4_1).f5))).setCell ⟨gb207, 6, none⟩ (.int .i64 ((rd_T32 l0_2 x4_1).f6)))) := ⟨by repeat (first | (with_reducible first | exact HB.out | apply below_alloc | apply pw_below_drewN | apply below_drew1 | refine d418 ?_ GE194.out | refine d418 ?_ GE207.out) | exact HB.out)⟩
                        (try clear BK194)
                        (try clear BK207)
                        (try clear HB)
                        generalize (((((((w56.setCell ⟨gb207, 0, none⟩ (.int .i64 ((rd_T32 l0_2 x4_1).f0))).setCell ⟨gb207, 1, none⟩ (.int .i64 ((rd_T32 l0_2 x4_1).f1))).setCell ⟨gb207, 2, none⟩ (.int .i64 ((rd_T32 l0_2 x4_1).f2))).setCell ⟨gb207, 3, none⟩ (.int .i64 ((rd_T32 l0_2 x4_1).f3))).setCell ⟨gb207, 4, none⟩ (.int .i64 ((rd_T32 l0_2 x4_1).f4))).setCell ⟨gb207, 5, none⟩ (.int .i64 ((rd_T32 l0_2 x4_1).f5))).setCell ⟨gb207, 6, none⟩ (.int .i64 ((rd_T32 l0_2 x4_1).f6))) = w59 at n0_ n1_ n2_ ⊢
                        have BK194 := n0_
                        have BK207 := n1_
                        have HB := n2_
                        clear n0_ n1_ n2_
                        have n0_ := mk0_18 (d218 BK194.out)
                        have n1_ := mk0_18 (d218 BK207.out)
                        have n2_ := mk0_18 (below_drew1 HB.out)
                        clear BK194
                        clear BK207
                        clear HB
                        have BK194 := n0_
                        have BK207 := n1_
                        have HB := n2_
                        clear n0_ n1_ n2_
                        refine start_ (n := 34) (S := fun w' => w'.cell? ⟨gb207, 0, none⟩ = some (.int .i64 ((rd_T32 l0_2 x4_1).f0)) ∧ w'.cell? ⟨gb207, 1, none⟩ = some (.int .i64 ((rd_T32 l0_2 x4_1).f1)) ∧ w'.cell? ⟨gb207, 2, none⟩ = some (.int .i64 ((rd_T32 l0_2 x4_1).f2)) ∧ w'.cell? ⟨gb207, 3, none⟩ = some (.int .i64 ((rd_T32 l0_2 x4_1).f3)) ∧ w'.cell? ⟨gb207, 4, none⟩ = some (.int .i64 ((rd_T32 l0_2 x4_1).f4)) ∧ w'.cell? ⟨gb207, 5, none⟩ = some (.int .i64 ((rd_T32 l0_2 x4_1).f5)) ∧ w'.cell? ⟨gb207, 6, none⟩ = some (.int .i64 ((rd_T32 l0_2 x4_1).f6))) (ds := []) #[false, false, false, false, false, false, false, false, false, false, false, false, false, false, false, false, false, false, false, false, false, false, false, false, false, false, false, false, false, false, false, false, false, false] (by kernel_rfl) rfl rfl ⟨(d618 BK207.out 0).trans rfl, (d618 BK207.out 1).trans rfl, (d618 BK207.out 2).trans rfl, (d618 BK207.out 3).trans rfl, (d618 BK207.out 4).trans rfl, (d618 BK207.out 5).trans rfl, (d618 BK207.out 6).trans rfl⟩ (fun hHeld => ?_); refine with_tabW flyleafref08_Header.tab6 flyleafref08_Header.bits6 (fun HT_ HW_ => ?_)
                        generalize w59.drew = w60 at BK194 BK207 HB hHeld ⊢
                        refine pure_ (i := 0) (N := some 47) (v := ?_) (a' := ?_) #[true, false, false, false, false, false, false, false, false, false, false, false, false, false, false, false, false, false, false, false, false, false, false, false, false, false, false, false, false, false, false, false, false, false] rfl rfl (any_of HT_.out (by kernel_rfl)) (fun _ _ _ h => h) (Or.inl ⟨by rfl, ?_⟩) ?_ ?_
                        rotate_left
                        ·intro w'
                         go_simp
                         with_reducible rfl
                        rotate_left
                        ·simp only [Act.put, List.setIfInBounds_toArray, List.set_cons_zero, List.set_cons_succ, i64_w, i32_w]
                         rfl
                        refine pure_ (i := 1) (N := some 48) (v := ?_) (a' := ?_) #[true, true, false, false, false, false, false, false, false, false, false, false, false, false, false, false, false, false, false, false, false, false, false, false, false, false, false, false, false, false, false, false, false, false] rfl rfl (any_of HT_.out (by kernel_rfl)) (fun _ _ _ h => h) (Or.inl ⟨by rfl, ?_⟩) ?_ ?_
                        rotate_left
                        ·intro w'
                         go_simp
                         with_reducible rfl
                        rotate_left
                        ·simp only [Act.put, List.setIfInBounds_toArray, List.set_cons_zero, List.set_cons_succ, i64_w, i32_w]
                         rfl
                        refine pure_ (i := 5) (N := some 52) (v := ?_) (a' := ?_) #[true, true, false, false, false, true, false, false, false, false, false, false, false, false, false, false, false, false, false, false, false, false, false, false, false, false, false, false, false, false, false, false, false, false] rfl rfl (any_of HT_.out (by kernel_rfl)) (fun _ _ _ h => h) (Or.inl ⟨by rfl, ?_⟩) ?_ ?_
                        rotate_left
                        ·intro w'
                         go_simp
                         with_reducible rfl
                        rotate_left
                        ·simp only [Act.put, List.setIfInBounds_toArray, List.set_cons_zero, List.set_cons_succ, i64_w, i32_w]
                         rfl
                        refine pure_ (i := 9) (N := some 56) (v := ?_) (a' := ?_) #[true, true, false, false, false, true, false, false, false, true, false, false, false, false, false, false, false, false, false, false, false, false, false, false, false, false, false, false, false, false, false, false, false, false] rfl rfl (any_of HT_.out (by kernel_rfl)) (fun _ _ _ h => h) (Or.inl ⟨by rfl, ?_⟩) ?_ ?_
                        rotate_left
                        ·intro w'
                         go_simp
                         with_reducible rfl
                        rotate_left
                        ·simp only [Act.put, List.setIfInBounds_toArray, List.set_cons_zero, List.set_cons_succ, i64_w, i32_w]
                         rfl
                        refine pure_ (i := 13) (N := some 60) (v := ?_) (a' := ?_) #[true, true, false, false, false, true, false, false, false, true, false, false, false, true, false, false, false, false, false, false, false, false, false, false, false, false, false, false, false, false, false, false, false, false] rfl rfl (any_of HT_.out (by kernel_rfl)) (fun _ _ _ h => h) (Or.inl ⟨by rfl, ?_⟩) ?_ ?_
                        rotate_left
                        ·intro w'
                         go_simp
                         with_reducible rfl
                        rotate_left
                        ·simp only [Act.put, List.setIfInBounds_toArray, List.set_cons_zero, List.set_cons_succ, i64_w, i32_w]
                         rfl
                        refine pure_ (i := 17) (N := some 64) (v := ?_) (a' := ?_) #[true, true, false, false, false, true, false, false, false, true, false, false, false, true, false, false, false, true, false, false, false, false, false, false, false, false, false, false, false, false, false, false, false, false] rfl rfl (any_of HT_.out (by kernel_rfl)) (fun _ _ _ h => h) (Or.inl ⟨by rfl, ?_⟩) ?_ ?_
                        rotate_left
                        ·intro w'
                         go_simp
                         with_reducible rfl
                        rotate_left
                        ·simp only [Act.put, List.setIfInBounds_toArray, List.set_cons_zero, List.set_cons_succ, i64_w, i32_w]
                         rfl
                        refine pure_ (i := 21) (N := some 68) (v := ?_) (a' := ?_) #[true, true, false, false, false, true, false, false, false, true, false, false, false, true, false, false, false, true, false, false, false, true, false, false, false, false, false, false, false, false, false, false, false, false] rfl rfl (any_of HT_.out (by kernel_rfl)) (fun _ _ _ h => h) (Or.inl ⟨by rfl, ?_⟩) ?_ ?_
                        rotate_left
                        ·intro w'
                         go_simp
                         with_reducible rfl
                        rotate_left
                        ·simp only [Act.put, List.setIfInBounds_toArray, List.set_cons_zero, List.set_cons_succ, i64_w, i32_w]
                         rfl
                        refine pure_ (i := 25) (N := some 72) (v := ?_) (a' := ?_) #[true, true, false, false, false, true, false, false, false, true, false, false, false, true, false, false, false, true, false, false, false, true, false, false, false, true, false, false, false, false, false, false, false, false] rfl rfl (any_of HT_.out (by kernel_rfl)) (fun _ _ _ h => h) (Or.inl ⟨by rfl, ?_⟩) ?_ ?_
                        rotate_left
                        ·intro w'
                         go_simp
                         with_reducible rfl
                        rotate_left
                        ·simp only [Act.put, List.setIfInBounds_toArray, List.set_cons_zero, List.set_cons_succ, i64_w, i32_w]
                         rfl
                        refine pure_ (i := 29) (N := some 76) (v := ?_) (a' := ?_) #[true, true, false, false, false, true, false, false, false, true, false, false, false, true, false, false, false, true, false, false, false, true, false, false, false, true, false, false, false, true, false, false, false, false] rfl rfl (any_of HT_.out (by kernel_rfl)) (fun _ _ _ h => h) (Or.inl ⟨by rfl, ?_⟩) ?_ ?_
                        rotate_left
                        ·intro w'
                         go_simp
                         with_reducible rfl
                        rotate_left
                        ·simp only [Act.put, List.setIfInBounds_toArray, List.set_cons_zero, List.set_cons_succ, i64_w, i32_w]
                         rfl
                        refine take_ (i := 2) (N := some 49) (v := ?_) (a' := ?_) #[true, true, true, false, false, true, false, false, false, true, false, false, false, true, false, false, false, true, false, false, false, true, false, false, false, true, false, false, false, true, false, false, false, false] rfl rfl (take_ofW HT_.out HW_.out (by kernel_rfl)) (fun _ _ _ h => h) (Or.inl ⟨by rfl, ?_⟩) hHeld ?_ ?_
                        rotate_left
                        ·rintro w' ⟨s0, s1, s2, s3, s4, s5, s6⟩
                         go_simp
                         with_reducible rfl
                        rotate_left
                        ·simp only [Act.put, List.setIfInBounds_toArray, List.set_cons_zero, List.set_cons_succ, i64_w, i32_w]
                         rfl
                        refine take_ (i := 6) (N := some 53) (v := ?_) (a' := ?_) #[true, true, true, false, false, true, true, false, false, true, false, false, false, true, false, false, false, true, false, false, false, true, false, false, false, true, false, false, false, true, false, false, false, false] rfl rfl (take_ofW HT_.out HW_.out (by kernel_rfl)) (fun _ _ _ h => h) (Or.inl ⟨by rfl, ?_⟩) hHeld ?_ ?_
                        rotate_left
                        ·rintro w' ⟨s0, s1, s2, s3, s4, s5, s6⟩
                         go_simp
                         with_reducible rfl
                        rotate_left
                        ·simp only [Act.put, List.setIfInBounds_toArray, List.set_cons_zero, List.set_cons_succ, i64_w, i32_w]
                         rfl
                        refine take_ (i := 10) (N := some 57) (v := ?_) (a' := ?_) #[true, true, true, false, false, true, true, false, false, true, true, false, false, true, false, false, false, true, false, false, false, true, false, false, false, true, false, false, false, true, false, false, false, false] rfl rfl (take_ofW HT_.out HW_.out (by kernel_rfl)) (fun _ _ _ h => h) (Or.inl ⟨by rfl, ?_⟩) hHeld ?_ ?_
                        rotate_left
                        ·rintro w' ⟨s0, s1, s2, s3, s4, s5, s6⟩
                         go_simp
                         with_reducible rfl
                        rotate_left
                        ·simp only [Act.put, List.setIfInBounds_toArray, List.set_cons_zero, List.set_cons_succ, i64_w, i32_w]
                         rfl
                        refine take_ (i := 14) (N := some 61) (v := ?_) (a' := ?_) #[true, true, true, false, false, true, true, false, false, true, true, false, false, true, true, false, false, true, false, false, false, true, false, false, false, true, false, false, false, true, false, false, false, false] rfl rfl (take_ofW HT_.out HW_.out (by kernel_rfl)) (fun _ _ _ h => h) (Or.inl ⟨by rfl, ?_⟩) hHeld ?_ ?_
                        rotate_left
                        ·rintro w' ⟨s0, s1, s2, s3, s4, s5, s6⟩
                         go_simp
                         with_reducible rfl
                        rotate_left
                        ·simp only [Act.put, List.setIfInBounds_toArray, List.set_cons_zero, List.set_cons_succ, i64_w, i32_w]
                         rfl
                        refine take_ (i := 18) (N := some 65) (v := ?_) (a' := ?_) #[true, true, true, false, false, true, true, false, false, true, true, false, false, true, true, false, false, true, true, false, false, true, false, false, false, true, false, false, false, true, false, false, false, false] rfl rfl (take_ofW HT_.out HW_.out (by kernel_rfl)) (fun _ _ _ h => h) (Or.inl ⟨by rfl, ?_⟩) hHeld ?_ ?_
                        rotate_left
                        ·rintro w' ⟨s0, s1, s2, s3, s4, s5, s6⟩
                         go_simp
                         with_reducible rfl
                        rotate_left
                        ·simp only [Act.put, List.setIfInBounds_toArray, List.set_cons_zero, List.set_cons_succ, i64_w, i32_w]
                         rfl
                        refine take_ (i := 22) (N := some 69) (v := ?_) (a' := ?_) #[true, true, true, false, false, true, true, false, false, true, true, false, false, true, true, false, false, true, true, false, false, true, true, false, false, true, false, false, false, true, false, false, false, false] rfl rfl (take_ofW HT_.out HW_.out (by kernel_rfl)) (fun _ _ _ h => h) (Or.inl ⟨by rfl, ?_⟩) hHeld ?_ ?_
                        rotate_left
                        ·rintro w' ⟨s0, s1, s2, s3, s4, s5, s6⟩
                         go_simp
                         with_reducible rfl
                        rotate_left
                        ·simp only [Act.put, List.setIfInBounds_toArray, List.set_cons_zero, List.set_cons_succ, i64_w, i32_w]
                         rfl
                        refine take_ (i := 26) (N := some 73) (v := ?_) (a' := ?_) #[true, true, true, false, false, true, true, false, false, true, true, false, false, true, true, false, false, true, true, false, false, true, true, false, false, true, true, false, false, true, false, false, false, false] rfl rfl (take_ofW HT_.out HW_.out (by kernel_rfl)) (fun _ _ _ h => h) (Or.inl ⟨by rfl, ?_⟩) hHeld ?_ ?_
                        rotate_left
                        ·rintro w' ⟨s0, s1, s2, s3, s4, s5, s6⟩
                         go_simp
                         with_reducible rfl
                        rotate_left
                        ·simp only [Act.put, List.setIfInBounds_toArray, List.set_cons_zero, List.set_cons_succ, i64_w, i32_w]
                         rfl
                        refine take_ (i := 30) (N := some 77) (v := ?_) (a' := ?_) #[true, true, true, false, false, true, true, false, false, true, true, false, false, true, true, false, false, true, true, false, false, true, true, false, false, true, true, false, false, true, true, false, false, false] rfl rfl (take_ofW HT_.out HW_.out (by kernel_rfl)) (fun _ _ _ h => h) (Or.inl ⟨by rfl, ?_⟩) hHeld ?_ ?_
                        rotate_left
                        ·rintro w' ⟨s0, s1, s2, s3, s4, s5, s6⟩
                         go_simp
                         with_reducible rfl
                        rotate_left
                        ·simp only [Act.put, List.setIfInBounds_toArray, List.set_cons_zero, List.set_cons_succ, i64_w, i32_w]
                         rfl
                        refine one_ (i := 3) (N := some 50) #[true, true, true, true, false, true, true, false, false, true, true, false, false, true, true, false, false, true, true, false, false, true, true, false, false, true, true, false, false, true, true, false, false, false] rfl rfl (one_of HT_.out (by kernel_rfl)) (by decide) (fun K hK => ?_)
                        refine goes_ Try.func37 (by kernel_rfl) rfl #[.int .i64 ((rd_T32 l0_2 x4_1).f0), .int .i64 4] (by rfl) rfl rfl (by (try simp only [List.map_toArray, List.map_cons, List.map_nil]); first | done | rfl | (simp only [List.length_drop, List.length_take]; rfl)) ?_
                        with_reducible refine (flyleafref08_put.calls k1 ((rd_T32 l0_2 x4_1).f0) 4 t208 _ A39.out).mono ?_
                        rintro e w61 ⟨rfl, hb⟩
                        refine ⟨_, rfl, ?_⟩
                        have n0_ := mk0_18 (blk_below (g := gb194) (o := .cells #[.int .i64 a0_0, .int .i64 a0_1, .slice (some ad206) l0_2.length c0_2] 28 (0, 0)) (by (with_reducible repeat (first | refine d118 ?_ _ | refine d218 ?_ | refine d318 ?_ _)); exact BK194.out) hb)
                        have n1_ := mk0_18 (blk_below (g := gb207) (o := .cells #[.int .i64 ((rd_T32 l0_2 x4_1).f0), .int .i64 ((rd_T32 l0_2 x4_1).f1), .int .i64 ((rd_T32 l0_2 x4_1).f2), .int .i64 ((rd_T32 l0_2 x4_1).f3), .int .i64 ((rd_T32 l0_2 x4_1).f4), .int .i64 ((rd_T32 l0_2 x4_1).f5), .int .i64 ((rd_T32 l0_2 x4_1).f6)] 32 (0, 0)) (by (with_reducible repeat (first | refine d118 ?_ _ | refine d218 ?_ | refine d318 ?_ _)); exact BK207.out) hb)
                        have n2_ := mk0_18 (below_step (by repeat (first | (with_reducible first | exact HB.out | apply below_alloc | apply pw_below_drewN | apply below_drew1 | refine d418 ?_ GE194.out | refine d418 ?_ GE207.out) | exact HB.out)) hb)
                        clear BK194
                        clear BK207
                        clear HB
                        have BK194 := n0_
                        have BK207 := n1_
                        have HB := n2_
                        clear n0_ n1_ n2_
                        (try clear hb)
                        (try clear hb2)
                        (try clear hk)
                        (try clear hi)
                        refine hK.out _ _ ⟨(d618 BK207.out 0).trans rfl, (d618 BK207.out 1).trans rfl, (d618 BK207.out 2).trans rfl, (d618 BK207.out 3).trans rfl, (d618 BK207.out 4).trans rfl, (d618 BK207.out 5).trans rfl, (d618 BK207.out 6).trans rfl⟩ (fun hHeld => ?_)
                        clear hK K
                        refine norm_ (a' := ?_) ?_ ?_
                        rotate_left
                        ·show Act.put _ (some 50) _ = _
                         simp only [Act.put, List.setIfInBounds_toArray, List.set_cons_zero, List.set_cons_succ, i64_w, i32_w]
                         rfl
                        refine pure_ (i := 4) (N := some 51) (v := ?_) (a' := ?_) #[true, true, true, true, true, true, true, false, false, true, true, false, false, true, true, false, false, true, true, false, false, true, true, false, false, true, true, false, false, true, true, false, false, false] rfl rfl (any_of HT_.out (by kernel_rfl)) (fun _ _ _ h => h) (Or.inl ⟨by rfl, ?_⟩) ?_ ?_
                        rotate_left
                        ·intro w'
                         go_simp
                         with_reducible rfl
                        rotate_left
                        ·simp only [Act.put, List.setIfInBounds_toArray, List.set_cons_zero, List.set_cons_succ, i64_w, i32_w]
                         rfl
                        refine one_ (i := 7) (N := some 54) #[true, true, true, true, true, true, true, true, false, true, true, false, false, true, true, false, false, true, true, false, false, true, true, false, false, true, true, false, false, true, true, false, false, false] rfl rfl (one_of HT_.out (by kernel_rfl)) (by decide) (fun K hK => ?_)
                        refine goes_ Try.func37 (by kernel_rfl) rfl #[.int .i64 ((rd_T32 l0_2 x4_1).f1), .int .i64 4] (by rfl) rfl rfl (by (try simp only [List.map_toArray, List.map_cons, List.map_nil]); first | done | rfl | (simp only [List.length_drop, List.length_take]; rfl)) ?_
                        with_reducible refine (flyleafref08_put.calls k1 ((rd_T32 l0_2 x4_1).f1) 4 t209 _ A41.out).mono ?_
                        rintro e w62 ⟨rfl, hb⟩
                        refine ⟨_, rfl, ?_⟩
                        have n0_ := mk0_18 (blk_below (g := gb194) (o := .cells #[.int .i64 a0_0, .int .i64 a0_1, .slice (some ad206) l0_2.length c0_2] 28 (0, 0)) (by (with_reducible repeat (first | refine d118 ?_ _ | refine d218 ?_ | refine d318 ?_ _)); exact BK194.out) hb)
                        have n1_ := mk0_18 (blk_below (g := gb207) (o := .cells #[.int .i64 ((rd_T32 l0_2 x4_1).f0), .int .i64 ((rd_T32 l0_2 x4_1).f1), .int .i64 ((rd_T32 l0_2 x4_1).f2), .int .i64 ((rd_T32 l0_2 x4_1).f3), .int .i64 ((rd_T32 l0_2 x4_1).f4), .int .i64 ((rd_T32 l0_2 x4_1).f5), .int .i64 ((rd_T32 l0_2 x4_1).f6)] 32 (0, 0)) (by (with_reducible repeat (first | refine d118 ?_ _ | refine d218 ?_ | refine d318 ?_ _)); exact BK207.out) hb)
                        have n2_ := mk0_18 (below_step (by repeat (first | (with_reducible first | exact HB.out | apply below_alloc | apply pw_below_drewN | apply below_drew1 | refine d418 ?_ GE194.out | refine d418 ?_ GE207.out) | exact HB.out)) hb)
                        clear BK194
                        clear BK207
                        clear HB
                        have BK194 := n0_
                        have BK207 := n1_
                        have HB := n2_
                        clear n0_ n1_ n2_
                        (try clear hb)
                        (try clear hb2)
                        (try clear hk)
                        (try clear hi)
                        refine hK.out _ _ ⟨(d618 BK207.out 0).trans rfl, (d618 BK207.out 1).trans rfl, (d618 BK207.out 2).trans rfl, (d618 BK207.out 3).trans rfl, (d618 BK207.out 4).trans rfl, (d618 BK207.out 5).trans rfl, (d618 BK207.out 6).trans rfl⟩ (fun hHeld => ?_)
                        clear hK K
                        refine norm_ (a' := ?_) ?_ ?_
                        rotate_left
                        ·show Act.put _ (some 54) _ = _
                         simp only [Act.put, List.setIfInBounds_toArray, List.set_cons_zero, List.set_cons_succ, i64_w, i32_w]
                         rfl
                        refine pure_ (i := 8) (N := some 55) (v := ?_) (a' := ?_) #[true, true, true, true, true, true, true, true, true, true, true, false, false, true, true, false, false, true, true, false, false, true, true, false, false, true, true, false, false, true, true, false, false, false] rfl rfl (any_of HT_.out (by kernel_rfl)) (fun _ _ _ h => h) (Or.inl ⟨by rfl, ?_⟩) ?_ ?_
                        rotate_left
                        ·intro w'
                         go_simp
                         with_reducible rfl
                        rotate_left
                        ·simp only [Act.put, List.setIfInBounds_toArray, List.set_cons_zero, List.set_cons_succ, i64_w, i32_w]
                         rfl
                        refine one_ (i := 11) (N := some 58) #[true, true, true, true, true, true, true, true, true, true, true, true, false, true, true, false, false, true, true, false, false, true, true, false, false, true, true, false, false, true, true, false, false, false] rfl rfl (one_of HT_.out (by kernel_rfl)) (by decide) (fun K hK => ?_)
                        refine goes_ Try.func37 (by kernel_rfl) rfl #[.int .i64 ((rd_T32 l0_2 x4_1).f2), .int .i64 8] (by rfl) rfl rfl (by (try simp only [List.map_toArray, List.map_cons, List.map_nil]); first | done | rfl | (simp only [List.length_drop, List.length_take]; rfl)) ?_
                        with_reducible refine (flyleafref08_put.calls k1 ((rd_T32 l0_2 x4_1).f2) 8 t210 _ A43.out).mono ?_
                        rintro e w63 ⟨rfl, hb⟩
                        refine ⟨_, rfl, ?_⟩
                        have n0_ := mk0_18 (blk_below (g := gb194) (o := .cells #[.int .i64 a0_0, .int .i64 a0_1, .slice (some ad206) l0_2.length c0_2] 28 (0, 0)) (by (with_reducible repeat (first | refine d118 ?_ _ | refine d218 ?_ | refine d318 ?_ _)); exact BK194.out) hb)
                        have n1_ := mk0_18 (blk_below (g := gb207) (o := .cells #[.int .i64 ((rd_T32 l0_2 x4_1).f0), .int .i64 ((rd_T32 l0_2 x4_1).f1), .int .i64 ((rd_T32 l0_2 x4_1).f2), .int .i64 ((rd_T32 l0_2 x4_1).f3), .int .i64 ((rd_T32 l0_2 x4_1).f4), .int .i64 ((rd_T32 l0_2 x4_1).f5), .int .i64 ((rd_T32 l0_2 x4_1).f6)] 32 (0, 0)) (by (with_reducible repeat (first | refine d118 ?_ _ | refine d218 ?_ | refine d318 ?_ _)); exact BK207.out) hb)
                        have n2_ := mk0_18 (below_step (by repeat (first | (with_reducible first | exact HB.out | apply below_alloc | apply pw_below_drewN | apply below_drew1 | refine d418 ?_ GE194.out | refine d418 ?_ GE207.out) | exact HB.out)) hb)
                        clear BK194
                        clear BK207
                        clear HB
                        have BK194 := n0_
                        have BK207 := n1_
                        have HB := n2_
                        clear n0_ n1_ n2_
                        (try clear hb)
                        (try clear hb2)
                        (try clear hk)
                        (try clear hi)
                        refine hK.out _ _ ⟨(d618 BK207.out 0).trans rfl, (d618 BK207.out 1).trans rfl, (d618 BK207.out 2).trans rfl, (d618 BK207.out 3).trans rfl, (d618 BK207.out 4).trans rfl, (d618 BK207.out 5).trans rfl, (d618 BK207.out 6).trans rfl⟩ (fun hHeld => ?_)
                        clear hK K
                        refine norm_ (a' := ?_) ?_ ?_
                        rotate_left
                        ·show Act.put _ (some 58) _ = _
                         simp only [Act.put, List.setIfInBounds_toArray, List.set_cons_zero, List.set_cons_succ, i64_w, i32_w]
                         rfl
                        refine pure_ (i := 12) (N := some 59) (v := ?_) (a' := ?_) #[true, true, true, true, true, true, true, true, true, true, true, true, true, true, true, false, false, true, true, false, false, true, true, false, false, true, true, false, false, true, true, false, false, false] rfl rfl (any_of HT_.out (by kernel_rfl)) (fun _ _ _ h => h) (Or.inl ⟨by rfl, ?_⟩) ?_ ?_
                        rotate_left
                        ·intro w'
                         go_simp
                         with_reducible rfl
                        rotate_left
                        ·simp only [Act.put, List.setIfInBounds_toArray, List.set_cons_zero, List.set_cons_succ, i64_w, i32_w]
                         rfl
                        refine one_ (i := 15) (N := some 62) #[true, true, true, true, true, true, true, true, true, true, true, true, true, true, true, true, false, true, true, false, false, true, true, false, false, true, true, false, false, true, true, false, false, false] rfl rfl (one_of HT_.out (by kernel_rfl)) (by decide) (fun K hK => ?_)
                        refine goes_ Try.func37 (by kernel_rfl) rfl #[.int .i64 ((rd_T32 l0_2 x4_1).f3), .int .i64 8] (by rfl) rfl rfl (by (try simp only [List.map_toArray, List.map_cons, List.map_nil]); first | done | rfl | (simp only [List.length_drop, List.length_take]; rfl)) ?_
                        with_reducible refine (flyleafref08_put.calls k1 ((rd_T32 l0_2 x4_1).f3) 8 t211 _ A45.out).mono ?_
                        rintro e w64 ⟨rfl, hb⟩
                        refine ⟨_, rfl, ?_⟩
                        have n0_ := mk0_18 (blk_below (g := gb194) (o := .cells #[.int .i64 a0_0, .int .i64 a0_1, .slice (some ad206) l0_2.length c0_2] 28 (0, 0)) (by (with_reducible repeat (first | refine d118 ?_ _ | refine d218 ?_ | refine d318 ?_ _)); exact BK194.out) hb)
                        have n1_ := mk0_18 (blk_below (g := gb207) (o := .cells #[.int .i64 ((rd_T32 l0_2 x4_1).f0), .int .i64 ((rd_T32 l0_2 x4_1).f1), .int .i64 ((rd_T32 l0_2 x4_1).f2), .int .i64 ((rd_T32 l0_2 x4_1).f3), .int .i64 ((rd_T32 l0_2 x4_1).f4), .int .i64 ((rd_T32 l0_2 x4_1).f5), .int .i64 ((rd_T32 l0_2 x4_1).f6)] 32 (0, 0)) (by (with_reducible repeat (first | refine d118 ?_ _ | refine d218 ?_ | refine d318 ?_ _)); exact BK207.out) hb)
                        have n2_ := mk0_18 (below_step (by repeat (first | (with_reducible first | exact HB.out | apply below_alloc | apply pw_below_drewN | apply below_drew1 | refine d418 ?_ GE194.out | refine d418 ?_ GE207.out) | exact HB.out)) hb)
                        clear BK194
                        clear BK207
                        clear HB
                        have BK194 := n0_
                        have BK207 := n1_
                        have HB := n2_
                        clear n0_ n1_ n2_
                        (try clear hb)
                        (try clear hb2)
                        (try clear hk)
                        (try clear hi)
                        refine hK.out _ _ ⟨(d618 BK207.out 0).trans rfl, (d618 BK207.out 1).trans rfl, (d618 BK207.out 2).trans rfl, (d618 BK207.out 3).trans rfl, (d618 BK207.out 4).trans rfl, (d618 BK207.out 5).trans rfl, (d618 BK207.out 6).trans rfl⟩ (fun hHeld => ?_)
                        clear hK K
                        refine norm_ (a' := ?_) ?_ ?_
                        rotate_left
                        ·show Act.put _ (some 62) _ = _
                         simp only [Act.put, List.setIfInBounds_toArray, List.set_cons_zero, List.set_cons_succ, i64_w, i32_w]
                         rfl
                        refine pure_ (i := 16) (N := some 63) (v := ?_) (a' := ?_) #[true, true, true, true, true, true, true, true, true, true, true, true, true, true, true, true, true, true, true, false, false, true, true, false, false, true, true, false, false, true, true, false, false, false] rfl rfl (any_of HT_.out (by kernel_rfl)) (fun _ _ _ h => h) (Or.inl ⟨by rfl, ?_⟩) ?_ ?_
                        rotate_left
                        ·intro w'
                         go_simp
                         with_reducible rfl
                        rotate_left
                        ·simp only [Act.put, List.setIfInBounds_toArray, List.set_cons_zero, List.set_cons_succ, i64_w, i32_w]
                         rfl
                        refine one_ (i := 19) (N := some 66) #[true, true, true, true, true, true, true, true, true, true, true, true, true, true, true, true, true, true, true, true, false, true, true, false, false, true, true, false, false, true, true, false, false, false] rfl rfl (one_of HT_.out (by kernel_rfl)) (by decide) (fun K hK => ?_)
                        refine goes_ Try.func37 (by kernel_rfl) rfl #[.int .i64 ((rd_T32 l0_2 x4_1).f3), .int .i64 8] (by rfl) rfl rfl (by (try simp only [List.map_toArray, List.map_cons, List.map_nil]); first | done | rfl | (simp only [List.length_drop, List.length_take]; rfl)) ?_
                        with_reducible refine (flyleafref08_put.calls k1 ((rd_T32 l0_2 x4_1).f3) 8 t212 _ A47.out).mono ?_
                        rintro e w65 ⟨rfl, hb⟩
                        refine ⟨_, rfl, ?_⟩
                        have n0_ := mk0_18 (blk_below (g := gb194) (o := .cells #[.int .i64 a0_0, .int .i64 a0_1, .slice (some ad206) l0_2.length c0_2] 28 (0, 0)) (by (with_reducible repeat (first | refine d118 ?_ _ | refine d218 ?_ | refine d318 ?_ _)); exact BK194.out) hb)
                        have n1_ := mk0_18 (blk_below (g := gb207) (o := .cells #[.int .i64 ((rd_T32 l0_2 x4_1).f0), .int .i64 ((rd_T32 l0_2 x4_1).f1), .int .i64 ((rd_T32 l0_2 x4_1).f2), .int .i64 ((rd_T32 l0_2 x4_1).f3), .int .i64 ((rd_T32 l0_2 x4_1).f4), .int .i64 ((rd_T32 l0_2 x4_1).f5), .int .i64 ((rd_T32 l0_2 x4_1).f6)] 32 (0, 0)) (by (with_reducible repeat (first | refine d118 ?_ _ | refine d218 ?_ | refine d318 ?_ _)); exact BK207.out) hb)
                        have n2_ := mk0_18 (below_step (by repeat (first | (with_reducible first | exact HB.out | apply below_alloc | apply pw_below_drewN | apply below_drew1 | refine d418 ?_ GE194.out | refine d418 ?_ GE207.out) | exact HB.out)) hb)
                        clear BK194
                        clear BK207
                        clear HB
                        have BK194 := n0_
                        have BK207 := n1_
                        have HB := n2_
                        clear n0_ n1_ n2_
                        (try clear hb)
                        (try clear hb2)
                        (try clear hk)
                        (try clear hi)
                        refine hK.out _ _ ⟨(d618 BK207.out 0).trans rfl, (d618 BK207.out 1).trans rfl, (d618 BK207.out 2).trans rfl, (d618 BK207.out 3).trans rfl, (d618 BK207.out 4).trans rfl, (d618 BK207.out 5).trans rfl, (d618 BK207.out 6).trans rfl⟩ (fun hHeld => ?_)
                        clear hK K
                        refine norm_ (a' := ?_) ?_ ?_
                        rotate_left
                        ·show Act.put _ (some 66) _ = _
                         simp only [Act.put, List.setIfInBounds_toArray, List.set_cons_zero, List.set_cons_succ, i64_w, i32_w]
                         rfl
                        refine pure_ (i := 20) (N := some 67) (v := ?_) (a' := ?_) #[true, true, true, true, true, true, true, true, true, true, true, true, true, true, true, true, true, true, true, true, true, true, true, false, false, true, true, false, false, true, true, false, false, false] rfl rfl (any_of HT_.out (by kernel_rfl)) (fun _ _ _ h => h) (Or.inl ⟨by rfl, ?_⟩) ?_ ?_
                        rotate_left
                        ·intro w'
                         go_simp
                         with_reducible rfl
                        rotate_left
                        ·simp only [Act.put, List.setIfInBounds_toArray, List.set_cons_zero, List.set_cons_succ, i64_w, i32_w]
                         rfl
                        refine one_ (i := 23) (N := some 70) #[true, true, true, true, true, true, true, true, true, true, true, true, true, true, true, true, true, true, true, true, true, true, true, true, false, true, true, false, false, true, true, false, false, false] rfl rfl (one_of HT_.out (by kernel_rfl)) (by decide) (fun K hK => ?_)
                        refine goes_ Try.func37 (by kernel_rfl) rfl #[.int .i64 ((rd_T32 l0_2 x4_1).f4), .int .i64 8] (by rfl) rfl rfl (by (try simp only [List.map_toArray, List.map_cons, List.map_nil]); first | done | rfl | (simp only [List.length_drop, List.length_take]; rfl)) ?_
                        with_reducible refine (flyleafref08_put.calls k1 ((rd_T32 l0_2 x4_1).f4) 8 t213 _ A49.out).mono ?_
                        rintro e w66 ⟨rfl, hb⟩
                        refine ⟨_, rfl, ?_⟩
                        have n0_ := mk0_18 (blk_below (g := gb194) (o := .cells #[.int .i64 a0_0, .int .i64 a0_1, .slice (some ad206) l0_2.length c0_2] 28 (0, 0)) (by (with_reducible repeat (first | refine d118 ?_ _ | refine d218 ?_ | refine d318 ?_ _)); exact BK194.out) hb)
                        have n1_ := mk0_18 (blk_below (g := gb207) (o := .cells #[.int .i64 ((rd_T32 l0_2 x4_1).f0), .int .i64 ((rd_T32 l0_2 x4_1).f1), .int .i64 ((rd_T32 l0_2 x4_1).f2), .int .i64 ((rd_T32 l0_2 x4_1).f3), .int .i64 ((rd_T32 l0_2 x4_1).f4), .int .i64 ((rd_T32 l0_2 x4_1).f5), .int .i64 ((rd_T32 l0_2 x4_1).f6)] 32 (0, 0)) (by (with_reducible repeat (first | refine d118 ?_ _ | refine d218 ?_ | refine d318 ?_ _)); exact BK207.out) hb)
                        have n2_ := mk0_18 (below_step (by repeat (first | (with_reducible first | exact HB.out | apply below_alloc | apply pw_below_drewN | apply below_drew1 | refine d418 ?_ GE194.out | refine d418 ?_ GE207.out) | exact HB.out)) hb)
                        clear BK194
                        clear BK207
                        clear HB
                        have BK194 := n0_
                        have BK207 := n1_
                        have HB := n2_
                        clear n0_ n1_ n2_
                        (try clear hb)
                        (try clear hb2)
                        (try clear hk)
                        (try clear hi)
                        refine hK.out _ _ ⟨(d618 BK207.out 0).trans rfl, (d618 BK207.out 1).trans rfl, (d618 BK207.out 2).trans rfl, (d618 BK207.out 3).trans rfl, (d618 BK207.out 4).trans rfl, (d618 BK207.out 5).trans rfl, (d618 BK207.out 6).trans rfl⟩ (fun hHeld => ?_)
                        clear hK K
                        refine norm_ (a' := ?_) ?_ ?_
                        rotate_left
                        ·show Act.put _ (some 70) _ = _
                         simp only [Act.put, List.setIfInBounds_toArray, List.set_cons_zero, List.set_cons_succ, i64_w, i32_w]
                         rfl
                        refine pure_ (i := 24) (N := some 71) (v := ?_) (a' := ?_) #[true, true, true, true, true, true, true, true, true, true, true, true, true, true, true, true, true, true, true, true, true, true, true, true, true, true, true, false, false, true, true, false, false, false] rfl rfl (any_of HT_.out (by kernel_rfl)) (fun _ _ _ h => h) (Or.inl ⟨by rfl, ?_⟩) ?_ ?_
                        rotate_left
                        ·intro w'
                         go_simp
                         with_reducible rfl
                        rotate_left
                        ·simp only [Act.put, List.setIfInBounds_toArray, List.set_cons_zero, List.set_cons_succ, i64_w, i32_w]
                         rfl
                        refine one_ (i := 27) (N := some 74) #[true, true, true, true, true, true, true, true, true, true, true, true, true, true, true, true, true, true, true, true, true, true, true, true, true, true, true, true, false, true, true, false, false, false] rfl rfl (one_of HT_.out (by kernel_rfl)) (by decide) (fun K hK => ?_)
                        refine goes_ Try.func37 (by kernel_rfl) rfl #[.int .i64 ((rd_T32 l0_2 x4_1).f5), .int .i64 8] (by rfl) rfl rfl (by (try simp only [List.map_toArray, List.map_cons, List.map_nil]); first | done | rfl | (simp only [List.length_drop, List.length_take]; rfl)) ?_
                        with_reducible refine (flyleafref08_put.calls k1 ((rd_T32 l0_2 x4_1).f5) 8 t214 _ A51.out).mono ?_
                        rintro e w67 ⟨rfl, hb⟩
                        refine ⟨_, rfl, ?_⟩
                        have n0_ := mk0_18 (blk_below (g := gb194) (o := .cells #[.int .i64 a0_0, .int .i64 a0_1, .slice (some ad206) l0_2.length c0_2] 28 (0, 0)) (by (with_reducible repeat (first | refine d118 ?_ _ | refine d218 ?_ | refine d318 ?_ _)); exact BK194.out) hb)
                        have n1_ := mk0_18 (blk_below (g := gb207) (o := .cells #[.int .i64 ((rd_T32 l0_2 x4_1).f0), .int .i64 ((rd_T32 l0_2 x4_1).f1), .int .i64 ((rd_T32 l0_2 x4_1).f2), .int .i64 ((rd_T32 l0_2 x4_1).f3), .int .i64 ((rd_T32 l0_2 x4_1).f4), .int .i64 ((rd_T32 l0_2 x4_1).f5), .int .i64 ((rd_T32 l0_2 x4_1).f6)] 32 (0, 0)) (by (with_reducible repeat (first | refine d118 ?_ _ | refine d218 ?_ | refine d318 ?_ _)); exact BK207.out) hb)
                        have n2_ := mk0_18 (below_step (by repeat (first | (with_reducible first | exact HB.out | apply below_alloc | apply pw_below_drewN | apply below_drew1 | refine d418 ?_ GE194.out | refine d418 ?_ GE207.out) | exact HB.out)) hb)
                        clear BK194
                        clear BK207
                        clear HB
                        have BK194 := n0_
                        have BK207 := n1_
                        have HB := n2_
                        clear n0_ n1_ n2_
                        (try clear hb)
                        (try clear hb2)
                        (try clear hk)
                        (try clear hi)
                        refine hK.out _ _ ⟨(d618 BK207.out 0).trans rfl, (d618 BK207.out 1).trans rfl, (d618 BK207.out 2).trans rfl, (d618 BK207.out 3).trans rfl, (d618 BK207.out 4).trans rfl, (d618 BK207.out 5).trans rfl, (d618 BK207.out 6).trans rfl⟩ (fun hHeld => ?_)
                        clear hK K
                        refine norm_ (a' := ?_) ?_ ?_
                        rotate_left
                        ·show Act.put _ (some 74) _ = _
                         simp only [Act.put, List.setIfInBounds_toArray, List.set_cons_zero, List.set_cons_succ, i64_w, i32_w]
                         rfl
                        refine pure_ (i := 28) (N := some 75) (v := ?_) (a' := ?_) #[true, true, true, true, true, true, true, true, true, true, true, true, true, true, true, true, true, true, true, true, true, true, true, true, true, true, true, true, true, true, true, false, false, false] rfl rfl (any_of HT_.out (by kernel_rfl)) (fun _ _ _ h => h) (Or.inl ⟨by rfl, ?_⟩) ?_ ?_
                        rotate_left
                        ·intro w'
                         go_simp
                         with_reducible rfl
                        rotate_left
                        ·simp only [Act.put, List.setIfInBounds_toArray, List.set_cons_zero, List.set_cons_succ, i64_w, i32_w]
                         rfl
                        refine one_ (i := 31) (N := some 78) #[true, true, true, true, true, true, true, true, true, true, true, true, true, true, true, true, true, true, true, true, true, true, true, true, true, true, true, true, true, true, true, true, false, false] rfl rfl (one_of HT_.out (by kernel_rfl)) (by decide) (fun K hK => ?_)
                        refine goes_ Try.func37 (by kernel_rfl) rfl #[.int .i64 ((rd_T32 l0_2 x4_1).f6), .int .i64 8] (by rfl) rfl rfl (by (try simp only [List.map_toArray, List.map_cons, List.map_nil]); first | done | rfl | (simp only [List.length_drop, List.length_take]; rfl)) ?_
                        with_reducible refine (flyleafref08_put.calls k1 ((rd_T32 l0_2 x4_1).f6) 8 t215 _ A53.out).mono ?_
                        rintro e w68 ⟨rfl, hb⟩
                        refine ⟨_, rfl, ?_⟩
                        have n0_ := mk0_18 (blk_below (g := gb194) (o := .cells #[.int .i64 a0_0, .int .i64 a0_1, .slice (some ad206) l0_2.length c0_2] 28 (0, 0)) (by (with_reducible repeat (first | refine d118 ?_ _ | refine d218 ?_ | refine d318 ?_ _)); exact BK194.out) hb)
                        have n1_ := mk0_18 (blk_below (g := gb207) (o := .cells #[.int .i64 ((rd_T32 l0_2 x4_1).f0), .int .i64 ((rd_T32 l0_2 x4_1).f1), .int .i64 ((rd_T32 l0_2 x4_1).f2), .int .i64 ((rd_T32 l0_2 x4_1).f3), .int .i64 ((rd_T32 l0_2 x4_1).f4), .int .i64 ((rd_T32 l0_2 x4_1).f5), .int .i64 ((rd_T32 l0_2 x4_1).f6)] 32 (0, 0)) (by (with_reducible repeat (first | refine d118 ?_ _ | refine d218 ?_ | refine d318 ?_ _)); exact BK207.out) hb)
                        have n2_ := mk0_18 (below_step (by repeat (first | (with_reducible first | exact HB.out | apply below_alloc | apply pw_below_drewN | apply below_drew1 | refine d418 ?_ GE194.out | refine d418 ?_ GE207.out) | exact HB.out)) hb)
                        clear BK194
                        clear BK207
                        clear HB
                        have BK194 := n0_
                        have BK207 := n1_
                        have HB := n2_
                        clear n0_ n1_ n2_
                        (try clear hb)
                        (try clear hb2)
                        (try clear hk)
                        (try clear hi)
                        refine hK.out _ _ ⟨(d618 BK207.out 0).trans rfl, (d618 BK207.out 1).trans rfl, (d618 BK207.out 2).trans rfl, (d618 BK207.out 3).trans rfl, (d618 BK207.out 4).trans rfl, (d618 BK207.out 5).trans rfl, (d618 BK207.out 6).trans rfl⟩ (fun hHeld => ?_)
                        clear hK K
                        refine norm_ (a' := ?_) ?_ ?_
                        rotate_left
                        ·show Act.put _ (some 78) _ = _
                         simp only [Act.put, List.setIfInBounds_toArray, List.set_cons_zero, List.set_cons_succ, i64_w, i32_w]
                         rfl
                        refine pure_ (i := 32) (N := some 79) (v := ?_) (a' := ?_) #[true, true, true, true, true, true, true, true, true, true, true, true, true, true, true, true, true, true, true, true, true, true, true, true, true, true, true, true, true, true, true, true, true, false] rfl rfl (any_of HT_.out (by kernel_rfl)) (fun _ _ _ h => h) (Or.inl ⟨by rfl, ?_⟩) ?_ ?_
                        rotate_left
                        ·intro w'
                         go_simp
                         with_reducible rfl
                        rotate_left
                        ·simp only [Act.put, List.setIfInBounds_toArray, List.set_cons_zero, List.set_cons_succ, i64_w, i32_w]
                         rfl
                        refine pure_ (i := 33) (N := some 3) (v := ?_) (a' := ?_) #[true, true, true, true, true, true, true, true, true, true, true, true, true, true, true, true, true, true, true, true, true, true, true, true, true, true, true, true, true, true, true, true, true, true] rfl rfl (any_of HT_.out (by kernel_rfl)) (fun _ _ _ h => h) (Or.inl ⟨by rfl, ?_⟩) ?_ ?_
                        rotate_left
                        ·intro w'
                         go_simp
                         with_reducible rfl
                        rotate_left
                        ·simp only [Act.put, List.setIfInBounds_toArray, List.set_cons_zero, List.set_cons_succ, i64_w, i32_w]
                         rfl
                        refine done_ (done_of HT_.out (by kernel_rfl)) ?_
                        try go_wp2
                        go_roundg k1
                        case measure => have := HK1.out; omega
                        case rel => exact ⟨((((((((x3_1 ++ t208) ++ t209) ++ t210) ++ t211) ++ t212) ++ t213) ++ t214) ++ t215), (wrap64 (x4_1 + 1)), (by first | rfl | (simp; done) | (simp [*]; done)), (by first | rfl | (simp; done) | (simp [*]; done)), H', ⟨by have := HK1.out; omega⟩, ⟨by (with_reducible repeat (first | refine d118 ?_ _ | refine d218 ?_ | refine d318 ?_ _)); exact BK194.out⟩, ⟨by repeat (first | (with_reducible first | exact HB.out | apply below_alloc | apply pw_below_drewN | apply below_drew1 | refine d418 ?_ GE194.out | refine d418 ?_ GE207.out) | exact HB.out)⟩⟩
                       ·rw [if_neg c54] at H
                        exact absurd H (by simp)
                      ·rw [if_neg c52] at H
                       exact absurd H (by simp)
                     ·rw [if_neg c50] at H
                      exact absurd H (by simp)
                    ·rw [if_neg c48] at H
                     exact absurd H (by simp)
                   ·rw [if_neg c46] at H
                    exact absurd H (by simp)
                  ·rw [if_neg c44] at H
                   exact absurd H (by simp)
                 ·rw [if_neg c42] at H
                  exact absurd H (by simp)
                ·rw [if_neg c40] at H
                 exact absurd H (by simp)
               ·rw [if_neg c38] at H
                exact absurd H (by simp)
              ·rw [if_neg c37] at H
               have c37b0 : decide (x4_1 < (l0_2.length : Int)) = false := decide_eq_false c37
               clear c37
               obtain rfl := Option.some.inj H
               have hcz69_0 : wr.cell? ⟨gb194, 0, none⟩ = some (.int .i64 a0_0) := (d618 BK194.out 0).trans rfl
               have hcz69_1 : wr.cell? ⟨gb194, 1, none⟩ = some (.int .i64 a0_1) := (d618 BK194.out 1).trans rfl
               have hcz69_2 : wr.cell? ⟨gb194, 2, none⟩ = some (.slice A0_2 l0_2.length c0_2) := (d618 BK194.out 2).trans rfl
               have hfz69_0 := d718 BK194.out 0
               have hfz69_1 := d718 BK194.out 1
               have hfz69_2 := d718 BK194.out 2
               go_wp2
               go_ret
               exact ⟨by first | rfl | (simp [errW_none, errW_some] <;> rfl) | (simp [*, errW_none, errW_some] <;> rfl), by repeat (first | (with_reducible first | exact HB.out | apply below_alloc | apply pw_below_drewN | apply below_drew1 | refine d418 ?_ GE194.out) | exact HB.out)⟩
           ·rw [if_neg c23] at H
            exact absurd H (by simp)
          ·rw [if_neg c21] at H
           exact absurd H (by simp)
         ·rw [if_neg c19] at H
          exact absurd H (by simp)
        ·rw [if_neg c17] at H
         exact absurd H (by simp)
       ·rw [if_neg c15] at H
        exact absurd H (by simp)
      ·rw [if_neg c13] at H
       exact absurd H (by simp)
     ·rw [if_neg c11] at H
      exact absurd H (by simp)
    ·rw [if_neg c9] at H
     exact absurd H (by simp)
   ·rw [if_neg c7] at H
    exact absurd H (by simp)
  ·rw [if_neg c5] at H
   exact absurd H (by simp)
 ·rw [if_neg c3] at H
  exact absurd H (by simp)

end Go.Proofs.Ytdlgfjefbjkdaaa.A
