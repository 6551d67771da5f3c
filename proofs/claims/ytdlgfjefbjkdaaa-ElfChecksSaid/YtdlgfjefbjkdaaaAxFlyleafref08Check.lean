-- Laid by pr.py, a program of this session, out of the translation. Not trusted: Lean checks it.
import Derived.Test.YtdlgfjefbjkdaaaAx0
import Derived.Test.YtdlgfjefbjkdaaaAxFlyleafref08In
import Derived.Test.YtdlgfjefbjkdaaaAxFlyleafref08Segment
import Derived.Test.YtdlgfjefbjkdaaaAxFlyleafref08First
import Derived.Test.YtdlgfjefbjkdaaaAxFlyleafref08Last
namespace Go.Proofs.Ytdlgfjefbjkdaaa.A
open Go.RowKit Go.Proofs.YtdlgfjefbjkdaaaW.PrintWords Go.Proofs.YtdlgfjefbjkdaaaW.PrintLast Go.Proofs.YtdlgfjefbjkdaaaW.PrintMore
attribute [local go_sem] max2_int min2_int max_two min_two max_three min_three max_four min_four   -- for this text's walks alone
set_option linter.unusedVariables false
set_option linter.unusedSimpArgs false

theorem mk0_17 {p : Prop} (h : p) : Aside0 p := ⟨h⟩
theorem d117 : type_of% @blk_drewN := @blk_drewN
theorem d217 : type_of% @blk_drew := @blk_drew
theorem d317 : type_of% @blk_alloc := @blk_alloc
theorem d417 : type_of% @below_set := @below_set
theorem d517 : type_of% @blk_far := @blk_far
theorem d617 : type_of% @blk_cell := @blk_cell
theorem d717 : type_of% @blk_frozen := @blk_frozen
/-! ### flyleafref08_Check: function 17 -/
mutual
def flyleafref08_Check.j0 : Nat → Int → Int → Bool → Int → Int → List (S32) → Option (Int)
 | 0, _, _, _, _, _, _ => none
 | k + 1, x1, x5, x47, x180000, x180001, x180002 => if x47 = true then (some 16) else (if x180000 = 3 then (flyleafref08_Check.j1 k x1 x5 0 0 0 (x180001 == 0) x180000 x180001 x180002) else (flyleafref08_Check.j1 k x1 x5 0 0 0 false x180000 x180001 x180002))
def flyleafref08_Check.j1 : Nat → Int → Int → Int → Int → Int → Bool → Int → Int → List (S32) → Option (Int)
 | 0, _, _, _, _, _, _, _, _, _ => none
 | k + 1, x1, x5, x6, x7, x8, x9, x180000, x180001, x180002 => flyleafref08_Check.l0 k x1 x5 x6 x7 x8 x9 0 x180000 x180001 x180002
def flyleafref08_Check.l0 : Nat → Int → Int → Int → Int → Int → Bool → Int → Int → Int → List (S32) → Option (Int)
 | 0, _, _, _, _, _, _, _, _, _, _ => none
 | k + 1, x1, x5, x6, x7, x8, x9, x10, x180000, x180001, x180002 => if x10 < x5 then (if 0 ≤ x10 then (if x10 < (x180002.length : Int) then ((flyleafref08_segment.f k ((rd_T32 x180002 x10).f0) ((rd_T32 x180002 x10).f1) ((rd_T32 x180002 x10).f2) ((rd_T32 x180002 x10).f3) ((rd_T32 x180002 x10).f4) ((rd_T32 x180002 x10).f5) ((rd_T32 x180002 x10).f6) x1).bind fun t184 => (if t184 = true then (if ((rd_T32 x180002 x10).f0) = 1 then (if x6 > 0 then ((flyleafref08_First.f ((rd_T32 x180002 x10).f0) ((rd_T32 x180002 x10).f1) ((rd_T32 x180002 x10).f2) ((rd_T32 x180002 x10).f3) ((rd_T32 x180002 x10).f4) ((rd_T32 x180002 x10).f5) ((rd_T32 x180002 x10).f6)).bind fun t185 => (flyleafref08_Check.j3 k x1 x5 x6 x7 x9 x10 (decide (t185 < x8)) x180000 x180001 x180002 ((rd_T32 x180002 x10).f0) ((rd_T32 x180002 x10).f1) ((rd_T32 x180002 x10).f2) ((rd_T32 x180002 x10).f3) ((rd_T32 x180002 x10).f4) ((rd_T32 x180002 x10).f5) ((rd_T32 x180002 x10).f6))) else (flyleafref08_Check.j3 k x1 x5 x6 x7 x9 x10 false x180000 x180001 x180002 ((rd_T32 x180002 x10).f0) ((rd_T32 x180002 x10).f1) ((rd_T32 x180002 x10).f2) ((rd_T32 x180002 x10).f3) ((rd_T32 x180002 x10).f4) ((rd_T32 x180002 x10).f5) ((rd_T32 x180002 x10).f6))) else (flyleafref08_Check.j4 k x1 x5 x6 x7 x8 x9 x10 x180000 x180001 x180002 ((rd_T32 x180002 x10).f0) ((rd_T32 x180002 x10).f1) ((rd_T32 x180002 x10).f2) ((rd_T32 x180002 x10).f3) ((rd_T32 x180002 x10).f4) ((rd_T32 x180002 x10).f5) ((rd_T32 x180002 x10).f6))) else (some 16))) else (none)) else (none)) else (if x6 = 0 then (some 16) else (if x7 > 1 then (some 16) else (if x9 = true then (some 0) else (some 16))))
def flyleafref08_Check.j4 : Nat → Int → Int → Int → Int → Int → Bool → Int → Int → Int → List (S32) → Int → Int → Int → Int → Int → Int → Int → Option (Int)
 | 0, _, _, _, _, _, _, _, _, _, _, _, _, _, _, _, _, _ => none
 | k + 1, x1, x5, x6, x7, x8, x9, x10, x180000, x180001, x180002, x184000, x184001, x184002, x184003, x184004, x184005, x184006 => if x184000 = 2 then (flyleafref08_Check.l1 k x1 x5 x6 (wrap64 (x7 + 1)) x8 x9 x10 false 0 x180000 x180001 x180002 x184000 x184001 x184002 x184003 x184004 x184005 x184006) else (flyleafref08_Check.l0 k x1 x5 x6 x7 x8 x9 (wrap64 (x10 + 1)) x180000 x180001 x180002)
def flyleafref08_Check.l1 : Nat → Int → Int → Int → Int → Int → Bool → Int → Bool → Int → Int → Int → List (S32) → Int → Int → Int → Int → Int → Int → Int → Option (Int)
 | 0, _, _, _, _, _, _, _, _, _, _, _, _, _, _, _, _, _, _, _ => none
 | k + 1, x1, x5, x6, x7, x8, x9, x10, x13, x14, x180000, x180001, x180002, x184000, x184001, x184002, x184003, x184004, x184005, x184006 => if x14 < x5 then (if 0 ≤ x14 then (if x14 < (x180002.length : Int) then (if x13 = true then (flyleafref08_Check.l1 k x1 x5 x6 x7 x8 x9 x10 true (wrap64 (x14 + 1)) x180000 x180001 x180002 x184000 x184001 x184002 x184003 x184004 x184005 x184006) else (if ((rd_T32 x180002 x14).f0) = 1 then (if x184003 ≥ ((rd_T32 x180002 x14).f3) then (if (wrap64 (x184003 + x184005)) ≤ (wrap64 (((rd_T32 x180002 x14).f3) + ((rd_T32 x180002 x14).f5))) then (flyleafref08_Check.l1 k x1 x5 x6 x7 x8 x9 x10 ((wrap64 (x184002 - ((rd_T32 x180002 x14).f2))) == (wrap64 (x184003 - ((rd_T32 x180002 x14).f3)))) (wrap64 (x14 + 1)) x180000 x180001 x180002 x184000 x184001 x184002 x184003 x184004 x184005 x184006) else (flyleafref08_Check.l1 k x1 x5 x6 x7 x8 x9 x10 false (wrap64 (x14 + 1)) x180000 x180001 x180002 x184000 x184001 x184002 x184003 x184004 x184005 x184006)) else (flyleafref08_Check.l1 k x1 x5 x6 x7 x8 x9 x10 false (wrap64 (x14 + 1)) x180000 x180001 x180002 x184000 x184001 x184002 x184003 x184004 x184005 x184006)) else (flyleafref08_Check.l1 k x1 x5 x6 x7 x8 x9 x10 false (wrap64 (x14 + 1)) x180000 x180001 x180002 x184000 x184001 x184002 x184003 x184004 x184005 x184006))) else (none)) else (none)) else (if x13 = true then (flyleafref08_Check.l0 k x1 x5 x6 x7 x8 x9 (wrap64 (x10 + 1)) x180000 x180001 x180002) else (some 16))
def flyleafref08_Check.j3 : Nat → Int → Int → Int → Int → Bool → Int → Bool → Int → Int → List (S32) → Int → Int → Int → Int → Int → Int → Int → Option (Int)
 | 0, _, _, _, _, _, _, _, _, _, _, _, _, _, _, _, _, _ => none
 | k + 1, x1, x5, x6, x7, x9, x10, x81, x180000, x180001, x180002, x184000, x184001, x184002, x184003, x184004, x184005, x184006 => if x81 = true then (some 16) else ((flyleafref08_Last.f x184000 x184001 x184002 x184003 x184004 x184005 x184006).bind fun t186 => (if (Int.tmod x184001 2) = 1 then (if x180001 ≥ x184003 then (if x180001 < (wrap64 (x184003 + x184005)) then (flyleafref08_Check.j4 k x1 x5 (wrap64 (x6 + 1)) x7 t186 true x10 x180000 x180001 x180002 x184000 x184001 x184002 x184003 x184004 x184005 x184006) else (flyleafref08_Check.j4 k x1 x5 (wrap64 (x6 + 1)) x7 t186 x9 x10 x180000 x180001 x180002 x184000 x184001 x184002 x184003 x184004 x184005 x184006)) else (flyleafref08_Check.j4 k x1 x5 (wrap64 (x6 + 1)) x7 t186 x9 x10 x180000 x180001 x180002 x184000 x184001 x184002 x184003 x184004 x184005 x184006)) else (flyleafref08_Check.j4 k x1 x5 (wrap64 (x6 + 1)) x7 t186 x9 x10 x180000 x180001 x180002 x184000 x184001 x184002 x184003 x184004 x184005 x184006)))
end
def flyleafref08_Check.f (k : Nat) (a0_0 : Int) (a0_1 : Int) (l0_2 : List (S32)) (a1 : Int) : Option (Int) := if a0_0 = 2 then (if (l0_2.length : Int) < 1 then (flyleafref08_Check.j0 k a1 (l0_2.length : Int) true a0_0 a0_1 l0_2) else (if (l0_2.length : Int) > 16 then (flyleafref08_Check.j0 k a1 (l0_2.length : Int) true a0_0 a0_1 l0_2) else (if (wrap64 (64 + (wrap64 (56 * (l0_2.length : Int))))) > a1 then (flyleafref08_Check.j0 k a1 (l0_2.length : Int) true a0_0 a0_1 l0_2) else ((flyleafref08_in.f a0_1).bind fun t180 => (flyleafref08_Check.j0 k a1 (l0_2.length : Int) (!t180) a0_0 a0_1 l0_2))))) else (if a0_0 = 3 then (if (l0_2.length : Int) < 1 then (flyleafref08_Check.j0 k a1 (l0_2.length : Int) true a0_0 a0_1 l0_2) else (if (l0_2.length : Int) > 16 then (flyleafref08_Check.j0 k a1 (l0_2.length : Int) true a0_0 a0_1 l0_2) else (if (wrap64 (64 + (wrap64 (56 * (l0_2.length : Int))))) > a1 then (flyleafref08_Check.j0 k a1 (l0_2.length : Int) true a0_0 a0_1 l0_2) else ((flyleafref08_in.f a0_1).bind fun t181 => (flyleafref08_Check.j0 k a1 (l0_2.length : Int) (!t181) a0_0 a0_1 l0_2))))) else (flyleafref08_Check.j0 k a1 (l0_2.length : Int) true a0_0 a0_1 l0_2))
theorem flyleafref08_Check.mono_l : ∀ k, (∀ y0 y1 y2 y3 y4 y5, LeO (flyleafref08_Check.j0 k y0 y1 y2 y3 y4 y5) (flyleafref08_Check.j0 (k + 1) y0 y1 y2 y3 y4 y5)) ∧ (∀ y0 y1 y2 y3 y4 y5 y6 y7 y8, LeO (flyleafref08_Check.j1 k y0 y1 y2 y3 y4 y5 y6 y7 y8) (flyleafref08_Check.j1 (k + 1) y0 y1 y2 y3 y4 y5 y6 y7 y8)) ∧ (∀ y0 y1 y2 y3 y4 y5 y6 y7 y8 y9, LeO (flyleafref08_Check.l0 k y0 y1 y2 y3 y4 y5 y6 y7 y8 y9) (flyleafref08_Check.l0 (k + 1) y0 y1 y2 y3 y4 y5 y6 y7 y8 y9)) ∧ (∀ y0 y1 y2 y3 y4 y5 y6 y7 y8 y9 y10 y11 y12 y13 y14 y15 y16, LeO (flyleafref08_Check.j4 k y0 y1 y2 y3 y4 y5 y6 y7 y8 y9 y10 y11 y12 y13 y14 y15 y16) (flyleafref08_Check.j4 (k + 1) y0 y1 y2 y3 y4 y5 y6 y7 y8 y9 y10 y11 y12 y13 y14 y15 y16)) ∧ (∀ y0 y1 y2 y3 y4 y5 y6 y7 y8 y9 y10 y11 y12 y13 y14 y15 y16 y17 y18, LeO (flyleafref08_Check.l1 k y0 y1 y2 y3 y4 y5 y6 y7 y8 y9 y10 y11 y12 y13 y14 y15 y16 y17 y18) (flyleafref08_Check.l1 (k + 1) y0 y1 y2 y3 y4 y5 y6 y7 y8 y9 y10 y11 y12 y13 y14 y15 y16 y17 y18)) ∧ (∀ y0 y1 y2 y3 y4 y5 y6 y7 y8 y9 y10 y11 y12 y13 y14 y15 y16, LeO (flyleafref08_Check.j3 k y0 y1 y2 y3 y4 y5 y6 y7 y8 y9 y10 y11 y12 y13 y14 y15 y16) (flyleafref08_Check.j3 (k + 1) y0 y1 y2 y3 y4 y5 y6 y7 y8 y9 y10 y11 y12 y13 y14 y15 y16))
 | 0 => ⟨fun _ _ _ _ _ _ r h => by simp [flyleafref08_Check.j0] at h, fun _ _ _ _ _ _ _ _ _ r h => by simp [flyleafref08_Check.j1] at h, fun _ _ _ _ _ _ _ _ _ _ r h => by simp [flyleafref08_Check.l0] at h, fun _ _ _ _ _ _ _ _ _ _ _ _ _ _ _ _ _ r h => by simp [flyleafref08_Check.j4] at h, fun _ _ _ _ _ _ _ _ _ _ _ _ _ _ _ _ _ _ _ r h => by simp [flyleafref08_Check.l1] at h, fun _ _ _ _ _ _ _ _ _ _ _ _ _ _ _ _ _ r h => by simp [flyleafref08_Check.j3] at h⟩
 | k + 1 => by
  obtain ⟨ih0, ih1, ih2, ih3, ih4, ih5⟩ := flyleafref08_Check.mono_l k
  refine ⟨?_, ?_, ?_, ?_, ?_, ?_⟩
  ·intro y0 y1 y2 y3 y4 y5
   unfold flyleafref08_Check.j0
   repeat' first
   | (with_reducible exact ih0 _ _ _ _ _ _)
   | (with_reducible exact ih1 _ _ _ _ _ _ _ _ _)
   | (with_reducible exact ih2 _ _ _ _ _ _ _ _ _ _)
   | (with_reducible exact ih3 _ _ _ _ _ _ _ _ _ _ _ _ _ _ _ _ _)
   | (with_reducible exact ih4 _ _ _ _ _ _ _ _ _ _ _ _ _ _ _ _ _ _ _)
   | (with_reducible exact ih5 _ _ _ _ _ _ _ _ _ _ _ _ _ _ _ _ _)
   | (with_reducible exact flyleafref08_segment.mono _ _ _ _ _ _ _ _ _)
   | (with_reducible exact LeO.refl _)
   | (with_reducible exact LeO.none _)
   | (with_reducible refine LeO.ite ?_ ?_)
   | (with_reducible refine LeO.bind ?_ (fun _ => ?_))
   | exact ih0 _ _ _ _ _ _
   | exact ih1 _ _ _ _ _ _ _ _ _
   | exact ih2 _ _ _ _ _ _ _ _ _ _
   | exact ih3 _ _ _ _ _ _ _ _ _ _ _ _ _ _ _ _ _
   | exact ih4 _ _ _ _ _ _ _ _ _ _ _ _ _ _ _ _ _ _ _
   | exact ih5 _ _ _ _ _ _ _ _ _ _ _ _ _ _ _ _ _
   | exact flyleafref08_segment.mono _ _ _ _ _ _ _ _ _
   | exact LeO.none _
   | refine LeO.ite ?_ ?_
   | refine LeO.bind ?_ (fun _ => ?_)
  ·intro y0 y1 y2 y3 y4 y5 y6 y7 y8
   unfold flyleafref08_Check.j1
   repeat' first
   | (with_reducible exact ih0 _ _ _ _ _ _)
   | (with_reducible exact ih1 _ _ _ _ _ _ _ _ _)
   | (with_reducible exact ih2 _ _ _ _ _ _ _ _ _ _)
   | (with_reducible exact ih3 _ _ _ _ _ _ _ _ _ _ _ _ _ _ _ _ _)
   | (with_reducible exact ih4 _ _ _ _ _ _ _ _ _ _ _ _ _ _ _ _ _ _ _)
   | (with_reducible exact ih5 _ _ _ _ _ _ _ _ _ _ _ _ _ _ _ _ _)
   | (with_reducible exact flyleafref08_segment.mono _ _ _ _ _ _ _ _ _)
   | (with_reducible exact LeO.refl _)
   | (with_reducible exact LeO.none _)
   | (with_reducible refine LeO.ite ?_ ?_)
   | (with_reducible refine LeO.bind ?_ (fun _ => ?_))
   | exact ih0 _ _ _ _ _ _
   | exact ih1 _ _ _ _ _ _ _ _ _
   | exact ih2 _ _ _ _ _ _ _ _ _ _
   | exact ih3 _ _ _ _ _ _ _ _ _ _ _ _ _ _ _ _ _
   | exact ih4 _ _ _ _ _ _ _ _ _ _ _ _ _ _ _ _ _ _ _
   | exact ih5 _ _ _ _ _ _ _ _ _ _ _ _ _ _ _ _ _
   | exact flyleafref08_segment.mono _ _ _ _ _ _ _ _ _
   | exact LeO.none _
   | refine LeO.ite ?_ ?_
   | refine LeO.bind ?_ (fun _ => ?_)
  ·intro y0 y1 y2 y3 y4 y5 y6 y7 y8 y9
   unfold flyleafref08_Check.l0
   repeat' first
   | (with_reducible exact ih0 _ _ _ _ _ _)
   | (with_reducible exact ih1 _ _ _ _ _ _ _ _ _)
   | (with_reducible exact ih2 _ _ _ _ _ _ _ _ _ _)
   | (with_reducible exact ih3 _ _ _ _ _ _ _ _ _ _ _ _ _ _ _ _ _)
   | (with_reducible exact ih4 _ _ _ _ _ _ _ _ _ _ _ _ _ _ _ _ _ _ _)
   | (with_reducible exact ih5 _ _ _ _ _ _ _ _ _ _ _ _ _ _ _ _ _)
   | (with_reducible exact flyleafref08_segment.mono _ _ _ _ _ _ _ _ _)
   | (with_reducible exact LeO.refl _)
   | (with_reducible exact LeO.none _)
   | (with_reducible refine LeO.ite ?_ ?_)
   | (with_reducible refine LeO.bind ?_ (fun _ => ?_))
   | exact ih0 _ _ _ _ _ _
   | exact ih1 _ _ _ _ _ _ _ _ _
   | exact ih2 _ _ _ _ _ _ _ _ _ _
   | exact ih3 _ _ _ _ _ _ _ _ _ _ _ _ _ _ _ _ _
   | exact ih4 _ _ _ _ _ _ _ _ _ _ _ _ _ _ _ _ _ _ _
   | exact ih5 _ _ _ _ _ _ _ _ _ _ _ _ _ _ _ _ _
   | exact flyleafref08_segment.mono _ _ _ _ _ _ _ _ _
   | exact LeO.none _
   | refine LeO.ite ?_ ?_
   | refine LeO.bind ?_ (fun _ => ?_)
  ·intro y0 y1 y2 y3 y4 y5 y6 y7 y8 y9 y10 y11 y12 y13 y14 y15 y16
   unfold flyleafref08_Check.j4
   repeat' first
   | (with_reducible exact ih0 _ _ _ _ _ _)
   | (with_reducible exact ih1 _ _ _ _ _ _ _ _ _)
   | (with_reducible exact ih2 _ _ _ _ _ _ _ _ _ _)
   | (with_reducible exact ih3 _ _ _ _ _ _ _ _ _ _ _ _ _ _ _ _ _)
   | (with_reducible exact ih4 _ _ _ _ _ _ _ _ _ _ _ _ _ _ _ _ _ _ _)
   | (with_reducible exact ih5 _ _ _ _ _ _ _ _ _ _ _ _ _ _ _ _ _)
   | (with_reducible exact flyleafref08_segment.mono _ _ _ _ _ _ _ _ _)
   | (with_reducible exact LeO.refl _)
   | (with_reducible exact LeO.none _)
   | (with_reducible refine LeO.ite ?_ ?_)
   | (with_reducible refine LeO.bind ?_ (fun _ => ?_))
   | exact ih0 _ _ _ _ _ _
   | exact ih1 _ _ _ _ _ _ _ _ _
   | exact ih2 _ _ _ _ _ _ _ _ _ _
   | exact ih3 _ _ _ _ _ _ _ _ _ _ _ _ _ _ _ _ _
   | exact ih4 _ _ _ _ _ _ _ _ _ _ _ _ _ _ _ _ _ _ _
   | exact ih5 _ _ _ _ _ _ _ _ _ _ _ _ _ _ _ _ _
   | exact flyleafref08_segment.mono _ _ _ _ _ _ _ _ _
   | exact LeO.none _
   | refine LeO.ite ?_ ?_
   | refine LeO.bind ?_ (fun _ => ?_)
  ·intro y0 y1 y2 y3 y4 y5 y6 y7 y8 y9 y10 y11 y12 y13 y14 y15 y16 y17 y18
   unfold flyleafref08_Check.l1
   repeat' first
   | (with_reducible exact ih0 _ _ _ _ _ _)
   | (with_reducible exact ih1 _ _ _ _ _ _ _ _ _)
   | (with_reducible exact ih2 _ _ _ _ _ _ _ _ _ _)
   | (with_reducible exact ih3 _ _ _ _ _ _ _ _ _ _ _ _ _ _ _ _ _)
   | (with_reducible exact ih4 _ _ _ _ _ _ _ _ _ _ _ _ _ _ _ _ _ _ _)
   | (with_reducible exact ih5 _ _ _ _ _ _ _ _ _ _ _ _ _ _ _ _ _)
   | (with_reducible exact flyleafref08_segment.mono _ _ _ _ _ _ _ _ _)
   | (with_reducible exact LeO.refl _)
   | (with_reducible exact LeO.none _)
   | (with_reducible refine LeO.ite ?_ ?_)
   | (with_reducible refine LeO.bind ?_ (fun _ => ?_))
   | exact ih0 _ _ _ _ _ _
   | exact ih1 _ _ _ _ _ _ _ _ _
   | exact ih2 _ _ _ _ _ _ _ _ _ _
   | exact ih3 _ _ _ _ _ _ _ _ _ _ _ _ _ _ _ _ _
   | exact ih4 _ _ _ _ _ _ _ _ _ _ _ _ _ _ _ _ _ _ _
   | exact ih5 _ _ _ _ _ _ _ _ _ _ _ _ _ _ _ _ _
   | exact flyleafref08_segment.mono _ _ _ _ _ _ _ _ _
   | exact LeO.none _
   | refine LeO.ite ?_ ?_
   | refine LeO.bind ?_ (fun _ => ?_)
  ·intro y0 y1 y2 y3 y4 y5 y6 y7 y8 y9 y10 y11 y12 y13 y14 y15 y16
   unfold flyleafref08_Check.j3
   repeat' first
   | (with_reducible exact ih0 _ _ _ _ _ _)
   | (with_reducible exact ih1 _ _ _ _ _ _ _ _ _)
   | (with_reducible exact ih2 _ _ _ _ _ _ _ _ _ _)
   | (with_reducible exact ih3 _ _ _ _ _ _ _ _ _ _ _ _ _ _ _ _ _)
   | (with_reducible exact ih4 _ _ _ _ _ _ _ _ _ _ _ _ _ _ _ _ _ _ _)
   | (with_reducible exact ih5 _ _ _ _ _ _ _ _ _ _ _ _ _ _ _ _ _)
   | (with_reducible exact flyleafref08_segment.mono _ _ _ _ _ _ _ _ _)
   | (with_reducible exact LeO.refl _)
   | (with_reducible exact LeO.none _)
   | (with_reducible refine LeO.ite ?_ ?_)
   | (with_reducible refine LeO.bind ?_ (fun _ => ?_))
   | exact ih0 _ _ _ _ _ _
   | exact ih1 _ _ _ _ _ _ _ _ _
   | exact ih2 _ _ _ _ _ _ _ _ _ _
   | exact ih3 _ _ _ _ _ _ _ _ _ _ _ _ _ _ _ _ _
   | exact ih4 _ _ _ _ _ _ _ _ _ _ _ _ _ _ _ _ _ _ _
   | exact ih5 _ _ _ _ _ _ _ _ _ _ _ _ _ _ _ _ _
   | exact flyleafref08_segment.mono _ _ _ _ _ _ _ _ _
   | exact LeO.none _
   | refine LeO.ite ?_ ?_
   | refine LeO.bind ?_ (fun _ => ?_)
theorem flyleafref08_Check.mono : ∀ a0 a1 a2 a3 k, LeO (flyleafref08_Check.f k a0 a1 a2 a3) (flyleafref08_Check.f (k + 1) a0 a1 a2 a3) := by
 intro a0 a1 a2 a3 k
 obtain ⟨ih0, ih1, ih2, ih3, ih4, ih5⟩ := flyleafref08_Check.mono_l k
 unfold flyleafref08_Check.f
 repeat' first
   | (with_reducible exact ih0 _ _ _ _ _ _)
   | (with_reducible exact ih1 _ _ _ _ _ _ _ _ _)
   | (with_reducible exact ih2 _ _ _ _ _ _ _ _ _ _)
   | (with_reducible exact ih3 _ _ _ _ _ _ _ _ _ _ _ _ _ _ _ _ _)
   | (with_reducible exact ih4 _ _ _ _ _ _ _ _ _ _ _ _ _ _ _ _ _ _ _)
   | (with_reducible exact ih5 _ _ _ _ _ _ _ _ _ _ _ _ _ _ _ _ _)
   | (with_reducible exact flyleafref08_segment.mono _ _ _ _ _ _ _ _ _)
   | (with_reducible exact LeO.refl _)
   | (with_reducible exact LeO.none _)
   | (with_reducible refine LeO.ite ?_ ?_)
   | (with_reducible refine LeO.bind ?_ (fun _ => ?_))
   | exact ih0 _ _ _ _ _ _
   | exact ih1 _ _ _ _ _ _ _ _ _
   | exact ih2 _ _ _ _ _ _ _ _ _ _
   | exact ih3 _ _ _ _ _ _ _ _ _ _ _ _ _ _ _ _ _
   | exact ih4 _ _ _ _ _ _ _ _ _ _ _ _ _ _ _ _ _ _ _
   | exact ih5 _ _ _ _ _ _ _ _ _ _ _ _ _ _ _ _ _
   | exact flyleafref08_segment.mono _ _ _ _ _ _ _ _ _
   | exact LeO.none _
   | refine LeO.ite ?_ ?_
   | refine LeO.bind ?_ (fun _ => ?_)
set_option maxHeartbeats 8000000 in
set_option maxRecDepth 100000 in
theorem flyleafref08_Check.calls (k : Nat) (a0_0 : Int) (a0_1 : Int) (A0_2 : Option Addr) (c0_2 : Nat) (l0_2 : List (S32)) (a1 : Int) (r : Int) (w : World) (hr0_2 : Kd.C k32 w A0_2 l0_2.length l0_2) (hc0_2 : l0_2.length ≤ c0_2) (h : flyleafref08_Check.f k a0_0 a0_1 l0_2 a1 = some r) :
  Calls Try.prog 17 #[.agg #[.int .i64 a0_0, .int .i64 a0_1, .slice A0_2 l0_2.length c0_2], .int .i64 a1] w fun e w' => e = .returned (.int .i64 r) ∧ Below w.heap.size w w' := by
 have hu28 := Try.underlying28
 have hu32 := Try.underlying32
 have HR0_2 := Aside0.mk hr0_2
 have HC0_2 := Aside0.mk hc0_2
 clear hr0_2 hc0_2
 have HB := mk0_17 (Below.refl w.heap.size w)
 have H : (if a0_0 = 2 then (if (l0_2.length : Int) < 1 then (flyleafref08_Check.j0 k a1 (l0_2.length : Int) true a0_0 a0_1 l0_2) else (if (l0_2.length : Int) > 16 then (flyleafref08_Check.j0 k a1 (l0_2.length : Int) true a0_0 a0_1 l0_2) else (if (wrap64 (64 + (wrap64 (56 * (l0_2.length : Int))))) > a1 then (flyleafref08_Check.j0 k a1 (l0_2.length : Int) true a0_0 a0_1 l0_2) else ((flyleafref08_in.f a0_1).bind fun t180 => (flyleafref08_Check.j0 k a1 (l0_2.length : Int) (!t180) a0_0 a0_1 l0_2))))) else (if a0_0 = 3 then (if (l0_2.length : Int) < 1 then (flyleafref08_Check.j0 k a1 (l0_2.length : Int) true a0_0 a0_1 l0_2) else (if (l0_2.length : Int) > 16 then (flyleafref08_Check.j0 k a1 (l0_2.length : Int) true a0_0 a0_1 l0_2) else (if (wrap64 (64 + (wrap64 (56 * (l0_2.length : Int))))) > a1 then (flyleafref08_Check.j0 k a1 (l0_2.length : Int) true a0_0 a0_1 l0_2) else ((flyleafref08_in.f a0_1).bind fun t181 => (flyleafref08_Check.j0 k a1 (l0_2.length : Int) (!t181) a0_0 a0_1 l0_2))))) else (flyleafref08_Check.j0 k a1 (l0_2.length : Int) true a0_0 a0_1 l0_2))) = some r := h
 clear h
 have HC3 := Aside0.mk H
 clear H
 go_enter Try.func17, Try.ntmps17
 go_upto_region 2 with (first | ((with_reducible refine gate_dst (N := 2) rfl ?_); refine box_event ?hg (N := 2) ?hd (cs := #[.int .i64 a0_0, .int .i64 a0_1, .slice A0_2 l0_2.length c0_2]) (t := 28) ?hr ?_; (case hd => rfl); (case hg => rfl); (case hr => first | (go_simp; done) | (go_simp; rfl)); intro gb179 hg w4 hbox hb; have n0_ := mk0_17 (below_step (by repeat (first | (with_reducible first | exact HB.out | apply below_alloc | apply pw_below_drewN | apply below_drew1) | exact HB.out)) hb); have n1_ := mk0_17 (hbox); have n2_ := mk0_17 ((by rw [hg]; exact (below_size (by repeat (first | (with_reducible first | exact HB.out | apply below_alloc | apply pw_below_drewN | apply below_drew1) | exact HB.out))) : w.heap.size ≤ gb179)); have n3_ := mk0_17 ((by rw [hg]; exact (below_size (by repeat (first | (with_reducible first | exact HB.out | apply below_alloc | apply pw_below_drewN | apply below_drew1) | exact HB.out))) : w.heap.size ≤ gb179)); clear HB; have HB := n0_; have BK179 := n1_; have GW179 := n2_; have GE179 := n3_; clear n0_ n1_ n2_ n3_; clear hb hbox hg; have hcz5_0 : w4.cell? ⟨gb179, 0, none⟩ = some (.int .i64 a0_0) := (d617 BK179.out 0).trans rfl; have hcz5_1 : w4.cell? ⟨gb179, 1, none⟩ = some (.int .i64 a0_1) := (d617 BK179.out 1).trans rfl; have hcz5_2 : w4.cell? ⟨gb179, 2, none⟩ = some (.slice A0_2 l0_2.length c0_2) := (d617 BK179.out 2).trans rfl; have hfz5_0 := d717 BK179.out 0; have hfz5_1 := d717 BK179.out 1; have hfz5_2 := d717 BK179.out 2))
 (try simp only [Act.put, List.setIfInBounds_toArray, List.set_cons_zero, List.set_cons_succ])
 go_cut [47] (fun v47 wc => ∃ (kq : Nat) (x47_2 : Bool), v47 = .bool x47_2 ∧ Aside0 (flyleafref08_Check.j0 kq a1 (l0_2.length : Int) x47_2 a0_0 a0_1 l0_2 = some r) ∧ Aside0 (kq ≤ k) ∧ Aside0 (wc.heap[gb179]? = some (.cells #[.int .i64 a0_0, .int .i64 a0_1, (.slice A0_2 l0_2.length c0_2)] 28 (0, 0))) ∧ Aside0 (Below w.heap.size w wc))
 case first =>
  have H := HC3.out
  clear HC3
  by_cases c6 : a0_0 = 2
  ·rw [if_pos c6] at H
   have c6b0 : (a0_0 == 2) = true := beq_iff_eq.mpr c6
   have c6b1 : (a0_0 != 2) = false := bne_eq_false_iff_eq.mpr c6
   clear c6
   (first | rw [c6b0] | (simp only [i64_w, i32_w]; rw [c6b0]) | skip)
   by_cases c7 : (l0_2.length : Int) < 1
   ·rw [if_pos c7] at H
    have c7b0 : decide ((l0_2.length : Int) < 1) = true := decide_eq_true c7
    have c7b1 : decide (l0_2.length < 1) = true := decide_eq_true (by omega)
    clear c7
    have H' := Aside0.mk H
    clear H
    have hcz8_0 : w4.cell? ⟨gb179, 0, none⟩ = some (.int .i64 a0_0) := (d617 BK179.out 0).trans rfl
    have hcz8_1 : w4.cell? ⟨gb179, 1, none⟩ = some (.int .i64 a0_1) := (d617 BK179.out 1).trans rfl
    have hcz8_2 : w4.cell? ⟨gb179, 2, none⟩ = some (.slice A0_2 l0_2.length c0_2) := (d617 BK179.out 2).trans rfl
    have hfz8_0 := d717 BK179.out 0
    have hfz8_1 := d717 BK179.out 1
    have hfz8_2 := d717 BK179.out 2
    go_wp2
    go_meet
    case rel => exact ⟨_, (true), (by first | rfl | (simp; done) | (simp [*]; done)), H', ⟨by first | omega | exact Nat.le_refl _⟩, ⟨by (with_reducible repeat (first | refine d117 ?_ _ | refine d217 ?_ | refine d317 ?_ _)); exact BK179.out⟩, ⟨by repeat (first | (with_reducible first | exact HB.out | apply below_alloc | apply pw_below_drewN | apply below_drew1 | refine d417 ?_ GE179.out) | exact HB.out)⟩⟩
   ·rw [if_neg c7] at H
    have c7b0 : decide ((l0_2.length : Int) < 1) = false := decide_eq_false c7
    have c7b1 : decide (l0_2.length < 1) = false := decide_eq_false (by omega)
    clear c7
    by_cases c9 : (l0_2.length : Int) > 16
    ·rw [if_pos c9] at H
     have c9b0 : decide (16 < (l0_2.length : Int)) = true := decide_eq_true c9
     have c9b1 : decide (16 < l0_2.length) = true := decide_eq_true (by omega)
     clear c9
     have H' := Aside0.mk H
     clear H
     have hcz10_0 : w4.cell? ⟨gb179, 0, none⟩ = some (.int .i64 a0_0) := (d617 BK179.out 0).trans rfl
     have hcz10_1 : w4.cell? ⟨gb179, 1, none⟩ = some (.int .i64 a0_1) := (d617 BK179.out 1).trans rfl
     have hcz10_2 : w4.cell? ⟨gb179, 2, none⟩ = some (.slice A0_2 l0_2.length c0_2) := (d617 BK179.out 2).trans rfl
     have hfz10_0 := d717 BK179.out 0
     have hfz10_1 := d717 BK179.out 1
     have hfz10_2 := d717 BK179.out 2
     go_wp2
     go_meet
     case rel => exact ⟨_, (true), (by first | rfl | (simp; done) | (simp [*]; done)), H', ⟨by first | omega | exact Nat.le_refl _⟩, ⟨by (with_reducible repeat (first | refine d117 ?_ _ | refine d217 ?_ | refine d317 ?_ _)); exact BK179.out⟩, ⟨by repeat (first | (with_reducible first | exact HB.out | apply below_alloc | apply pw_below_drewN | apply below_drew1 | refine d417 ?_ GE179.out) | exact HB.out)⟩⟩
    ·rw [if_neg c9] at H
     have c9b0 : decide (16 < (l0_2.length : Int)) = false := decide_eq_false c9
     have c9b1 : decide (16 < l0_2.length) = false := decide_eq_false (by omega)
     clear c9
     by_cases c11 : (wrap64 (64 + (wrap64 (56 * (l0_2.length : Int))))) > a1
     ·rw [if_pos c11] at H
      have c11b0 : decide (a1 < (wrap64 (64 + (wrap64 (56 * (l0_2.length : Int)))))) = true := decide_eq_true c11
      clear c11
      have H' := Aside0.mk H
      clear H
      have hcz12_0 : w4.cell? ⟨gb179, 0, none⟩ = some (.int .i64 a0_0) := (d617 BK179.out 0).trans rfl
      have hcz12_1 : w4.cell? ⟨gb179, 1, none⟩ = some (.int .i64 a0_1) := (d617 BK179.out 1).trans rfl
      have hcz12_2 : w4.cell? ⟨gb179, 2, none⟩ = some (.slice A0_2 l0_2.length c0_2) := (d617 BK179.out 2).trans rfl
      have hfz12_0 := d717 BK179.out 0
      have hfz12_1 := d717 BK179.out 1
      have hfz12_2 := d717 BK179.out 2
      go_wp2
      go_meet
      case rel => exact ⟨_, (true), (by first | rfl | (simp; done) | (simp [*]; done)), H', ⟨by first | omega | exact Nat.le_refl _⟩, ⟨by (with_reducible repeat (first | refine d117 ?_ _ | refine d217 ?_ | refine d317 ?_ _)); exact BK179.out⟩, ⟨by repeat (first | (with_reducible first | exact HB.out | apply below_alloc | apply pw_below_drewN | apply below_drew1 | refine d417 ?_ GE179.out) | exact HB.out)⟩⟩
     ·rw [if_neg c11] at H
      have c11b0 : decide (a1 < (wrap64 (64 + (wrap64 (56 * (l0_2.length : Int)))))) = false := decide_eq_false c11
      clear c11
      replace H := Option.bind_eq_some_iff.mp H
      obtain ⟨t180, A130, H⟩ := H
      replace H : (flyleafref08_Check.j0 k a1 (l0_2.length : Int) (!t180) a0_0 a0_1 l0_2) = some r := H
      have A13 := Aside0.mk A130
      clear A130
      have H' := Aside0.mk H
      clear H
      have hcz14_0 : w4.cell? ⟨gb179, 0, none⟩ = some (.int .i64 a0_0) := (d617 BK179.out 0).trans rfl
      have hcz14_1 : w4.cell? ⟨gb179, 1, none⟩ = some (.int .i64 a0_1) := (d617 BK179.out 1).trans rfl
      have hcz14_2 : w4.cell? ⟨gb179, 2, none⟩ = some (.slice A0_2 l0_2.length c0_2) := (d617 BK179.out 2).trans rfl
      have hfz14_0 := d717 BK179.out 0
      have hfz14_1 := d717 BK179.out 1
      have hfz14_2 := d717 BK179.out 2
      go_wp2_with (first | (go_at_call 33; (with_reducible refine (flyleafref08_in.calls a0_1 t180 _ A13.out).mono ?_); rintro e w' ⟨rfl, ⟨nd, rfl⟩⟩))
      go_meet
      case rel => exact ⟨_, (!t180), (by first | rfl | (simp; done) | (simp [*]; done)), H', ⟨by first | omega | exact Nat.le_refl _⟩, ⟨by (with_reducible repeat (first | refine d117 ?_ _ | refine d217 ?_ | refine d317 ?_ _)); exact BK179.out⟩, ⟨by repeat (first | (with_reducible first | exact HB.out | apply below_alloc | apply pw_below_drewN | apply below_drew1 | refine d417 ?_ GE179.out) | exact HB.out)⟩⟩
  ·rw [if_neg c6] at H
   have c6b0 : (a0_0 == 2) = false := beq_eq_false_iff_ne.mpr c6
   have c6b1 : (a0_0 != 2) = true := bne_iff_ne.mpr c6
   (first | rw [c6b0] | (simp only [i64_w, i32_w]; rw [c6b0]) | skip)
   by_cases c15 : a0_0 = 3
   ·rw [if_pos c15] at H
    have c15b0 : (a0_0 == 3) = true := beq_iff_eq.mpr c15
    have c15b1 : (a0_0 != 3) = false := bne_eq_false_iff_eq.mpr c15
    clear c15
    by_cases c16 : (l0_2.length : Int) < 1
    ·rw [if_pos c16] at H
     have c16b0 : decide ((l0_2.length : Int) < 1) = true := decide_eq_true c16
     have c16b1 : decide (l0_2.length < 1) = true := decide_eq_true (by omega)
     clear c16
     have H' := Aside0.mk H
     clear H
     have hcz17_0 : w4.cell? ⟨gb179, 0, none⟩ = some (.int .i64 a0_0) := (d617 BK179.out 0).trans rfl
     have hcz17_1 : w4.cell? ⟨gb179, 1, none⟩ = some (.int .i64 a0_1) := (d617 BK179.out 1).trans rfl
     have hcz17_2 : w4.cell? ⟨gb179, 2, none⟩ = some (.slice A0_2 l0_2.length c0_2) := (d617 BK179.out 2).trans rfl
     have hfz17_0 := d717 BK179.out 0
     have hfz17_1 := d717 BK179.out 1
     have hfz17_2 := d717 BK179.out 2
     go_wp2
     go_meet
     case rel => exact ⟨_, (true), (by first | rfl | (simp; done) | (simp [*]; done)), H', ⟨by first | omega | exact Nat.le_refl _⟩, ⟨by (with_reducible repeat (first | refine d117 ?_ _ | refine d217 ?_ | refine d317 ?_ _)); exact BK179.out⟩, ⟨by repeat (first | (with_reducible first | exact HB.out | apply below_alloc | apply pw_below_drewN | apply below_drew1 | refine d417 ?_ GE179.out) | exact HB.out)⟩⟩
    ·rw [if_neg c16] at H
     have c16b0 : decide ((l0_2.length : Int) < 1) = false := decide_eq_false c16
     have c16b1 : decide (l0_2.length < 1) = false := decide_eq_false (by omega)
     clear c16
     by_cases c18 : (l0_2.length : Int) > 16
     ·rw [if_pos c18] at H
      have c18b0 : decide (16 < (l0_2.length : Int)) = true := decide_eq_true c18
      have c18b1 : decide (16 < l0_2.length) = true := decide_eq_true (by omega)
      clear c18
      have H' := Aside0.mk H
      clear H
      have hcz19_0 : w4.cell? ⟨gb179, 0, none⟩ = some (.int .i64 a0_0) := (d617 BK179.out 0).trans rfl
      have hcz19_1 : w4.cell? ⟨gb179, 1, none⟩ = some (.int .i64 a0_1) := (d617 BK179.out 1).trans rfl
      have hcz19_2 : w4.cell? ⟨gb179, 2, none⟩ = some (.slice A0_2 l0_2.length c0_2) := (d617 BK179.out 2).trans rfl
      have hfz19_0 := d717 BK179.out 0
      have hfz19_1 := d717 BK179.out 1
      have hfz19_2 := d717 BK179.out 2
      go_wp2
      go_meet
      case rel => exact ⟨_, (true), (by first | rfl | (simp; done) | (simp [*]; done)), H', ⟨by first | omega | exact Nat.le_refl _⟩, ⟨by (with_reducible repeat (first | refine d117 ?_ _ | refine d217 ?_ | refine d317 ?_ _)); exact BK179.out⟩, ⟨by repeat (first | (with_reducible first | exact HB.out | apply below_alloc | apply pw_below_drewN | apply below_drew1 | refine d417 ?_ GE179.out) | exact HB.out)⟩⟩
     ·rw [if_neg c18] at H
      have c18b0 : decide (16 < (l0_2.length : Int)) = false := decide_eq_false c18
      have c18b1 : decide (16 < l0_2.length) = false := decide_eq_false (by omega)
      clear c18
      by_cases c20 : (wrap64 (64 + (wrap64 (56 * (l0_2.length : Int))))) > a1
      ·rw [if_pos c20] at H
       have c20b0 : decide (a1 < (wrap64 (64 + (wrap64 (56 * (l0_2.length : Int)))))) = true := decide_eq_true c20
       clear c20
       have H' := Aside0.mk H
       clear H
       have hcz21_0 : w4.cell? ⟨gb179, 0, none⟩ = some (.int .i64 a0_0) := (d617 BK179.out 0).trans rfl
       have hcz21_1 : w4.cell? ⟨gb179, 1, none⟩ = some (.int .i64 a0_1) := (d617 BK179.out 1).trans rfl
       have hcz21_2 : w4.cell? ⟨gb179, 2, none⟩ = some (.slice A0_2 l0_2.length c0_2) := (d617 BK179.out 2).trans rfl
       have hfz21_0 := d717 BK179.out 0
       have hfz21_1 := d717 BK179.out 1
       have hfz21_2 := d717 BK179.out 2
       go_wp2
       go_meet
       case rel => exact ⟨_, (true), (by first | rfl | (simp; done) | (simp [*]; done)), H', ⟨by first | omega | exact Nat.le_refl _⟩, ⟨by (with_reducible repeat (first | refine d117 ?_ _ | refine d217 ?_ | refine d317 ?_ _)); exact BK179.out⟩, ⟨by repeat (first | (with_reducible first | exact HB.out | apply below_alloc | apply pw_below_drewN | apply below_drew1 | refine d417 ?_ GE179.out) | exact HB.out)⟩⟩
      ·rw [if_neg c20] at H
       have c20b0 : decide (a1 < (wrap64 (64 + (wrap64 (56 * (l0_2.length : Int)))))) = false := decide_eq_false c20
       clear c20
       replace H := Option.bind_eq_some_iff.mp H
       obtain ⟨t181, A220, H⟩ := H
       replace H : (flyleafref08_Check.j0 k a1 (l0_2.length : Int) (!t181) a0_0 a0_1 l0_2) = some r := H
       have A22 := Aside0.mk A220
       clear A220
       have H' := Aside0.mk H
       clear H
       have hcz23_0 : w4.cell? ⟨gb179, 0, none⟩ = some (.int .i64 a0_0) := (d617 BK179.out 0).trans rfl
       have hcz23_1 : w4.cell? ⟨gb179, 1, none⟩ = some (.int .i64 a0_1) := (d617 BK179.out 1).trans rfl
       have hcz23_2 : w4.cell? ⟨gb179, 2, none⟩ = some (.slice A0_2 l0_2.length c0_2) := (d617 BK179.out 2).trans rfl
       have hfz23_0 := d717 BK179.out 0
       have hfz23_1 := d717 BK179.out 1
       have hfz23_2 := d717 BK179.out 2
       go_wp2_with (first | (go_at_call 33; (with_reducible refine (flyleafref08_in.calls a0_1 t181 _ A22.out).mono ?_); rintro e w' ⟨rfl, ⟨nd, rfl⟩⟩))
       go_meet
       case rel => exact ⟨_, (!t181), (by first | rfl | (simp; done) | (simp [*]; done)), H', ⟨by first | omega | exact Nat.le_refl _⟩, ⟨by (with_reducible repeat (first | refine d117 ?_ _ | refine d217 ?_ | refine d317 ?_ _)); exact BK179.out⟩, ⟨by repeat (first | (with_reducible first | exact HB.out | apply below_alloc | apply pw_below_drewN | apply below_drew1 | refine d417 ?_ GE179.out) | exact HB.out)⟩⟩
   ·rw [if_neg c15] at H
    have c15b0 : (a0_0 == 3) = false := beq_eq_false_iff_ne.mpr c15
    have c15b1 : (a0_0 != 3) = true := bne_iff_ne.mpr c15
    have H' := Aside0.mk H
    clear H
    have hcz24_0 : w4.cell? ⟨gb179, 0, none⟩ = some (.int .i64 a0_0) := (d617 BK179.out 0).trans rfl
    have hcz24_1 : w4.cell? ⟨gb179, 1, none⟩ = some (.int .i64 a0_1) := (d617 BK179.out 1).trans rfl
    have hcz24_2 : w4.cell? ⟨gb179, 2, none⟩ = some (.slice A0_2 l0_2.length c0_2) := (d617 BK179.out 2).trans rfl
    have hfz24_0 := d717 BK179.out 0
    have hfz24_1 := d717 BK179.out 1
    have hfz24_2 := d717 BK179.out 2
    go_wp2
    go_meet
    case rel => exact ⟨_, (true), (by first | rfl | (simp; done) | (simp [*]; done)), H', ⟨by first | omega | exact Nat.le_refl _⟩, ⟨by (with_reducible repeat (first | refine d117 ?_ _ | refine d217 ?_ | refine d317 ?_ _)); exact BK179.out⟩, ⟨by repeat (first | (with_reducible first | exact HB.out | apply below_alloc | apply pw_below_drewN | apply below_drew1 | refine d417 ?_ GE179.out) | exact HB.out)⟩⟩
 case rest =>
  clear HC3
  try clear c1
  try clear c2
  try clear p2
  try clear c6
  try clear c6b0
  try clear c6b1
  try clear p6
  try clear c7
  try clear c7b0
  try clear c7b1
  try clear c9
  try clear c9b0
  try clear c9b1
  try clear c11
  try clear c11b0
  try clear c15
  try clear c15b0
  try clear c15b1
  try clear c16
  try clear c16b0
  try clear c16b1
  try clear c17
  try clear c18
  try clear c18b0
  try clear c18b1
  try clear c20
  try clear c20b0
  try clear hcz10_0
  try clear hcz10_1
  try clear hcz10_2
  try clear hcz12_0
  try clear hcz12_1
  try clear hcz12_2
  try clear hcz14_0
  try clear hcz14_1
  try clear hcz14_2
  try clear hcz17_0
  try clear hcz17_1
  try clear hcz17_2
  try clear hcz19_0
  try clear hcz19_1
  try clear hcz19_2
  try clear hcz21_0
  try clear hcz21_1
  try clear hcz21_2
  try clear hcz23_0
  try clear hcz23_1
  try clear hcz23_2
  try clear hcz24_0
  try clear hcz24_1
  try clear hcz24_2
  try clear hcz5_0
  try clear hcz5_1
  try clear hcz5_2
  try clear hcz8_0
  try clear hcz8_1
  try clear hcz8_2
  try clear hfz10_0
  try clear hfz10_1
  try clear hfz10_2
  try clear hfz12_0
  try clear hfz12_1
  try clear hfz12_2
  try clear hfz14_0
  try clear hfz14_1
  try clear hfz14_2
  try clear hfz17_0
  try clear hfz17_1
  try clear hfz17_2
  try clear hfz19_0
  try clear hfz19_1
  try clear hfz19_2
  try clear hfz21_0
  try clear hfz21_1
  try clear hfz21_2
  try clear hfz23_0
  try clear hfz23_1
  try clear hfz23_2
  try clear hfz24_0
  try clear hfz24_1
  try clear hfz24_2
  try clear hfz5_0
  try clear hfz5_1
  try clear hfz5_2
  try clear hfz8_0
  try clear hfz8_1
  try clear hfz8_2
  obtain ⟨kq, x47_2, rfl, HA, HJ2, BK179, HB⟩ := hcut
  cases kq with
  | zero => exact absurd HA.out (by simp [flyleafref08_Check.j0])
  | succ kj2 =>
   have H := HA.out
   clear HA
   simp only [flyleafref08_Check.j0] at H
   by_cases c25 : x47_2 = true
   ·subst c25
    have H1 : (some 16) = some r := by rw [if_pos rfl] at H; exact H
    clear H
    have H := H1
    clear H1
    obtain rfl := Option.some.inj H
    go_wp2
    go_ret
    exact ⟨by first | rfl | (simp [errW_none, errW_some] <;> rfl) | (simp [*, errW_none, errW_some] <;> rfl), by repeat (first | (with_reducible first | exact HB.out | apply below_alloc | apply pw_below_drewN | apply below_drew1 | refine d417 ?_ GE179.out) | exact HB.out)⟩
   ·replace c25 := Bool.eq_false_iff.mpr c25
    subst c25
    have H1 : (if a0_0 = 3 then (flyleafref08_Check.j1 kj2 a1 (l0_2.length : Int) 0 0 0 (a0_1 == 0) a0_0 a0_1 l0_2) else (flyleafref08_Check.j1 kj2 a1 (l0_2.length : Int) 0 0 0 false a0_0 a0_1 l0_2)) = some r := by rw [if_neg (show ¬ (false = true) by decide)] at H; exact H
    clear H
    have H := H1
    clear H1
    have HC26 := Aside0.mk H
    clear H
    go_upto_region 7 with (fail)
    go_cut [9] (fun v9 wc => ∃ (kq : Nat) (x9_25 : Bool), v9 = .bool x9_25 ∧ Aside0 (flyleafref08_Check.j1 kq a1 (l0_2.length : Int) 0 0 0 x9_25 a0_0 a0_1 l0_2 = some r) ∧ Aside0 (kq ≤ kj2) ∧ Aside0 (wc.heap[gb179]? = some (.cells #[.int .i64 a0_0, .int .i64 a0_1, (.slice A0_2 l0_2.length c0_2)] 28 (0, 0))) ∧ Aside0 (Below w.heap.size w wc))
    case first =>
     have H := HC26.out
     clear HC26
     by_cases c27 : a0_0 = 3
     ·rw [if_pos c27] at H
      have c27b0 : (a0_0 == 3) = true := beq_iff_eq.mpr c27
      have c27b1 : (a0_0 != 3) = false := bne_eq_false_iff_eq.mpr c27
      clear c27
      (first | rw [c27b0] | (simp only [i64_w, i32_w]; rw [c27b0]) | skip)
      have H' := Aside0.mk H
      clear H
      have hcz28_0 : wc.cell? ⟨gb179, 0, none⟩ = some (.int .i64 a0_0) := (d617 BK179.out 0).trans rfl
      have hcz28_1 : wc.cell? ⟨gb179, 1, none⟩ = some (.int .i64 a0_1) := (d617 BK179.out 1).trans rfl
      have hcz28_2 : wc.cell? ⟨gb179, 2, none⟩ = some (.slice A0_2 l0_2.length c0_2) := (d617 BK179.out 2).trans rfl
      have hfz28_0 := d717 BK179.out 0
      have hfz28_1 := d717 BK179.out 1
      have hfz28_2 := d717 BK179.out 2
      go_wp2
      go_meet
      case rel => exact ⟨_, ((a0_1 == 0)), (by first | rfl | (simp; done) | (simp [*]; done)), H', ⟨by have := HJ2.out; first | omega | exact Nat.le_refl _⟩, ⟨by (with_reducible repeat (first | refine d117 ?_ _ | refine d217 ?_ | refine d317 ?_ _)); exact BK179.out⟩, ⟨by repeat (first | (with_reducible first | exact HB.out | apply below_alloc | apply pw_below_drewN | apply below_drew1 | refine d417 ?_ GE179.out) | exact HB.out)⟩⟩
     ·rw [if_neg c27] at H
      have c27b0 : (a0_0 == 3) = false := beq_eq_false_iff_ne.mpr c27
      have c27b1 : (a0_0 != 3) = true := bne_iff_ne.mpr c27
      (first | rw [c27b0] | (simp only [i64_w, i32_w]; rw [c27b0]) | skip)
      have H' := Aside0.mk H
      clear H
      have hcz29_0 : wc.cell? ⟨gb179, 0, none⟩ = some (.int .i64 a0_0) := (d617 BK179.out 0).trans rfl
      have hcz29_1 : wc.cell? ⟨gb179, 1, none⟩ = some (.int .i64 a0_1) := (d617 BK179.out 1).trans rfl
      have hcz29_2 : wc.cell? ⟨gb179, 2, none⟩ = some (.slice A0_2 l0_2.length c0_2) := (d617 BK179.out 2).trans rfl
      have hfz29_0 := d717 BK179.out 0
      have hfz29_1 := d717 BK179.out 1
      have hfz29_2 := d717 BK179.out 2
      go_wp2
      go_meet
      case rel => exact ⟨_, (false), (by first | rfl | (simp; done) | (simp [*]; done)), H', ⟨by have := HJ2.out; first | omega | exact Nat.le_refl _⟩, ⟨by (with_reducible repeat (first | refine d117 ?_ _ | refine d217 ?_ | refine d317 ?_ _)); exact BK179.out⟩, ⟨by repeat (first | (with_reducible first | exact HB.out | apply below_alloc | apply pw_below_drewN | apply below_drew1 | refine d417 ?_ GE179.out) | exact HB.out)⟩⟩
    case rest =>
     clear HC26
     try clear c1
     try clear c2
     try clear p2
     try clear c6
     try clear c6b0
     try clear c6b1
     try clear p6
     try clear c7
     try clear c7b0
     try clear c7b1
     try clear c9
     try clear c9b0
     try clear c9b1
     try clear c11
     try clear c11b0
     try clear c15
     try clear c15b0
     try clear c15b1
     try clear c16
     try clear c16b0
     try clear c16b1
     try clear c17
     try clear c18
     try clear c18b0
     try clear c18b1
     try clear c20
     try clear c20b0
     try clear c25
     try clear c27
     try clear c27b0
     try clear c27b1
     try clear hcz10_0
     try clear hcz10_1
     try clear hcz10_2
     try clear hcz12_0
     try clear hcz12_1
     try clear hcz12_2
     try clear hcz14_0
     try clear hcz14_1
     try clear hcz14_2
     try clear hcz17_0
     try clear hcz17_1
     try clear hcz17_2
     try clear hcz19_0
     try clear hcz19_1
     try clear hcz19_2
     try clear hcz21_0
     try clear hcz21_1
     try clear hcz21_2
     try clear hcz23_0
     try clear hcz23_1
     try clear hcz23_2
     try clear hcz24_0
     try clear hcz24_1
     try clear hcz24_2
     try clear hcz28_0
     try clear hcz28_1
     try clear hcz28_2
     try clear hcz29_0
     try clear hcz29_1
     try clear hcz29_2
     try clear hcz5_0
     try clear hcz5_1
     try clear hcz5_2
     try clear hcz8_0
     try clear hcz8_1
     try clear hcz8_2
     try clear hfz10_0
     try clear hfz10_1
     try clear hfz10_2
     try clear hfz12_0
     try clear hfz12_1
     try clear hfz12_2
     try clear hfz14_0
     try clear hfz14_1
     try clear hfz14_2
     try clear hfz17_0
     try clear hfz17_1
     try clear hfz17_2
     try clear hfz19_0
     try clear hfz19_1
     try clear hfz19_2
     try clear hfz21_0
     try clear hfz21_1
     try clear hfz21_2
     try clear hfz23_0
     try clear hfz23_1
     try clear hfz23_2
     try clear hfz24_0
     try clear hfz24_1
     try clear hfz24_2
     try clear hfz28_0
     try clear hfz28_1
     try clear hfz28_2
     try clear hfz29_0
     try clear hfz29_1
     try clear hfz29_2
     try clear hfz5_0
     try clear hfz5_1
     try clear hfz5_2
     try clear hfz8_0
     try clear hfz8_1
     try clear hfz8_2
     try clear p2
     try clear p6
     obtain ⟨kq, x9_25, rfl, HA, HJ25, BK179, HB⟩ := hcut
     cases kq with
     | zero => exact absurd HA.out (by simp [flyleafref08_Check.j1])
     | succ kj25 =>
      have H := HA.out
      clear HA
      simp only [flyleafref08_Check.j1] at H
      have H' := Aside0.mk H
      clear H
      go_wp2
      go_loopg [6, 7, 8, 9, 10] kj25 (fun kq v6 v7 v8 v9 v10 w' => ∃ (x6_3 : Int) (x7_3 : Int) (x8_3 : Int) (x9_3 : Bool) (x10_3 : Int), v6 = .int .i64 x6_3 ∧ v7 = .int .i64 x7_3 ∧ v8 = .int .i64 x8_3 ∧ v9 = .bool x9_3 ∧ v10 = .int .i64 x10_3 ∧ Aside0 (flyleafref08_Check.l0 kq a1 (l0_2.length : Int) x6_3 x7_3 x8_3 x9_3 x10_3 a0_0 a0_1 l0_2 = some r) ∧ Aside0 (kq ≤ kj25) ∧ Aside0 (w'.heap[gb179]? = some (.cells #[.int .i64 a0_0, .int .i64 a0_1, (.slice A0_2 l0_2.length c0_2)] 28 (0, 0))) ∧ Aside0 (Below w.heap.size w w'))
      case atStart => exact ⟨(0), (0), (0), (x9_25), (0), (by first | rfl | (simp; done) | (simp [*]; done)), (by first | rfl | (simp; done) | (simp [*]; done)), (by first | rfl | (simp; done) | (simp [*]; done)), (by first | rfl | (simp; done) | (simp [*]; done)), (by first | rfl | (simp; done) | (simp [*]; done)), H', ⟨Nat.le_refl _⟩, ⟨by (with_reducible repeat (first | refine d117 ?_ _ | refine d217 ?_ | refine d317 ?_ _)); exact BK179.out⟩, ⟨by repeat (first | (with_reducible first | exact HB.out | apply below_alloc | apply pw_below_drewN | apply below_drew1 | refine d417 ?_ GE179.out) | exact HB.out)⟩⟩
      case round =>
       clear H'
       try clear c1
       try clear c2
       try clear p2
       try clear c6
       try clear c6b0
       try clear c6b1
       try clear p6
       try clear c7
       try clear c7b0
       try clear c7b1
       try clear c9
       try clear c9b0
       try clear c9b1
       try clear c11
       try clear c11b0
       try clear c15
       try clear c15b0
       try clear c15b1
       try clear c16
       try clear c16b0
       try clear c16b1
       try clear c17
       try clear c18
       try clear c18b0
       try clear c18b1
       try clear c20
       try clear c20b0
       try clear c25
       try clear c27
       try clear c27b0
       try clear c27b1
       try clear hcz10_0
       try clear hcz10_1
       try clear hcz10_2
       try clear hcz12_0
       try clear hcz12_1
       try clear hcz12_2
       try clear hcz14_0
       try clear hcz14_1
       try clear hcz14_2
       try clear hcz17_0
       try clear hcz17_1
       try clear hcz17_2
       try clear hcz19_0
       try clear hcz19_1
       try clear hcz19_2
       try clear hcz21_0
       try clear hcz21_1
       try clear hcz21_2
       try clear hcz23_0
       try clear hcz23_1
       try clear hcz23_2
       try clear hcz24_0
       try clear hcz24_1
       try clear hcz24_2
       try clear hcz28_0
       try clear hcz28_1
       try clear hcz28_2
       try clear hcz29_0
       try clear hcz29_1
       try clear hcz29_2
       try clear hcz5_0
       try clear hcz5_1
       try clear hcz5_2
       try clear hcz8_0
       try clear hcz8_1
       try clear hcz8_2
       try clear hfz10_0
       try clear hfz10_1
       try clear hfz10_2
       try clear hfz12_0
       try clear hfz12_1
       try clear hfz12_2
       try clear hfz14_0
       try clear hfz14_1
       try clear hfz14_2
       try clear hfz17_0
       try clear hfz17_1
       try clear hfz17_2
       try clear hfz19_0
       try clear hfz19_1
       try clear hfz19_2
       try clear hfz21_0
       try clear hfz21_1
       try clear hfz21_2
       try clear hfz23_0
       try clear hfz23_1
       try clear hfz23_2
       try clear hfz24_0
       try clear hfz24_1
       try clear hfz24_2
       try clear hfz28_0
       try clear hfz28_1
       try clear hfz28_2
       try clear hfz29_0
       try clear hfz29_1
       try clear hfz29_2
       try clear hfz5_0
       try clear hfz5_1
       try clear hfz5_2
       try clear hfz8_0
       try clear hfz8_1
       try clear hfz8_2
       try clear p2
       try clear p6
       obtain ⟨x6_3, x7_3, x8_3, x9_3, x10_3, rfl, rfl, rfl, rfl, rfl, HA, HK3, BK179, HB⟩ := hrel
       cases gk with
       | zero => exact absurd HA.out (by simp [flyleafref08_Check.l0])
       | succ k3 =>
        have H := HA.out
        clear HA
        simp only [flyleafref08_Check.l0] at H
        by_cases c30 : x10_3 < (l0_2.length : Int)
        ·rw [if_pos c30] at H
         have c30b0 : decide (x10_3 < (l0_2.length : Int)) = true := decide_eq_true c30
         clear c30
         by_cases c31 : 0 ≤ x10_3
         ·rw [if_pos c31] at H
          have c31b0 : decide (0 ≤ x10_3) = true := decide_eq_true c31
          clear c31
          by_cases c32 : x10_3 < (l0_2.length : Int)
          ·rw [if_pos c32] at H
           have c32b0 : decide (x10_3 < (l0_2.length : Int)) = true := decide_eq_true c32
           clear c32
           replace H := Option.bind_eq_some_iff.mp H
           obtain ⟨t184, A330, H⟩ := H
           replace H : (if t184 = true then (if ((rd_T32 l0_2 x10_3).f0) = 1 then (if x6_3 > 0 then ((flyleafref08_First.f ((rd_T32 l0_2 x10_3).f0) ((rd_T32 l0_2 x10_3).f1) ((rd_T32 l0_2 x10_3).f2) ((rd_T32 l0_2 x10_3).f3) ((rd_T32 l0_2 x10_3).f4) ((rd_T32 l0_2 x10_3).f5) ((rd_T32 l0_2 x10_3).f6)).bind fun t185 => (flyleafref08_Check.j3 k3 a1 (l0_2.length : Int) x6_3 x7_3 x9_3 x10_3 (decide (t185 < x8_3)) a0_0 a0_1 l0_2 ((rd_T32 l0_2 x10_3).f0) ((rd_T32 l0_2 x10_3).f1) ((rd_T32 l0_2 x10_3).f2) ((rd_T32 l0_2 x10_3).f3) ((rd_T32 l0_2 x10_3).f4) ((rd_T32 l0_2 x10_3).f5) ((rd_T32 l0_2 x10_3).f6))) else (flyleafref08_Check.j3 k3 a1 (l0_2.length : Int) x6_3 x7_3 x9_3 x10_3 false a0_0 a0_1 l0_2 ((rd_T32 l0_2 x10_3).f0) ((rd_T32 l0_2 x10_3).f1) ((rd_T32 l0_2 x10_3).f2) ((rd_T32 l0_2 x10_3).f3) ((rd_T32 l0_2 x10_3).f4) ((rd_T32 l0_2 x10_3).f5) ((rd_T32 l0_2 x10_3).f6))) else (flyleafref08_Check.j4 k3 a1 (l0_2.length : Int) x6_3 x7_3 x8_3 x9_3 x10_3 a0_0 a0_1 l0_2 ((rd_T32 l0_2 x10_3).f0) ((rd_T32 l0_2 x10_3).f1) ((rd_T32 l0_2 x10_3).f2) ((rd_T32 l0_2 x10_3).f3) ((rd_T32 l0_2 x10_3).f4) ((rd_T32 l0_2 x10_3).f5) ((rd_T32 l0_2 x10_3).f6))) else (some 16)) = some r := H
           have A33 := Aside0.mk A330
           clear A330
           by_cases c34 : t184 = true
           ·subst c34
            have H1 : (if ((rd_T32 l0_2 x10_3).f0) = 1 then (if x6_3 > 0 then ((flyleafref08_First.f ((rd_T32 l0_2 x10_3).f0) ((rd_T32 l0_2 x10_3).f1) ((rd_T32 l0_2 x10_3).f2) ((rd_T32 l0_2 x10_3).f3) ((rd_T32 l0_2 x10_3).f4) ((rd_T32 l0_2 x10_3).f5) ((rd_T32 l0_2 x10_3).f6)).bind fun t185 => (flyleafref08_Check.j3 k3 a1 (l0_2.length : Int) x6_3 x7_3 x9_3 x10_3 (decide (t185 < x8_3)) a0_0 a0_1 l0_2 ((rd_T32 l0_2 x10_3).f0) ((rd_T32 l0_2 x10_3).f1) ((rd_T32 l0_2 x10_3).f2) ((rd_T32 l0_2 x10_3).f3) ((rd_T32 l0_2 x10_3).f4) ((rd_T32 l0_2 x10_3).f5) ((rd_T32 l0_2 x10_3).f6))) else (flyleafref08_Check.j3 k3 a1 (l0_2.length : Int) x6_3 x7_3 x9_3 x10_3 false a0_0 a0_1 l0_2 ((rd_T32 l0_2 x10_3).f0) ((rd_T32 l0_2 x10_3).f1) ((rd_T32 l0_2 x10_3).f2) ((rd_T32 l0_2 x10_3).f3) ((rd_T32 l0_2 x10_3).f4) ((rd_T32 l0_2 x10_3).f5) ((rd_T32 l0_2 x10_3).f6))) else (flyleafref08_Check.j4 k3 a1 (l0_2.length : Int) x6_3 x7_3 x8_3 x9_3 x10_3 a0_0 a0_1 l0_2 ((rd_T32 l0_2 x10_3).f0) ((rd_T32 l0_2 x10_3).f1) ((rd_T32 l0_2 x10_3).f2) ((rd_T32 l0_2 x10_3).f3) ((rd_T32 l0_2 x10_3).f4) ((rd_T32 l0_2 x10_3).f5) ((rd_T32 l0_2 x10_3).f6))) = some r := by rw [if_pos rfl] at H; exact H
            clear H
            have H := H1
            clear H1
            have HC35 := Aside0.mk H
            clear H
            have hcz36_0 : wr.cell? ⟨gb179, 0, none⟩ = some (.int .i64 a0_0) := (d617 BK179.out 0).trans rfl
            have hcz36_1 : wr.cell? ⟨gb179, 1, none⟩ = some (.int .i64 a0_1) := (d617 BK179.out 1).trans rfl
            have hcz36_2 : wr.cell? ⟨gb179, 2, none⟩ = some (.slice A0_2 l0_2.length c0_2) := (d617 BK179.out 2).trans rfl
            have hfz36_0 := d717 BK179.out 0
            have hfz36_1 := d717 BK179.out 1
            have hfz36_2 := d717 BK179.out 2
            have p182 : 0 ≤ (x10_3 : Int) := of_decide_eq_true (by first | (with_reducible assumption) | assumption)
            have q182 : x10_3 < (l0_2.length : Int) := of_decide_eq_true (by first | (with_reducible assumption) | assumption)
            obtain ⟨ad182, e182, hx182_0, hx182_1, hx182_2, hx182_3, hx182_4, hx182_5, hx182_6⟩ := at_T32 HR0_2.out x10_3 p182 q182
            cases e182
            replace hx182_0 := (HB.out.cell (World.block_lt_of_cell? w _ hx182_0)).trans hx182_0
            replace hx182_1 := (HB.out.cell (World.block_lt_of_cell? w _ hx182_1)).trans hx182_1
            replace hx182_2 := (HB.out.cell (World.block_lt_of_cell? w _ hx182_2)).trans hx182_2
            replace hx182_3 := (HB.out.cell (World.block_lt_of_cell? w _ hx182_3)).trans hx182_3
            replace hx182_4 := (HB.out.cell (World.block_lt_of_cell? w _ hx182_4)).trans hx182_4
            replace hx182_5 := (HB.out.cell (World.block_lt_of_cell? w _ hx182_5)).trans hx182_5
            replace hx182_6 := (HB.out.cell (World.block_lt_of_cell? w _ hx182_6)).trans hx182_6
            replace p182 := eq_true p182
            replace q182 := eq_true q182
            go_upto_if 73 with (first | ((with_reducible refine gate_dst (N := 11) rfl ?_); refine box_event ?hg (N := 11) ?hd (cs := #[.int .i64 0, .int .i64 0, .int .i64 0, .int .i64 0, .int .i64 0, .int .i64 0, .int .i64 0]) (t := 32) ?hr ?_; (case hd => rfl); (case hg => rfl); (case hr => first | (go_simp; done) | (go_simp; rfl)); intro gb183 hg w37 hbox hb; have n0_ := mk0_17 (blk_below (g := gb179) (o := .cells #[.int .i64 a0_0, .int .i64 a0_1, .slice (some ad182) l0_2.length c0_2] 28 (0, 0)) (by (with_reducible repeat (first | refine d117 ?_ _ | refine d217 ?_ | refine d317 ?_ _)); exact BK179.out) hb); have n1_ := mk0_17 (below_step (by repeat (first | (with_reducible first | exact HB.out | apply below_alloc | apply pw_below_drewN | apply below_drew1 | refine d417 ?_ GE179.out) | exact HB.out)) hb); have n2_ := mk0_17 (hbox); have n3_ := mk0_17 ((by rw [hg]; exact (below_size (by repeat (first | (with_reducible first | exact HB.out | apply below_alloc | apply pw_below_drewN | apply below_drew1 | refine d417 ?_ GE179.out) | exact HB.out))) : w.heap.size ≤ gb183)); have n4_ := mk0_17 ((by rw [hg]; exact (below_size (by repeat (first | (with_reducible first | exact HB.out | apply below_alloc | apply pw_below_drewN | apply below_drew1 | refine d417 ?_ GE179.out) | exact HB.out))) : w.heap.size ≤ gb183)); have n5_ := mk0_17 ((by rw [hg]; exact Nat.ne_of_lt (blk_lt (g := gb179) (o := .cells #[.int .i64 a0_0, .int .i64 a0_1, .slice (some ad182) l0_2.length c0_2] 28 (0, 0)) (by (with_reducible repeat (first | refine d117 ?_ _ | refine d217 ?_ | refine d317 ?_ _)); exact BK179.out)) : gb179 ≠ gb183)); have n6_ := mk0_17 ((by rw [hg]; exact Nat.ne_of_gt (blk_lt (g := gb179) (o := .cells #[.int .i64 a0_0, .int .i64 a0_1, .slice (some ad182) l0_2.length c0_2] 28 (0, 0)) (by (with_reducible repeat (first | refine d117 ?_ _ | refine d217 ?_ | refine d317 ?_ _)); exact BK179.out)) : gb183 ≠ gb179)); clear BK179; clear HB; have BK179 := n0_; have HB := n1_; have BK183 := n2_; have GW183 := n3_; have GE183 := n4_; have NB179_183 := n5_; have NB183_179 := n6_; clear n0_ n1_ n2_ n3_ n4_ n5_ n6_; clear hb hbox hg; have hnb38 := NB183_179.out; have hnc38 := NB179_183.out; have hcz39_0 : w37.cell? ⟨gb183, 0, none⟩ = some (.int .i64 0) := (d617 BK183.out 0).trans rfl; have hcz39_1 : w37.cell? ⟨gb183, 1, none⟩ = some (.int .i64 0) := (d617 BK183.out 1).trans rfl; have hcz39_2 : w37.cell? ⟨gb183, 2, none⟩ = some (.int .i64 0) := (d617 BK183.out 2).trans rfl; have hcz39_3 : w37.cell? ⟨gb183, 3, none⟩ = some (.int .i64 0) := (d617 BK183.out 3).trans rfl; have hcz39_4 : w37.cell? ⟨gb183, 4, none⟩ = some (.int .i64 0) := (d617 BK183.out 4).trans rfl; have hcz39_5 : w37.cell? ⟨gb183, 5, none⟩ = some (.int .i64 0) := (d617 BK183.out 5).trans rfl; have hcz39_6 : w37.cell? ⟨gb183, 6, none⟩ = some (.int .i64 0) := (d617 BK183.out 6).trans rfl; have hfz39_0 := d717 BK183.out 0; have hfz39_1 := d717 BK183.out 1; have hfz39_2 := d717 BK183.out 2; have hfz39_3 := d717 BK183.out 3; have hfz39_4 := d717 BK183.out 4; have hfz39_5 := d717 BK183.out 5; have hfz39_6 := d717 BK183.out 6) | ((with_reducible refine gate_callee (f := 34) rfl ?_); refine goesL_ (some 68) rfl rfl Try.func34 (by kernel_rfl) rfl #[.agg #[.int .i64 ((rd_T32 l0_2 x10_3).f0), .int .i64 ((rd_T32 l0_2 x10_3).f1), .int .i64 ((rd_T32 l0_2 x10_3).f2), .int .i64 ((rd_T32 l0_2 x10_3).f3), .int .i64 ((rd_T32 l0_2 x10_3).f4), .int .i64 ((rd_T32 l0_2 x10_3).f5), .int .i64 ((rd_T32 l0_2 x10_3).f6)], .int .i64 a1] rfl (by (try simp only [List.map_toArray, List.map_cons, List.map_nil]); first | done | rfl | (simp only [List.length_drop, List.length_take]; rfl)) ?_; (with_reducible refine (flyleafref08_segment.calls k3 ((rd_T32 l0_2 x10_3).f0) ((rd_T32 l0_2 x10_3).f1) ((rd_T32 l0_2 x10_3).f2) ((rd_T32 l0_2 x10_3).f3) ((rd_T32 l0_2 x10_3).f4) ((rd_T32 l0_2 x10_3).f5) ((rd_T32 l0_2 x10_3).f6) a1 true _ A33.out).mono ?_); rintro e w40 ⟨rfl, hb⟩; refine ⟨_, rfl, ?_⟩; have n0_ := mk0_17 (blk_below (g := gb179) (o := .cells #[.int .i64 a0_0, .int .i64 a0_1, .slice (some ad182) l0_2.length c0_2] 28 (0, 0)) (by (with_reducible repeat (first | refine d117 ?_ _ | refine d217 ?_ | refine d317 ?_ _)); refine d517 ?_ NB179_183.out _; (with_reducible repeat (first | refine d117 ?_ _ | refine d217 ?_ | refine d317 ?_ _)); refine d517 ?_ NB179_183.out _; (with_reducible repeat (first | refine d117 ?_ _ | refine d217 ?_ | refine d317 ?_ _)); refine d517 ?_ NB179_183.out _; (with_reducible repeat (first | refine d117 ?_ _ | refine d217 ?_ | refine d317 ?_ _)); refine d517 ?_ NB179_183.out _; (with_reducible repeat (first | refine d117 ?_ _ | refine d217 ?_ | refine d317 ?_ _)); refine d517 ?_ NB179_183.out _; (with_reducible repeat (first | refine d117 ?_ _ | refine d217 ?_ | refine d317 ?_ _)); refine d517 ?_ NB179_183.out _; (with_reducible repeat (first | refine d117 ?_ _ | refine d217 ?_ | refine d317 ?_ _)); refine d517 ?_ NB179_183.out _; (with_reducible repeat (first | refine d117 ?_ _ | refine d217 ?_ | refine d317 ?_ _)); exact BK179.out) hb); have n1_ := mk0_17 (blk_below (g := gb183) (o := .cells #[.int .i64 ((rd_T32 l0_2 x10_3).f0), .int .i64 ((rd_T32 l0_2 x10_3).f1), .int .i64 ((rd_T32 l0_2 x10_3).f2), .int .i64 ((rd_T32 l0_2 x10_3).f3), .int .i64 ((rd_T32 l0_2 x10_3).f4), .int .i64 ((rd_T32 l0_2 x10_3).f5), .int .i64 ((rd_T32 l0_2 x10_3).f6)] 32 (0, 0)) (by (with_reducible repeat (first | refine d117 ?_ _ | refine d217 ?_ | refine d317 ?_ _)); refine blk_put (cs := #[.int .i64 ((rd_T32 l0_2 x10_3).f0), .int .i64 ((rd_T32 l0_2 x10_3).f1), .int .i64 ((rd_T32 l0_2 x10_3).f2), .int .i64 ((rd_T32 l0_2 x10_3).f3), .int .i64 ((rd_T32 l0_2 x10_3).f4), .int .i64 ((rd_T32 l0_2 x10_3).f5), .int .i64 0]) ?_ 6 _ rfl; (with_reducible repeat (first | refine d117 ?_ _ | refine d217 ?_ | refine d317 ?_ _)); refine blk_put (cs := #[.int .i64 ((rd_T32 l0_2 x10_3).f0), .int .i64 ((rd_T32 l0_2 x10_3).f1), .int .i64 ((rd_T32 l0_2 x10_3).f2), .int .i64 ((rd_T32 l0_2 x10_3).f3), .int .i64 ((rd_T32 l0_2 x10_3).f4), .int .i64 0, .int .i64 0]) ?_ 5 _ rfl; (with_reducible repeat (first | refine d117 ?_ _ | refine d217 ?_ | refine d317 ?_ _)); refine blk_put (cs := #[.int .i64 ((rd_T32 l0_2 x10_3).f0), .int .i64 ((rd_T32 l0_2 x10_3).f1), .int .i64 ((rd_T32 l0_2 x10_3).f2), .int .i64 ((rd_T32 l0_2 x10_3).f3), .int .i64 0, .int .i64 0, .int .i64 0]) ?_ 4 _ rfl; (with_reducible repeat (first | refine d117 ?_ _ | refine d217 ?_ | refine d317 ?_ _)); refine blk_put (cs := #[.int .i64 ((rd_T32 l0_2 x10_3).f0), .int .i64 ((rd_T32 l0_2 x10_3).f1), .int .i64 ((rd_T32 l0_2 x10_3).f2), .int .i64 0, .int .i64 0, .int .i64 0, .int .i64 0]) ?_ 3 _ rfl; (with_reducible repeat (first | refine d117 ?_ _ | refine d217 ?_ | refine d317 ?_ _)); refine blk_put (cs := #[.int .i64 ((rd_T32 l0_2 x10_3).f0), .int .i64 ((rd_T32 l0_2 x10_3).f1), .int .i64 0, .int .i64 0, .int .i64 0, .int .i64 0, .int .i64 0]) ?_ 2 _ rfl; (with_reducible repeat (first | refine d117 ?_ _ | refine d217 ?_ | refine d317 ?_ _)); refine blk_put (cs := #[.int .i64 ((rd_T32 l0_2 x10_3).f0), .int .i64 0, .int .i64 0, .int .i64 0, .int .i64 0, .int .i64 0, .int .i64 0]) ?_ 1 _ rfl; (with_reducible repeat (first | refine d117 ?_ _ | refine d217 ?_ | refine d317 ?_ _)); refine blk_put (cs := #[.int .i64 0, .int .i64 0, .int .i64 0, .int .i64 0, .int .i64 0, .int .i64 0, .int .i64 0]) ?_ 0 _ rfl; (with_reducible repeat (first | refine d117 ?_ _ | refine d217 ?_ | refine d317 ?_ _)); exact BK183.out) hb); have n2_ := mk0_17 (below_step (by repeat (first | (with_reducible first | exact HB.out | apply below_alloc | apply pw_below_drewN | apply below_drew1 | refine d417 ?_ GE179.out | refine d417 ?_ GE183.out) | exact HB.out)) hb); clear BK179; clear BK183; clear HB; have BK179 := n0_; have BK183 := n1_; have HB := n2_; clear n0_ n1_ n2_; (try clear hb); (try clear hb2); (try clear hk); (try clear hi); have hcz41_0 : w40.cell? ⟨gb183, 0, none⟩ = some (.int .i64 ((rd_T32 l0_2 x10_3).f0)) := (d617 BK183.out 0).trans rfl; have hcz41_1 : w40.cell? ⟨gb183, 1, none⟩ = some (.int .i64 ((rd_T32 l0_2 x10_3).f1)) := (d617 BK183.out 1).trans rfl; have hcz41_2 : w40.cell? ⟨gb183, 2, none⟩ = some (.int .i64 ((rd_T32 l0_2 x10_3).f2)) := (d617 BK183.out 2).trans rfl; have hcz41_3 : w40.cell? ⟨gb183, 3, none⟩ = some (.int .i64 ((rd_T32 l0_2 x10_3).f3)) := (d617 BK183.out 3).trans rfl; have hcz41_4 : w40.cell? ⟨gb183, 4, none⟩ = some (.int .i64 ((rd_T32 l0_2 x10_3).f4)) := (d617 BK183.out 4).trans rfl; have hcz41_5 : w40.cell? ⟨gb183, 5, none⟩ = some (.int .i64 ((rd_T32 l0_2 x10_3).f5)) := (d617 BK183.out 5).trans rfl; have hcz41_6 : w40.cell? ⟨gb183, 6, none⟩ = some (.int .i64 ((rd_T32 l0_2 x10_3).f6)) := (d617 BK183.out 6).trans rfl; have hfz41_0 := d717 BK183.out 0; have hfz41_1 := d717 BK183.out 1; have hfz41_2 := d717 BK183.out 2; have hfz41_3 := d717 BK183.out 3; have hfz41_4 := d717 BK183.out 4; have hfz41_5 := d717 BK183.out 5; have hfz41_6 := d717 BK183.out 6))
            (try simp only [Act.put, List.setIfInBounds_toArray, List.set_cons_zero, List.set_cons_succ])
            go_cut [6, 8, 9] (fun v6 v8 v9 wc => ∃ (kq : Nat) (x6_34 : Int) (x8_34 : Int) (x9_34 : Bool), v6 = .int .i64 x6_34 ∧ v8 = .int .i64 x8_34 ∧ v9 = .bool x9_34 ∧ Aside0 (flyleafref08_Check.j4 kq a1 (l0_2.length : Int) x6_34 x7_3 x8_34 x9_34 x10_3 a0_0 a0_1 l0_2 ((rd_T32 l0_2 x10_3).f0) ((rd_T32 l0_2 x10_3).f1) ((rd_T32 l0_2 x10_3).f2) ((rd_T32 l0_2 x10_3).f3) ((rd_T32 l0_2 x10_3).f4) ((rd_T32 l0_2 x10_3).f5) ((rd_T32 l0_2 x10_3).f6) = some r) ∧ Aside0 (kq ≤ k3) ∧ Aside0 (wc.heap[gb179]? = some (.cells #[.int .i64 a0_0, .int .i64 a0_1, (.slice (some ad182) l0_2.length c0_2)] 28 (0, 0))) ∧ Aside0 (wc.heap[gb183]? = some (.cells #[.int .i64 ((rd_T32 l0_2 x10_3).f0), .int .i64 ((rd_T32 l0_2 x10_3).f1), .int .i64 ((rd_T32 l0_2 x10_3).f2), .int .i64 ((rd_T32 l0_2 x10_3).f3), .int .i64 ((rd_T32 l0_2 x10_3).f4), .int .i64 ((rd_T32 l0_2 x10_3).f5), .int .i64 ((rd_T32 l0_2 x10_3).f6)] 32 (0, 0))) ∧ Aside0 (Below w.heap.size w wc))
            case first =>
             have H := HC35.out
             clear HC35
             by_cases c42 : ((rd_T32 l0_2 x10_3).f0) = 1
             ·rw [if_pos c42] at H
              have c42b0 : (((rd_T32 l0_2 x10_3).f0) == 1) = true := beq_iff_eq.mpr c42
              have c42b1 : (((rd_T32 l0_2 x10_3).f0) != 1) = false := bne_eq_false_iff_eq.mpr c42
              clear c42
              (first | rw [c42b0] | (simp only [i64_w, i32_w]; rw [c42b0]) | skip)
              have HC43 := Aside0.mk H
              clear H
              go_upto_region 16 with (fail)
              go_cut [81] (fun v81 wc => ∃ (kq : Nat) (x81_42 : Bool), v81 = .bool x81_42 ∧ Aside0 (flyleafref08_Check.j3 kq a1 (l0_2.length : Int) x6_3 x7_3 x9_3 x10_3 x81_42 a0_0 a0_1 l0_2 ((rd_T32 l0_2 x10_3).f0) ((rd_T32 l0_2 x10_3).f1) ((rd_T32 l0_2 x10_3).f2) ((rd_T32 l0_2 x10_3).f3) ((rd_T32 l0_2 x10_3).f4) ((rd_T32 l0_2 x10_3).f5) ((rd_T32 l0_2 x10_3).f6) = some r) ∧ Aside0 (kq ≤ k3) ∧ Aside0 (wc.heap[gb179]? = some (.cells #[.int .i64 a0_0, .int .i64 a0_1, (.slice (some ad182) l0_2.length c0_2)] 28 (0, 0))) ∧ Aside0 (wc.heap[gb183]? = some (.cells #[.int .i64 ((rd_T32 l0_2 x10_3).f0), .int .i64 ((rd_T32 l0_2 x10_3).f1), .int .i64 ((rd_T32 l0_2 x10_3).f2), .int .i64 ((rd_T32 l0_2 x10_3).f3), .int .i64 ((rd_T32 l0_2 x10_3).f4), .int .i64 ((rd_T32 l0_2 x10_3).f5), .int .i64 ((rd_T32 l0_2 x10_3).f6)] 32 (0, 0))) ∧ Aside0 (Below w.heap.size w wc))
              case first =>
               have H := HC43.out
               clear HC43
               by_cases c44 : x6_3 > 0
               ·rw [if_pos c44] at H
                have c44b0 : decide (0 < x6_3) = true := decide_eq_true c44
                clear c44
                (first | rw [c44b0] | (simp only [i64_w, i32_w]; rw [c44b0]) | skip)
                replace H := Option.bind_eq_some_iff.mp H
                obtain ⟨t185, A450, H⟩ := H
                replace H : (flyleafref08_Check.j3 k3 a1 (l0_2.length : Int) x6_3 x7_3 x9_3 x10_3 (decide (t185 < x8_3)) a0_0 a0_1 l0_2 ((rd_T32 l0_2 x10_3).f0) ((rd_T32 l0_2 x10_3).f1) ((rd_T32 l0_2 x10_3).f2) ((rd_T32 l0_2 x10_3).f3) ((rd_T32 l0_2 x10_3).f4) ((rd_T32 l0_2 x10_3).f5) ((rd_T32 l0_2 x10_3).f6)) = some r := H
                have A45 := Aside0.mk A450
                clear A450
                have H' := Aside0.mk H
                clear H
                have hnb46 := NB183_179.out
                have hnc46 := NB179_183.out
                have hcz47_0 : w40.cell? ⟨gb183, 0, none⟩ = some (.int .i64 ((rd_T32 l0_2 x10_3).f0)) := (d617 BK183.out 0).trans rfl
                have hcz47_1 : w40.cell? ⟨gb183, 1, none⟩ = some (.int .i64 ((rd_T32 l0_2 x10_3).f1)) := (d617 BK183.out 1).trans rfl
                have hcz47_2 : w40.cell? ⟨gb183, 2, none⟩ = some (.int .i64 ((rd_T32 l0_2 x10_3).f2)) := (d617 BK183.out 2).trans rfl
                have hcz47_3 : w40.cell? ⟨gb183, 3, none⟩ = some (.int .i64 ((rd_T32 l0_2 x10_3).f3)) := (d617 BK183.out 3).trans rfl
                have hcz47_4 : w40.cell? ⟨gb183, 4, none⟩ = some (.int .i64 ((rd_T32 l0_2 x10_3).f4)) := (d617 BK183.out 4).trans rfl
                have hcz47_5 : w40.cell? ⟨gb183, 5, none⟩ = some (.int .i64 ((rd_T32 l0_2 x10_3).f5)) := (d617 BK183.out 5).trans rfl
                have hcz47_6 : w40.cell? ⟨gb183, 6, none⟩ = some (.int .i64 ((rd_T32 l0_2 x10_3).f6)) := (d617 BK183.out 6).trans rfl
                have hfz47_0 := d717 BK183.out 0
                have hfz47_1 := d717 BK183.out 1
                have hfz47_2 := d717 BK183.out 2
                have hfz47_3 := d717 BK183.out 3
                have hfz47_4 := d717 BK183.out 4
                have hfz47_5 := d717 BK183.out 5
                have hfz47_6 := d717 BK183.out 6
                go_wp2_with (first | (go_at_call 35; (with_reducible refine (flyleafref08_First.calls ((rd_T32 l0_2 x10_3).f0) ((rd_T32 l0_2 x10_3).f1) ((rd_T32 l0_2 x10_3).f2) ((rd_T32 l0_2 x10_3).f3) ((rd_T32 l0_2 x10_3).f4) ((rd_T32 l0_2 x10_3).f5) ((rd_T32 l0_2 x10_3).f6) t185 _ A45.out).mono ?_); rintro e w48 ⟨rfl, hb⟩; have n0_ := mk0_17 (blk_below (g := gb179) (o := .cells #[.int .i64 a0_0, .int .i64 a0_1, .slice (some ad182) l0_2.length c0_2] 28 (0, 0)) (by (with_reducible repeat (first | refine d117 ?_ _ | refine d217 ?_ | refine d317 ?_ _)); exact BK179.out) hb); have n1_ := mk0_17 (blk_below (g := gb183) (o := .cells #[.int .i64 ((rd_T32 l0_2 x10_3).f0), .int .i64 ((rd_T32 l0_2 x10_3).f1), .int .i64 ((rd_T32 l0_2 x10_3).f2), .int .i64 ((rd_T32 l0_2 x10_3).f3), .int .i64 ((rd_T32 l0_2 x10_3).f4), .int .i64 ((rd_T32 l0_2 x10_3).f5), .int .i64 ((rd_T32 l0_2 x10_3).f6)] 32 (0, 0)) (by (with_reducible repeat (first | refine d117 ?_ _ | refine d217 ?_ | refine d317 ?_ _)); exact BK183.out) hb); have n2_ := mk0_17 (below_step (by repeat (first | (with_reducible first | exact HB.out | apply below_alloc | apply pw_below_drewN | apply below_drew1 | refine d417 ?_ GE179.out | refine d417 ?_ GE183.out) | exact HB.out)) hb); clear BK179; clear BK183; clear HB; have BK179 := n0_; have BK183 := n1_; have HB := n2_; clear n0_ n1_ n2_; (try clear hb); (try clear hb2); (try clear hk); (try clear hi)))
                go_meet
                case rel => exact ⟨_, (decide (t185 < x8_3)), (by first | rfl | (simp; done) | (simp [*]; done)), H', ⟨by have := HJ2.out; have := HJ25.out; have := HK3.out; first | omega | exact Nat.le_refl _⟩, ⟨by (with_reducible repeat (first | refine d117 ?_ _ | refine d217 ?_ | refine d317 ?_ _)); exact BK179.out⟩, ⟨by (with_reducible repeat (first | refine d117 ?_ _ | refine d217 ?_ | refine d317 ?_ _)); exact BK183.out⟩, ⟨by repeat (first | (with_reducible first | exact HB.out | apply below_alloc | apply pw_below_drewN | apply below_drew1 | refine d417 ?_ GE179.out | refine d417 ?_ GE183.out) | exact HB.out)⟩⟩
               ·rw [if_neg c44] at H
                have c44b0 : decide (0 < x6_3) = false := decide_eq_false c44
                clear c44
                (first | rw [c44b0] | (simp only [i64_w, i32_w]; rw [c44b0]) | skip)
                have H' := Aside0.mk H
                clear H
                go_wp2
                go_meet
                case rel => exact ⟨_, (false), (by first | rfl | (simp; done) | (simp [*]; done)), H', ⟨by have := HJ2.out; have := HJ25.out; have := HK3.out; first | omega | exact Nat.le_refl _⟩, ⟨by (with_reducible repeat (first | refine d117 ?_ _ | refine d217 ?_ | refine d317 ?_ _)); exact BK179.out⟩, ⟨by (with_reducible repeat (first | refine d117 ?_ _ | refine d217 ?_ | refine d317 ?_ _)); exact BK183.out⟩, ⟨by repeat (first | (with_reducible first | exact HB.out | apply below_alloc | apply pw_below_drewN | apply below_drew1 | refine d417 ?_ GE179.out | refine d417 ?_ GE183.out) | exact HB.out)⟩⟩
              case rest =>
               clear HC43
               try clear c1
               try clear p1
               try clear q1
               try clear hx1
               try clear c2
               try clear p2
               try clear c3
               try clear c4
               try clear c6
               try clear c6b0
               try clear c6b1
               try clear p6
               try clear c7
               try clear c7b0
               try clear c7b1
               try clear c9
               try clear c9b0
               try clear c9b1
               try clear c11
               try clear c11b0
               try clear c15
               try clear c15b0
               try clear c15b1
               try clear c16
               try clear c16b0
               try clear c16b1
               try clear c17
               try clear c18
               try clear c18b0
               try clear c18b1
               try clear p18
               try clear q18
               try clear hx18
               try clear c20
               try clear c20b0
               try clear c25
               try clear c27
               try clear c27b0
               try clear c27b1
               try clear c30
               try clear c30b0
               try clear c31
               try clear c31b0
               try clear c32
               try clear c32b0
               try clear c34
               try clear c38
               try clear c42
               try clear c42b0
               try clear c42b1
               try clear c44
               try clear c44b0
               try clear c46
               try clear hcz10_0
               try clear hcz10_1
               try clear hcz10_2
               try clear hcz12_0
               try clear hcz12_1
               try clear hcz12_2
               try clear hcz14_0
               try clear hcz14_1
               try clear hcz14_2
               try clear hcz17_0
               try clear hcz17_1
               try clear hcz17_2
               try clear hcz19_0
               try clear hcz19_1
               try clear hcz19_2
               try clear hcz21_0
               try clear hcz21_1
               try clear hcz21_2
               try clear hcz23_0
               try clear hcz23_1
               try clear hcz23_2
               try clear hcz24_0
               try clear hcz24_1
               try clear hcz24_2
               try clear hcz28_0
               try clear hcz28_1
               try clear hcz28_2
               try clear hcz29_0
               try clear hcz29_1
               try clear hcz29_2
               try clear hcz36_0
               try clear hcz36_1
               try clear hcz36_2
               try clear hcz39_0
               try clear hcz39_1
               try clear hcz39_2
               try clear hcz39_3
               try clear hcz39_4
               try clear hcz39_5
               try clear hcz39_6
               try clear hcz41_0
               try clear hcz41_1
               try clear hcz41_2
               try clear hcz41_3
               try clear hcz41_4
               try clear hcz41_5
               try clear hcz41_6
               try clear hcz47_0
               try clear hcz47_1
               try clear hcz47_2
               try clear hcz47_3
               try clear hcz47_4
               try clear hcz47_5
               try clear hcz47_6
               try clear hcz5_0
               try clear hcz5_1
               try clear hcz5_2
               try clear hcz8_0
               try clear hcz8_1
               try clear hcz8_2
               try clear hfz10_0
               try clear hfz10_1
               try clear hfz10_2
               try clear hfz12_0
               try clear hfz12_1
               try clear hfz12_2
               try clear hfz14_0
               try clear hfz14_1
               try clear hfz14_2
               try clear hfz17_0
               try clear hfz17_1
               try clear hfz17_2
               try clear hfz19_0
               try clear hfz19_1
               try clear hfz19_2
               try clear hfz21_0
               try clear hfz21_1
               try clear hfz21_2
               try clear hfz23_0
               try clear hfz23_1
               try clear hfz23_2
               try clear hfz24_0
               try clear hfz24_1
               try clear hfz24_2
               try clear hfz28_0
               try clear hfz28_1
               try clear hfz28_2
               try clear hfz29_0
               try clear hfz29_1
               try clear hfz29_2
               try clear hfz36_0
               try clear hfz36_1
               try clear hfz36_2
               try clear hfz39_0
               try clear hfz39_1
               try clear hfz39_2
               try clear hfz39_3
               try clear hfz39_4
               try clear hfz39_5
               try clear hfz39_6
               try clear hfz41_0
               try clear hfz41_1
               try clear hfz41_2
               try clear hfz41_3
               try clear hfz41_4
               try clear hfz41_5
               try clear hfz41_6
               try clear hfz47_0
               try clear hfz47_1
               try clear hfz47_2
               try clear hfz47_3
               try clear hfz47_4
               try clear hfz47_5
               try clear hfz47_6
               try clear hfz5_0
               try clear hfz5_1
               try clear hfz5_2
               try clear hfz8_0
               try clear hfz8_1
               try clear hfz8_2
               try clear hx182_0
               try clear hx182_1
               try clear hx182_2
               try clear hx182_3
               try clear hx182_4
               try clear hx182_5
               try clear hx182_6
               try clear p182
               try clear p2
               try clear p6
               try clear q182
               obtain ⟨kq, x81_42, rfl, HA, HJ42, BK179, BK183, HB⟩ := hcut
               cases kq with
               | zero => exact absurd HA.out (by simp [flyleafref08_Check.j3])
               | succ kj42 =>
                have H := HA.out
                clear HA
                simp only [flyleafref08_Check.j3] at H
                by_cases c49 : x81_42 = true
                ·subst c49
                 have H1 : (some 16) = some r := by rw [if_pos rfl] at H; exact H
                 clear H
                 have H := H1
                 clear H1
                 obtain rfl := Option.some.inj H
                 go_wp2
                 go_ret
                 exact ⟨by first | rfl | (simp [errW_none, errW_some] <;> rfl) | (simp [*, errW_none, errW_some] <;> rfl), by repeat (first | (with_reducible first | exact HB.out | apply below_alloc | apply pw_below_drewN | apply below_drew1 | refine d417 ?_ GE179.out | refine d417 ?_ GE183.out) | exact HB.out)⟩
                ·replace c49 := Bool.eq_false_iff.mpr c49
                 subst c49
                 have H1 : ((flyleafref08_Last.f ((rd_T32 l0_2 x10_3).f0) ((rd_T32 l0_2 x10_3).f1) ((rd_T32 l0_2 x10_3).f2) ((rd_T32 l0_2 x10_3).f3) ((rd_T32 l0_2 x10_3).f4) ((rd_T32 l0_2 x10_3).f5) ((rd_T32 l0_2 x10_3).f6)).bind fun t186 => (if (Int.tmod ((rd_T32 l0_2 x10_3).f1) 2) = 1 then (if a0_1 ≥ ((rd_T32 l0_2 x10_3).f3) then (if a0_1 < (wrap64 (((rd_T32 l0_2 x10_3).f3) + ((rd_T32 l0_2 x10_3).f5))) then (flyleafref08_Check.j4 kj42 a1 (l0_2.length : Int) (wrap64 (x6_3 + 1)) x7_3 t186 true x10_3 a0_0 a0_1 l0_2 ((rd_T32 l0_2 x10_3).f0) ((rd_T32 l0_2 x10_3).f1) ((rd_T32 l0_2 x10_3).f2) ((rd_T32 l0_2 x10_3).f3) ((rd_T32 l0_2 x10_3).f4) ((rd_T32 l0_2 x10_3).f5) ((rd_T32 l0_2 x10_3).f6)) else (flyleafref08_Check.j4 kj42 a1 (l0_2.length : Int) (wrap64 (x6_3 + 1)) x7_3 t186 x9_3 x10_3 a0_0 a0_1 l0_2 ((rd_T32 l0_2 x10_3).f0) ((rd_T32 l0_2 x10_3).f1) ((rd_T32 l0_2 x10_3).f2) ((rd_T32 l0_2 x10_3).f3) ((rd_T32 l0_2 x10_3).f4) ((rd_T32 l0_2 x10_3).f5) ((rd_T32 l0_2 x10_3).f6))) else (flyleafref08_Check.j4 kj42 a1 (l0_2.length : Int) (wrap64 (x6_3 + 1)) x7_3 t186 x9_3 x10_3 a0_0 a0_1 l0_2 ((rd_T32 l0_2 x10_3).f0) ((rd_T32 l0_2 x10_3).f1) ((rd_T32 l0_2 x10_3).f2) ((rd_T32 l0_2 x10_3).f3) ((rd_T32 l0_2 x10_3).f4) ((rd_T32 l0_2 x10_3).f5) ((rd_T32 l0_2 x10_3).f6))) else (flyleafref08_Check.j4 kj42 a1 (l0_2.length : Int) (wrap64 (x6_3 + 1)) x7_3 t186 x9_3 x10_3 a0_0 a0_1 l0_2 ((rd_T32 l0_2 x10_3).f0) ((rd_T32 l0_2 x10_3).f1) ((rd_T32 l0_2 x10_3).f2) ((rd_T32 l0_2 x10_3).f3) ((rd_T32 l0_2 x10_3).f4) ((rd_T32 l0_2 x10_3).f5) ((rd_T32 l0_2 x10_3).f6)))) = some r := by rw [if_neg (show ¬ (false = true) by decide)] at H; exact H
                 clear H
                 have H := H1
                 clear H1
                 replace H := Option.bind_eq_some_iff.mp H
                 obtain ⟨t186, A500, H⟩ := H
                 replace H : (if (Int.tmod ((rd_T32 l0_2 x10_3).f1) 2) = 1 then (if a0_1 ≥ ((rd_T32 l0_2 x10_3).f3) then (if a0_1 < (wrap64 (((rd_T32 l0_2 x10_3).f3) + ((rd_T32 l0_2 x10_3).f5))) then (flyleafref08_Check.j4 kj42 a1 (l0_2.length : Int) (wrap64 (x6_3 + 1)) x7_3 t186 true x10_3 a0_0 a0_1 l0_2 ((rd_T32 l0_2 x10_3).f0) ((rd_T32 l0_2 x10_3).f1) ((rd_T32 l0_2 x10_3).f2) ((rd_T32 l0_2 x10_3).f3) ((rd_T32 l0_2 x10_3).f4) ((rd_T32 l0_2 x10_3).f5) ((rd_T32 l0_2 x10_3).f6)) else (flyleafref08_Check.j4 kj42 a1 (l0_2.length : Int) (wrap64 (x6_3 + 1)) x7_3 t186 x9_3 x10_3 a0_0 a0_1 l0_2 ((rd_T32 l0_2 x10_3).f0) ((rd_T32 l0_2 x10_3).f1) ((rd_T32 l0_2 x10_3).f2) ((rd_T32 l0_2 x10_3).f3) ((rd_T32 l0_2 x10_3).f4) ((rd_T32 l0_2 x10_3).f5) ((rd_T32 l0_2 x10_3).f6))) else (flyleafref08_Check.j4 kj42 a1 (l0_2.length : Int) (wrap64 (x6_3 + 1)) x7_3 t186 x9_3 x10_3 a0_0 a0_1 l0_2 ((rd_T32 l0_2 x10_3).f0) ((rd_T32 l0_2 x10_3).f1) ((rd_T32 l0_2 x10_3).f2) ((rd_T32 l0_2 x10_3).f3) ((rd_T32 l0_2 x10_3).f4) ((rd_T32 l0_2 x10_3).f5) ((rd_T32 l0_2 x10_3).f6))) else (flyleafref08_Check.j4 kj42 a1 (l0_2.length : Int) (wrap64 (x6_3 + 1)) x7_3 t186 x9_3 x10_3 a0_0 a0_1 l0_2 ((rd_T32 l0_2 x10_3).f0) ((rd_T32 l0_2 x10_3).f1) ((rd_T32 l0_2 x10_3).f2) ((rd_T32 l0_2 x10_3).f3) ((rd_T32 l0_2 x10_3).f4) ((rd_T32 l0_2 x10_3).f5) ((rd_T32 l0_2 x10_3).f6))) = some r := H
                 have A50 := Aside0.mk A500
                 clear A500
                 by_cases c51 : (Int.tmod ((rd_T32 l0_2 x10_3).f1) 2) = 1
                 ·rw [if_pos c51] at H
                  have c51b0 : ((Int.tmod ((rd_T32 l0_2 x10_3).f1) 2) == 1) = true := beq_iff_eq.mpr c51
                  have c51b1 : ((Int.tmod ((rd_T32 l0_2 x10_3).f1) 2) != 1) = false := bne_eq_false_iff_eq.mpr c51
                  clear c51
                  by_cases c52 : a0_1 ≥ ((rd_T32 l0_2 x10_3).f3)
                  ·rw [if_pos c52] at H
                   have c52b0 : decide (((rd_T32 l0_2 x10_3).f3) ≤ a0_1) = true := decide_eq_true c52
                   clear c52
                   by_cases c53 : a0_1 < (wrap64 (((rd_T32 l0_2 x10_3).f3) + ((rd_T32 l0_2 x10_3).f5)))
                   ·rw [if_pos c53] at H
                    have c53b0 : decide (a0_1 < (wrap64 (((rd_T32 l0_2 x10_3).f3) + ((rd_T32 l0_2 x10_3).f5)))) = true := decide_eq_true c53
                    clear c53
                    have H' := Aside0.mk H
                    clear H
                    have hnb54 := NB183_179.out
                    have hnc54 := NB179_183.out
                    have hcz55_0 : wc.cell? ⟨gb183, 0, none⟩ = some (.int .i64 ((rd_T32 l0_2 x10_3).f0)) := (d617 BK183.out 0).trans rfl
                    have hcz55_1 : wc.cell? ⟨gb183, 1, none⟩ = some (.int .i64 ((rd_T32 l0_2 x10_3).f1)) := (d617 BK183.out 1).trans rfl
                    have hcz55_2 : wc.cell? ⟨gb183, 2, none⟩ = some (.int .i64 ((rd_T32 l0_2 x10_3).f2)) := (d617 BK183.out 2).trans rfl
                    have hcz55_3 : wc.cell? ⟨gb183, 3, none⟩ = some (.int .i64 ((rd_T32 l0_2 x10_3).f3)) := (d617 BK183.out 3).trans rfl
                    have hcz55_4 : wc.cell? ⟨gb183, 4, none⟩ = some (.int .i64 ((rd_T32 l0_2 x10_3).f4)) := (d617 BK183.out 4).trans rfl
                    have hcz55_5 : wc.cell? ⟨gb183, 5, none⟩ = some (.int .i64 ((rd_T32 l0_2 x10_3).f5)) := (d617 BK183.out 5).trans rfl
                    have hcz55_6 : wc.cell? ⟨gb183, 6, none⟩ = some (.int .i64 ((rd_T32 l0_2 x10_3).f6)) := (d617 BK183.out 6).trans rfl
                    have hfz55_0 := d717 BK183.out 0
                    have hfz55_1 := d717 BK183.out 1
                    have hfz55_2 := d717 BK183.out 2
                    have hfz55_3 := d717 BK183.out 3
                    have hfz55_4 := d717 BK183.out 4
                    have hfz55_5 := d717 BK183.out 5
                    have hfz55_6 := d717 BK183.out 6
                    go_wp2_with (first | ((with_reducible refine gate_callee (f := 36) rfl ?_); refine goesL_ (some 85) rfl rfl Try.func36 (by kernel_rfl) rfl #[.agg #[.int .i64 ((rd_T32 l0_2 x10_3).f0), .int .i64 ((rd_T32 l0_2 x10_3).f1), .int .i64 ((rd_T32 l0_2 x10_3).f2), .int .i64 ((rd_T32 l0_2 x10_3).f3), .int .i64 ((rd_T32 l0_2 x10_3).f4), .int .i64 ((rd_T32 l0_2 x10_3).f5), .int .i64 ((rd_T32 l0_2 x10_3).f6)]] rfl (by (try simp only [List.map_toArray, List.map_cons, List.map_nil]); first | done | rfl | (simp only [List.length_drop, List.length_take]; rfl)) ?_; (with_reducible refine (flyleafref08_Last.calls ((rd_T32 l0_2 x10_3).f0) ((rd_T32 l0_2 x10_3).f1) ((rd_T32 l0_2 x10_3).f2) ((rd_T32 l0_2 x10_3).f3) ((rd_T32 l0_2 x10_3).f4) ((rd_T32 l0_2 x10_3).f5) ((rd_T32 l0_2 x10_3).f6) t186 _ A50.out).mono ?_); rintro e w56 ⟨rfl, hb⟩; refine ⟨_, rfl, ?_⟩; have n0_ := mk0_17 (blk_below (g := gb179) (o := .cells #[.int .i64 a0_0, .int .i64 a0_1, .slice (some ad182) l0_2.length c0_2] 28 (0, 0)) (by (with_reducible repeat (first | refine d117 ?_ _ | refine d217 ?_ | refine d317 ?_ _)); exact BK179.out) hb); have n1_ := mk0_17 (blk_below (g := gb183) (o := .cells #[.int .i64 ((rd_T32 l0_2 x10_3).f0), .int .i64 ((rd_T32 l0_2 x10_3).f1), .int .i64 ((rd_T32 l0_2 x10_3).f2), .int .i64 ((rd_T32 l0_2 x10_3).f3), .int .i64 ((rd_T32 l0_2 x10_3).f4), .int .i64 ((rd_T32 l0_2 x10_3).f5), .int .i64 ((rd_T32 l0_2 x10_3).f6)] 32 (0, 0)) (by (with_reducible repeat (first | refine d117 ?_ _ | refine d217 ?_ | refine d317 ?_ _)); exact BK183.out) hb); have n2_ := mk0_17 (below_step (by repeat (first | (with_reducible first | exact HB.out | apply below_alloc | apply pw_below_drewN | apply below_drew1 | refine d417 ?_ GE179.out | refine d417 ?_ GE183.out) | exact HB.out)) hb); clear BK179; clear BK183; clear HB; have BK179 := n0_; have BK183 := n1_; have HB := n2_; clear n0_ n1_ n2_; (try clear hb); (try clear hb2); (try clear hk); (try clear hi); have hcz57_0 : w56.cell? ⟨gb183, 0, none⟩ = some (.int .i64 ((rd_T32 l0_2 x10_3).f0)) := (d617 BK183.out 0).trans rfl; have hcz57_1 : w56.cell? ⟨gb183, 1, none⟩ = some (.int .i64 ((rd_T32 l0_2 x10_3).f1)) := (d617 BK183.out 1).trans rfl; have hcz57_2 : w56.cell? ⟨gb183, 2, none⟩ = some (.int .i64 ((rd_T32 l0_2 x10_3).f2)) := (d617 BK183.out 2).trans rfl; have hcz57_3 : w56.cell? ⟨gb183, 3, none⟩ = some (.int .i64 ((rd_T32 l0_2 x10_3).f3)) := (d617 BK183.out 3).trans rfl; have hcz57_4 : w56.cell? ⟨gb183, 4, none⟩ = some (.int .i64 ((rd_T32 l0_2 x10_3).f4)) := (d617 BK183.out 4).trans rfl; have hcz57_5 : w56.cell? ⟨gb183, 5, none⟩ = some (.int .i64 ((rd_T32 l0_2 x10_3).f5)) := (d617 BK183.out 5).trans rfl; have hcz57_6 : w56.cell? ⟨gb183, 6, none⟩ = some (.int .i64 ((rd_T32 l0_2 x10_3).f6)) := (d617 BK183.out 6).trans rfl; have hfz57_0 := d717 BK183.out 0; have hfz57_1 := d717 BK183.out 1; have hfz57_2 := d717 BK183.out 2; have hfz57_3 := d717 BK183.out 3; have hfz57_4 := d717 BK183.out 4; have hfz57_5 := d717 BK183.out 5; have hfz57_6 := d717 BK183.out 6; have hcz58_0 : w56.cell? ⟨gb179, 0, none⟩ = some (.int .i64 a0_0) := (d617 BK179.out 0).trans rfl; have hcz58_1 : w56.cell? ⟨gb179, 1, none⟩ = some (.int .i64 a0_1) := (d617 BK179.out 1).trans rfl; have hcz58_2 : w56.cell? ⟨gb179, 2, none⟩ = some (.slice (some ad182) l0_2.length c0_2) := (d617 BK179.out 2).trans rfl; have hfz58_0 := d717 BK179.out 0; have hfz58_1 := d717 BK179.out 1; have hfz58_2 := d717 BK179.out 2))
                    go_meet
                    case rel => exact ⟨_, (wrap64 (x6_3 + 1)), (t186), (true), (by first | rfl | (simp; done) | (simp [*]; done)), (by first | rfl | (simp; done) | (simp [*]; done)), (by first | rfl | (simp; done) | (simp [*]; done)), H', ⟨by have := HJ2.out; have := HJ25.out; have := HK3.out; have := HJ42.out; first | omega | exact Nat.le_refl _⟩, ⟨by (with_reducible repeat (first | refine d117 ?_ _ | refine d217 ?_ | refine d317 ?_ _)); exact BK179.out⟩, ⟨by (with_reducible repeat (first | refine d117 ?_ _ | refine d217 ?_ | refine d317 ?_ _)); exact BK183.out⟩, ⟨by repeat (first | (with_reducible first | exact HB.out | apply below_alloc | apply pw_below_drewN | apply below_drew1 | refine d417 ?_ GE179.out | refine d417 ?_ GE183.out) | exact HB.out)⟩⟩
                   ·rw [if_neg c53] at H
                    have c53b0 : decide (a0_1 < (wrap64 (((rd_T32 l0_2 x10_3).f3) + ((rd_T32 l0_2 x10_3).f5)))) = false := decide_eq_false c53
                    clear c53
                    have H' := Aside0.mk H
                    clear H
                    have hnb59 := NB183_179.out
                    have hnc59 := NB179_183.out
                    have hcz60_0 : wc.cell? ⟨gb183, 0, none⟩ = some (.int .i64 ((rd_T32 l0_2 x10_3).f0)) := (d617 BK183.out 0).trans rfl
                    have hcz60_1 : wc.cell? ⟨gb183, 1, none⟩ = some (.int .i64 ((rd_T32 l0_2 x10_3).f1)) := (d617 BK183.out 1).trans rfl
                    have hcz60_2 : wc.cell? ⟨gb183, 2, none⟩ = some (.int .i64 ((rd_T32 l0_2 x10_3).f2)) := (d617 BK183.out 2).trans rfl
                    have hcz60_3 : wc.cell? ⟨gb183, 3, none⟩ = some (.int .i64 ((rd_T32 l0_2 x10_3).f3)) := (d617 BK183.out 3).trans rfl
                    have hcz60_4 : wc.cell? ⟨gb183, 4, none⟩ = some (.int .i64 ((rd_T32 l0_2 x10_3).f4)) := (d617 BK183.out 4).trans rfl
                    have hcz60_5 : wc.cell? ⟨gb183, 5, none⟩ = some (.int .i64 ((rd_T32 l0_2 x10_3).f5)) := (d617 BK183.out 5).trans rfl
                    have hcz60_6 : wc.cell? ⟨gb183, 6, none⟩ = some (.int .i64 ((rd_T32 l0_2 x10_3).f6)) := (d617 BK183.out 6).trans rfl
                    have hfz60_0 := d717 BK183.out 0
                    have hfz60_1 := d717 BK183.out 1
                    have hfz60_2 := d717 BK183.out 2
                    have hfz60_3 := d717 BK183.out 3
                    have hfz60_4 := d717 BK183.out 4
                    have hfz60_5 := d717 BK183.out 5
                    have hfz60_6 := d717 BK183.out 6
                    go_wp2_with (first | ((with_reducible refine gate_callee (f := 36) rfl ?_); refine goesL_ (some 85) rfl rfl Try.func36 (by kernel_rfl) rfl #[.agg #[.int .i64 ((rd_T32 l0_2 x10_3).f0), .int .i64 ((rd_T32 l0_2 x10_3).f1), .int .i64 ((rd_T32 l0_2 x10_3).f2), .int .i64 ((rd_T32 l0_2 x10_3).f3), .int .i64 ((rd_T32 l0_2 x10_3).f4), .int .i64 ((rd_T32 l0_2 x10_3).f5), .int .i64 ((rd_T32 l0_2 x10_3).f6)]] rfl (by (try simp only [List.map_toArray, List.map_cons, List.map_nil]); first | done | rfl | (simp only [List.length_drop, List.length_take]; rfl)) ?_; (with_reducible refine (flyleafref08_Last.calls ((rd_T32 l0_2 x10_3).f0) ((rd_T32 l0_2 x10_3).f1) ((rd_T32 l0_2 x10_3).f2) ((rd_T32 l0_2 x10_3).f3) ((rd_T32 l0_2 x10_3).f4) ((rd_T32 l0_2 x10_3).f5) ((rd_T32 l0_2 x10_3).f6) t186 _ A50.out).mono ?_); rintro e w61 ⟨rfl, hb⟩; refine ⟨_, rfl, ?_⟩; have n0_ := mk0_17 (blk_below (g := gb179) (o := .cells #[.int .i64 a0_0, .int .i64 a0_1, .slice (some ad182) l0_2.length c0_2] 28 (0, 0)) (by (with_reducible repeat (first | refine d117 ?_ _ | refine d217 ?_ | refine d317 ?_ _)); exact BK179.out) hb); have n1_ := mk0_17 (blk_below (g := gb183) (o := .cells #[.int .i64 ((rd_T32 l0_2 x10_3).f0), .int .i64 ((rd_T32 l0_2 x10_3).f1), .int .i64 ((rd_T32 l0_2 x10_3).f2), .int .i64 ((rd_T32 l0_2 x10_3).f3), .int .i64 ((rd_T32 l0_2 x10_3).f4), .int .i64 ((rd_T32 l0_2 x10_3).f5), .int .i64 ((rd_T32 l0_2 x10_3).f6)] 32 (0, 0)) (by (with_reducible repeat (first | refine d117 ?_ _ | refine d217 ?_ | refine d317 ?_ _)); exact BK183.out) hb); have n2_ := mk0_17 (below_step (by repeat (first | (with_reducible first | exact HB.out | apply below_alloc | apply pw_below_drewN | apply below_drew1 | refine d417 ?_ GE179.out | refine d417 ?_ GE183.out) | exact HB.out)) hb); clear BK179; clear BK183; clear HB; have BK179 := n0_; have BK183 := n1_; have HB := n2_; clear n0_ n1_ n2_; (try clear hb); (try clear hb2); (try clear hk); (try clear hi); have hcz62_0 : w61.cell? ⟨gb183, 0, none⟩ = some (.int .i64 ((rd_T32 l0_2 x10_3).f0)) := (d617 BK183.out 0).trans rfl; have hcz62_1 : w61.cell? ⟨gb183, 1, none⟩ = some (.int .i64 ((rd_T32 l0_2 x10_3).f1)) := (d617 BK183.out 1).trans rfl; have hcz62_2 : w61.cell? ⟨gb183, 2, none⟩ = some (.int .i64 ((rd_T32 l0_2 x10_3).f2)) := (d617 BK183.out 2).trans rfl; have hcz62_3 : w61.cell? ⟨gb183, 3, none⟩ = some (.int .i64 ((rd_T32 l0_2 x10_3).f3)) := (d617 BK183.out 3).trans rfl; have hcz62_4 : w61.cell? ⟨gb183, 4, none⟩ = some (.int .i64 ((rd_T32 l0_2 x10_3).f4)) := (d617 BK183.out 4).trans rfl; have hcz62_5 : w61.cell? ⟨gb183, 5, none⟩ = some (.int .i64 ((rd_T32 l0_2 x10_3).f5)) := (d617 BK183.out 5).trans rfl; have hcz62_6 : w61.cell? ⟨gb183, 6, none⟩ = some (.int .i64 ((rd_T32 l0_2 x10_3).f6)) := (d617 BK183.out 6).trans rfl; have hfz62_0 := d717 BK183.out 0; have hfz62_1 := d717 BK183.out 1; have hfz62_2 := d717 BK183.out 2; have hfz62_3 := d717 BK183.out 3; have hfz62_4 := d717 BK183.out 4; have hfz62_5 := d717 BK183.out 5; have hfz62_6 := d717 BK183.out 6; have hcz63_0 : w61.cell? ⟨gb179, 0, none⟩ = some (.int .i64 a0_0) := (d617 BK179.out 0).trans rfl; have hcz63_1 : w61.cell? ⟨gb179, 1, none⟩ = some (.int .i64 a0_1) := (d617 BK179.out 1).trans rfl; have hcz63_2 : w61.cell? ⟨gb179, 2, none⟩ = some (.slice (some ad182) l0_2.length c0_2) := (d617 BK179.out 2).trans rfl; have hfz63_0 := d717 BK179.out 0; have hfz63_1 := d717 BK179.out 1; have hfz63_2 := d717 BK179.out 2))
                    go_meet
                    case rel => exact ⟨_, (wrap64 (x6_3 + 1)), (t186), (x9_3), (by first | rfl | (simp; done) | (simp [*]; done)), (by first | rfl | (simp; done) | (simp [*]; done)), (by first | rfl | (simp; done) | (simp [*]; done)), H', ⟨by have := HJ2.out; have := HJ25.out; have := HK3.out; have := HJ42.out; first | omega | exact Nat.le_refl _⟩, ⟨by (with_reducible repeat (first | refine d117 ?_ _ | refine d217 ?_ | refine d317 ?_ _)); exact BK179.out⟩, ⟨by (with_reducible repeat (first | refine d117 ?_ _ | refine d217 ?_ | refine d317 ?_ _)); exact BK183.out⟩, ⟨by repeat (first | (with_reducible first | exact HB.out | apply below_alloc | apply pw_below_drewN | apply below_drew1 | refine d417 ?_ GE179.out | refine d417 ?_ GE183.out) | exact HB.out)⟩⟩
                  ·rw [if_neg c52] at H
                   have c52b0 : decide (((rd_T32 l0_2 x10_3).f3) ≤ a0_1) = false := decide_eq_false c52
                   clear c52
                   have H' := Aside0.mk H
                   clear H
                   have hnb64 := NB183_179.out
                   have hnc64 := NB179_183.out
                   have hcz65_0 : wc.cell? ⟨gb183, 0, none⟩ = some (.int .i64 ((rd_T32 l0_2 x10_3).f0)) := (d617 BK183.out 0).trans rfl
                   have hcz65_1 : wc.cell? ⟨gb183, 1, none⟩ = some (.int .i64 ((rd_T32 l0_2 x10_3).f1)) := (d617 BK183.out 1).trans rfl
                   have hcz65_2 : wc.cell? ⟨gb183, 2, none⟩ = some (.int .i64 ((rd_T32 l0_2 x10_3).f2)) := (d617 BK183.out 2).trans rfl
                   have hcz65_3 : wc.cell? ⟨gb183, 3, none⟩ = some (.int .i64 ((rd_T32 l0_2 x10_3).f3)) := (d617 BK183.out 3).trans rfl
                   have hcz65_4 : wc.cell? ⟨gb183, 4, none⟩ = some (.int .i64 ((rd_T32 l0_2 x10_3).f4)) := (d617 BK183.out 4).trans rfl
                   have hcz65_5 : wc.cell? ⟨gb183, 5, none⟩ = some (.int .i64 ((rd_T32 l0_2 x10_3).f5)) := (d617 BK183.out 5).trans rfl
                   have hcz65_6 : wc.cell? ⟨gb183, 6, none⟩ = some (.int .i64 ((rd_T32 l0_2 x10_3).f6)) := (d617 BK183.out 6).trans rfl
                   have hfz65_0 := d717 BK183.out 0
                   have hfz65_1 := d717 BK183.out 1
                   have hfz65_2 := d717 BK183.out 2
                   have hfz65_3 := d717 BK183.out 3
                   have hfz65_4 := d717 BK183.out 4
                   have hfz65_5 := d717 BK183.out 5
                   have hfz65_6 := d717 BK183.out 6
                   go_wp2_with (first | ((with_reducible refine gate_callee (f := 36) rfl ?_); refine goesL_ (some 85) rfl rfl Try.func36 (by kernel_rfl) rfl #[.agg #[.int .i64 ((rd_T32 l0_2 x10_3).f0), .int .i64 ((rd_T32 l0_2 x10_3).f1), .int .i64 ((rd_T32 l0_2 x10_3).f2), .int .i64 ((rd_T32 l0_2 x10_3).f3), .int .i64 ((rd_T32 l0_2 x10_3).f4), .int .i64 ((rd_T32 l0_2 x10_3).f5), .int .i64 ((rd_T32 l0_2 x10_3).f6)]] rfl (by (try simp only [List.map_toArray, List.map_cons, List.map_nil]); first | done | rfl | (simp only [List.length_drop, List.length_take]; rfl)) ?_; (with_reducible refine (flyleafref08_Last.calls ((rd_T32 l0_2 x10_3).f0) ((rd_T32 l0_2 x10_3).f1) ((rd_T32 l0_2 x10_3).f2) ((rd_T32 l0_2 x10_3).f3) ((rd_T32 l0_2 x10_3).f4) ((rd_T32 l0_2 x10_3).f5) ((rd_T32 l0_2 x10_3).f6) t186 _ A50.out).mono ?_); rintro e w66 ⟨rfl, hb⟩; refine ⟨_, rfl, ?_⟩; have n0_ := mk0_17 (blk_below (g := gb179) (o := .cells #[.int .i64 a0_0, .int .i64 a0_1, .slice (some ad182) l0_2.length c0_2] 28 (0, 0)) (by (with_reducible repeat (first | refine d117 ?_ _ | refine d217 ?_ | refine d317 ?_ _)); exact BK179.out) hb); have n1_ := mk0_17 (blk_below (g := gb183) (o := .cells #[.int .i64 ((rd_T32 l0_2 x10_3).f0), .int .i64 ((rd_T32 l0_2 x10_3).f1), .int .i64 ((rd_T32 l0_2 x10_3).f2), .int .i64 ((rd_T32 l0_2 x10_3).f3), .int .i64 ((rd_T32 l0_2 x10_3).f4), .int .i64 ((rd_T32 l0_2 x10_3).f5), .int .i64 ((rd_T32 l0_2 x10_3).f6)] 32 (0, 0)) (by (with_reducible repeat (first | refine d117 ?_ _ | refine d217 ?_ | refine d317 ?_ _)); exact BK183.out) hb); have n2_ := mk0_17 (below_step (by repeat (first | (with_reducible first | exact HB.out | apply below_alloc | apply pw_below_drewN | apply below_drew1 | refine d417 ?_ GE179.out | refine d417 ?_ GE183.out) | exact HB.out)) hb); clear BK179; clear BK183; clear HB; have BK179 := n0_; have BK183 := n1_; have HB := n2_; clear n0_ n1_ n2_; (try clear hb); (try clear hb2); (try clear hk); (try clear hi); have hcz67_0 : w66.cell? ⟨gb183, 0, none⟩ = some (.int .i64 ((rd_T32 l0_2 x10_3).f0)) := (d617 BK183.out 0).trans rfl; have hcz67_1 : w66.cell? ⟨gb183, 1, none⟩ = some (.int .i64 ((rd_T32 l0_2 x10_3).f1)) := (d617 BK183.out 1).trans rfl; have hcz67_2 : w66.cell? ⟨gb183, 2, none⟩ = some (.int .i64 ((rd_T32 l0_2 x10_3).f2)) := (d617 BK183.out 2).trans rfl; have hcz67_3 : w66.cell? ⟨gb183, 3, none⟩ = some (.int .i64 ((rd_T32 l0_2 x10_3).f3)) := (d617 BK183.out 3).trans rfl; have hcz67_4 : w66.cell? ⟨gb183, 4, none⟩ = some (.int .i64 ((rd_T32 l0_2 x10_3).f4)) := (d617 BK183.out 4).trans rfl; have hcz67_5 : w66.cell? ⟨gb183, 5, none⟩ = some (.int .i64 ((rd_T32 l0_2 x10_3).f5)) := (d617 BK183.out 5).trans rfl; have hcz67_6 : w66.cell? ⟨gb183, 6, none⟩ = some (.int .i64 ((rd_T32 l0_2 x10_3).f6)) := (d617 BK183.out 6).trans rfl; have hfz67_0 := d717 BK183.out 0; have hfz67_1 := d717 BK183.out 1; have hfz67_2 := d717 BK183.out 2; have hfz67_3 := d717 BK183.out 3; have hfz67_4 := d717 BK183.out 4; have hfz67_5 := d717 BK183.out 5; have hfz67_6 := d717 BK183.out 6; have hcz68_0 : w66.cell? ⟨gb179, 0, none⟩ = some (.int .i64 a0_0) := (d617 BK179.out 0).trans rfl; have hcz68_1 : w66.cell? ⟨gb179, 1, none⟩ = some (.int .i64 a0_1) := (d617 BK179.out 1).trans rfl; have hcz68_2 : w66.cell? ⟨gb179, 2, none⟩ = some (.slice (some ad182) l0_2.length c0_2) := (d617 BK179.out 2).trans rfl; have hfz68_0 := d717 BK179.out 0; have hfz68_1 := d717 BK179.out 1; have hfz68_2 := d717 BK179.out 2))
                   go_meet
                   case rel => exact ⟨_, (wrap64 (x6_3 + 1)), (t186), (x9_3), (by first | rfl | (simp; done) | (simp [*]; done)), (by first | rfl | (simp; done) | (simp [*]; done)), (by first | rfl | (simp; done) | (simp [*]; done)), H', ⟨by have := HJ2.out; have := HJ25.out; have := HK3.out; have := HJ42.out; first | omega | exact Nat.le_refl _⟩, ⟨by (with_reducible repeat (first | refine d117 ?_ _ | refine d217 ?_ | refine d317 ?_ _)); exact BK179.out⟩, ⟨by (with_reducible repeat (first | refine d117 ?_ _ | refine d217 ?_ | refine d317 ?_ _)); exact BK183.out⟩, ⟨by repeat (first | (with_reducible first | exact HB.out | apply below_alloc | apply pw_below_drewN | apply below_drew1 | refine d417 ?_ GE179.out | refine d417 ?_ GE183.out) | exact HB.out)⟩⟩
                 ·rw [if_neg c51] at H
                  have c51b0 : ((Int.tmod ((rd_T32 l0_2 x10_3).f1) 2) == 1) = false := beq_eq_false_iff_ne.mpr c51
                  have c51b1 : ((Int.tmod ((rd_T32 l0_2 x10_3).f1) 2) != 1) = true := bne_iff_ne.mpr c51
                  have H' := Aside0.mk H
                  clear H
                  have hnb69 := NB183_179.out
                  have hnc69 := NB179_183.out
                  have hcz70_0 : wc.cell? ⟨gb183, 0, none⟩ = some (.int .i64 ((rd_T32 l0_2 x10_3).f0)) := (d617 BK183.out 0).trans rfl
                  have hcz70_1 : wc.cell? ⟨gb183, 1, none⟩ = some (.int .i64 ((rd_T32 l0_2 x10_3).f1)) := (d617 BK183.out 1).trans rfl
                  have hcz70_2 : wc.cell? ⟨gb183, 2, none⟩ = some (.int .i64 ((rd_T32 l0_2 x10_3).f2)) := (d617 BK183.out 2).trans rfl
                  have hcz70_3 : wc.cell? ⟨gb183, 3, none⟩ = some (.int .i64 ((rd_T32 l0_2 x10_3).f3)) := (d617 BK183.out 3).trans rfl
                  have hcz70_4 : wc.cell? ⟨gb183, 4, none⟩ = some (.int .i64 ((rd_T32 l0_2 x10_3).f4)) := (d617 BK183.out 4).trans rfl
                  have hcz70_5 : wc.cell? ⟨gb183, 5, none⟩ = some (.int .i64 ((rd_T32 l0_2 x10_3).f5)) := (d617 BK183.out 5).trans rfl
                  have hcz70_6 : wc.cell? ⟨gb183, 6, none⟩ = some (.int .i64 ((rd_T32 l0_2 x10_3).f6)) := (d617 BK183.out 6).trans rfl
                  have hfz70_0 := d717 BK183.out 0
                  have hfz70_1 := d717 BK183.out 1
                  have hfz70_2 := d717 BK183.out 2
                  have hfz70_3 := d717 BK183.out 3
                  have hfz70_4 := d717 BK183.out 4
                  have hfz70_5 := d717 BK183.out 5
                  have hfz70_6 := d717 BK183.out 6
                  go_wp2_with (first | ((with_reducible refine gate_callee (f := 36) rfl ?_); refine goesL_ (some 85) rfl rfl Try.func36 (by kernel_rfl) rfl #[.agg #[.int .i64 ((rd_T32 l0_2 x10_3).f0), .int .i64 ((rd_T32 l0_2 x10_3).f1), .int .i64 ((rd_T32 l0_2 x10_3).f2), .int .i64 ((rd_T32 l0_2 x10_3).f3), .int .i64 ((rd_T32 l0_2 x10_3).f4), .int .i64 ((rd_T32 l0_2 x10_3).f5), .int .i64 ((rd_T32 l0_2 x10_3).f6)]] rfl (by (try simp only [List.map_toArray, List.map_cons, List.map_nil]); first | done | rfl | (simp only [List.length_drop, List.length_take]; rfl)) ?_; (with_reducible refine (flyleafref08_Last.calls ((rd_T32 l0_2 x10_3).f0) ((rd_T32 l0_2 x10_3).f1) ((rd_T32 l0_2 x10_3).f2) ((rd_T32 l0_2 x10_3).f3) ((rd_T32 l0_2 x10_3).f4) ((rd_T32 l0_2 x10_3).f5) ((rd_T32 l0_2 x10_3).f6) t186 _ A50.out).mono ?_); rintro e w71 ⟨rfl, hb⟩; refine ⟨_, rfl, ?_⟩; have n0_ := mk0_17 (blk_below (g := gb179) (o := .cells #[.int .i64 a0_0, .int .i64 a0_1, .slice (some ad182) l0_2.length c0_2] 28 (0, 0)) (by (with_reducible repeat (first | refine d117 ?_ _ | refine d217 ?_ | refine d317 ?_ _)); exact BK179.out) hb); have n1_ := mk0_17 (blk_below (g := gb183) (o := .cells #[.int .i64 ((rd_T32 l0_2 x10_3).f0), .int .i64 ((rd_T32 l0_2 x10_3).f1), .int .i64 ((rd_T32 l0_2 x10_3).f2), .int .i64 ((rd_T32 l0_2 x10_3).f3), .int .i64 ((rd_T32 l0_2 x10_3).f4), .int .i64 ((rd_T32 l0_2 x10_3).f5), .int .i64 ((rd_T32 l0_2 x10_3).f6)] 32 (0, 0)) (by (with_reducible repeat (first | refine d117 ?_ _ | refine d217 ?_ | refine d317 ?_ _)); exact BK183.out) hb); have n2_ := mk0_17 (below_step (by repeat (first | (with_reducible first | exact HB.out | apply below_alloc | apply pw_below_drewN | apply below_drew1 | refine d417 ?_ GE179.out | refine d417 ?_ GE183.out) | exact HB.out)) hb); clear BK179; clear BK183; clear HB; have BK179 := n0_; have BK183 := n1_; have HB := n2_; clear n0_ n1_ n2_; (try clear hb); (try clear hb2); (try clear hk); (try clear hi); have hcz72_0 : w71.cell? ⟨gb183, 0, none⟩ = some (.int .i64 ((rd_T32 l0_2 x10_3).f0)) := (d617 BK183.out 0).trans rfl; have hcz72_1 : w71.cell? ⟨gb183, 1, none⟩ = some (.int .i64 ((rd_T32 l0_2 x10_3).f1)) := (d617 BK183.out 1).trans rfl; have hcz72_2 : w71.cell? ⟨gb183, 2, none⟩ = some (.int .i64 ((rd_T32 l0_2 x10_3).f2)) := (d617 BK183.out 2).trans rfl; have hcz72_3 : w71.cell? ⟨gb183, 3, none⟩ = some (.int .i64 ((rd_T32 l0_2 x10_3).f3)) := (d617 BK183.out 3).trans rfl; have hcz72_4 : w71.cell? ⟨gb183, 4, none⟩ = some (.int .i64 ((rd_T32 l0_2 x10_3).f4)) := (d617 BK183.out 4).trans rfl; have hcz72_5 : w71.cell? ⟨gb183, 5, none⟩ = some (.int .i64 ((rd_T32 l0_2 x10_3).f5)) := (d617 BK183.out 5).trans rfl; have hcz72_6 : w71.cell? ⟨gb183, 6, none⟩ = some (.int .i64 ((rd_T32 l0_2 x10_3).f6)) := (d617 BK183.out 6).trans rfl; have hfz72_0 := d717 BK183.out 0; have hfz72_1 := d717 BK183.out 1; have hfz72_2 := d717 BK183.out 2; have hfz72_3 := d717 BK183.out 3; have hfz72_4 := d717 BK183.out 4; have hfz72_5 := d717 BK183.out 5; have hfz72_6 := d717 BK183.out 6))
                  go_meet
                  case rel => exact ⟨_, (wrap64 (x6_3 + 1)), (t186), (x9_3), (by first | rfl | (simp; done) | (simp [*]; done)), (by first | rfl | (simp; done) | (simp [*]; done)), (by first | rfl | (simp; done) | (simp [*]; done)), H', ⟨by have := HJ2.out; have := HJ25.out; have := HK3.out; have := HJ42.out; first | omega | exact Nat.le_refl _⟩, ⟨by (with_reducible repeat (first | refine d117 ?_ _ | refine d217 ?_ | refine d317 ?_ _)); exact BK179.out⟩, ⟨by (with_reducible repeat (first | refine d117 ?_ _ | refine d217 ?_ | refine d317 ?_ _)); exact BK183.out⟩, ⟨by repeat (first | (with_reducible first | exact HB.out | apply below_alloc | apply pw_below_drewN | apply below_drew1 | refine d417 ?_ GE179.out | refine d417 ?_ GE183.out) | exact HB.out)⟩⟩
             ·rw [if_neg c42] at H
              have c42b0 : (((rd_T32 l0_2 x10_3).f0) == 1) = false := beq_eq_false_iff_ne.mpr c42
              have c42b1 : (((rd_T32 l0_2 x10_3).f0) != 1) = true := bne_iff_ne.mpr c42
              (first | rw [c42b0] | (simp only [i64_w, i32_w]; rw [c42b0]) | skip)
              have H' := Aside0.mk H
              clear H
              go_wp2
              go_meet
              case rel => exact ⟨_, (x6_3), (x8_3), (x9_3), (by first | rfl | (simp; done) | (simp [*]; done)), (by first | rfl | (simp; done) | (simp [*]; done)), (by first | rfl | (simp; done) | (simp [*]; done)), H', ⟨by have := HJ2.out; have := HJ25.out; have := HK3.out; first | omega | exact Nat.le_refl _⟩, ⟨by (with_reducible repeat (first | refine d117 ?_ _ | refine d217 ?_ | refine d317 ?_ _)); exact BK179.out⟩, ⟨by (with_reducible repeat (first | refine d117 ?_ _ | refine d217 ?_ | refine d317 ?_ _)); exact BK183.out⟩, ⟨by repeat (first | (with_reducible first | exact HB.out | apply below_alloc | apply pw_below_drewN | apply below_drew1 | refine d417 ?_ GE179.out | refine d417 ?_ GE183.out) | exact HB.out)⟩⟩
            case rest =>
             clear HC35
             try clear c1
             try clear p1
             try clear q1
             try clear hx1
             try clear c2
             try clear p2
             try clear c3
             try clear c4
             try clear c5
             try clear c6
             try clear c6b0
             try clear c6b1
             try clear p6
             try clear c7
             try clear c7b0
             try clear c7b1
             try clear c9
             try clear c9b0
             try clear c9b1
             try clear c11
             try clear c11b0
             try clear c15
             try clear c15b0
             try clear c15b1
             try clear c16
             try clear c16b0
             try clear c16b1
             try clear c17
             try clear c18
             try clear c18b0
             try clear c18b1
             try clear p18
             try clear q18
             try clear hx18
             try clear c20
             try clear c20b0
             try clear c25
             try clear c27
             try clear c27b0
             try clear c27b1
             try clear c30
             try clear c30b0
             try clear c31
             try clear c31b0
             try clear c32
             try clear c32b0
             try clear c34
             try clear c36
             try clear c38
             try clear c42
             try clear c42b0
             try clear c42b1
             try clear c44
             try clear c44b0
             try clear c46
             try clear c49
             try clear c51
             try clear c51b0
             try clear c51b1
             try clear c52
             try clear c52b0
             try clear c53
             try clear c53b0
             try clear c54
             try clear c59
             try clear c64
             try clear p64
             try clear c69
             try clear hcz10_0
             try clear hcz10_1
             try clear hcz10_2
             try clear hcz12_0
             try clear hcz12_1
             try clear hcz12_2
             try clear hcz14_0
             try clear hcz14_1
             try clear hcz14_2
             try clear hcz17_0
             try clear hcz17_1
             try clear hcz17_2
             try clear hcz19_0
             try clear hcz19_1
             try clear hcz19_2
             try clear hcz21_0
             try clear hcz21_1
             try clear hcz21_2
             try clear hcz23_0
             try clear hcz23_1
             try clear hcz23_2
             try clear hcz24_0
             try clear hcz24_1
             try clear hcz24_2
             try clear hcz28_0
             try clear hcz28_1
             try clear hcz28_2
             try clear hcz29_0
             try clear hcz29_1
             try clear hcz29_2
             try clear hcz36_0
             try clear hcz36_1
             try clear hcz36_2
             try clear hcz39_0
             try clear hcz39_1
             try clear hcz39_2
             try clear hcz39_3
             try clear hcz39_4
             try clear hcz39_5
             try clear hcz39_6
             try clear hcz41_0
             try clear hcz41_1
             try clear hcz41_2
             try clear hcz41_3
             try clear hcz41_4
             try clear hcz41_5
             try clear hcz41_6
             try clear hcz47_0
             try clear hcz47_1
             try clear hcz47_2
             try clear hcz47_3
             try clear hcz47_4
             try clear hcz47_5
             try clear hcz47_6
             try clear hcz55_0
             try clear hcz55_1
             try clear hcz55_2
             try clear hcz55_3
             try clear hcz55_4
             try clear hcz55_5
             try clear hcz55_6
             try clear hcz57_0
             try clear hcz57_1
             try clear hcz57_2
             try clear hcz57_3
             try clear hcz57_4
             try clear hcz57_5
             try clear hcz57_6
             try clear hcz58_0
             try clear hcz58_1
             try clear hcz58_2
             try clear hcz5_0
             try clear hcz5_1
             try clear hcz5_2
             try clear hcz60_0
             try clear hcz60_1
             try clear hcz60_2
             try clear hcz60_3
             try clear hcz60_4
             try clear hcz60_5
             try clear hcz60_6
             try clear hcz62_0
             try clear hcz62_1
             try clear hcz62_2
             try clear hcz62_3
             try clear hcz62_4
             try clear hcz62_5
             try clear hcz62_6
             try clear hcz63_0
             try clear hcz63_1
             try clear hcz63_2
             try clear hcz65_0
             try clear hcz65_1
             try clear hcz65_2
             try clear hcz65_3
             try clear hcz65_4
             try clear hcz65_5
             try clear hcz65_6
             try clear hcz67_0
             try clear hcz67_1
             try clear hcz67_2
             try clear hcz67_3
             try clear hcz67_4
             try clear hcz67_5
             try clear hcz67_6
             try clear hcz68_0
             try clear hcz68_1
             try clear hcz68_2
             try clear hcz70_0
             try clear hcz70_1
             try clear hcz70_2
             try clear hcz70_3
             try clear hcz70_4
             try clear hcz70_5
             try clear hcz70_6
             try clear hcz72_0
             try clear hcz72_1
             try clear hcz72_2
             try clear hcz72_3
             try clear hcz72_4
             try clear hcz72_5
             try clear hcz72_6
             try clear hcz8_0
             try clear hcz8_1
             try clear hcz8_2
             try clear hfz10_0
             try clear hfz10_1
             try clear hfz10_2
             try clear hfz12_0
             try clear hfz12_1
             try clear hfz12_2
             try clear hfz14_0
             try clear hfz14_1
             try clear hfz14_2
             try clear hfz17_0
             try clear hfz17_1
             try clear hfz17_2
             try clear hfz19_0
             try clear hfz19_1
             try clear hfz19_2
             try clear hfz21_0
             try clear hfz21_1
             try clear hfz21_2
             try clear hfz23_0
             try clear hfz23_1
             try clear hfz23_2
             try clear hfz24_0
             try clear hfz24_1
             try clear hfz24_2
             try clear hfz28_0
             try clear hfz28_1
             try clear hfz28_2
             try clear hfz29_0
             try clear hfz29_1
             try clear hfz29_2
             try clear hfz36_0
             try clear hfz36_1
             try clear hfz36_2
             try clear hfz39_0
             try clear hfz39_1
             try clear hfz39_2
             try clear hfz39_3
             try clear hfz39_4
             try clear hfz39_5
             try clear hfz39_6
             try clear hfz41_0
             try clear hfz41_1
             try clear hfz41_2
             try clear hfz41_3
             try clear hfz41_4
             try clear hfz41_5
             try clear hfz41_6
             try clear hfz47_0
             try clear hfz47_1
             try clear hfz47_2
             try clear hfz47_3
             try clear hfz47_4
             try clear hfz47_5
             try clear hfz47_6
             try clear hfz55_0
             try clear hfz55_1
             try clear hfz55_2
             try clear hfz55_3
             try clear hfz55_4
             try clear hfz55_5
             try clear hfz55_6
             try clear hfz57_0
             try clear hfz57_1
             try clear hfz57_2
             try clear hfz57_3
             try clear hfz57_4
             try clear hfz57_5
             try clear hfz57_6
             try clear hfz58_0
             try clear hfz58_1
             try clear hfz58_2
             try clear hfz5_0
             try clear hfz5_1
             try clear hfz5_2
             try clear hfz60_0
             try clear hfz60_1
             try clear hfz60_2
             try clear hfz60_3
             try clear hfz60_4
             try clear hfz60_5
             try clear hfz60_6
             try clear hfz62_0
             try clear hfz62_1
             try clear hfz62_2
             try clear hfz62_3
             try clear hfz62_4
             try clear hfz62_5
             try clear hfz62_6
             try clear hfz63_0
             try clear hfz63_1
             try clear hfz63_2
             try clear hfz65_0
             try clear hfz65_1
             try clear hfz65_2
             try clear hfz65_3
             try clear hfz65_4
             try clear hfz65_5
             try clear hfz65_6
             try clear hfz67_0
             try clear hfz67_1
             try clear hfz67_2
             try clear hfz67_3
             try clear hfz67_4
             try clear hfz67_5
             try clear hfz67_6
             try clear hfz68_0
             try clear hfz68_1
             try clear hfz68_2
             try clear hfz70_0
             try clear hfz70_1
             try clear hfz70_2
             try clear hfz70_3
             try clear hfz70_4
             try clear hfz70_5
             try clear hfz70_6
             try clear hfz72_0
             try clear hfz72_1
             try clear hfz72_2
             try clear hfz72_3
             try clear hfz72_4
             try clear hfz72_5
             try clear hfz72_6
             try clear hfz8_0
             try clear hfz8_1
             try clear hfz8_2
             try clear hx182_0
             try clear hx182_1
             try clear hx182_2
             try clear hx182_3
             try clear hx182_4
             try clear hx182_5
             try clear hx182_6
             try clear p1
             try clear p18
             try clear p182
             try clear p2
             try clear p6
             try clear q1
             try clear q18
             try clear q182
             obtain ⟨kq, x6_34, x8_34, x9_34, rfl, rfl, rfl, HA, HJ34, BK179, BK183, HB⟩ := hcut
             cases kq with
             | zero => exact absurd HA.out (by simp [flyleafref08_Check.j4])
             | succ kj34 =>
              have H := HA.out
              clear HA
              simp only [flyleafref08_Check.j4] at H
              by_cases c73 : ((rd_T32 l0_2 x10_3).f0) = 2
              ·rw [if_pos c73] at H
               have c73b0 : (((rd_T32 l0_2 x10_3).f0) == 2) = true := beq_iff_eq.mpr c73
               have c73b1 : (((rd_T32 l0_2 x10_3).f0) != 2) = false := bne_eq_false_iff_eq.mpr c73
               clear c73
               have H' := Aside0.mk H
               clear H
               have hnb74 := NB183_179.out
               have hnc74 := NB179_183.out
               have hcz75_0 : wc.cell? ⟨gb183, 0, none⟩ = some (.int .i64 ((rd_T32 l0_2 x10_3).f0)) := (d617 BK183.out 0).trans rfl
               have hcz75_1 : wc.cell? ⟨gb183, 1, none⟩ = some (.int .i64 ((rd_T32 l0_2 x10_3).f1)) := (d617 BK183.out 1).trans rfl
               have hcz75_2 : wc.cell? ⟨gb183, 2, none⟩ = some (.int .i64 ((rd_T32 l0_2 x10_3).f2)) := (d617 BK183.out 2).trans rfl
               have hcz75_3 : wc.cell? ⟨gb183, 3, none⟩ = some (.int .i64 ((rd_T32 l0_2 x10_3).f3)) := (d617 BK183.out 3).trans rfl
               have hcz75_4 : wc.cell? ⟨gb183, 4, none⟩ = some (.int .i64 ((rd_T32 l0_2 x10_3).f4)) := (d617 BK183.out 4).trans rfl
               have hcz75_5 : wc.cell? ⟨gb183, 5, none⟩ = some (.int .i64 ((rd_T32 l0_2 x10_3).f5)) := (d617 BK183.out 5).trans rfl
               have hcz75_6 : wc.cell? ⟨gb183, 6, none⟩ = some (.int .i64 ((rd_T32 l0_2 x10_3).f6)) := (d617 BK183.out 6).trans rfl
               have hfz75_0 := d717 BK183.out 0
               have hfz75_1 := d717 BK183.out 1
               have hfz75_2 := d717 BK183.out 2
               have hfz75_3 := d717 BK183.out 3
               have hfz75_4 := d717 BK183.out 4
               have hfz75_5 := d717 BK183.out 5
               have hfz75_6 := d717 BK183.out 6
               go_wp2
               go_loopg [13, 14] kj34 (fun kq v13 v14 w' => ∃ (x13_5 : Bool) (x14_5 : Int), v13 = .bool x13_5 ∧ v14 = .int .i64 x14_5 ∧ Aside0 (flyleafref08_Check.l1 kq a1 (l0_2.length : Int) x6_34 (wrap64 (x7_3 + 1)) x8_34 x9_34 x10_3 x13_5 x14_5 a0_0 a0_1 l0_2 ((rd_T32 l0_2 x10_3).f0) ((rd_T32 l0_2 x10_3).f1) ((rd_T32 l0_2 x10_3).f2) ((rd_T32 l0_2 x10_3).f3) ((rd_T32 l0_2 x10_3).f4) ((rd_T32 l0_2 x10_3).f5) ((rd_T32 l0_2 x10_3).f6) = some r) ∧ Aside0 (kq ≤ kj34) ∧ Aside0 (w'.heap[gb179]? = some (.cells #[.int .i64 a0_0, .int .i64 a0_1, (.slice (some ad182) l0_2.length c0_2)] 28 (0, 0))) ∧ Aside0 (w'.heap[gb183]? = some (.cells #[.int .i64 ((rd_T32 l0_2 x10_3).f0), .int .i64 ((rd_T32 l0_2 x10_3).f1), .int .i64 ((rd_T32 l0_2 x10_3).f2), .int .i64 ((rd_T32 l0_2 x10_3).f3), .int .i64 ((rd_T32 l0_2 x10_3).f4), .int .i64 ((rd_T32 l0_2 x10_3).f5), .int .i64 ((rd_T32 l0_2 x10_3).f6)] 32 (0, 0))) ∧ Aside0 (Below w.heap.size w w'))
               case atStart => exact ⟨(false), (0), (by first | rfl | (simp; done) | (simp [*]; done)), (by first | rfl | (simp; done) | (simp [*]; done)), H', ⟨Nat.le_refl _⟩, ⟨by (with_reducible repeat (first | refine d117 ?_ _ | refine d217 ?_ | refine d317 ?_ _)); exact BK179.out⟩, ⟨by (with_reducible repeat (first | refine d117 ?_ _ | refine d217 ?_ | refine d317 ?_ _)); exact BK183.out⟩, ⟨by repeat (first | (with_reducible first | exact HB.out | apply below_alloc | apply pw_below_drewN | apply below_drew1 | refine d417 ?_ GE179.out | refine d417 ?_ GE183.out) | exact HB.out)⟩⟩
               case round =>
                clear H'
                try clear c1
                try clear p1
                try clear q1
                try clear hx1
                try clear c2
                try clear p2
                try clear c3
                try clear c4
                try clear c5
                try clear c6
                try clear c6b0
                try clear c6b1
                try clear p6
                try clear c7
                try clear c7b0
                try clear c7b1
                try clear c9
                try clear c9b0
                try clear c9b1
                try clear c11
                try clear c11b0
                try clear c15
                try clear c15b0
                try clear c15b1
                try clear c16
                try clear c16b0
                try clear c16b1
                try clear c17
                try clear c18
                try clear c18b0
                try clear c18b1
                try clear p18
                try clear q18
                try clear hx18
                try clear c20
                try clear c20b0
                try clear c25
                try clear c27
                try clear c27b0
                try clear c27b1
                try clear c30
                try clear c30b0
                try clear c31
                try clear c31b0
                try clear c32
                try clear c32b0
                try clear c34
                try clear c36
                try clear c38
                try clear c42
                try clear c42b0
                try clear c42b1
                try clear c44
                try clear c44b0
                try clear c46
                try clear c49
                try clear c51
                try clear c51b0
                try clear c51b1
                try clear c52
                try clear c52b0
                try clear c53
                try clear c53b0
                try clear c54
                try clear c59
                try clear c64
                try clear p64
                try clear c69
                try clear c73
                try clear c73b0
                try clear c73b1
                try clear c74
                try clear hcz10_0
                try clear hcz10_1
                try clear hcz10_2
                try clear hcz12_0
                try clear hcz12_1
                try clear hcz12_2
                try clear hcz14_0
                try clear hcz14_1
                try clear hcz14_2
                try clear hcz17_0
                try clear hcz17_1
                try clear hcz17_2
                try clear hcz19_0
                try clear hcz19_1
                try clear hcz19_2
                try clear hcz21_0
                try clear hcz21_1
                try clear hcz21_2
                try clear hcz23_0
                try clear hcz23_1
                try clear hcz23_2
                try clear hcz24_0
                try clear hcz24_1
                try clear hcz24_2
                try clear hcz28_0
                try clear hcz28_1
                try clear hcz28_2
                try clear hcz29_0
                try clear hcz29_1
                try clear hcz29_2
                try clear hcz36_0
                try clear hcz36_1
                try clear hcz36_2
                try clear hcz39_0
                try clear hcz39_1
                try clear hcz39_2
                try clear hcz39_3
                try clear hcz39_4
                try clear hcz39_5
                try clear hcz39_6
                try clear hcz41_0
                try clear hcz41_1
                try clear hcz41_2
                try clear hcz41_3
                try clear hcz41_4
                try clear hcz41_5
                try clear hcz41_6
                try clear hcz47_0
                try clear hcz47_1
                try clear hcz47_2
                try clear hcz47_3
                try clear hcz47_4
                try clear hcz47_5
                try clear hcz47_6
                try clear hcz55_0
                try clear hcz55_1
                try clear hcz55_2
                try clear hcz55_3
                try clear hcz55_4
                try clear hcz55_5
                try clear hcz55_6
                try clear hcz57_0
                try clear hcz57_1
                try clear hcz57_2
                try clear hcz57_3
                try clear hcz57_4
                try clear hcz57_5
                try clear hcz57_6
                try clear hcz58_0
                try clear hcz58_1
                try clear hcz58_2
                try clear hcz5_0
                try clear hcz5_1
                try clear hcz5_2
                try clear hcz60_0
                try clear hcz60_1
                try clear hcz60_2
                try clear hcz60_3
                try clear hcz60_4
                try clear hcz60_5
                try clear hcz60_6
                try clear hcz62_0
                try clear hcz62_1
                try clear hcz62_2
                try clear hcz62_3
                try clear hcz62_4
                try clear hcz62_5
                try clear hcz62_6
                try clear hcz63_0
                try clear hcz63_1
                try clear hcz63_2
                try clear hcz65_0
                try clear hcz65_1
                try clear hcz65_2
                try clear hcz65_3
                try clear hcz65_4
                try clear hcz65_5
                try clear hcz65_6
                try clear hcz67_0
                try clear hcz67_1
                try clear hcz67_2
                try clear hcz67_3
                try clear hcz67_4
                try clear hcz67_5
                try clear hcz67_6
                try clear hcz68_0
                try clear hcz68_1
                try clear hcz68_2
                try clear hcz70_0
                try clear hcz70_1
                try clear hcz70_2
                try clear hcz70_3
                try clear hcz70_4
                try clear hcz70_5
                try clear hcz70_6
                try clear hcz72_0
                try clear hcz72_1
                try clear hcz72_2
                try clear hcz72_3
                try clear hcz72_4
                try clear hcz72_5
                try clear hcz72_6
                try clear hcz75_0
                try clear hcz75_1
                try clear hcz75_2
                try clear hcz75_3
                try clear hcz75_4
                try clear hcz75_5
                try clear hcz75_6
                try clear hcz8_0
                try clear hcz8_1
                try clear hcz8_2
                try clear hfz10_0
                try clear hfz10_1
                try clear hfz10_2
                try clear hfz12_0
                try clear hfz12_1
                try clear hfz12_2
                try clear hfz14_0
                try clear hfz14_1
                try clear hfz14_2
                try clear hfz17_0
                try clear hfz17_1
                try clear hfz17_2
                try clear hfz19_0
                try clear hfz19_1
                try clear hfz19_2
                try clear hfz21_0
                try clear hfz21_1
                try clear hfz21_2
                try clear hfz23_0
                try clear hfz23_1
                try clear hfz23_2
                try clear hfz24_0
                try clear hfz24_1
                try clear hfz24_2
                try clear hfz28_0
                try clear hfz28_1
                try clear hfz28_2
                try clear hfz29_0
                try clear hfz29_1
                try clear hfz29_2
                try clear hfz36_0
                try clear hfz36_1
                try clear hfz36_2
                try clear hfz39_0
                try clear hfz39_1
                try clear hfz39_2
                try clear hfz39_3
                try clear hfz39_4
                try clear hfz39_5
                try clear hfz39_6
                try clear hfz41_0
                try clear hfz41_1
                try clear hfz41_2
                try clear hfz41_3
                try clear hfz41_4
                try clear hfz41_5
                try clear hfz41_6
                try clear hfz47_0
                try clear hfz47_1
                try clear hfz47_2
                try clear hfz47_3
                try clear hfz47_4
                try clear hfz47_5
                try clear hfz47_6
                try clear hfz55_0
                try clear hfz55_1
                try clear hfz55_2
                try clear hfz55_3
                try clear hfz55_4
                try clear hfz55_5
                try clear hfz55_6
                try clear hfz57_0
                try clear hfz57_1
                try clear hfz57_2
                try clear hfz57_3
                try clear hfz57_4
                try clear hfz57_5
                try clear hfz57_6
                try clear hfz58_0
                try clear hfz58_1
                try clear hfz58_2
                try clear hfz5_0
                try clear hfz5_1
                try clear hfz5_2
                try clear hfz60_0
                try clear hfz60_1
                try clear hfz60_2
                try clear hfz60_3
                try clear hfz60_4
                try clear hfz60_5
                try clear hfz60_6
                try clear hfz62_0
                try clear hfz62_1
                try clear hfz62_2
                try clear hfz62_3
                try clear hfz62_4
                try clear hfz62_5
                try clear hfz62_6
                try clear hfz63_0
                try clear hfz63_1
                try clear hfz63_2
                try clear hfz65_0
                try clear hfz65_1
                try clear hfz65_2
                try clear hfz65_3
                try clear hfz65_4
                try clear hfz65_5
                try clear hfz65_6
                try clear hfz67_0
                try clear hfz67_1
                try clear hfz67_2
                try clear hfz67_3
                try clear hfz67_4
                try clear hfz67_5
                try clear hfz67_6
                try clear hfz68_0
                try clear hfz68_1
                try clear hfz68_2
                try clear hfz70_0
                try clear hfz70_1
                try clear hfz70_2
                try clear hfz70_3
                try clear hfz70_4
                try clear hfz70_5
                try clear hfz70_6
                try clear hfz72_0
                try clear hfz72_1
                try clear hfz72_2
                try clear hfz72_3
                try clear hfz72_4
                try clear hfz72_5
                try clear hfz72_6
                try clear hfz75_0
                try clear hfz75_1
                try clear hfz75_2
                try clear hfz75_3
                try clear hfz75_4
                try clear hfz75_5
                try clear hfz75_6
                try clear hfz8_0
                try clear hfz8_1
                try clear hfz8_2
                try clear hx182_0
                try clear hx182_1
                try clear hx182_2
                try clear hx182_3
                try clear hx182_4
                try clear hx182_5
                try clear hx182_6
                try clear p1
                try clear p18
                try clear p182
                try clear p2
                try clear p6
                try clear p64
                try clear q1
                try clear q18
                try clear q182
                obtain ⟨x13_5, x14_5, rfl, rfl, HA, HK5, BK179, BK183, HB⟩ := hrel
                cases gk with
                | zero => exact absurd HA.out (by simp [flyleafref08_Check.l1])
                | succ k5 =>
                 have H := HA.out
                 clear HA
                 simp only [flyleafref08_Check.l1] at H
                 by_cases c76 : x14_5 < (l0_2.length : Int)
                 ·rw [if_pos c76] at H
                  have c76b0 : decide (x14_5 < (l0_2.length : Int)) = true := decide_eq_true c76
                  clear c76
                  by_cases c77 : 0 ≤ x14_5
                  ·rw [if_pos c77] at H
                   have c77b0 : decide (0 ≤ x14_5) = true := decide_eq_true c77
                   clear c77
                   by_cases c78 : x14_5 < (l0_2.length : Int)
                   ·rw [if_pos c78] at H
                    have c78b0 : decide (x14_5 < (l0_2.length : Int)) = true := decide_eq_true c78
                    clear c78
                    by_cases c79 : x13_5 = true
                    ·subst c79
                     have H1 : (flyleafref08_Check.l1 k5 a1 (l0_2.length : Int) x6_34 (wrap64 (x7_3 + 1)) x8_34 x9_34 x10_3 true (wrap64 (x14_5 + 1)) a0_0 a0_1 l0_2 ((rd_T32 l0_2 x10_3).f0) ((rd_T32 l0_2 x10_3).f1) ((rd_T32 l0_2 x10_3).f2) ((rd_T32 l0_2 x10_3).f3) ((rd_T32 l0_2 x10_3).f4) ((rd_T32 l0_2 x10_3).f5) ((rd_T32 l0_2 x10_3).f6)) = some r := by rw [if_pos rfl] at H; exact H
                     clear H
                     have H := H1
                     clear H1
                     have H' := Aside0.mk H
                     clear H
                     have hnb80 := NB179_183.out
                     have hnc80 := NB183_179.out
                     have hcz81_0 : wr.cell? ⟨gb179, 0, none⟩ = some (.int .i64 a0_0) := (d617 BK179.out 0).trans rfl
                     have hcz81_1 : wr.cell? ⟨gb179, 1, none⟩ = some (.int .i64 a0_1) := (d617 BK179.out 1).trans rfl
                     have hcz81_2 : wr.cell? ⟨gb179, 2, none⟩ = some (.slice (some ad182) l0_2.length c0_2) := (d617 BK179.out 2).trans rfl
                     have hfz81_0 := d717 BK179.out 0
                     have hfz81_1 := d717 BK179.out 1
                     have hfz81_2 := d717 BK179.out 2
                     have p187 : 0 ≤ (x14_5 : Int) := of_decide_eq_true (by first | (with_reducible assumption) | assumption)
                     have q187 : x14_5 < (l0_2.length : Int) := of_decide_eq_true (by first | (with_reducible assumption) | assumption)
                     obtain ⟨ad187, e187, hx187_0, hx187_1, hx187_2, hx187_3, hx187_4, hx187_5, hx187_6⟩ := at_T32 HR0_2.out x14_5 p187 q187
                     obtain rfl : ad182 = ad187 := (by injection e187)
                     replace hx187_0 := (HB.out.cell (World.block_lt_of_cell? w _ hx187_0)).trans hx187_0
                     replace hx187_1 := (HB.out.cell (World.block_lt_of_cell? w _ hx187_1)).trans hx187_1
                     replace hx187_2 := (HB.out.cell (World.block_lt_of_cell? w _ hx187_2)).trans hx187_2
                     replace hx187_3 := (HB.out.cell (World.block_lt_of_cell? w _ hx187_3)).trans hx187_3
                     replace hx187_4 := (HB.out.cell (World.block_lt_of_cell? w _ hx187_4)).trans hx187_4
                     replace hx187_5 := (HB.out.cell (World.block_lt_of_cell? w _ hx187_5)).trans hx187_5
                     replace hx187_6 := (HB.out.cell (World.block_lt_of_cell? w _ hx187_6)).trans hx187_6
                     replace p187 := eq_true p187
                     replace q187 := eq_true q187
                     go_wp2_with (first | ((with_reducible refine gate_dst (N := 15) rfl ?_); refine box_event ?hg (N := 15) ?hd (cs := #[.int .i64 0, .int .i64 0, .int .i64 0, .int .i64 0, .int .i64 0, .int .i64 0, .int .i64 0]) (t := 32) ?hr ?_; (case hd => rfl); (case hg => rfl); (case hr => first | (go_simp; done) | (go_simp; rfl)); intro gb188 hg w82 hbox hb; have n0_ := mk0_17 (blk_below (g := gb179) (o := .cells #[.int .i64 a0_0, .int .i64 a0_1, .slice (some ad182) l0_2.length c0_2] 28 (0, 0)) (by (with_reducible repeat (first | refine d117 ?_ _ | refine d217 ?_ | refine d317 ?_ _)); exact BK179.out) hb); have n1_ := mk0_17 (blk_below (g := gb183) (o := .cells #[.int .i64 ((rd_T32 l0_2 x10_3).f0), .int .i64 ((rd_T32 l0_2 x10_3).f1), .int .i64 ((rd_T32 l0_2 x10_3).f2), .int .i64 ((rd_T32 l0_2 x10_3).f3), .int .i64 ((rd_T32 l0_2 x10_3).f4), .int .i64 ((rd_T32 l0_2 x10_3).f5), .int .i64 ((rd_T32 l0_2 x10_3).f6)] 32 (0, 0)) (by (with_reducible repeat (first | refine d117 ?_ _ | refine d217 ?_ | refine d317 ?_ _)); exact BK183.out) hb); have n2_ := mk0_17 (below_step (by repeat (first | (with_reducible first | exact HB.out | apply below_alloc | apply pw_below_drewN | apply below_drew1 | refine d417 ?_ GE179.out | refine d417 ?_ GE183.out) | exact HB.out)) hb); have n3_ := mk0_17 (hbox); have n4_ := mk0_17 ((by rw [hg]; exact (below_size (by repeat (first | (with_reducible first | exact HB.out | apply below_alloc | apply pw_below_drewN | apply below_drew1 | refine d417 ?_ GE179.out | refine d417 ?_ GE183.out) | exact HB.out))) : w.heap.size ≤ gb188)); have n5_ := mk0_17 ((by rw [hg]; exact (below_size (by repeat (first | (with_reducible first | exact HB.out | apply below_alloc | apply pw_below_drewN | apply below_drew1 | refine d417 ?_ GE179.out | refine d417 ?_ GE183.out) | exact HB.out))) : w.heap.size ≤ gb188)); have n6_ := mk0_17 ((by rw [hg]; exact Nat.ne_of_lt (blk_lt (g := gb179) (o := .cells #[.int .i64 a0_0, .int .i64 a0_1, .slice (some ad182) l0_2.length c0_2] 28 (0, 0)) (by (with_reducible repeat (first | refine d117 ?_ _ | refine d217 ?_ | refine d317 ?_ _)); exact BK179.out)) : gb179 ≠ gb188)); have n7_ := mk0_17 ((by rw [hg]; exact Nat.ne_of_gt (blk_lt (g := gb179) (o := .cells #[.int .i64 a0_0, .int .i64 a0_1, .slice (some ad182) l0_2.length c0_2] 28 (0, 0)) (by (with_reducible repeat (first | refine d117 ?_ _ | refine d217 ?_ | refine d317 ?_ _)); exact BK179.out)) : gb188 ≠ gb179)); have n8_ := mk0_17 ((by rw [hg]; exact Nat.ne_of_lt (blk_lt (g := gb183) (o := .cells #[.int .i64 ((rd_T32 l0_2 x10_3).f0), .int .i64 ((rd_T32 l0_2 x10_3).f1), .int .i64 ((rd_T32 l0_2 x10_3).f2), .int .i64 ((rd_T32 l0_2 x10_3).f3), .int .i64 ((rd_T32 l0_2 x10_3).f4), .int .i64 ((rd_T32 l0_2 x10_3).f5), .int .i64 ((rd_T32 l0_2 x10_3).f6)] 32 (0, 0)) (by (with_reducible repeat (first | refine d117 ?_ _ | refine d217 ?_ | refine d317 ?_ _)); exact BK183.out)) : gb183 ≠ gb188)); have n9_ := mk0_17 ((by rw [hg]; exact Nat.ne_of_gt (blk_lt (g := gb183) (o := .cells #[.int .i64 ((rd_T32 l0_2 x10_3).f0), .int .i64 ((rd_T32 l0_2 x10_3).f1), .int .i64 ((rd_T32 l0_2 x10_3).f2), .int .i64 ((rd_T32 l0_2 x10_3).f3), .int .i64 ((rd_T32 l0_2 x10_3).f4), .int .i64 ((rd_T32 l0_2 x10_3).f5), .int .i64 ((rd_T32 l0_2 x10_3).f6)] 32 (0, 0)) (by (with_reducible repeat (first | refine d117 ?_ _ | refine d217 ?_ | refine d317 ?_ _)); exact BK183.out)) : gb188 ≠ gb183)); clear BK179; clear BK183; clear HB; have BK179 := n0_; have BK183 := n1_; have HB := n2_; have BK188 := n3_; have GW188 := n4_; have GE188 := n5_; have NB179_188 := n6_; have NB188_179 := n7_; have NB183_188 := n8_; have NB188_183 := n9_; clear n0_ n1_ n2_ n3_ n4_ n5_ n6_ n7_ n8_ n9_; clear hb hbox hg; have hnb83 := NB188_179.out; have hnc83 := NB179_188.out; have hnb84 := NB188_183.out; have hnc84 := NB183_188.out; have hcz85_0 : w82.cell? ⟨gb188, 0, none⟩ = some (.int .i64 0) := (d617 BK188.out 0).trans rfl; have hcz85_1 : w82.cell? ⟨gb188, 1, none⟩ = some (.int .i64 0) := (d617 BK188.out 1).trans rfl; have hcz85_2 : w82.cell? ⟨gb188, 2, none⟩ = some (.int .i64 0) := (d617 BK188.out 2).trans rfl; have hcz85_3 : w82.cell? ⟨gb188, 3, none⟩ = some (.int .i64 0) := (d617 BK188.out 3).trans rfl; have hcz85_4 : w82.cell? ⟨gb188, 4, none⟩ = some (.int .i64 0) := (d617 BK188.out 4).trans rfl; have hcz85_5 : w82.cell? ⟨gb188, 5, none⟩ = some (.int .i64 0) := (d617 BK188.out 5).trans rfl; have hcz85_6 : w82.cell? ⟨gb188, 6, none⟩ = some (.int .i64 0) := (d617 BK188.out 6).trans rfl; have hfz85_0 := d717 BK188.out 0; have hfz85_1 := d717 BK188.out 1; have hfz85_2 := d717 BK188.out 2; have hfz85_3 := d717 BK188.out 3; have hfz85_4 := d717 BK188.out 4; have hfz85_5 := d717 BK188.out 5; have hfz85_6 := d717 BK188.out 6))
                     go_roundg k5
                     case measure => have := HJ2.out; have := HJ25.out; have := HK3.out; have := HJ34.out; have := HK5.out; omega
                     case rel => exact ⟨(true), (wrap64 (x14_5 + 1)), (by first | rfl | (simp; done) | (simp [*]; done)), (by first | rfl | (simp; done) | (simp [*]; done)), H', ⟨by have := HJ2.out; have := HJ25.out; have := HK3.out; have := HJ34.out; have := HK5.out; omega⟩, ⟨by (with_reducible repeat (first | refine d117 ?_ _ | refine d217 ?_ | refine d317 ?_ _)); refine d517 ?_ NB179_188.out _; (with_reducible repeat (first | refine d117 ?_ _ | refine d217 ?_ | refine d317 ?_ _)); refine d517 ?_ NB179_188.out _; (with_reducible repeat (first | refine d117 ?_ _ | refine d217 ?_ | refine d317 ?_ _)); refine d517 ?_ NB179_188.out _; (with_reducible repeat (first | refine d117 ?_ _ | refine d217 ?_ | refine d317 ?_ _)); refine d517 ?_ NB179_188.out _; (with_reducible repeat (first | refine d117 ?_ _ | refine d217 ?_ | refine d317 ?_ _)); refine d517 ?_ NB179_188.out _; (with_reducible repeat (first | refine d117 ?_ _ | refine d217 ?_ | refine d317 ?_ _)); refine d517 ?_ NB179_188.out _; (with_reducible repeat (first | refine d117 ?_ _ | refine d217 ?_ | refine d317 ?_ _)); refine d517 ?_ NB179_188.out _; (with_reducible repeat (first | refine d117 ?_ _ | refine d217 ?_ | refine d317 ?_ _)); exact BK179.out⟩, ⟨by (with_reducible repeat (first | refine d117 ?_ _ | refine d217 ?_ | refine d317 ?_ _)); refine d517 ?_ NB183_188.out _; (with_reducible repeat (first | refine d117 ?_ _ | refine d217 ?_ | refine d317 ?_ _)); refine d517 ?_ NB183_188.out _; (with_reducible repeat (first | refine d117 ?_ _ | refine d217 ?_ | refine d317 ?_ _)); refine d517 ?_ NB183_188.out _; (with_reducible repeat (first | refine d117 ?_ _ | refine d217 ?_ | refine d317 ?_ _)); refine d517 ?_ NB183_188.out _; (with_reducible repeat (first | refine d117 ?_ _ | refine d217 ?_ | refine d317 ?_ _)); refine d517 ?_ NB183_188.out _; (with_reducible repeat (first | refine d117 ?_ _ | refine d217 ?_ | refine d317 ?_ _)); refine d517 ?_ NB183_188.out _; (with_reducible repeat (first | refine d117 ?_ _ | refine d217 ?_ | refine d317 ?_ _)); refine d517 ?_ NB183_188.out _; (with_reducible repeat (first | refine d117 ?_ _ | refine d217 ?_ | refine d317 ?_ _)); exact BK183.out⟩, ⟨by repeat (first | (with_reducible first | exact HB.out | apply below_alloc | apply pw_below_drewN | apply below_drew1 | refine d417 ?_ GE179.out | refine d417 ?_ GE183.out | refine d417 ?_ GE188.out) | exact HB.out)⟩⟩
                    ·replace c79 := Bool.eq_false_iff.mpr c79
                     subst c79
                     have H1 : (if ((rd_T32 l0_2 x14_5).f0) = 1 then (if ((rd_T32 l0_2 x10_3).f3) ≥ ((rd_T32 l0_2 x14_5).f3) then (if (wrap64 (((rd_T32 l0_2 x10_3).f3) + ((rd_T32 l0_2 x10_3).f5))) ≤ (wrap64 (((rd_T32 l0_2 x14_5).f3) + ((rd_T32 l0_2 x14_5).f5))) then (flyleafref08_Check.l1 k5 a1 (l0_2.length : Int) x6_34 (wrap64 (x7_3 + 1)) x8_34 x9_34 x10_3 ((wrap64 (((rd_T32 l0_2 x10_3).f2) - ((rd_T32 l0_2 x14_5).f2))) == (wrap64 (((rd_T32 l0_2 x10_3).f3) - ((rd_T32 l0_2 x14_5).f3)))) (wrap64 (x14_5 + 1)) a0_0 a0_1 l0_2 ((rd_T32 l0_2 x10_3).f0) ((rd_T32 l0_2 x10_3).f1) ((rd_T32 l0_2 x10_3).f2) ((rd_T32 l0_2 x10_3).f3) ((rd_T32 l0_2 x10_3).f4) ((rd_T32 l0_2 x10_3).f5) ((rd_T32 l0_2 x10_3).f6)) else (flyleafref08_Check.l1 k5 a1 (l0_2.length : Int) x6_34 (wrap64 (x7_3 + 1)) x8_34 x9_34 x10_3 false (wrap64 (x14_5 + 1)) a0_0 a0_1 l0_2 ((rd_T32 l0_2 x10_3).f0) ((rd_T32 l0_2 x10_3).f1) ((rd_T32 l0_2 x10_3).f2) ((rd_T32 l0_2 x10_3).f3) ((rd_T32 l0_2 x10_3).f4) ((rd_T32 l0_2 x10_3).f5) ((rd_T32 l0_2 x10_3).f6))) else (flyleafref08_Check.l1 k5 a1 (l0_2.length : Int) x6_34 (wrap64 (x7_3 + 1)) x8_34 x9_34 x10_3 false (wrap64 (x14_5 + 1)) a0_0 a0_1 l0_2 ((rd_T32 l0_2 x10_3).f0) ((rd_T32 l0_2 x10_3).f1) ((rd_T32 l0_2 x10_3).f2) ((rd_T32 l0_2 x10_3).f3) ((rd_T32 l0_2 x10_3).f4) ((rd_T32 l0_2 x10_3).f5) ((rd_T32 l0_2 x10_3).f6))) else (flyleafref08_Check.l1 k5 a1 (l0_2.length : Int) x6_34 (wrap64 (x7_3 + 1)) x8_34 x9_34 x10_3 false (wrap64 (x14_5 + 1)) a0_0 a0_1 l0_2 ((rd_T32 l0_2 x10_3).f0) ((rd_T32 l0_2 x10_3).f1) ((rd_T32 l0_2 x10_3).f2) ((rd_T32 l0_2 x10_3).f3) ((rd_T32 l0_2 x10_3).f4) ((rd_T32 l0_2 x10_3).f5) ((rd_T32 l0_2 x10_3).f6))) = some r := by rw [if_neg (show ¬ (false = true) by decide)] at H; exact H
                     clear H
                     have H := H1
                     clear H1
                     by_cases c86 : ((rd_T32 l0_2 x14_5).f0) = 1
                     ·rw [if_pos c86] at H
                      have c86b0 : (((rd_T32 l0_2 x14_5).f0) == 1) = true := beq_iff_eq.mpr c86
                      have c86b1 : (((rd_T32 l0_2 x14_5).f0) != 1) = false := bne_eq_false_iff_eq.mpr c86
                      clear c86
                      by_cases c87 : ((rd_T32 l0_2 x10_3).f3) ≥ ((rd_T32 l0_2 x14_5).f3)
                      ·rw [if_pos c87] at H
                       have c87b0 : decide (((rd_T32 l0_2 x14_5).f3) ≤ ((rd_T32 l0_2 x10_3).f3)) = true := decide_eq_true c87
                       clear c87
                       by_cases c88 : (wrap64 (((rd_T32 l0_2 x10_3).f3) + ((rd_T32 l0_2 x10_3).f5))) ≤ (wrap64 (((rd_T32 l0_2 x14_5).f3) + ((rd_T32 l0_2 x14_5).f5)))
                       ·rw [if_pos c88] at H
                        have c88b0 : decide ((wrap64 (((rd_T32 l0_2 x10_3).f3) + ((rd_T32 l0_2 x10_3).f5))) ≤ (wrap64 (((rd_T32 l0_2 x14_5).f3) + ((rd_T32 l0_2 x14_5).f5)))) = true := decide_eq_true c88
                        clear c88
                        have H' := Aside0.mk H
                        clear H
                        have hnb89 := NB179_183.out
                        have hnc89 := NB183_179.out
                        have hcz90_0 : wr.cell? ⟨gb179, 0, none⟩ = some (.int .i64 a0_0) := (d617 BK179.out 0).trans rfl
                        have hcz90_1 : wr.cell? ⟨gb179, 1, none⟩ = some (.int .i64 a0_1) := (d617 BK179.out 1).trans rfl
                        have hcz90_2 : wr.cell? ⟨gb179, 2, none⟩ = some (.slice (some ad182) l0_2.length c0_2) := (d617 BK179.out 2).trans rfl
                        have hfz90_0 := d717 BK179.out 0
                        have hfz90_1 := d717 BK179.out 1
                        have hfz90_2 := d717 BK179.out 2
                        have p187 : 0 ≤ (x14_5 : Int) := of_decide_eq_true (by first | (with_reducible assumption) | assumption)
                        have q187 : x14_5 < (l0_2.length : Int) := of_decide_eq_true (by first | (with_reducible assumption) | assumption)
                        obtain ⟨ad187, e187, hx187_0, hx187_1, hx187_2, hx187_3, hx187_4, hx187_5, hx187_6⟩ := at_T32 HR0_2.out x14_5 p187 q187
                        obtain rfl : ad182 = ad187 := (by injection e187)
                        replace hx187_0 := (HB.out.cell (World.block_lt_of_cell? w _ hx187_0)).trans hx187_0
                        replace hx187_1 := (HB.out.cell (World.block_lt_of_cell? w _ hx187_1)).trans hx187_1
                        replace hx187_2 := (HB.out.cell (World.block_lt_of_cell? w _ hx187_2)).trans hx187_2
                        replace hx187_3 := (HB.out.cell (World.block_lt_of_cell? w _ hx187_3)).trans hx187_3
                        replace hx187_4 := (HB.out.cell (World.block_lt_of_cell? w _ hx187_4)).trans hx187_4
                        replace hx187_5 := (HB.out.cell (World.block_lt_of_cell? w _ hx187_5)).trans hx187_5
                        replace hx187_6 := (HB.out.cell (World.block_lt_of_cell? w _ hx187_6)).trans hx187_6
                        replace p187 := eq_true p187
                        replace q187 := eq_true q187
                        go_wp2_with (first | ((with_reducible refine gate_dst (N := 15) rfl ?_); refine box_event ?hg (N := 15) ?hd (cs := #[.int .i64 0, .int .i64 0, .int .i64 0, .int .i64 0, .int .i64 0, .int .i64 0, .int .i64 0]) (t := 32) ?hr ?_; (case hd => rfl); (case hg => rfl); (case hr => first | (go_simp; done) | (go_simp; rfl)); intro gb188 hg w91 hbox hb; have n0_ := mk0_17 (blk_below (g := gb179) (o := .cells #[.int .i64 a0_0, .int .i64 a0_1, .slice (some ad182) l0_2.length c0_2] 28 (0, 0)) (by (with_reducible repeat (first | refine d117 ?_ _ | refine d217 ?_ | refine d317 ?_ _)); exact BK179.out) hb); have n1_ := mk0_17 (blk_below (g := gb183) (o := .cells #[.int .i64 ((rd_T32 l0_2 x10_3).f0), .int .i64 ((rd_T32 l0_2 x10_3).f1), .int .i64 ((rd_T32 l0_2 x10_3).f2), .int .i64 ((rd_T32 l0_2 x10_3).f3), .int .i64 ((rd_T32 l0_2 x10_3).f4), .int .i64 ((rd_T32 l0_2 x10_3).f5), .int .i64 ((rd_T32 l0_2 x10_3).f6)] 32 (0, 0)) (by (with_reducible repeat (first | refine d117 ?_ _ | refine d217 ?_ | refine d317 ?_ _)); exact BK183.out) hb); have n2_ := mk0_17 (below_step (by repeat (first | (with_reducible first | exact HB.out | apply below_alloc | apply pw_below_drewN | apply below_drew1 | refine d417 ?_ GE179.out | refine d417 ?_ GE183.out) | exact HB.out)) hb); have n3_ := mk0_17 (hbox); have n4_ := mk0_17 ((by rw [hg]; exact (below_size (by repeat (first | (with_reducible first | exact HB.out | apply below_alloc | apply pw_below_drewN | apply below_drew1 | refine d417 ?_ GE179.out | refine d417 ?_ GE183.out) | exact HB.out))) : w.heap.size ≤ gb188)); have n5_ := mk0_17 ((by rw [hg]; exact (below_size (by repeat (first | (with_reducible first | exact HB.out | apply below_alloc | apply pw_below_drewN | apply below_drew1 | refine d417 ?_ GE179.out | refine d417 ?_ GE183.out) | exact HB.out))) : w.heap.size ≤ gb188)); have n6_ := mk0_17 ((by rw [hg]; exact Nat.ne_of_lt (blk_lt (g := gb179) (o := .cells #[.int .i64 a0_0, .int .i64 a0_1, .slice (some ad182) l0_2.length c0_2] 28 (0, 0)) (by (with_reducible repeat (first | refine d117 ?_ _ | refine d217 ?_ | refine d317 ?_ _)); exact BK179.out)) : gb179 ≠ gb188)); have n7_ := mk0_17 ((by rw [hg]; exact Nat.ne_of_gt (blk_lt (g := gb179) (o := .cells #[.int .i64 a0_0, .int .i64 a0_1, .slice (some ad182) l0_2.length c0_2] 28 (0, 0)) (by (with_reducible repeat (first | refine d117 ?_ _ | refine d217 ?_ | refine d317 ?_ _)); exact BK179.out)) : gb188 ≠ gb179)); have n8_ := mk0_17 ((by rw [hg]; exact Nat.ne_of_lt (blk_lt (g := gb183) (o := .cells #[.int .i64 ((rd_T32 l0_2 x10_3).f0), .int .i64 ((rd_T32 l0_2 x10_3).f1), .int .i64 ((rd_T32 l0_2 x10_3).f2), .int .i64 ((rd_T32 l0_2 x10_3).f3), .int .i64 ((rd_T32 l0_2 x10_3).f4), .int .i64 ((rd_T32 l0_2 x10_3).f5), .int .i64 ((rd_T32 l0_2 x10_3).f6)] 32 (0, 0)) (by (with_reducible repeat (first | refine d117 ?_ _ | refine d217 ?_ | refine d317 ?_ _)); exact BK183.out)) : gb183 ≠ gb188)); have n9_ := mk0_17 ((by rw [hg]; exact Nat.ne_of_gt (blk_lt (g := gb183) (o := .cells #[.int .i64 ((rd_T32 l0_2 x10_3).f0), .int .i64 ((rd_T32 l0_2 x10_3).f1), .int .i64 ((rd_T32 l0_2 x10_3).f2), .int .i64 ((rd_T32 l0_2 x10_3).f3), .int .i64 ((rd_T32 l0_2 x10_3).f4), .int .i64 ((rd_T32 l0_2 x10_3).f5), .int .i64 ((rd_T32 l0_2 x10_3).f6)] 32 (0, 0)) (by (with_reducible repeat (first | refine d117 ?_ _ | refine d217 ?_ | refine d317 ?_ _)); exact BK183.out)) : gb188 ≠ gb183)); clear BK179; clear BK183; clear HB; have BK179 := n0_; have BK183 := n1_; have HB := n2_; have BK188 := n3_; have GW188 := n4_; have GE188 := n5_; have NB179_188 := n6_; have NB188_179 := n7_; have NB183_188 := n8_; have NB188_183 := n9_; clear n0_ n1_ n2_ n3_ n4_ n5_ n6_ n7_ n8_ n9_; clear hb hbox hg; have hnb92 := NB188_179.out; have hnc92 := NB179_188.out; have hnb93 := NB188_183.out; have hnc93 := NB183_188.out; have hcz94_0 : w91.cell? ⟨gb188, 0, none⟩ = some (.int .i64 0) := (d617 BK188.out 0).trans rfl; have hcz94_1 : w91.cell? ⟨gb188, 1, none⟩ = some (.int .i64 0) := (d617 BK188.out 1).trans rfl; have hcz94_2 : w91.cell? ⟨gb188, 2, none⟩ = some (.int .i64 0) := (d617 BK188.out 2).trans rfl; have hcz94_3 : w91.cell? ⟨gb188, 3, none⟩ = some (.int .i64 0) := (d617 BK188.out 3).trans rfl; have hcz94_4 : w91.cell? ⟨gb188, 4, none⟩ = some (.int .i64 0) := (d617 BK188.out 4).trans rfl; have hcz94_5 : w91.cell? ⟨gb188, 5, none⟩ = some (.int .i64 0) := (d617 BK188.out 5).trans rfl; have hcz94_6 : w91.cell? ⟨gb188, 6, none⟩ = some (.int .i64 0) := (d617 BK188.out 6).trans rfl; have hfz94_0 := d717 BK188.out 0; have hfz94_1 := d717 BK188.out 1; have hfz94_2 := d717 BK188.out 2; have hfz94_3 := d717 BK188.out 3; have hfz94_4 := d717 BK188.out 4; have hfz94_5 := d717 BK188.out 5; have hfz94_6 := d717 BK188.out 6; have hcz95_0 : w91.cell? ⟨gb183, 0, none⟩ = some (.int .i64 ((rd_T32 l0_2 x10_3).f0)) := (d617 BK183.out 0).trans rfl; have hcz95_1 : w91.cell? ⟨gb183, 1, none⟩ = some (.int .i64 ((rd_T32 l0_2 x10_3).f1)) := (d617 BK183.out 1).trans rfl; have hcz95_2 : w91.cell? ⟨gb183, 2, none⟩ = some (.int .i64 ((rd_T32 l0_2 x10_3).f2)) := (d617 BK183.out 2).trans rfl; have hcz95_3 : w91.cell? ⟨gb183, 3, none⟩ = some (.int .i64 ((rd_T32 l0_2 x10_3).f3)) := (d617 BK183.out 3).trans rfl; have hcz95_4 : w91.cell? ⟨gb183, 4, none⟩ = some (.int .i64 ((rd_T32 l0_2 x10_3).f4)) := (d617 BK183.out 4).trans rfl; have hcz95_5 : w91.cell? ⟨gb183, 5, none⟩ = some (.int .i64 ((rd_T32 l0_2 x10_3).f5)) := (d617 BK183.out 5).trans rfl; have hcz95_6 : w91.cell? ⟨gb183, 6, none⟩ = some (.int .i64 ((rd_T32 l0_2 x10_3).f6)) := (d617 BK183.out 6).trans rfl; have hfz95_0 := d717 BK183.out 0; have hfz95_1 := d717 BK183.out 1; have hfz95_2 := d717 BK183.out 2; have hfz95_3 := d717 BK183.out 3; have hfz95_4 := d717 BK183.out 4; have hfz95_5 := d717 BK183.out 5; have hfz95_6 := d717 BK183.out 6))
                        go_roundg k5
                        case measure => have := HJ2.out; have := HJ25.out; have := HK3.out; have := HJ34.out; have := HK5.out; omega
                        case rel => exact ⟨(((wrap64 (((rd_T32 l0_2 x10_3).f2) - ((rd_T32 l0_2 x14_5).f2))) == (wrap64 (((rd_T32 l0_2 x10_3).f3) - ((rd_T32 l0_2 x14_5).f3))))), (wrap64 (x14_5 + 1)), (by first | rfl | (simp; done) | (simp [*]; done)), (by first | rfl | (simp; done) | (simp [*]; done)), H', ⟨by have := HJ2.out; have := HJ25.out; have := HK3.out; have := HJ34.out; have := HK5.out; omega⟩, ⟨by (with_reducible repeat (first | refine d117 ?_ _ | refine d217 ?_ | refine d317 ?_ _)); refine d517 ?_ NB179_188.out _; (with_reducible repeat (first | refine d117 ?_ _ | refine d217 ?_ | refine d317 ?_ _)); refine d517 ?_ NB179_188.out _; (with_reducible repeat (first | refine d117 ?_ _ | refine d217 ?_ | refine d317 ?_ _)); refine d517 ?_ NB179_188.out _; (with_reducible repeat (first | refine d117 ?_ _ | refine d217 ?_ | refine d317 ?_ _)); refine d517 ?_ NB179_188.out _; (with_reducible repeat (first | refine d117 ?_ _ | refine d217 ?_ | refine d317 ?_ _)); refine d517 ?_ NB179_188.out _; (with_reducible repeat (first | refine d117 ?_ _ | refine d217 ?_ | refine d317 ?_ _)); refine d517 ?_ NB179_188.out _; (with_reducible repeat (first | refine d117 ?_ _ | refine d217 ?_ | refine d317 ?_ _)); refine d517 ?_ NB179_188.out _; (with_reducible repeat (first | refine d117 ?_ _ | refine d217 ?_ | refine d317 ?_ _)); exact BK179.out⟩, ⟨by (with_reducible repeat (first | refine d117 ?_ _ | refine d217 ?_ | refine d317 ?_ _)); refine d517 ?_ NB183_188.out _; (with_reducible repeat (first | refine d117 ?_ _ | refine d217 ?_ | refine d317 ?_ _)); refine d517 ?_ NB183_188.out _; (with_reducible repeat (first | refine d117 ?_ _ | refine d217 ?_ | refine d317 ?_ _)); refine d517 ?_ NB183_188.out _; (with_reducible repeat (first | refine d117 ?_ _ | refine d217 ?_ | refine d317 ?_ _)); refine d517 ?_ NB183_188.out _; (with_reducible repeat (first | refine d117 ?_ _ | refine d217 ?_ | refine d317 ?_ _)); refine d517 ?_ NB183_188.out _; (with_reducible repeat (first | refine d117 ?_ _ | refine d217 ?_ | refine d317 ?_ _)); refine d517 ?_ NB183_188.out _; (with_reducible repeat (first | refine d117 ?_ _ | refine d217 ?_ | refine d317 ?_ _)); refine d517 ?_ NB183_188.out _; (with_reducible repeat (first | refine d117 ?_ _ | refine d217 ?_ | refine d317 ?_ _)); exact BK183.out⟩, ⟨by repeat (first | (with_reducible first | exact HB.out | apply below_alloc | apply pw_below_drewN | apply below_drew1 | refine d417 ?_ GE179.out | refine d417 ?_ GE183.out | refine d417 ?_ GE188.out) | exact HB.out)⟩⟩
                       ·rw [if_neg c88] at H
                        have c88b0 : decide ((wrap64 (((rd_T32 l0_2 x10_3).f3) + ((rd_T32 l0_2 x10_3).f5))) ≤ (wrap64 (((rd_T32 l0_2 x14_5).f3) + ((rd_T32 l0_2 x14_5).f5)))) = false := decide_eq_false c88
                        clear c88
                        have H' := Aside0.mk H
                        clear H
                        have hnb96 := NB179_183.out
                        have hnc96 := NB183_179.out
                        have hcz97_0 : wr.cell? ⟨gb179, 0, none⟩ = some (.int .i64 a0_0) := (d617 BK179.out 0).trans rfl
                        have hcz97_1 : wr.cell? ⟨gb179, 1, none⟩ = some (.int .i64 a0_1) := (d617 BK179.out 1).trans rfl
                        have hcz97_2 : wr.cell? ⟨gb179, 2, none⟩ = some (.slice (some ad182) l0_2.length c0_2) := (d617 BK179.out 2).trans rfl
                        have hfz97_0 := d717 BK179.out 0
                        have hfz97_1 := d717 BK179.out 1
                        have hfz97_2 := d717 BK179.out 2
                        have p187 : 0 ≤ (x14_5 : Int) := of_decide_eq_true (by first | (with_reducible assumption) | assumption)
                        have q187 : x14_5 < (l0_2.length : Int) := of_decide_eq_true (by first | (with_reducible assumption) | assumption)
                        obtain ⟨ad187, e187, hx187_0, hx187_1, hx187_2, hx187_3, hx187_4, hx187_5, hx187_6⟩ := at_T32 HR0_2.out x14_5 p187 q187
                        obtain rfl : ad182 = ad187 := (by injection e187)
                        replace hx187_0 := (HB.out.cell (World.block_lt_of_cell? w _ hx187_0)).trans hx187_0
                        replace hx187_1 := (HB.out.cell (World.block_lt_of_cell? w _ hx187_1)).trans hx187_1
                        replace hx187_2 := (HB.out.cell (World.block_lt_of_cell? w _ hx187_2)).trans hx187_2
                        replace hx187_3 := (HB.out.cell (World.block_lt_of_cell? w _ hx187_3)).trans hx187_3
                        replace hx187_4 := (HB.out.cell (World.block_lt_of_cell? w _ hx187_4)).trans hx187_4
                        replace hx187_5 := (HB.out.cell (World.block_lt_of_cell? w _ hx187_5)).trans hx187_5
                        replace hx187_6 := (HB.out.cell (World.block_lt_of_cell? w _ hx187_6)).trans hx187_6
                        replace p187 := eq_true p187
                        replace q187 := eq_true q187
                        go_wp2_with (first | ((with_reducible refine gate_dst (N := 15) rfl ?_); refine box_event ?hg (N := 15) ?hd (cs := #[.int .i64 0, .int .i64 0, .int .i64 0, .int .i64 0, .int .i64 0, .int .i64 0, .int .i64 0]) (t := 32) ?hr ?_; (case hd => rfl); (case hg => rfl); (case hr => first | (go_simp; done) | (go_simp; rfl)); intro gb188 hg w98 hbox hb; have n0_ := mk0_17 (blk_below (g := gb179) (o := .cells #[.int .i64 a0_0, .int .i64 a0_1, .slice (some ad182) l0_2.length c0_2] 28 (0, 0)) (by (with_reducible repeat (first | refine d117 ?_ _ | refine d217 ?_ | refine d317 ?_ _)); exact BK179.out) hb); have n1_ := mk0_17 (blk_below (g := gb183) (o := .cells #[.int .i64 ((rd_T32 l0_2 x10_3).f0), .int .i64 ((rd_T32 l0_2 x10_3).f1), .int .i64 ((rd_T32 l0_2 x10_3).f2), .int .i64 ((rd_T32 l0_2 x10_3).f3), .int .i64 ((rd_T32 l0_2 x10_3).f4), .int .i64 ((rd_T32 l0_2 x10_3).f5), .int .i64 ((rd_T32 l0_2 x10_3).f6)] 32 (0, 0)) (by (with_reducible repeat (first | refine d117 ?_ _ | refine d217 ?_ | refine d317 ?_ _)); exact BK183.out) hb); have n2_ := mk0_17 (below_step (by repeat (first | (with_reducible first | exact HB.out | apply below_alloc | apply pw_below_drewN | apply below_drew1 | refine d417 ?_ GE179.out | refine d417 ?_ GE183.out) | exact HB.out)) hb); have n3_ := mk0_17 (hbox); have n4_ := mk0_17 ((by rw [hg]; exact (below_size (by repeat (first | (with_reducible first | exact HB.out | apply below_alloc | apply pw_below_drewN | apply below_drew1 | refine d417 ?_ GE179.out | refine d417 ?_ GE183.out) | exact HB.out))) : w.heap.size ≤ gb188)); have n5_ := mk0_17 ((by rw [hg]; exact (below_size (by repeat (first | (with_reducible first | exact HB.out | apply below_alloc | apply pw_below_drewN | apply below_drew1 | refine d417 ?_ GE179.out | refine d417 ?_ GE183.out) | exact HB.out))) : w.heap.size ≤ gb188)); have n6_ := mk0_17 ((by rw [hg]; exact Nat.ne_of_lt (blk_lt (g := gb179) (o := .cells #[.int .i64 a0_0, .int .i64 a0_1, .slice (some ad182) l0_2.length c0_2] 28 (0, 0)) (by (with_reducible repeat (first | refine d117 ?_ _ | refine d217 ?_ | refine d317 ?_ _)); exact BK179.out)) : gb179 ≠ gb188)); have n7_ := mk0_17 ((by rw [hg]; exact Nat.ne_of_gt (blk_lt (g := gb179) (o := .cells #[.int .i64 a0_0, .int .i64 a0_1, .slice (some ad182) l0_2.length c0_2] 28 (0, 0)) (by (with_reducible repeat (first | refine d117 ?_ _ | refine d217 ?_ | refine d317 ?_ _)); exact BK179.out)) : gb188 ≠ gb179)); have n8_ := mk0_17 ((by rw [hg]; exact Nat.ne_of_lt (blk_lt (g := gb183) (o := .cells #[.int .i64 ((rd_T32 l0_2 x10_3).f0), .int .i64 ((rd_T32 l0_2 x10_3).f1), .int .i64 ((rd_T32 l0_2 x10_3).f2), .int .i64 ((rd_T32 l0_2 x10_3).f3), .int .i64 ((rd_T32 l0_2 x10_3).f4), .int .i64 ((rd_T32 l0_2 x10_3).f5), .int .i64 ((rd_T32 l0_2 x10_3).f6)] 32 (0, 0)) (by (with_reducible repeat (first | refine d117 ?_ _ | refine d217 ?_ | refine d317 ?_ _)); exact BK183.out)) : gb183 ≠ gb188)); have n9_ := mk0_17 ((by rw [hg]; exact Nat.ne_of_gt (blk_lt (g := gb183) (o := .cells #[.int .i64 ((rd_T32 l0_2 x10_3).f0), .int .i64 ((rd_T32 l0_2 x10_3).f1), .int .i64 ((rd_T32 l0_2 x10_3).f2), .int .i64 ((rd_T32 l0_2 x10_3).f3), .int .i64 ((rd_T32 l0_2 x10_3).f4), .int .i64 ((rd_T32 l0_2 x10_3).f5), .int .i64 ((rd_T32 l0_2 x10_3).f6)] 32 (0, 0)) (by (with_reducible repeat (first | refine d117 ?_ _ | refine d217 ?_ | refine d317 ?_ _)); exact BK183.out)) : gb188 ≠ gb183)); clear BK179; clear BK183; clear HB; have BK179 := n0_; have BK183 := n1_; have HB := n2_; have BK188 := n3_; have GW188 := n4_; have GE188 := n5_; have NB179_188 := n6_; have NB188_179 := n7_; have NB183_188 := n8_; have NB188_183 := n9_; clear n0_ n1_ n2_ n3_ n4_ n5_ n6_ n7_ n8_ n9_; clear hb hbox hg; have hnb99 := NB188_179.out; have hnc99 := NB179_188.out; have hnb100 := NB188_183.out; have hnc100 := NB183_188.out; have hcz101_0 : w98.cell? ⟨gb188, 0, none⟩ = some (.int .i64 0) := (d617 BK188.out 0).trans rfl; have hcz101_1 : w98.cell? ⟨gb188, 1, none⟩ = some (.int .i64 0) := (d617 BK188.out 1).trans rfl; have hcz101_2 : w98.cell? ⟨gb188, 2, none⟩ = some (.int .i64 0) := (d617 BK188.out 2).trans rfl; have hcz101_3 : w98.cell? ⟨gb188, 3, none⟩ = some (.int .i64 0) := (d617 BK188.out 3).trans rfl; have hcz101_4 : w98.cell? ⟨gb188, 4, none⟩ = some (.int .i64 0) := (d617 BK188.out 4).trans rfl; have hcz101_5 : w98.cell? ⟨gb188, 5, none⟩ = some (.int .i64 0) := (d617 BK188.out 5).trans rfl; have hcz101_6 : w98.cell? ⟨gb188, 6, none⟩ = some (.int .i64 0) := (d617 BK188.out 6).trans rfl; have hfz101_0 := d717 BK188.out 0; have hfz101_1 := d717 BK188.out 1; have hfz101_2 := d717 BK188.out 2; have hfz101_3 := d717 BK188.out 3; have hfz101_4 := d717 BK188.out 4; have hfz101_5 := d717 BK188.out 5; have hfz101_6 := d717 BK188.out 6; have hcz102_0 : w98.cell? ⟨gb183, 0, none⟩ = some (.int .i64 ((rd_T32 l0_2 x10_3).f0)) := (d617 BK183.out 0).trans rfl; have hcz102_1 : w98.cell? ⟨gb183, 1, none⟩ = some (.int .i64 ((rd_T32 l0_2 x10_3).f1)) := (d617 BK183.out 1).trans rfl; have hcz102_2 : w98.cell? ⟨gb183, 2, none⟩ = some (.int .i64 ((rd_T32 l0_2 x10_3).f2)) := (d617 BK183.out 2).trans rfl; have hcz102_3 : w98.cell? ⟨gb183, 3, none⟩ = some (.int .i64 ((rd_T32 l0_2 x10_3).f3)) := (d617 BK183.out 3).trans rfl; have hcz102_4 : w98.cell? ⟨gb183, 4, none⟩ = some (.int .i64 ((rd_T32 l0_2 x10_3).f4)) := (d617 BK183.out 4).trans rfl; have hcz102_5 : w98.cell? ⟨gb183, 5, none⟩ = some (.int .i64 ((rd_T32 l0_2 x10_3).f5)) := (d617 BK183.out 5).trans rfl; have hcz102_6 : w98.cell? ⟨gb183, 6, none⟩ = some (.int .i64 ((rd_T32 l0_2 x10_3).f6)) := (d617 BK183.out 6).trans rfl; have hfz102_0 := d717 BK183.out 0; have hfz102_1 := d717 BK183.out 1; have hfz102_2 := d717 BK183.out 2; have hfz102_3 := d717 BK183.out 3; have hfz102_4 := d717 BK183.out 4; have hfz102_5 := d717 BK183.out 5; have hfz102_6 := d717 BK183.out 6))
                        go_roundg k5
                        case measure => have := HJ2.out; have := HJ25.out; have := HK3.out; have := HJ34.out; have := HK5.out; omega
                        case rel => exact ⟨(false), (wrap64 (x14_5 + 1)), (by first | rfl | (simp; done) | (simp [*]; done)), (by first | rfl | (simp; done) | (simp [*]; done)), H', ⟨by have := HJ2.out; have := HJ25.out; have := HK3.out; have := HJ34.out; have := HK5.out; omega⟩, ⟨by (with_reducible repeat (first | refine d117 ?_ _ | refine d217 ?_ | refine d317 ?_ _)); refine d517 ?_ NB179_188.out _; (with_reducible repeat (first | refine d117 ?_ _ | refine d217 ?_ | refine d317 ?_ _)); refine d517 ?_ NB179_188.out _; (with_reducible repeat (first | refine d117 ?_ _ | refine d217 ?_ | refine d317 ?_ _)); refine d517 ?_ NB179_188.out _; (with_reducible repeat (first | refine d117 ?_ _ | refine d217 ?_ | refine d317 ?_ _)); refine d517 ?_ NB179_188.out _; (with_reducible repeat (first | refine d117 ?_ _ | refine d217 ?_ | refine d317 ?_ _)); refine d517 ?_ NB179_188.out _; (with_reducible repeat (first | refine d117 ?_ _ | refine d217 ?_ | refine d317 ?_ _)); refine d517 ?_ NB179_188.out _; (with_reducible repeat (first | refine d117 ?_ _ | refine d217 ?_ | refine d317 ?_ _)); refine d517 ?_ NB179_188.out _; (with_reducible repeat (first | refine d117 ?_ _ | refine d217 ?_ | refine d317 ?_ _)); exact BK179.out⟩, ⟨by (with_reducible repeat (first | refine d117 ?_ _ | refine d217 ?_ | refine d317 ?_ _)); refine d517 ?_ NB183_188.out _; (with_reducible repeat (first | refine d117 ?_ _ | refine d217 ?_ | refine d317 ?_ _)); refine d517 ?_ NB183_188.out _; (with_reducible repeat (first | refine d117 ?_ _ | refine d217 ?_ | refine d317 ?_ _)); refine d517 ?_ NB183_188.out _; (with_reducible repeat (first | refine d117 ?_ _ | refine d217 ?_ | refine d317 ?_ _)); refine d517 ?_ NB183_188.out _; (with_reducible repeat (first | refine d117 ?_ _ | refine d217 ?_ | refine d317 ?_ _)); refine d517 ?_ NB183_188.out _; (with_reducible repeat (first | refine d117 ?_ _ | refine d217 ?_ | refine d317 ?_ _)); refine d517 ?_ NB183_188.out _; (with_reducible repeat (first | refine d117 ?_ _ | refine d217 ?_ | refine d317 ?_ _)); refine d517 ?_ NB183_188.out _; (with_reducible repeat (first | refine d117 ?_ _ | refine d217 ?_ | refine d317 ?_ _)); exact BK183.out⟩, ⟨by repeat (first | (with_reducible first | exact HB.out | apply below_alloc | apply pw_below_drewN | apply below_drew1 | refine d417 ?_ GE179.out | refine d417 ?_ GE183.out | refine d417 ?_ GE188.out) | exact HB.out)⟩⟩
                      ·rw [if_neg c87] at H
                       have c87b0 : decide (((rd_T32 l0_2 x14_5).f3) ≤ ((rd_T32 l0_2 x10_3).f3)) = false := decide_eq_false c87
                       clear c87
                       have H' := Aside0.mk H
                       clear H
                       have hnb103 := NB179_183.out
                       have hnc103 := NB183_179.out
                       have hcz104_0 : wr.cell? ⟨gb179, 0, none⟩ = some (.int .i64 a0_0) := (d617 BK179.out 0).trans rfl
                       have hcz104_1 : wr.cell? ⟨gb179, 1, none⟩ = some (.int .i64 a0_1) := (d617 BK179.out 1).trans rfl
                       have hcz104_2 : wr.cell? ⟨gb179, 2, none⟩ = some (.slice (some ad182) l0_2.length c0_2) := (d617 BK179.out 2).trans rfl
                       have hfz104_0 := d717 BK179.out 0
                       have hfz104_1 := d717 BK179.out 1
                       have hfz104_2 := d717 BK179.out 2
                       have p187 : 0 ≤ (x14_5 : Int) := of_decide_eq_true (by first | (with_reducible assumption) | assumption)
                       have q187 : x14_5 < (l0_2.length : Int) := of_decide_eq_true (by first | (with_reducible assumption) | assumption)
                       obtain ⟨ad187, e187, hx187_0, hx187_1, hx187_2, hx187_3, hx187_4, hx187_5, hx187_6⟩ := at_T32 HR0_2.out x14_5 p187 q187
                       obtain rfl : ad182 = ad187 := (by injection e187)
                       replace hx187_0 := (HB.out.cell (World.block_lt_of_cell? w _ hx187_0)).trans hx187_0
                       replace hx187_1 := (HB.out.cell (World.block_lt_of_cell? w _ hx187_1)).trans hx187_1
                       replace hx187_2 := (HB.out.cell (World.block_lt_of_cell? w _ hx187_2)).trans hx187_2
                       replace hx187_3 := (HB.out.cell (World.block_lt_of_cell? w _ hx187_3)).trans hx187_3
                       replace hx187_4 := (HB.out.cell (World.block_lt_of_cell? w _ hx187_4)).trans hx187_4
                       replace hx187_5 := (HB.out.cell (World.block_lt_of_cell? w _ hx187_5)).trans hx187_5
                       replace hx187_6 := (HB.out.cell (World.block_lt_of_cell? w _ hx187_6)).trans hx187_6
                       replace p187 := eq_true p187
                       replace q187 := eq_true q187
                       go_wp2_with (first | ((with_reducible refine gate_dst (N := 15) rfl ?_); refine box_event ?hg (N := 15) ?hd (cs := #[.int .i64 0, .int .i64 0, .int .i64 0, .int .i64 0, .int .i64 0, .int .i64 0, .int .i64 0]) (t := 32) ?hr ?_; (case hd => rfl); (case hg => rfl); (case hr => first | (go_simp; done) | (go_simp; rfl)); intro gb188 hg w105 hbox hb; have n0_ := mk0_17 (blk_below (g := gb179) (o := .cells #[.int .i64 a0_0, .int .i64 a0_1, .slice (some ad182) l0_2.length c0_2] 28 (0, 0)) (by (with_reducible repeat (first | refine d117 ?_ _ | refine d217 ?_ | refine d317 ?_ _)); exact BK179.out) hb); have n1_ := mk0_17 (blk_below (g := gb183) (o := .cells #[.int .i64 ((rd_T32 l0_2 x10_3).f0), .int .i64 ((rd_T32 l0_2 x10_3).f1), .int .i64 ((rd_T32 l0_2 x10_3).f2), .int .i64 ((rd_T32 l0_2 x10_3).f3), .int .i64 ((rd_T32 l0_2 x10_3).f4), .int .i64 ((rd_T32 l0_2 x10_3).f5), .int .i64 ((rd_T32 l0_2 x10_3).f6)] 32 (0, 0)) (by (with_reducible repeat (first | refine d117 ?_ _ | refine d217 ?_ | refine d317 ?_ _)); exact BK183.out) hb); have n2_ := mk0_17 (below_step (by repeat (first | (with_reducible first | exact HB.out | apply below_alloc | apply pw_below_drewN | apply below_drew1 | refine d417 ?_ GE179.out | refine d417 ?_ GE183.out) | exact HB.out)) hb); have n3_ := mk0_17 (hbox); have n4_ := mk0_17 ((by rw [hg]; exact (below_size (by repeat (first | (with_reducible first | exact HB.out | apply below_alloc | apply pw_below_drewN | apply below_drew1 | refine d417 ?_ GE179.out | refine d417 ?_ GE183.out) | exact HB.out))) : w.heap.size ≤ gb188)); have n5_ := mk0_17 ((by rw [hg]; exact (below_size (by repeat (first | (with_reducible first | exact HB.out | apply below_alloc | apply pw_below_drewN | apply below_drew1 | refine d417 ?_ GE179.out | refine d417 ?_ GE183.out) | exact HB.out))) : w.heap.size ≤ gb188)); have n6_ := mk0_17 ((by rw [hg]; exact Nat.ne_of_lt (blk_lt (g := gb179) (o := .cells #[.int .i64 a0_0, .int .i64 a0_1, .slice (some ad182) l0_2.length c0_2] 28 (0, 0)) (by (with_reducible repeat (first | refine d117 ?_ _ | refine d217 ?_ | refine d317 ?_ _)); exact BK179.out)) : gb179 ≠ gb188)); have n7_ := mk0_17 ((by rw [hg]; exact Nat.ne_of_gt (blk_lt (g := gb179) (o := .cells #[.int .i64 a0_0, .int .i64 a0_1, .slice (some ad182) l0_2.length c0_2] 28 (0, 0)) (by (with_reducible repeat (first | refine d117 ?_ _ | refine d217 ?_ | refine d317 ?_ _)); exact BK179.out)) : gb188 ≠ gb179)); have n8_ := mk0_17 ((by rw [hg]; exact Nat.ne_of_lt (blk_lt (g := gb183) (o := .cells #[.int .i64 ((rd_T32 l0_2 x10_3).f0), .int .i64 ((rd_T32 l0_2 x10_3).f1), .int .i64 ((rd_T32 l0_2 x10_3).f2), .int .i64 ((rd_T32 l0_2 x10_3).f3), .int .i64 ((rd_T32 l0_2 x10_3).f4), .int .i64 ((rd_T32 l0_2 x10_3).f5), .int .i64 ((rd_T32 l0_2 x10_3).f6)] 32 (0, 0)) (by (with_reducible repeat (first | refine d117 ?_ _ | refine d217 ?_ | refine d317 ?_ _)); exact BK183.out)) : gb183 ≠ gb188)); have n9_ := mk0_17 ((by rw [hg]; exact Nat.ne_of_gt (blk_lt (g := gb183) (o := .cells #[.int .i64 ((rd_T32 l0_2 x10_3).f0), .int .i64 ((rd_T32 l0_2 x10_3).f1), .int .i64 ((rd_T32 l0_2 x10_3).f2), .int .i64 ((rd_T32 l0_2 x10_3).f3), .int .i64 ((rd_T32 l0_2 x10_3).f4), .int .i64 ((rd_T32 l0_2 x10_3).f5), .int .i64 ((rd_T32 l0_2 x10_3).f6)] 32 (0, 0)) (by (with_reducible repeat (first | refine d117 ?_ _ | refine d217 ?_ | refine d317 ?_ _)); exact BK183.out)) : gb188 ≠ gb183)); clear BK179; clear BK183; clear HB; have BK179 := n0_; have BK183 := n1_; have HB := n2_; have BK188 := n3_; have GW188 := n4_; have GE188 := n5_; have NB179_188 := n6_; have NB188_179 := n7_; have NB183_188 := n8_; have NB188_183 := n9_; clear n0_ n1_ n2_ n3_ n4_ n5_ n6_ n7_ n8_ n9_; clear hb hbox hg; have hnb106 := NB188_179.out; have hnc106 := NB179_188.out; have hnb107 := NB188_183.out; have hnc107 := NB183_188.out; have hcz108_0 : w105.cell? ⟨gb188, 0, none⟩ = some (.int .i64 0) := (d617 BK188.out 0).trans rfl; have hcz108_1 : w105.cell? ⟨gb188, 1, none⟩ = some (.int .i64 0) := (d617 BK188.out 1).trans rfl; have hcz108_2 : w105.cell? ⟨gb188, 2, none⟩ = some (.int .i64 0) := (d617 BK188.out 2).trans rfl; have hcz108_3 : w105.cell? ⟨gb188, 3, none⟩ = some (.int .i64 0) := (d617 BK188.out 3).trans rfl; have hcz108_4 : w105.cell? ⟨gb188, 4, none⟩ = some (.int .i64 0) := (d617 BK188.out 4).trans rfl; have hcz108_5 : w105.cell? ⟨gb188, 5, none⟩ = some (.int .i64 0) := (d617 BK188.out 5).trans rfl; have hcz108_6 : w105.cell? ⟨gb188, 6, none⟩ = some (.int .i64 0) := (d617 BK188.out 6).trans rfl; have hfz108_0 := d717 BK188.out 0; have hfz108_1 := d717 BK188.out 1; have hfz108_2 := d717 BK188.out 2; have hfz108_3 := d717 BK188.out 3; have hfz108_4 := d717 BK188.out 4; have hfz108_5 := d717 BK188.out 5; have hfz108_6 := d717 BK188.out 6; have hcz109_0 : w105.cell? ⟨gb183, 0, none⟩ = some (.int .i64 ((rd_T32 l0_2 x10_3).f0)) := (d617 BK183.out 0).trans rfl; have hcz109_1 : w105.cell? ⟨gb183, 1, none⟩ = some (.int .i64 ((rd_T32 l0_2 x10_3).f1)) := (d617 BK183.out 1).trans rfl; have hcz109_2 : w105.cell? ⟨gb183, 2, none⟩ = some (.int .i64 ((rd_T32 l0_2 x10_3).f2)) := (d617 BK183.out 2).trans rfl; have hcz109_3 : w105.cell? ⟨gb183, 3, none⟩ = some (.int .i64 ((rd_T32 l0_2 x10_3).f3)) := (d617 BK183.out 3).trans rfl; have hcz109_4 : w105.cell? ⟨gb183, 4, none⟩ = some (.int .i64 ((rd_T32 l0_2 x10_3).f4)) := (d617 BK183.out 4).trans rfl; have hcz109_5 : w105.cell? ⟨gb183, 5, none⟩ = some (.int .i64 ((rd_T32 l0_2 x10_3).f5)) := (d617 BK183.out 5).trans rfl; have hcz109_6 : w105.cell? ⟨gb183, 6, none⟩ = some (.int .i64 ((rd_T32 l0_2 x10_3).f6)) := (d617 BK183.out 6).trans rfl; have hfz109_0 := d717 BK183.out 0; have hfz109_1 := d717 BK183.out 1; have hfz109_2 := d717 BK183.out 2; have hfz109_3 := d717 BK183.out 3; have hfz109_4 := d717 BK183.out 4; have hfz109_5 := d717 BK183.out 5; have hfz109_6 := d717 BK183.out 6))
                       go_roundg k5
                       case measure => have := HJ2.out; have := HJ25.out; have := HK3.out; have := HJ34.out; have := HK5.out; omega
                       case rel => exact ⟨(false), (wrap64 (x14_5 + 1)), (by first | rfl | (simp; done) | (simp [*]; done)), (by first | rfl | (simp; done) | (simp [*]; done)), H', ⟨by have := HJ2.out; have := HJ25.out; have := HK3.out; have := HJ34.out; have := HK5.out; omega⟩, ⟨by (with_reducible repeat (first | refine d117 ?_ _ | refine d217 ?_ | refine d317 ?_ _)); refine d517 ?_ NB179_188.out _; (with_reducible repeat (first | refine d117 ?_ _ | refine d217 ?_ | refine d317 ?_ _)); refine d517 ?_ NB179_188.out _; (with_reducible repeat (first | refine d117 ?_ _ | refine d217 ?_ | refine d317 ?_ _)); refine d517 ?_ NB179_188.out _; (with_reducible repeat (first | refine d117 ?_ _ | refine d217 ?_ | refine d317 ?_ _)); refine d517 ?_ NB179_188.out _; (with_reducible repeat (first | refine d117 ?_ _ | refine d217 ?_ | refine d317 ?_ _)); refine d517 ?_ NB179_188.out _; (with_reducible repeat (first | refine d117 ?_ _ | refine d217 ?_ | refine d317 ?_ _)); refine d517 ?_ NB179_188.out _; (with_reducible repeat (first | refine d117 ?_ _ | refine d217 ?_ | refine d317 ?_ _)); refine d517 ?_ NB179_188.out _; (with_reducible repeat (first | refine d117 ?_ _ | refine d217 ?_ | refine d317 ?_ _)); exact BK179.out⟩, ⟨by (with_reducible repeat (first | refine d117 ?_ _ | refine d217 ?_ | refine d317 ?_ _)); refine d517 ?_ NB183_188.out _; (with_reducible repeat (first | refine d117 ?_ _ | refine d217 ?_ | refine d317 ?_ _)); refine d517 ?_ NB183_188.out _; (with_reducible repeat (first | refine d117 ?_ _ | refine d217 ?_ | refine d317 ?_ _)); refine d517 ?_ NB183_188.out _; (with_reducible repeat (first | refine d117 ?_ _ | refine d217 ?_ | refine d317 ?_ _)); refine d517 ?_ NB183_188.out _; (with_reducible repeat (first | refine d117 ?_ _ | refine d217 ?_ | refine d317 ?_ _)); refine d517 ?_ NB183_188.out _; (with_reducible repeat (first | refine d117 ?_ _ | refine d217 ?_ | refine d317 ?_ _)); refine d517 ?_ NB183_188.out _; (with_reducible repeat (first | refine d117 ?_ _ | refine d217 ?_ | refine d317 ?_ _)); refine d517 ?_ NB183_188.out _; (with_reducible repeat (first | refine d117 ?_ _ | refine d217 ?_ | refine d317 ?_ _)); exact BK183.out⟩, ⟨by repeat (first | (with_reducible first | exact HB.out | apply below_alloc | apply pw_below_drewN | apply below_drew1 | refine d417 ?_ GE179.out | refine d417 ?_ GE183.out | refine d417 ?_ GE188.out) | exact HB.out)⟩⟩
                     ·rw [if_neg c86] at H
                      have c86b0 : (((rd_T32 l0_2 x14_5).f0) == 1) = false := beq_eq_false_iff_ne.mpr c86
                      have c86b1 : (((rd_T32 l0_2 x14_5).f0) != 1) = true := bne_iff_ne.mpr c86
                      have H' := Aside0.mk H
                      clear H
                      have hnb110 := NB179_183.out
                      have hnc110 := NB183_179.out
                      have hcz111_0 : wr.cell? ⟨gb179, 0, none⟩ = some (.int .i64 a0_0) := (d617 BK179.out 0).trans rfl
                      have hcz111_1 : wr.cell? ⟨gb179, 1, none⟩ = some (.int .i64 a0_1) := (d617 BK179.out 1).trans rfl
                      have hcz111_2 : wr.cell? ⟨gb179, 2, none⟩ = some (.slice (some ad182) l0_2.length c0_2) := (d617 BK179.out 2).trans rfl
                      have hfz111_0 := d717 BK179.out 0
                      have hfz111_1 := d717 BK179.out 1
                      have hfz111_2 := d717 BK179.out 2
                      have p187 : 0 ≤ (x14_5 : Int) := of_decide_eq_true (by first | (with_reducible assumption) | assumption)
                      have q187 : x14_5 < (l0_2.length : Int) := of_decide_eq_true (by first | (with_reducible assumption) | assumption)
                      obtain ⟨ad187, e187, hx187_0, hx187_1, hx187_2, hx187_3, hx187_4, hx187_5, hx187_6⟩ := at_T32 HR0_2.out x14_5 p187 q187
                      obtain rfl : ad182 = ad187 := (by injection e187)
                      replace hx187_0 := (HB.out.cell (World.block_lt_of_cell? w _ hx187_0)).trans hx187_0
                      replace hx187_1 := (HB.out.cell (World.block_lt_of_cell? w _ hx187_1)).trans hx187_1
                      replace hx187_2 := (HB.out.cell (World.block_lt_of_cell? w _ hx187_2)).trans hx187_2
                      replace hx187_3 := (HB.out.cell (World.block_lt_of_cell? w _ hx187_3)).trans hx187_3
                      replace hx187_4 := (HB.out.cell (World.block_lt_of_cell? w _ hx187_4)).trans hx187_4
                      replace hx187_5 := (HB.out.cell (World.block_lt_of_cell? w _ hx187_5)).trans hx187_5
                      replace hx187_6 := (HB.out.cell (World.block_lt_of_cell? w _ hx187_6)).trans hx187_6
                      replace p187 := eq_true p187
                      replace q187 := eq_true q187
                      go_wp2_with (first | ((with_reducible refine gate_dst (N := 15) rfl ?_); refine box_event ?hg (N := 15) ?hd (cs := #[.int .i64 0, .int .i64 0, .int .i64 0, .int .i64 0, .int .i64 0, .int .i64 0, .int .i64 0]) (t := 32) ?hr ?_; (case hd => rfl); (case hg => rfl); (case hr => first | (go_simp; done) | (go_simp; rfl)); intro gb188 hg w112 hbox hb; have n0_ := mk0_17 (blk_below (g := gb179) (o := .cells #[.int .i64 a0_0, .int .i64 a0_1, .slice (some ad182) l0_2.length c0_2] 28 (0, 0)) (by (with_reducible repeat (first | refine d117 ?_ _ | refine d217 ?_ | refine d317 ?_ _)); exact BK179.out) hb); have n1_ := mk0_17 (blk_below (g := gb183) (o := .cells #[.int .i64 ((rd_T32 l0_2 x10_3).f0), .int .i64 ((rd_T32 l0_2 x10_3).f1), .int .i64 ((rd_T32 l0_2 x10_3).f2), .int .i64 ((rd_T32 l0_2 x10_3).f3), .int .i64 ((rd_T32 l0_2 x10_3).f4), .int .i64 ((rd_T32 l0_2 x10_3).f5), .int .i64 ((rd_T32 l0_2 x10_3).f6)] 32 (0, 0)) (by (with_reducible repeat (first | refine d117 ?_ _ | refine d217 ?_ | refine d317 ?_ _)); exact BK183.out) hb); have n2_ := mk0_17 (below_step (by repeat (first | (with_reducible first | exact HB.out | apply below_alloc | apply pw_below_drewN | apply below_drew1 | refine d417 ?_ GE179.out | refine d417 ?_ GE183.out) | exact HB.out)) hb); have n3_ := mk0_17 (hbox); have n4_ := mk0_17 ((by rw [hg]; exact (below_size (by repeat (first | (with_reducible first | exact HB.out | apply below_alloc | apply pw_below_drewN | apply below_drew1 | refine d417 ?_ GE179.out | refine d417 ?_ GE183.out) | exact HB.out))) : w.heap.size ≤ gb188)); have n5_ := mk0_17 ((by rw [hg]; exact (below_size (by repeat (first | (with_reducible first | exact HB.out | apply below_alloc | apply pw_below_drewN | apply below_drew1 | refine d417 ?_ GE179.out | refine d417 ?_ GE183.out) | exact HB.out))) : w.heap.size ≤ gb188)); have n6_ := mk0_17 ((by rw [hg]; exact Nat.ne_of_lt (blk_lt (g := gb179) (o := .cells #[.int .i64 a0_0, .int .i64 a0_1, .slice (some ad182) l0_2.length c0_2] 28 (0, 0)) (by (with_reducible repeat (first | refine d117 ?_ _ | refine d217 ?_ | refine d317 ?_ _)); exact BK179.out)) : gb179 ≠ gb188)); have n7_ := mk0_17 ((by rw [hg]; exact Nat.ne_of_gt (blk_lt (g := gb179) (o := .cells #[.int .i64 a0_0, .int .i64 a0_1, .slice (some ad182) l0_2.length c0_2] 28 (0, 0)) (by (with_reducible repeat (first | refine d117 ?_ _ | refine d217 ?_ | refine d317 ?_ _)); exact BK179.out)) : gb188 ≠ gb179)); have n8_ := mk0_17 ((by rw [hg]; exact Nat.ne_of_lt (blk_lt (g := gb183) (o := .cells #[.int .i64 ((rd_T32 l0_2 x10_3).f0), .int .i64 ((rd_T32 l0_2 x10_3).f1), .int .i64 ((rd_T32 l0_2 x10_3).f2), .int .i64 ((rd_T32 l0_2 x10_3).f3), .int .i64 ((rd_T32 l0_2 x10_3).f4), .int .i64 ((rd_T32 l0_2 x10_3).f5), .int .i64 ((rd_T32 l0_2 x10_3).f6)] 32 (0, 0)) (by (with_reducible repeat (first | refine d117 ?_ _ | refine d217 ?_ | refine d317 ?_ _)); exact BK183.out)) : gb183 ≠ gb188)); have n9_ := mk0_17 ((by rw [hg]; exact Nat.ne_of_gt (blk_lt (g := gb183) (o := .cells #[.int .i64 ((rd_T32 l0_2 x10_3).f0), .int .i64 ((rd_T32 l0_2 x10_3).f1), .int .i64 ((rd_T32 l0_2 x10_3).f2), .int .i64 ((rd_T32 l0_2 x10_3).f3), .int .i64 ((rd_T32 l0_2 x10_3).f4), .int .i64 ((rd_T32 l0_2 x10_3).f5), .int .i64 ((rd_T32 l0_2 x10_3).f6)] 32 (0, 0)) (by (with_reducible repeat (first | refine d117 ?_ _ | refine d217 ?_ | refine d317 ?_ _)); exact BK183.out)) : gb188 ≠ gb183)); clear BK179; clear BK183; clear HB; have BK179 := n0_; have BK183 := n1_; have HB := n2_; have BK188 := n3_; have GW188 := n4_; have GE188 := n5_; have NB179_188 := n6_; have NB188_179 := n7_; have NB183_188 := n8_; have NB188_183 := n9_; clear n0_ n1_ n2_ n3_ n4_ n5_ n6_ n7_ n8_ n9_; clear hb hbox hg; have hnb113 := NB188_179.out; have hnc113 := NB179_188.out; have hnb114 := NB188_183.out; have hnc114 := NB183_188.out; have hcz115_0 : w112.cell? ⟨gb188, 0, none⟩ = some (.int .i64 0) := (d617 BK188.out 0).trans rfl; have hcz115_1 : w112.cell? ⟨gb188, 1, none⟩ = some (.int .i64 0) := (d617 BK188.out 1).trans rfl; have hcz115_2 : w112.cell? ⟨gb188, 2, none⟩ = some (.int .i64 0) := (d617 BK188.out 2).trans rfl; have hcz115_3 : w112.cell? ⟨gb188, 3, none⟩ = some (.int .i64 0) := (d617 BK188.out 3).trans rfl; have hcz115_4 : w112.cell? ⟨gb188, 4, none⟩ = some (.int .i64 0) := (d617 BK188.out 4).trans rfl; have hcz115_5 : w112.cell? ⟨gb188, 5, none⟩ = some (.int .i64 0) := (d617 BK188.out 5).trans rfl; have hcz115_6 : w112.cell? ⟨gb188, 6, none⟩ = some (.int .i64 0) := (d617 BK188.out 6).trans rfl; have hfz115_0 := d717 BK188.out 0; have hfz115_1 := d717 BK188.out 1; have hfz115_2 := d717 BK188.out 2; have hfz115_3 := d717 BK188.out 3; have hfz115_4 := d717 BK188.out 4; have hfz115_5 := d717 BK188.out 5; have hfz115_6 := d717 BK188.out 6))
                      go_roundg k5
                      case measure => have := HJ2.out; have := HJ25.out; have := HK3.out; have := HJ34.out; have := HK5.out; omega
                      case rel => exact ⟨(false), (wrap64 (x14_5 + 1)), (by first | rfl | (simp; done) | (simp [*]; done)), (by first | rfl | (simp; done) | (simp [*]; done)), H', ⟨by have := HJ2.out; have := HJ25.out; have := HK3.out; have := HJ34.out; have := HK5.out; omega⟩, ⟨by (with_reducible repeat (first | refine d117 ?_ _ | refine d217 ?_ | refine d317 ?_ _)); refine d517 ?_ NB179_188.out _; (with_reducible repeat (first | refine d117 ?_ _ | refine d217 ?_ | refine d317 ?_ _)); refine d517 ?_ NB179_188.out _; (with_reducible repeat (first | refine d117 ?_ _ | refine d217 ?_ | refine d317 ?_ _)); refine d517 ?_ NB179_188.out _; (with_reducible repeat (first | refine d117 ?_ _ | refine d217 ?_ | refine d317 ?_ _)); refine d517 ?_ NB179_188.out _; (with_reducible repeat (first | refine d117 ?_ _ | refine d217 ?_ | refine d317 ?_ _)); refine d517 ?_ NB179_188.out _; (with_reducible repeat (first | refine d117 ?_ _ | refine d217 ?_ | refine d317 ?_ _)); refine d517 ?_ NB179_188.out _; (with_reducible repeat (first | refine d117 ?_ _ | refine d217 ?_ | refine d317 ?_ _)); refine d517 ?_ NB179_188.out _; (with_reducible repeat (first | refine d117 ?_ _ | refine d217 ?_ | refine d317 ?_ _)); exact BK179.out⟩, ⟨by (with_reducible repeat (first | refine d117 ?_ _ | refine d217 ?_ | refine d317 ?_ _)); refine d517 ?_ NB183_188.out _; (with_reducible repeat (first | refine d117 ?_ _ | refine d217 ?_ | refine d317 ?_ _)); refine d517 ?_ NB183_188.out _; (with_reducible repeat (first | refine d117 ?_ _ | refine d217 ?_ | refine d317 ?_ _)); refine d517 ?_ NB183_188.out _; (with_reducible repeat (first | refine d117 ?_ _ | refine d217 ?_ | refine d317 ?_ _)); refine d517 ?_ NB183_188.out _; (with_reducible repeat (first | refine d117 ?_ _ | refine d217 ?_ | refine d317 ?_ _)); refine d517 ?_ NB183_188.out _; (with_reducible repeat (first | refine d117 ?_ _ | refine d217 ?_ | refine d317 ?_ _)); refine d517 ?_ NB183_188.out _; (with_reducible repeat (first | refine d117 ?_ _ | refine d217 ?_ | refine d317 ?_ _)); refine d517 ?_ NB183_188.out _; (with_reducible repeat (first | refine d117 ?_ _ | refine d217 ?_ | refine d317 ?_ _)); exact BK183.out⟩, ⟨by repeat (first | (with_reducible first | exact HB.out | apply below_alloc | apply pw_below_drewN | apply below_drew1 | refine d417 ?_ GE179.out | refine d417 ?_ GE183.out | refine d417 ?_ GE188.out) | exact HB.out)⟩⟩
                   ·rw [if_neg c78] at H
                    exact absurd H (by simp)
                  ·rw [if_neg c77] at H
                   exact absurd H (by simp)
                 ·rw [if_neg c76] at H
                  have c76b0 : decide (x14_5 < (l0_2.length : Int)) = false := decide_eq_false c76
                  clear c76
                  by_cases c116 : x13_5 = true
                  ·subst c116
                   have H1 : (flyleafref08_Check.l0 k5 a1 (l0_2.length : Int) x6_34 (wrap64 (x7_3 + 1)) x8_34 x9_34 (wrap64 (x10_3 + 1)) a0_0 a0_1 l0_2) = some r := by rw [if_pos rfl] at H; exact H
                   clear H
                   have H := H1
                   clear H1
                   have H' := Aside0.mk H
                   clear H
                   go_wp2
                   go_roundg k5
                   case measure => have := HJ2.out; have := HJ25.out; have := HK3.out; have := HJ34.out; have := HK5.out; omega
                   case rel => exact ⟨(x6_34), ((wrap64 (x7_3 + 1))), (x8_34), (x9_34), (wrap64 (x10_3 + 1)), (by first | rfl | (simp; done) | (simp [*]; done)), (by first | rfl | (simp; done) | (simp [*]; done)), (by first | rfl | (simp; done) | (simp [*]; done)), (by first | rfl | (simp; done) | (simp [*]; done)), (by first | rfl | (simp; done) | (simp [*]; done)), H', ⟨by have := HJ2.out; have := HJ25.out; have := HK3.out; have := HJ34.out; have := HK5.out; omega⟩, ⟨by (with_reducible repeat (first | refine d117 ?_ _ | refine d217 ?_ | refine d317 ?_ _)); exact BK179.out⟩, ⟨by repeat (first | (with_reducible first | exact HB.out | apply below_alloc | apply pw_below_drewN | apply below_drew1 | refine d417 ?_ GE179.out | refine d417 ?_ GE183.out) | exact HB.out)⟩⟩
                  ·replace c116 := Bool.eq_false_iff.mpr c116
                   subst c116
                   have H1 : (some 16) = some r := by rw [if_neg (show ¬ (false = true) by decide)] at H; exact H
                   clear H
                   have H := H1
                   clear H1
                   obtain rfl := Option.some.inj H
                   go_wp2
                   go_ret
                   exact ⟨by first | rfl | (simp [errW_none, errW_some] <;> rfl) | (simp [*, errW_none, errW_some] <;> rfl), by repeat (first | (with_reducible first | exact HB.out | apply below_alloc | apply pw_below_drewN | apply below_drew1 | refine d417 ?_ GE179.out | refine d417 ?_ GE183.out) | exact HB.out)⟩
              ·rw [if_neg c73] at H
               have c73b0 : (((rd_T32 l0_2 x10_3).f0) == 2) = false := beq_eq_false_iff_ne.mpr c73
               have c73b1 : (((rd_T32 l0_2 x10_3).f0) != 2) = true := bne_iff_ne.mpr c73
               have H' := Aside0.mk H
               clear H
               have hnb117 := NB183_179.out
               have hnc117 := NB179_183.out
               have hcz118_0 : wc.cell? ⟨gb183, 0, none⟩ = some (.int .i64 ((rd_T32 l0_2 x10_3).f0)) := (d617 BK183.out 0).trans rfl
               have hcz118_1 : wc.cell? ⟨gb183, 1, none⟩ = some (.int .i64 ((rd_T32 l0_2 x10_3).f1)) := (d617 BK183.out 1).trans rfl
               have hcz118_2 : wc.cell? ⟨gb183, 2, none⟩ = some (.int .i64 ((rd_T32 l0_2 x10_3).f2)) := (d617 BK183.out 2).trans rfl
               have hcz118_3 : wc.cell? ⟨gb183, 3, none⟩ = some (.int .i64 ((rd_T32 l0_2 x10_3).f3)) := (d617 BK183.out 3).trans rfl
               have hcz118_4 : wc.cell? ⟨gb183, 4, none⟩ = some (.int .i64 ((rd_T32 l0_2 x10_3).f4)) := (d617 BK183.out 4).trans rfl
               have hcz118_5 : wc.cell? ⟨gb183, 5, none⟩ = some (.int .i64 ((rd_T32 l0_2 x10_3).f5)) := (d617 BK183.out 5).trans rfl
               have hcz118_6 : wc.cell? ⟨gb183, 6, none⟩ = some (.int .i64 ((rd_T32 l0_2 x10_3).f6)) := (d617 BK183.out 6).trans rfl
               have hfz118_0 := d717 BK183.out 0
               have hfz118_1 := d717 BK183.out 1
               have hfz118_2 := d717 BK183.out 2
               have hfz118_3 := d717 BK183.out 3
               have hfz118_4 := d717 BK183.out 4
               have hfz118_5 := d717 BK183.out 5
               have hfz118_6 := d717 BK183.out 6
               go_wp2
               go_roundg kj34
               case measure => have := HJ2.out; have := HJ25.out; have := HK3.out; have := HJ34.out; omega
               case rel => exact ⟨(x6_34), (x7_3), (x8_34), (x9_34), (wrap64 (x10_3 + 1)), (by first | rfl | (simp; done) | (simp [*]; done)), (by first | rfl | (simp; done) | (simp [*]; done)), (by first | rfl | (simp; done) | (simp [*]; done)), (by first | rfl | (simp; done) | (simp [*]; done)), (by first | rfl | (simp; done) | (simp [*]; done)), H', ⟨by have := HJ2.out; have := HJ25.out; have := HK3.out; have := HJ34.out; omega⟩, ⟨by (with_reducible repeat (first | refine d117 ?_ _ | refine d217 ?_ | refine d317 ?_ _)); exact BK179.out⟩, ⟨by repeat (first | (with_reducible first | exact HB.out | apply below_alloc | apply pw_below_drewN | apply below_drew1 | refine d417 ?_ GE179.out | refine d417 ?_ GE183.out) | exact HB.out)⟩⟩
           ·replace c34 := Bool.eq_false_iff.mpr c34
            subst c34
            have H1 : (some 16) = some r := by rw [if_neg (show ¬ (false = true) by decide)] at H; exact H
            clear H
            have H := H1
            clear H1
            obtain rfl := Option.some.inj H
            have hcz119_0 : wr.cell? ⟨gb179, 0, none⟩ = some (.int .i64 a0_0) := (d617 BK179.out 0).trans rfl
            have hcz119_1 : wr.cell? ⟨gb179, 1, none⟩ = some (.int .i64 a0_1) := (d617 BK179.out 1).trans rfl
            have hcz119_2 : wr.cell? ⟨gb179, 2, none⟩ = some (.slice A0_2 l0_2.length c0_2) := (d617 BK179.out 2).trans rfl
            have hfz119_0 := d717 BK179.out 0
            have hfz119_1 := d717 BK179.out 1
            have hfz119_2 := d717 BK179.out 2
            have p182 : 0 ≤ (x10_3 : Int) := of_decide_eq_true (by first | (with_reducible assumption) | assumption)
            have q182 : x10_3 < (l0_2.length : Int) := of_decide_eq_true (by first | (with_reducible assumption) | assumption)
            obtain ⟨ad182, e182, hx182_0, hx182_1, hx182_2, hx182_3, hx182_4, hx182_5, hx182_6⟩ := at_T32 HR0_2.out x10_3 p182 q182
            cases e182
            replace hx182_0 := (HB.out.cell (World.block_lt_of_cell? w _ hx182_0)).trans hx182_0
            replace hx182_1 := (HB.out.cell (World.block_lt_of_cell? w _ hx182_1)).trans hx182_1
            replace hx182_2 := (HB.out.cell (World.block_lt_of_cell? w _ hx182_2)).trans hx182_2
            replace hx182_3 := (HB.out.cell (World.block_lt_of_cell? w _ hx182_3)).trans hx182_3
            replace hx182_4 := (HB.out.cell (World.block_lt_of_cell? w _ hx182_4)).trans hx182_4
            replace hx182_5 := (HB.out.cell (World.block_lt_of_cell? w _ hx182_5)).trans hx182_5
            replace hx182_6 := (HB.out.cell (World.block_lt_of_cell? w _ hx182_6)).trans hx182_6
            replace p182 := eq_true p182
            replace q182 := eq_true q182
            go_wp2_with (first | ((with_reducible refine gate_dst (N := 11) rfl ?_); refine box_event ?hg (N := 11) ?hd (cs := #[.int .i64 0, .int .i64 0, .int .i64 0, .int .i64 0, .int .i64 0, .int .i64 0, .int .i64 0]) (t := 32) ?hr ?_; (case hd => rfl); (case hg => rfl); (case hr => first | (go_simp; done) | (go_simp; rfl)); intro gb183 hg w120 hbox hb; have n0_ := mk0_17 (blk_below (g := gb179) (o := .cells #[.int .i64 a0_0, .int .i64 a0_1, .slice (some ad182) l0_2.length c0_2] 28 (0, 0)) (by (with_reducible repeat (first | refine d117 ?_ _ | refine d217 ?_ | refine d317 ?_ _)); exact BK179.out) hb); have n1_ := mk0_17 (below_step (by repeat (first | (with_reducible first | exact HB.out | apply below_alloc | apply pw_below_drewN | apply below_drew1 | refine d417 ?_ GE179.out) | exact HB.out)) hb); have n2_ := mk0_17 (hbox); have n3_ := mk0_17 ((by rw [hg]; exact (below_size (by repeat (first | (with_reducible first | exact HB.out | apply below_alloc | apply pw_below_drewN | apply below_drew1 | refine d417 ?_ GE179.out) | exact HB.out))) : w.heap.size ≤ gb183)); have n4_ := mk0_17 ((by rw [hg]; exact (below_size (by repeat (first | (with_reducible first | exact HB.out | apply below_alloc | apply pw_below_drewN | apply below_drew1 | refine d417 ?_ GE179.out) | exact HB.out))) : w.heap.size ≤ gb183)); have n5_ := mk0_17 ((by rw [hg]; exact Nat.ne_of_lt (blk_lt (g := gb179) (o := .cells #[.int .i64 a0_0, .int .i64 a0_1, .slice (some ad182) l0_2.length c0_2] 28 (0, 0)) (by (with_reducible repeat (first | refine d117 ?_ _ | refine d217 ?_ | refine d317 ?_ _)); exact BK179.out)) : gb179 ≠ gb183)); have n6_ := mk0_17 ((by rw [hg]; exact Nat.ne_of_gt (blk_lt (g := gb179) (o := .cells #[.int .i64 a0_0, .int .i64 a0_1, .slice (some ad182) l0_2.length c0_2] 28 (0, 0)) (by (with_reducible repeat (first | refine d117 ?_ _ | refine d217 ?_ | refine d317 ?_ _)); exact BK179.out)) : gb183 ≠ gb179)); clear BK179; clear HB; have BK179 := n0_; have HB := n1_; have BK183 := n2_; have GW183 := n3_; have GE183 := n4_; have NB179_183 := n5_; have NB183_179 := n6_; clear n0_ n1_ n2_ n3_ n4_ n5_ n6_; clear hb hbox hg; have hnb121 := NB183_179.out; have hnc121 := NB179_183.out; have hcz122_0 : w120.cell? ⟨gb183, 0, none⟩ = some (.int .i64 0) := (d617 BK183.out 0).trans rfl; have hcz122_1 : w120.cell? ⟨gb183, 1, none⟩ = some (.int .i64 0) := (d617 BK183.out 1).trans rfl; have hcz122_2 : w120.cell? ⟨gb183, 2, none⟩ = some (.int .i64 0) := (d617 BK183.out 2).trans rfl; have hcz122_3 : w120.cell? ⟨gb183, 3, none⟩ = some (.int .i64 0) := (d617 BK183.out 3).trans rfl; have hcz122_4 : w120.cell? ⟨gb183, 4, none⟩ = some (.int .i64 0) := (d617 BK183.out 4).trans rfl; have hcz122_5 : w120.cell? ⟨gb183, 5, none⟩ = some (.int .i64 0) := (d617 BK183.out 5).trans rfl; have hcz122_6 : w120.cell? ⟨gb183, 6, none⟩ = some (.int .i64 0) := (d617 BK183.out 6).trans rfl; have hfz122_0 := d717 BK183.out 0; have hfz122_1 := d717 BK183.out 1; have hfz122_2 := d717 BK183.out 2; have hfz122_3 := d717 BK183.out 3; have hfz122_4 := d717 BK183.out 4; have hfz122_5 := d717 BK183.out 5; have hfz122_6 := d717 BK183.out 6) | ((with_reducible refine gate_callee (f := 34) rfl ?_); refine goesL_ (some 68) rfl rfl Try.func34 (by kernel_rfl) rfl #[.agg #[.int .i64 ((rd_T32 l0_2 x10_3).f0), .int .i64 ((rd_T32 l0_2 x10_3).f1), .int .i64 ((rd_T32 l0_2 x10_3).f2), .int .i64 ((rd_T32 l0_2 x10_3).f3), .int .i64 ((rd_T32 l0_2 x10_3).f4), .int .i64 ((rd_T32 l0_2 x10_3).f5), .int .i64 ((rd_T32 l0_2 x10_3).f6)], .int .i64 a1] rfl (by (try simp only [List.map_toArray, List.map_cons, List.map_nil]); first | done | rfl | (simp only [List.length_drop, List.length_take]; rfl)) ?_; (with_reducible refine (flyleafref08_segment.calls k3 ((rd_T32 l0_2 x10_3).f0) ((rd_T32 l0_2 x10_3).f1) ((rd_T32 l0_2 x10_3).f2) ((rd_T32 l0_2 x10_3).f3) ((rd_T32 l0_2 x10_3).f4) ((rd_T32 l0_2 x10_3).f5) ((rd_T32 l0_2 x10_3).f6) a1 false _ A33.out).mono ?_); rintro e w123 ⟨rfl, hb⟩; refine ⟨_, rfl, ?_⟩; have n0_ := mk0_17 (blk_below (g := gb179) (o := .cells #[.int .i64 a0_0, .int .i64 a0_1, .slice (some ad182) l0_2.length c0_2] 28 (0, 0)) (by (with_reducible repeat (first | refine d117 ?_ _ | refine d217 ?_ | refine d317 ?_ _)); refine d517 ?_ NB179_183.out _; (with_reducible repeat (first | refine d117 ?_ _ | refine d217 ?_ | refine d317 ?_ _)); refine d517 ?_ NB179_183.out _; (with_reducible repeat (first | refine d117 ?_ _ | refine d217 ?_ | refine d317 ?_ _)); refine d517 ?_ NB179_183.out _; (with_reducible repeat (first | refine d117 ?_ _ | refine d217 ?_ | refine d317 ?_ _)); refine d517 ?_ NB179_183.out _; (with_reducible repeat (first | refine d117 ?_ _ | refine d217 ?_ | refine d317 ?_ _)); refine d517 ?_ NB179_183.out _; (with_reducible repeat (first | refine d117 ?_ _ | refine d217 ?_ | refine d317 ?_ _)); refine d517 ?_ NB179_183.out _; (with_reducible repeat (first | refine d117 ?_ _ | refine d217 ?_ | refine d317 ?_ _)); refine d517 ?_ NB179_183.out _; (with_reducible repeat (first | refine d117 ?_ _ | refine d217 ?_ | refine d317 ?_ _)); exact BK179.out) hb); have n1_ := mk0_17 (blk_below (g := gb183) (o := .cells #[.int .i64 ((rd_T32 l0_2 x10_3).f0), .int .i64 ((rd_T32 l0_2 x10_3).f1), .int .i64 ((rd_T32 l0_2 x10_3).f2), .int .i64 ((rd_T32 l0_2 x10_3).f3), .int .i64 ((rd_T32 l0_2 x10_3).f4), .int .i64 ((rd_T32 l0_2 x10_3).f5), .int .i64 ((rd_T32 l0_2 x10_3).f6)] 32 (0, 0)) (by (with_reducible repeat (first | refine d117 ?_ _ | refine d217 ?_ | refine d317 ?_ _)); refine blk_put (cs := #[.int .i64 ((rd_T32 l0_2 x10_3).f0), .int .i64 ((rd_T32 l0_2 x10_3).f1), .int .i64 ((rd_T32 l0_2 x10_3).f2), .int .i64 ((rd_T32 l0_2 x10_3).f3), .int .i64 ((rd_T32 l0_2 x10_3).f4), .int .i64 ((rd_T32 l0_2 x10_3).f5), .int .i64 0]) ?_ 6 _ rfl; (with_reducible repeat (first | refine d117 ?_ _ | refine d217 ?_ | refine d317 ?_ _)); refine blk_put (cs := #[.int .i64 ((rd_T32 l0_2 x10_3).f0), .int .i64 ((rd_T32 l0_2 x10_3).f1), .int .i64 ((rd_T32 l0_2 x10_3).f2), .int .i64 ((rd_T32 l0_2 x10_3).f3), .int .i64 ((rd_T32 l0_2 x10_3).f4), .int .i64 0, .int .i64 0]) ?_ 5 _ rfl; (with_reducible repeat (first | refine d117 ?_ _ | refine d217 ?_ | refine d317 ?_ _)); refine blk_put (cs := #[.int .i64 ((rd_T32 l0_2 x10_3).f0), .int .i64 ((rd_T32 l0_2 x10_3).f1), .int .i64 ((rd_T32 l0_2 x10_3).f2), .int .i64 ((rd_T32 l0_2 x10_3).f3), .int .i64 0, .int .i64 0, .int .i64 0]) ?_ 4 _ rfl; (with_reducible repeat (first | refine d117 ?_ _ | refine d217 ?_ | refine d317 ?_ _)); refine blk_put (cs := #[.int .i64 ((rd_T32 l0_2 x10_3).f0), .int .i64 ((rd_T32 l0_2 x10_3).f1), .int .i64 ((rd_T32 l0_2 x10_3).f2), .int .i64 0, .int .i64 0, .int .i64 0, .int .i64 0]) ?_ 3 _ rfl; (with_reducible repeat (first | refine d117 ?_ _ | refine d217 ?_ | refine d317 ?_ _)); refine blk_put (cs := #[.int .i64 ((rd_T32 l0_2 x10_3).f0), .int .i64 ((rd_T32 l0_2 x10_3).f1), .int .i64 0, .int .i64 0, .int .i64 0, .int .i64 0, .int .i64 0]) ?_ 2 _ rfl; (with_reducible repeat (first | refine d117 ?_ _ | refine d217 ?_ | refine d317 ?_ _)); refine blk_put (cs := #[.int .i64 ((rd_T32 l0_2 x10_3).f0), .int .i64 0, .int .i64 0, .int .i64 0, .int .i64 0, .int .i64 0, .int .i64 0]) ?_ 1 _ rfl; (with_reducible repeat (first | refine d117 ?_ _ | refine d217 ?_ | refine d317 ?_ _)); refine blk_put (cs := #[.int .i64 0, .int .i64 0, .int .i64 0, .int .i64 0, .int .i64 0, .int .i64 0, .int .i64 0]) ?_ 0 _ rfl; (with_reducible repeat (first | refine d117 ?_ _ | refine d217 ?_ | refine d317 ?_ _)); exact BK183.out) hb); have n2_ := mk0_17 (below_step (by repeat (first | (with_reducible first | exact HB.out | apply below_alloc | apply pw_below_drewN | apply below_drew1 | refine d417 ?_ GE179.out | refine d417 ?_ GE183.out) | exact HB.out)) hb); clear BK179; clear BK183; clear HB; have BK179 := n0_; have BK183 := n1_; have HB := n2_; clear n0_ n1_ n2_; (try clear hb); (try clear hb2); (try clear hk); (try clear hi)))
            go_ret
            exact ⟨by first | rfl | (simp [errW_none, errW_some] <;> rfl) | (simp [*, errW_none, errW_some] <;> rfl), by repeat (first | (with_reducible first | exact HB.out | apply below_alloc | apply pw_below_drewN | apply below_drew1 | refine d417 ?_ GE179.out | refine d417 ?_ GE183.out) | exact HB.out)⟩
          ·rw [if_neg c32] at H
           exact absurd H (by simp)
         ·rw [if_neg c31] at H
          exact absurd H (by simp)
        ·rw [if_neg c30] at H
         have c30b0 : decide (x10_3 < (l0_2.length : Int)) = false := decide_eq_false c30
         clear c30
         by_cases c124 : x6_3 = 0
         ·rw [if_pos c124] at H
          have c124b0 : (x6_3 == 0) = true := beq_iff_eq.mpr c124
          have c124b1 : (x6_3 != 0) = false := bne_eq_false_iff_eq.mpr c124
          clear c124
          obtain rfl := Option.some.inj H
          go_wp2
          go_ret
          exact ⟨by first | rfl | (simp [errW_none, errW_some] <;> rfl) | (simp [*, errW_none, errW_some] <;> rfl), by repeat (first | (with_reducible first | exact HB.out | apply below_alloc | apply pw_below_drewN | apply below_drew1 | refine d417 ?_ GE179.out) | exact HB.out)⟩
         ·rw [if_neg c124] at H
          have c124b0 : (x6_3 == 0) = false := beq_eq_false_iff_ne.mpr c124
          have c124b1 : (x6_3 != 0) = true := bne_iff_ne.mpr c124
          by_cases c125 : x7_3 > 1
          ·rw [if_pos c125] at H
           have c125b0 : decide (1 < x7_3) = true := decide_eq_true c125
           clear c125
           obtain rfl := Option.some.inj H
           go_wp2
           go_ret
           exact ⟨by first | rfl | (simp [errW_none, errW_some] <;> rfl) | (simp [*, errW_none, errW_some] <;> rfl), by repeat (first | (with_reducible first | exact HB.out | apply below_alloc | apply pw_below_drewN | apply below_drew1 | refine d417 ?_ GE179.out) | exact HB.out)⟩
          ·rw [if_neg c125] at H
           have c125b0 : decide (1 < x7_3) = false := decide_eq_false c125
           clear c125
           by_cases c126 : x9_3 = true
           ·subst c126
            have H1 : (some 0) = some r := by rw [if_pos rfl] at H; exact H
            clear H
            have H := H1
            clear H1
            obtain rfl := Option.some.inj H
            go_wp2
            go_ret
            exact ⟨by first | rfl | (simp [errW_none, errW_some] <;> rfl) | (simp [*, errW_none, errW_some] <;> rfl), by repeat (first | (with_reducible first | exact HB.out | apply below_alloc | apply pw_below_drewN | apply below_drew1 | refine d417 ?_ GE179.out) | exact HB.out)⟩
           ·replace c126 := Bool.eq_false_iff.mpr c126
            subst c126
            have H1 : (some 16) = some r := by rw [if_neg (show ¬ (false = true) by decide)] at H; exact H
            clear H
            have H := H1
            clear H1
            obtain rfl := Option.some.inj H
            go_wp2
            go_ret
            exact ⟨by first | rfl | (simp [errW_none, errW_some] <;> rfl) | (simp [*, errW_none, errW_some] <;> rfl), by repeat (first | (with_reducible first | exact HB.out | apply below_alloc | apply pw_below_drewN | apply below_drew1 | refine d417 ?_ GE179.out) | exact HB.out)⟩

end Go.Proofs.Ytdlgfjefbjkdaaa.A
