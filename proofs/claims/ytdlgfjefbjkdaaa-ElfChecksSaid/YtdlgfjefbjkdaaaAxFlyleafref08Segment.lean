-- Laid by pr.py, a program of this session, out of the translation. Not trusted: Lean checks it.
import Derived.Test.YtdlgfjefbjkdaaaAx0
import Derived.Test.YtdlgfjefbjkdaaaAxFlyleafref08In
namespace Go.Proofs.Ytdlgfjefbjkdaaa.A
open Go.RowKit Go.Proofs.YtdlgfjefbjkdaaaW.PrintWords Go.Proofs.YtdlgfjefbjkdaaaW.PrintLast Go.Proofs.YtdlgfjefbjkdaaaW.PrintMore
attribute [local go_sem] max2_int min2_int max_two min_two max_three min_three max_four min_four   -- for this text's walks alone
set_option linter.unusedVariables false
set_option linter.unusedSimpArgs false

theorem mk0_34 {p : Prop} (h : p) : Aside0 p := ⟨h⟩
theorem d134 : type_of% @blk_drewN := @blk_drewN
theorem d234 : type_of% @blk_drew := @blk_drew
theorem d334 : type_of% @blk_alloc := @blk_alloc
theorem d434 : type_of% @below_set := @below_set
theorem d534 : type_of% @blk_far := @blk_far
theorem d634 : type_of% @blk_cell := @blk_cell
theorem d734 : type_of% @blk_frozen := @blk_frozen
/-! ### flyleafref08_segment: function 34 -/
mutual
def flyleafref08_segment.j0 : Nat → Int → Bool → Int → Int → Int → Int → Int → Int → Int → Option (Bool)
 | 0, _, _, _, _, _, _, _, _, _ => none
 | k + 1, x1, x22, x172000, x172001, x172002, x172003, x172004, x172005, x172006 => if x22 = true then (some false) else ((flyleafref08_in.f x172002).bind fun t172 => (if t172 = true then ((flyleafref08_in.f x172003).bind fun t173 => (if t173 = true then ((flyleafref08_in.f x172004).bind fun t174 => (if t174 = true then ((flyleafref08_in.f x172005).bind fun t175 => (if t175 = true then ((flyleafref08_in.f x172006).bind fun t176 => (flyleafref08_segment.j1 k x1 (!t176) x172000 x172001 x172002 x172003 x172004 x172005 x172006)) else (flyleafref08_segment.j1 k x1 true x172000 x172001 x172002 x172003 x172004 x172005 x172006))) else (flyleafref08_segment.j1 k x1 true x172000 x172001 x172002 x172003 x172004 x172005 x172006))) else (flyleafref08_segment.j1 k x1 true x172000 x172001 x172002 x172003 x172004 x172005 x172006))) else (flyleafref08_segment.j1 k x1 true x172000 x172001 x172002 x172003 x172004 x172005 x172006)))
def flyleafref08_segment.j1 : Nat → Int → Bool → Int → Int → Int → Int → Int → Int → Int → Option (Bool)
 | 0, _, _, _, _, _, _, _, _, _ => none
 | k + 1, x1, x50, x172000, x172001, x172002, x172003, x172004, x172005, x172006 => if x50 = true then (some false) else (if x172000 = 1 then (flyleafref08_segment.j2 k x1 false x172000 x172001 x172002 x172003 x172004 x172005 x172006) else (flyleafref08_segment.j2 k x1 (x172000 != 2) x172000 x172001 x172002 x172003 x172004 x172005 x172006))
def flyleafref08_segment.j2 : Nat → Int → Bool → Int → Int → Int → Int → Int → Int → Int → Option (Bool)
 | 0, _, _, _, _, _, _, _, _, _ => none
 | k + 1, x1, x58, x172000, x172001, x172002, x172003, x172004, x172005, x172006 => if x58 = true then (some true) else (if (wrap64 (x172002 + x172004)) > x1 then (some false) else (if x172004 > x172005 then (some false) else (if (wrap64 (x172003 + x172005)) > 262144 then (some false) else (if x172000 = 2 then (some true) else (if x172005 > 0 then (if x172006 = 64 then (some ((Int.tmod x172003 64) == (Int.tmod x172002 64))) else (some false)) else (some false))))))
end
def flyleafref08_segment.f (k : Nat) (a0_0 : Int) (a0_1 : Int) (a0_2 : Int) (a0_3 : Int) (a0_4 : Int) (a0_5 : Int) (a0_6 : Int) (a1 : Int) : Option (Bool) := if a0_1 < 0 then (flyleafref08_segment.j0 k a1 true a0_0 a0_1 a0_2 a0_3 a0_4 a0_5 a0_6) else (if a0_1 > 7 then (flyleafref08_segment.j0 k a1 true a0_0 a0_1 a0_2 a0_3 a0_4 a0_5 a0_6) else (if a0_0 < 0 then (flyleafref08_segment.j0 k a1 true a0_0 a0_1 a0_2 a0_3 a0_4 a0_5 a0_6) else (flyleafref08_segment.j0 k a1 (decide (a0_0 > 1073741824)) a0_0 a0_1 a0_2 a0_3 a0_4 a0_5 a0_6)))
theorem flyleafref08_segment.mono_l : ∀ k, (∀ y0 y1 y2 y3 y4 y5 y6 y7 y8, LeO (flyleafref08_segment.j0 k y0 y1 y2 y3 y4 y5 y6 y7 y8) (flyleafref08_segment.j0 (k + 1) y0 y1 y2 y3 y4 y5 y6 y7 y8)) ∧ (∀ y0 y1 y2 y3 y4 y5 y6 y7 y8, LeO (flyleafref08_segment.j1 k y0 y1 y2 y3 y4 y5 y6 y7 y8) (flyleafref08_segment.j1 (k + 1) y0 y1 y2 y3 y4 y5 y6 y7 y8)) ∧ (∀ y0 y1 y2 y3 y4 y5 y6 y7 y8, LeO (flyleafref08_segment.j2 k y0 y1 y2 y3 y4 y5 y6 y7 y8) (flyleafref08_segment.j2 (k + 1) y0 y1 y2 y3 y4 y5 y6 y7 y8))
 | 0 => ⟨fun _ _ _ _ _ _ _ _ _ r h => by simp [flyleafref08_segment.j0] at h, fun _ _ _ _ _ _ _ _ _ r h => by simp [flyleafref08_segment.j1] at h, fun _ _ _ _ _ _ _ _ _ r h => by simp [flyleafref08_segment.j2] at h⟩
 | k + 1 => by
  obtain ⟨ih0, ih1, ih2⟩ := flyleafref08_segment.mono_l k
  refine ⟨?_, ?_, ?_⟩
  ·intro y0 y1 y2 y3 y4 y5 y6 y7 y8
   unfold flyleafref08_segment.j0
   repeat' first
   | (with_reducible exact ih0 _ _ _ _ _ _ _ _ _)
   | (with_reducible exact ih1 _ _ _ _ _ _ _ _ _)
   | (with_reducible exact ih2 _ _ _ _ _ _ _ _ _)
   | (with_reducible exact LeO.refl _)
   | (with_reducible exact LeO.none _)
   | (with_reducible refine LeO.ite ?_ ?_)
   | (with_reducible refine LeO.bind ?_ (fun _ => ?_))
   | exact ih0 _ _ _ _ _ _ _ _ _
   | exact ih1 _ _ _ _ _ _ _ _ _
   | exact ih2 _ _ _ _ _ _ _ _ _
   | exact LeO.none _
   | refine LeO.ite ?_ ?_
   | refine LeO.bind ?_ (fun _ => ?_)
  ·intro y0 y1 y2 y3 y4 y5 y6 y7 y8
   unfold flyleafref08_segment.j1
   repeat' first
   | (with_reducible exact ih0 _ _ _ _ _ _ _ _ _)
   | (with_reducible exact ih1 _ _ _ _ _ _ _ _ _)
   | (with_reducible exact ih2 _ _ _ _ _ _ _ _ _)
   | (with_reducible exact LeO.refl _)
   | (with_reducible exact LeO.none _)
   | (with_reducible refine LeO.ite ?_ ?_)
   | (with_reducible refine LeO.bind ?_ (fun _ => ?_))
   | exact ih0 _ _ _ _ _ _ _ _ _
   | exact ih1 _ _ _ _ _ _ _ _ _
   | exact ih2 _ _ _ _ _ _ _ _ _
   | exact LeO.none _
   | refine LeO.ite ?_ ?_
   | refine LeO.bind ?_ (fun _ => ?_)
  ·intro y0 y1 y2 y3 y4 y5 y6 y7 y8
   unfold flyleafref08_segment.j2
   repeat' first
   | (with_reducible exact ih0 _ _ _ _ _ _ _ _ _)
   | (with_reducible exact ih1 _ _ _ _ _ _ _ _ _)
   | (with_reducible exact ih2 _ _ _ _ _ _ _ _ _)
   | (with_reducible exact LeO.refl _)
   | (with_reducible exact LeO.none _)
   | (with_reducible refine LeO.ite ?_ ?_)
   | (with_reducible refine LeO.bind ?_ (fun _ => ?_))
   | exact ih0 _ _ _ _ _ _ _ _ _
   | exact ih1 _ _ _ _ _ _ _ _ _
   | exact ih2 _ _ _ _ _ _ _ _ _
   | exact LeO.none _
   | refine LeO.ite ?_ ?_
   | refine LeO.bind ?_ (fun _ => ?_)
theorem flyleafref08_segment.mono : ∀ a0 a1 a2 a3 a4 a5 a6 a7 k, LeO (flyleafref08_segment.f k a0 a1 a2 a3 a4 a5 a6 a7) (flyleafref08_segment.f (k + 1) a0 a1 a2 a3 a4 a5 a6 a7) := by
 intro a0 a1 a2 a3 a4 a5 a6 a7 k
 obtain ⟨ih0, ih1, ih2⟩ := flyleafref08_segment.mono_l k
 unfold flyleafref08_segment.f
 repeat' first
   | (with_reducible exact ih0 _ _ _ _ _ _ _ _ _)
   | (with_reducible exact ih1 _ _ _ _ _ _ _ _ _)
   | (with_reducible exact ih2 _ _ _ _ _ _ _ _ _)
   | (with_reducible exact LeO.refl _)
   | (with_reducible exact LeO.none _)
   | (with_reducible refine LeO.ite ?_ ?_)
   | (with_reducible refine LeO.bind ?_ (fun _ => ?_))
   | exact ih0 _ _ _ _ _ _ _ _ _
   | exact ih1 _ _ _ _ _ _ _ _ _
   | exact ih2 _ _ _ _ _ _ _ _ _
   | exact LeO.none _
   | refine LeO.ite ?_ ?_
   | refine LeO.bind ?_ (fun _ => ?_)
set_option maxHeartbeats 8000000 in
set_option maxRecDepth 100000 in
theorem flyleafref08_segment.calls (k : Nat) (a0_0 : Int) (a0_1 : Int) (a0_2 : Int) (a0_3 : Int) (a0_4 : Int) (a0_5 : Int) (a0_6 : Int) (a1 : Int) (r : Bool) (w : World) (h : flyleafref08_segment.f k a0_0 a0_1 a0_2 a0_3 a0_4 a0_5 a0_6 a1 = some r) :
  Calls Try.prog 34 #[.agg #[.int .i64 a0_0, .int .i64 a0_1, .int .i64 a0_2, .int .i64 a0_3, .int .i64 a0_4, .int .i64 a0_5, .int .i64 a0_6], .int .i64 a1] w fun e w' => e = .returned (.bool r) ∧ Below w.heap.size w w' := by
 have hu32 := Try.underlying32
 have HB := mk0_34 (Below.refl w.heap.size w)
 have H : (if a0_1 < 0 then (flyleafref08_segment.j0 k a1 true a0_0 a0_1 a0_2 a0_3 a0_4 a0_5 a0_6) else (if a0_1 > 7 then (flyleafref08_segment.j0 k a1 true a0_0 a0_1 a0_2 a0_3 a0_4 a0_5 a0_6) else (if a0_0 < 0 then (flyleafref08_segment.j0 k a1 true a0_0 a0_1 a0_2 a0_3 a0_4 a0_5 a0_6) else (flyleafref08_segment.j0 k a1 (decide (a0_0 > 1073741824)) a0_0 a0_1 a0_2 a0_3 a0_4 a0_5 a0_6)))) = some r := h
 clear h
 have HC3 := Aside0.mk H
 clear H
 go_enter Try.func34, Try.ntmps34
 go_upto_region 1 with (first | ((with_reducible refine gate_dst (N := 2) rfl ?_); refine box_event ?hg (N := 2) ?hd (cs := #[.int .i64 a0_0, .int .i64 a0_1, .int .i64 a0_2, .int .i64 a0_3, .int .i64 a0_4, .int .i64 a0_5, .int .i64 a0_6]) (t := 32) ?hr ?_; (case hd => rfl); (case hg => rfl); (case hr => first | (go_simp; done) | (go_simp; rfl)); intro gb171 hg w4 hbox hb; have n0_ := mk0_34 (below_step (by repeat (first | (with_reducible first | exact HB.out | apply below_alloc | apply pw_below_drewN | apply below_drew1) | exact HB.out)) hb); have n1_ := mk0_34 (hbox); have n2_ := mk0_34 ((by rw [hg]; exact (below_size (by repeat (first | (with_reducible first | exact HB.out | apply below_alloc | apply pw_below_drewN | apply below_drew1) | exact HB.out))) : w.heap.size ≤ gb171)); have n3_ := mk0_34 ((by rw [hg]; exact (below_size (by repeat (first | (with_reducible first | exact HB.out | apply below_alloc | apply pw_below_drewN | apply below_drew1) | exact HB.out))) : w.heap.size ≤ gb171)); clear HB; have HB := n0_; have BK171 := n1_; have GW171 := n2_; have GE171 := n3_; clear n0_ n1_ n2_ n3_; clear hb hbox hg))
 (try simp only [Act.put, List.setIfInBounds_toArray, List.set_cons_zero, List.set_cons_succ])
 go_cut [22] (fun v22 wc => ∃ (kq : Nat) (x22_2 : Bool), v22 = .bool x22_2 ∧ Aside0 (flyleafref08_segment.j0 kq a1 x22_2 a0_0 a0_1 a0_2 a0_3 a0_4 a0_5 a0_6 = some r) ∧ Aside0 (kq ≤ k) ∧ Aside0 (wc.heap[gb171]? = some (.cells #[.int .i64 a0_0, .int .i64 a0_1, .int .i64 a0_2, .int .i64 a0_3, .int .i64 a0_4, .int .i64 a0_5, .int .i64 a0_6] 32 (0, 0))) ∧ Aside0 (Below w.heap.size w wc))
 case first =>
  have H := HC3.out
  clear HC3
  by_cases c5 : a0_1 < 0
  ·rw [if_pos c5] at H
   have c5b0 : decide (a0_1 < 0) = true := decide_eq_true c5
   clear c5
   (first | rw [c5b0] | (simp only [i64_w, i32_w]; rw [c5b0]) | skip)
   have H' := Aside0.mk H
   clear H
   have hcz6_0 : w4.cell? ⟨gb171, 0, none⟩ = some (.int .i64 a0_0) := (d634 BK171.out 0).trans rfl
   have hcz6_1 : w4.cell? ⟨gb171, 1, none⟩ = some (.int .i64 a0_1) := (d634 BK171.out 1).trans rfl
   have hcz6_2 : w4.cell? ⟨gb171, 2, none⟩ = some (.int .i64 a0_2) := (d634 BK171.out 2).trans rfl
   have hcz6_3 : w4.cell? ⟨gb171, 3, none⟩ = some (.int .i64 a0_3) := (d634 BK171.out 3).trans rfl
   have hcz6_4 : w4.cell? ⟨gb171, 4, none⟩ = some (.int .i64 a0_4) := (d634 BK171.out 4).trans rfl
   have hcz6_5 : w4.cell? ⟨gb171, 5, none⟩ = some (.int .i64 a0_5) := (d634 BK171.out 5).trans rfl
   have hcz6_6 : w4.cell? ⟨gb171, 6, none⟩ = some (.int .i64 a0_6) := (d634 BK171.out 6).trans rfl
   have hfz6_0 := d734 BK171.out 0
   have hfz6_1 := d734 BK171.out 1
   have hfz6_2 := d734 BK171.out 2
   have hfz6_3 := d734 BK171.out 3
   have hfz6_4 := d734 BK171.out 4
   have hfz6_5 := d734 BK171.out 5
   have hfz6_6 := d734 BK171.out 6
   go_wp2
   go_meet
   case rel => exact ⟨_, (true), (by first | rfl | (simp; done) | (simp [*]; done)), H', ⟨by first | omega | exact Nat.le_refl _⟩, ⟨by (with_reducible repeat (first | refine d134 ?_ _ | refine d234 ?_ | refine d334 ?_ _)); exact BK171.out⟩, ⟨by repeat (first | (with_reducible first | exact HB.out | apply below_alloc | apply pw_below_drewN | apply below_drew1 | refine d434 ?_ GE171.out) | exact HB.out)⟩⟩
  ·rw [if_neg c5] at H
   have c5b0 : decide (a0_1 < 0) = false := decide_eq_false c5
   clear c5
   (first | rw [c5b0] | (simp only [i64_w, i32_w]; rw [c5b0]) | skip)
   by_cases c7 : a0_1 > 7
   ·rw [if_pos c7] at H
    have c7b0 : decide (7 < a0_1) = true := decide_eq_true c7
    clear c7
    have H' := Aside0.mk H
    clear H
    have hcz8_0 : w4.cell? ⟨gb171, 0, none⟩ = some (.int .i64 a0_0) := (d634 BK171.out 0).trans rfl
    have hcz8_1 : w4.cell? ⟨gb171, 1, none⟩ = some (.int .i64 a0_1) := (d634 BK171.out 1).trans rfl
    have hcz8_2 : w4.cell? ⟨gb171, 2, none⟩ = some (.int .i64 a0_2) := (d634 BK171.out 2).trans rfl
    have hcz8_3 : w4.cell? ⟨gb171, 3, none⟩ = some (.int .i64 a0_3) := (d634 BK171.out 3).trans rfl
    have hcz8_4 : w4.cell? ⟨gb171, 4, none⟩ = some (.int .i64 a0_4) := (d634 BK171.out 4).trans rfl
    have hcz8_5 : w4.cell? ⟨gb171, 5, none⟩ = some (.int .i64 a0_5) := (d634 BK171.out 5).trans rfl
    have hcz8_6 : w4.cell? ⟨gb171, 6, none⟩ = some (.int .i64 a0_6) := (d634 BK171.out 6).trans rfl
    have hfz8_0 := d734 BK171.out 0
    have hfz8_1 := d734 BK171.out 1
    have hfz8_2 := d734 BK171.out 2
    have hfz8_3 := d734 BK171.out 3
    have hfz8_4 := d734 BK171.out 4
    have hfz8_5 := d734 BK171.out 5
    have hfz8_6 := d734 BK171.out 6
    go_wp2
    go_meet
    case rel => exact ⟨_, (true), (by first | rfl | (simp; done) | (simp [*]; done)), H', ⟨by first | omega | exact Nat.le_refl _⟩, ⟨by (with_reducible repeat (first | refine d134 ?_ _ | refine d234 ?_ | refine d334 ?_ _)); exact BK171.out⟩, ⟨by repeat (first | (with_reducible first | exact HB.out | apply below_alloc | apply pw_below_drewN | apply below_drew1 | refine d434 ?_ GE171.out) | exact HB.out)⟩⟩
   ·rw [if_neg c7] at H
    have c7b0 : decide (7 < a0_1) = false := decide_eq_false c7
    clear c7
    by_cases c9 : a0_0 < 0
    ·rw [if_pos c9] at H
     have c9b0 : decide (a0_0 < 0) = true := decide_eq_true c9
     clear c9
     have H' := Aside0.mk H
     clear H
     have hcz10_0 : w4.cell? ⟨gb171, 0, none⟩ = some (.int .i64 a0_0) := (d634 BK171.out 0).trans rfl
     have hcz10_1 : w4.cell? ⟨gb171, 1, none⟩ = some (.int .i64 a0_1) := (d634 BK171.out 1).trans rfl
     have hcz10_2 : w4.cell? ⟨gb171, 2, none⟩ = some (.int .i64 a0_2) := (d634 BK171.out 2).trans rfl
     have hcz10_3 : w4.cell? ⟨gb171, 3, none⟩ = some (.int .i64 a0_3) := (d634 BK171.out 3).trans rfl
     have hcz10_4 : w4.cell? ⟨gb171, 4, none⟩ = some (.int .i64 a0_4) := (d634 BK171.out 4).trans rfl
     have hcz10_5 : w4.cell? ⟨gb171, 5, none⟩ = some (.int .i64 a0_5) := (d634 BK171.out 5).trans rfl
     have hcz10_6 : w4.cell? ⟨gb171, 6, none⟩ = some (.int .i64 a0_6) := (d634 BK171.out 6).trans rfl
     have hfz10_0 := d734 BK171.out 0
     have hfz10_1 := d734 BK171.out 1
     have hfz10_2 := d734 BK171.out 2
     have hfz10_3 := d734 BK171.out 3
     have hfz10_4 := d734 BK171.out 4
     have hfz10_5 := d734 BK171.out 5
     have hfz10_6 := d734 BK171.out 6
     go_wp2
     go_meet
     case rel => exact ⟨_, (true), (by first | rfl | (simp; done) | (simp [*]; done)), H', ⟨by first | omega | exact Nat.le_refl _⟩, ⟨by (with_reducible repeat (first | refine d134 ?_ _ | refine d234 ?_ | refine d334 ?_ _)); exact BK171.out⟩, ⟨by repeat (first | (with_reducible first | exact HB.out | apply below_alloc | apply pw_below_drewN | apply below_drew1 | refine d434 ?_ GE171.out) | exact HB.out)⟩⟩
    ·rw [if_neg c9] at H
     have c9b0 : decide (a0_0 < 0) = false := decide_eq_false c9
     clear c9
     have H' := Aside0.mk H
     clear H
     have hcz11_0 : w4.cell? ⟨gb171, 0, none⟩ = some (.int .i64 a0_0) := (d634 BK171.out 0).trans rfl
     have hcz11_1 : w4.cell? ⟨gb171, 1, none⟩ = some (.int .i64 a0_1) := (d634 BK171.out 1).trans rfl
     have hcz11_2 : w4.cell? ⟨gb171, 2, none⟩ = some (.int .i64 a0_2) := (d634 BK171.out 2).trans rfl
     have hcz11_3 : w4.cell? ⟨gb171, 3, none⟩ = some (.int .i64 a0_3) := (d634 BK171.out 3).trans rfl
     have hcz11_4 : w4.cell? ⟨gb171, 4, none⟩ = some (.int .i64 a0_4) := (d634 BK171.out 4).trans rfl
     have hcz11_5 : w4.cell? ⟨gb171, 5, none⟩ = some (.int .i64 a0_5) := (d634 BK171.out 5).trans rfl
     have hcz11_6 : w4.cell? ⟨gb171, 6, none⟩ = some (.int .i64 a0_6) := (d634 BK171.out 6).trans rfl
     have hfz11_0 := d734 BK171.out 0
     have hfz11_1 := d734 BK171.out 1
     have hfz11_2 := d734 BK171.out 2
     have hfz11_3 := d734 BK171.out 3
     have hfz11_4 := d734 BK171.out 4
     have hfz11_5 := d734 BK171.out 5
     have hfz11_6 := d734 BK171.out 6
     go_wp2
     go_meet
     case rel => exact ⟨_, (decide (a0_0 > 1073741824)), (by first | rfl | (simp; done) | (simp [*]; done)), H', ⟨by first | omega | exact Nat.le_refl _⟩, ⟨by (with_reducible repeat (first | refine d134 ?_ _ | refine d234 ?_ | refine d334 ?_ _)); exact BK171.out⟩, ⟨by repeat (first | (with_reducible first | exact HB.out | apply below_alloc | apply pw_below_drewN | apply below_drew1 | refine d434 ?_ GE171.out) | exact HB.out)⟩⟩
 case rest =>
  clear HC3
  try clear p2
  try clear c3
  try clear c5
  try clear c5b0
  try clear c7
  try clear c7b0
  try clear c9
  try clear c9b0
  try clear hcz10_0
  try clear hcz10_1
  try clear hcz10_2
  try clear hcz10_3
  try clear hcz10_4
  try clear hcz10_5
  try clear hcz10_6
  try clear hcz11_0
  try clear hcz11_1
  try clear hcz11_2
  try clear hcz11_3
  try clear hcz11_4
  try clear hcz11_5
  try clear hcz11_6
  try clear hcz6_0
  try clear hcz6_1
  try clear hcz6_2
  try clear hcz6_3
  try clear hcz6_4
  try clear hcz6_5
  try clear hcz6_6
  try clear hcz8_0
  try clear hcz8_1
  try clear hcz8_2
  try clear hcz8_3
  try clear hcz8_4
  try clear hcz8_5
  try clear hcz8_6
  try clear hfz10_0
  try clear hfz10_1
  try clear hfz10_2
  try clear hfz10_3
  try clear hfz10_4
  try clear hfz10_5
  try clear hfz10_6
  try clear hfz11_0
  try clear hfz11_1
  try clear hfz11_2
  try clear hfz11_3
  try clear hfz11_4
  try clear hfz11_5
  try clear hfz11_6
  try clear hfz6_0
  try clear hfz6_1
  try clear hfz6_2
  try clear hfz6_3
  try clear hfz6_4
  try clear hfz6_5
  try clear hfz6_6
  try clear hfz8_0
  try clear hfz8_1
  try clear hfz8_2
  try clear hfz8_3
  try clear hfz8_4
  try clear hfz8_5
  try clear hfz8_6
  obtain ⟨kq, x22_2, rfl, HA, HJ2, BK171, HB⟩ := hcut
  cases kq with
  | zero => exact absurd HA.out (by simp [flyleafref08_segment.j0])
  | succ kj2 =>
   have H := HA.out
   clear HA
   simp only [flyleafref08_segment.j0] at H
   by_cases c12 : x22_2 = true
   ·subst c12
    have H1 : (some false) = some r := by rw [if_pos rfl] at H; exact H
    clear H
    have H := H1
    clear H1
    obtain rfl := Option.some.inj H
    go_wp2
    go_ret
    exact ⟨by first | rfl | (simp [errW_none, errW_some] <;> rfl) | (simp [*, errW_none, errW_some] <;> rfl), by repeat (first | (with_reducible first | exact HB.out | apply below_alloc | apply pw_below_drewN | apply below_drew1 | refine d434 ?_ GE171.out) | exact HB.out)⟩
   ·replace c12 := Bool.eq_false_iff.mpr c12
    subst c12
    have H1 : ((flyleafref08_in.f a0_2).bind fun t172 => (if t172 = true then ((flyleafref08_in.f a0_3).bind fun t173 => (if t173 = true then ((flyleafref08_in.f a0_4).bind fun t174 => (if t174 = true then ((flyleafref08_in.f a0_5).bind fun t175 => (if t175 = true then ((flyleafref08_in.f a0_6).bind fun t176 => (flyleafref08_segment.j1 kj2 a1 (!t176) a0_0 a0_1 a0_2 a0_3 a0_4 a0_5 a0_6)) else (flyleafref08_segment.j1 kj2 a1 true a0_0 a0_1 a0_2 a0_3 a0_4 a0_5 a0_6))) else (flyleafref08_segment.j1 kj2 a1 true a0_0 a0_1 a0_2 a0_3 a0_4 a0_5 a0_6))) else (flyleafref08_segment.j1 kj2 a1 true a0_0 a0_1 a0_2 a0_3 a0_4 a0_5 a0_6))) else (flyleafref08_segment.j1 kj2 a1 true a0_0 a0_1 a0_2 a0_3 a0_4 a0_5 a0_6))) = some r := by rw [if_neg (show ¬ (false = true) by decide)] at H; exact H
    clear H
    have H := H1
    clear H1
    have HC13 := Aside0.mk H
    clear H
    go_upto_region 3 with (fail)
    go_cut [50] (fun v50 wc => ∃ (kq : Nat) (x50_12 : Bool), v50 = .bool x50_12 ∧ Aside0 (flyleafref08_segment.j1 kq a1 x50_12 a0_0 a0_1 a0_2 a0_3 a0_4 a0_5 a0_6 = some r) ∧ Aside0 (kq ≤ kj2) ∧ Aside0 (wc.heap[gb171]? = some (.cells #[.int .i64 a0_0, .int .i64 a0_1, .int .i64 a0_2, .int .i64 a0_3, .int .i64 a0_4, .int .i64 a0_5, .int .i64 a0_6] 32 (0, 0))) ∧ Aside0 (Below w.heap.size w wc))
    case first =>
     have H := HC13.out
     clear HC13
     replace H := Option.bind_eq_some_iff.mp H
     obtain ⟨t172, A140, H⟩ := H
     replace H : (if t172 = true then ((flyleafref08_in.f a0_3).bind fun t173 => (if t173 = true then ((flyleafref08_in.f a0_4).bind fun t174 => (if t174 = true then ((flyleafref08_in.f a0_5).bind fun t175 => (if t175 = true then ((flyleafref08_in.f a0_6).bind fun t176 => (flyleafref08_segment.j1 kj2 a1 (!t176) a0_0 a0_1 a0_2 a0_3 a0_4 a0_5 a0_6)) else (flyleafref08_segment.j1 kj2 a1 true a0_0 a0_1 a0_2 a0_3 a0_4 a0_5 a0_6))) else (flyleafref08_segment.j1 kj2 a1 true a0_0 a0_1 a0_2 a0_3 a0_4 a0_5 a0_6))) else (flyleafref08_segment.j1 kj2 a1 true a0_0 a0_1 a0_2 a0_3 a0_4 a0_5 a0_6))) else (flyleafref08_segment.j1 kj2 a1 true a0_0 a0_1 a0_2 a0_3 a0_4 a0_5 a0_6)) = some r := H
     have A14 := Aside0.mk A140
     clear A140
     by_cases c15 : t172 = true
     ·subst c15
      have H1 : ((flyleafref08_in.f a0_3).bind fun t173 => (if t173 = true then ((flyleafref08_in.f a0_4).bind fun t174 => (if t174 = true then ((flyleafref08_in.f a0_5).bind fun t175 => (if t175 = true then ((flyleafref08_in.f a0_6).bind fun t176 => (flyleafref08_segment.j1 kj2 a1 (!t176) a0_0 a0_1 a0_2 a0_3 a0_4 a0_5 a0_6)) else (flyleafref08_segment.j1 kj2 a1 true a0_0 a0_1 a0_2 a0_3 a0_4 a0_5 a0_6))) else (flyleafref08_segment.j1 kj2 a1 true a0_0 a0_1 a0_2 a0_3 a0_4 a0_5 a0_6))) else (flyleafref08_segment.j1 kj2 a1 true a0_0 a0_1 a0_2 a0_3 a0_4 a0_5 a0_6))) = some r := by rw [if_pos rfl] at H; exact H
      clear H
      have H := H1
      clear H1
      replace H := Option.bind_eq_some_iff.mp H
      obtain ⟨t173, A160, H⟩ := H
      replace H : (if t173 = true then ((flyleafref08_in.f a0_4).bind fun t174 => (if t174 = true then ((flyleafref08_in.f a0_5).bind fun t175 => (if t175 = true then ((flyleafref08_in.f a0_6).bind fun t176 => (flyleafref08_segment.j1 kj2 a1 (!t176) a0_0 a0_1 a0_2 a0_3 a0_4 a0_5 a0_6)) else (flyleafref08_segment.j1 kj2 a1 true a0_0 a0_1 a0_2 a0_3 a0_4 a0_5 a0_6))) else (flyleafref08_segment.j1 kj2 a1 true a0_0 a0_1 a0_2 a0_3 a0_4 a0_5 a0_6))) else (flyleafref08_segment.j1 kj2 a1 true a0_0 a0_1 a0_2 a0_3 a0_4 a0_5 a0_6)) = some r := H
      have A16 := Aside0.mk A160
      clear A160
      by_cases c17 : t173 = true
      ·subst c17
       have H1 : ((flyleafref08_in.f a0_4).bind fun t174 => (if t174 = true then ((flyleafref08_in.f a0_5).bind fun t175 => (if t175 = true then ((flyleafref08_in.f a0_6).bind fun t176 => (flyleafref08_segment.j1 kj2 a1 (!t176) a0_0 a0_1 a0_2 a0_3 a0_4 a0_5 a0_6)) else (flyleafref08_segment.j1 kj2 a1 true a0_0 a0_1 a0_2 a0_3 a0_4 a0_5 a0_6))) else (flyleafref08_segment.j1 kj2 a1 true a0_0 a0_1 a0_2 a0_3 a0_4 a0_5 a0_6))) = some r := by rw [if_pos rfl] at H; exact H
       clear H
       have H := H1
       clear H1
       replace H := Option.bind_eq_some_iff.mp H
       obtain ⟨t174, A180, H⟩ := H
       replace H : (if t174 = true then ((flyleafref08_in.f a0_5).bind fun t175 => (if t175 = true then ((flyleafref08_in.f a0_6).bind fun t176 => (flyleafref08_segment.j1 kj2 a1 (!t176) a0_0 a0_1 a0_2 a0_3 a0_4 a0_5 a0_6)) else (flyleafref08_segment.j1 kj2 a1 true a0_0 a0_1 a0_2 a0_3 a0_4 a0_5 a0_6))) else (flyleafref08_segment.j1 kj2 a1 true a0_0 a0_1 a0_2 a0_3 a0_4 a0_5 a0_6)) = some r := H
       have A18 := Aside0.mk A180
       clear A180
       by_cases c19 : t174 = true
       ·subst c19
        have H1 : ((flyleafref08_in.f a0_5).bind fun t175 => (if t175 = true then ((flyleafref08_in.f a0_6).bind fun t176 => (flyleafref08_segment.j1 kj2 a1 (!t176) a0_0 a0_1 a0_2 a0_3 a0_4 a0_5 a0_6)) else (flyleafref08_segment.j1 kj2 a1 true a0_0 a0_1 a0_2 a0_3 a0_4 a0_5 a0_6))) = some r := by rw [if_pos rfl] at H; exact H
        clear H
        have H := H1
        clear H1
        replace H := Option.bind_eq_some_iff.mp H
        obtain ⟨t175, A200, H⟩ := H
        replace H : (if t175 = true then ((flyleafref08_in.f a0_6).bind fun t176 => (flyleafref08_segment.j1 kj2 a1 (!t176) a0_0 a0_1 a0_2 a0_3 a0_4 a0_5 a0_6)) else (flyleafref08_segment.j1 kj2 a1 true a0_0 a0_1 a0_2 a0_3 a0_4 a0_5 a0_6)) = some r := H
        have A20 := Aside0.mk A200
        clear A200
        by_cases c21 : t175 = true
        ·subst c21
         have H1 : ((flyleafref08_in.f a0_6).bind fun t176 => (flyleafref08_segment.j1 kj2 a1 (!t176) a0_0 a0_1 a0_2 a0_3 a0_4 a0_5 a0_6)) = some r := by rw [if_pos rfl] at H; exact H
         clear H
         have H := H1
         clear H1
         replace H := Option.bind_eq_some_iff.mp H
         obtain ⟨t176, A220, H⟩ := H
         replace H : (flyleafref08_segment.j1 kj2 a1 (!t176) a0_0 a0_1 a0_2 a0_3 a0_4 a0_5 a0_6) = some r := H
         have A22 := Aside0.mk A220
         clear A220
         have H' := Aside0.mk H
         clear H
         have hcz23_0 : wc.cell? ⟨gb171, 0, none⟩ = some (.int .i64 a0_0) := (d634 BK171.out 0).trans rfl
         have hcz23_1 : wc.cell? ⟨gb171, 1, none⟩ = some (.int .i64 a0_1) := (d634 BK171.out 1).trans rfl
         have hcz23_2 : wc.cell? ⟨gb171, 2, none⟩ = some (.int .i64 a0_2) := (d634 BK171.out 2).trans rfl
         have hcz23_3 : wc.cell? ⟨gb171, 3, none⟩ = some (.int .i64 a0_3) := (d634 BK171.out 3).trans rfl
         have hcz23_4 : wc.cell? ⟨gb171, 4, none⟩ = some (.int .i64 a0_4) := (d634 BK171.out 4).trans rfl
         have hcz23_5 : wc.cell? ⟨gb171, 5, none⟩ = some (.int .i64 a0_5) := (d634 BK171.out 5).trans rfl
         have hcz23_6 : wc.cell? ⟨gb171, 6, none⟩ = some (.int .i64 a0_6) := (d634 BK171.out 6).trans rfl
         have hfz23_0 := d734 BK171.out 0
         have hfz23_1 := d734 BK171.out 1
         have hfz23_2 := d734 BK171.out 2
         have hfz23_3 := d734 BK171.out 3
         have hfz23_4 := d734 BK171.out 4
         have hfz23_5 := d734 BK171.out 5
         have hfz23_6 := d734 BK171.out 6
         go_wp2_with (first | ((with_reducible refine gate_callee (f := 33) rfl ?_); refine goesL_ (some 25) rfl rfl Try.func33 (by kernel_rfl) rfl #[.int .i64 a0_2] rfl (by (try simp only [List.map_toArray, List.map_cons, List.map_nil]); first | done | rfl | (simp only [List.length_drop, List.length_take]; rfl)) ?_; (with_reducible refine (flyleafref08_in.calls a0_2 true _ A14.out).mono ?_); rintro e w' ⟨rfl, ⟨nd, rfl⟩⟩; refine ⟨_, rfl, ?_⟩) | (go_at_call 33; (with_reducible refine (flyleafref08_in.calls a0_3 true _ A16.out).mono ?_); rintro e w' ⟨rfl, ⟨nd, rfl⟩⟩) | (go_at_call 33; (with_reducible refine (flyleafref08_in.calls a0_4 true _ A18.out).mono ?_); rintro e w' ⟨rfl, ⟨nd, rfl⟩⟩) | (go_at_call 33; (with_reducible refine (flyleafref08_in.calls a0_5 true _ A20.out).mono ?_); rintro e w' ⟨rfl, ⟨nd, rfl⟩⟩) | (go_at_call 33; (with_reducible refine (flyleafref08_in.calls a0_6 t176 _ A22.out).mono ?_); rintro e w' ⟨rfl, ⟨nd, rfl⟩⟩))
         go_meet
         case rel => exact ⟨_, (!t176), (by first | rfl | (simp; done) | (simp [*]; done)), H', ⟨by have := HJ2.out; first | omega | exact Nat.le_refl _⟩, ⟨by (with_reducible repeat (first | refine d134 ?_ _ | refine d234 ?_ | refine d334 ?_ _)); exact BK171.out⟩, ⟨by repeat (first | (with_reducible first | exact HB.out | apply below_alloc | apply pw_below_drewN | apply below_drew1 | refine d434 ?_ GE171.out) | exact HB.out)⟩⟩
        ·replace c21 := Bool.eq_false_iff.mpr c21
         subst c21
         have H1 : (flyleafref08_segment.j1 kj2 a1 true a0_0 a0_1 a0_2 a0_3 a0_4 a0_5 a0_6) = some r := by rw [if_neg (show ¬ (false = true) by decide)] at H; exact H
         clear H
         have H := H1
         clear H1
         have H' := Aside0.mk H
         clear H
         have hcz24_0 : wc.cell? ⟨gb171, 0, none⟩ = some (.int .i64 a0_0) := (d634 BK171.out 0).trans rfl
         have hcz24_1 : wc.cell? ⟨gb171, 1, none⟩ = some (.int .i64 a0_1) := (d634 BK171.out 1).trans rfl
         have hcz24_2 : wc.cell? ⟨gb171, 2, none⟩ = some (.int .i64 a0_2) := (d634 BK171.out 2).trans rfl
         have hcz24_3 : wc.cell? ⟨gb171, 3, none⟩ = some (.int .i64 a0_3) := (d634 BK171.out 3).trans rfl
         have hcz24_4 : wc.cell? ⟨gb171, 4, none⟩ = some (.int .i64 a0_4) := (d634 BK171.out 4).trans rfl
         have hcz24_5 : wc.cell? ⟨gb171, 5, none⟩ = some (.int .i64 a0_5) := (d634 BK171.out 5).trans rfl
         have hcz24_6 : wc.cell? ⟨gb171, 6, none⟩ = some (.int .i64 a0_6) := (d634 BK171.out 6).trans rfl
         have hfz24_0 := d734 BK171.out 0
         have hfz24_1 := d734 BK171.out 1
         have hfz24_2 := d734 BK171.out 2
         have hfz24_3 := d734 BK171.out 3
         have hfz24_4 := d734 BK171.out 4
         have hfz24_5 := d734 BK171.out 5
         have hfz24_6 := d734 BK171.out 6
         go_wp2_with (first | ((with_reducible refine gate_callee (f := 33) rfl ?_); refine goesL_ (some 25) rfl rfl Try.func33 (by kernel_rfl) rfl #[.int .i64 a0_2] rfl (by (try simp only [List.map_toArray, List.map_cons, List.map_nil]); first | done | rfl | (simp only [List.length_drop, List.length_take]; rfl)) ?_; (with_reducible refine (flyleafref08_in.calls a0_2 true _ A14.out).mono ?_); rintro e w' ⟨rfl, ⟨nd, rfl⟩⟩; refine ⟨_, rfl, ?_⟩) | (go_at_call 33; (with_reducible refine (flyleafref08_in.calls a0_3 true _ A16.out).mono ?_); rintro e w' ⟨rfl, ⟨nd, rfl⟩⟩) | (go_at_call 33; (with_reducible refine (flyleafref08_in.calls a0_4 true _ A18.out).mono ?_); rintro e w' ⟨rfl, ⟨nd, rfl⟩⟩) | (go_at_call 33; (with_reducible refine (flyleafref08_in.calls a0_5 false _ A20.out).mono ?_); rintro e w' ⟨rfl, ⟨nd, rfl⟩⟩))
         go_meet
         case rel => exact ⟨_, (true), (by first | rfl | (simp; done) | (simp [*]; done)), H', ⟨by have := HJ2.out; first | omega | exact Nat.le_refl _⟩, ⟨by (with_reducible repeat (first | refine d134 ?_ _ | refine d234 ?_ | refine d334 ?_ _)); exact BK171.out⟩, ⟨by repeat (first | (with_reducible first | exact HB.out | apply below_alloc | apply pw_below_drewN | apply below_drew1 | refine d434 ?_ GE171.out) | exact HB.out)⟩⟩
       ·replace c19 := Bool.eq_false_iff.mpr c19
        subst c19
        have H1 : (flyleafref08_segment.j1 kj2 a1 true a0_0 a0_1 a0_2 a0_3 a0_4 a0_5 a0_6) = some r := by rw [if_neg (show ¬ (false = true) by decide)] at H; exact H
        clear H
        have H := H1
        clear H1
        have H' := Aside0.mk H
        clear H
        have hcz25_0 : wc.cell? ⟨gb171, 0, none⟩ = some (.int .i64 a0_0) := (d634 BK171.out 0).trans rfl
        have hcz25_1 : wc.cell? ⟨gb171, 1, none⟩ = some (.int .i64 a0_1) := (d634 BK171.out 1).trans rfl
        have hcz25_2 : wc.cell? ⟨gb171, 2, none⟩ = some (.int .i64 a0_2) := (d634 BK171.out 2).trans rfl
        have hcz25_3 : wc.cell? ⟨gb171, 3, none⟩ = some (.int .i64 a0_3) := (d634 BK171.out 3).trans rfl
        have hcz25_4 : wc.cell? ⟨gb171, 4, none⟩ = some (.int .i64 a0_4) := (d634 BK171.out 4).trans rfl
        have hcz25_5 : wc.cell? ⟨gb171, 5, none⟩ = some (.int .i64 a0_5) := (d634 BK171.out 5).trans rfl
        have hcz25_6 : wc.cell? ⟨gb171, 6, none⟩ = some (.int .i64 a0_6) := (d634 BK171.out 6).trans rfl
        have hfz25_0 := d734 BK171.out 0
        have hfz25_1 := d734 BK171.out 1
        have hfz25_2 := d734 BK171.out 2
        have hfz25_3 := d734 BK171.out 3
        have hfz25_4 := d734 BK171.out 4
        have hfz25_5 := d734 BK171.out 5
        have hfz25_6 := d734 BK171.out 6
        go_wp2_with (first | ((with_reducible refine gate_callee (f := 33) rfl ?_); refine goesL_ (some 25) rfl rfl Try.func33 (by kernel_rfl) rfl #[.int .i64 a0_2] rfl (by (try simp only [List.map_toArray, List.map_cons, List.map_nil]); first | done | rfl | (simp only [List.length_drop, List.length_take]; rfl)) ?_; (with_reducible refine (flyleafref08_in.calls a0_2 true _ A14.out).mono ?_); rintro e w' ⟨rfl, ⟨nd, rfl⟩⟩; refine ⟨_, rfl, ?_⟩) | (go_at_call 33; (with_reducible refine (flyleafref08_in.calls a0_3 true _ A16.out).mono ?_); rintro e w' ⟨rfl, ⟨nd, rfl⟩⟩) | (go_at_call 33; (with_reducible refine (flyleafref08_in.calls a0_4 false _ A18.out).mono ?_); rintro e w' ⟨rfl, ⟨nd, rfl⟩⟩))
        go_meet
        case rel => exact ⟨_, (true), (by first | rfl | (simp; done) | (simp [*]; done)), H', ⟨by have := HJ2.out; first | omega | exact Nat.le_refl _⟩, ⟨by (with_reducible repeat (first | refine d134 ?_ _ | refine d234 ?_ | refine d334 ?_ _)); exact BK171.out⟩, ⟨by repeat (first | (with_reducible first | exact HB.out | apply below_alloc | apply pw_below_drewN | apply below_drew1 | refine d434 ?_ GE171.out) | exact HB.out)⟩⟩
      ·replace c17 := Bool.eq_false_iff.mpr c17
       subst c17
       have H1 : (flyleafref08_segment.j1 kj2 a1 true a0_0 a0_1 a0_2 a0_3 a0_4 a0_5 a0_6) = some r := by rw [if_neg (show ¬ (false = true) by decide)] at H; exact H
       clear H
       have H := H1
       clear H1
       have H' := Aside0.mk H
       clear H
       have hcz26_0 : wc.cell? ⟨gb171, 0, none⟩ = some (.int .i64 a0_0) := (d634 BK171.out 0).trans rfl
       have hcz26_1 : wc.cell? ⟨gb171, 1, none⟩ = some (.int .i64 a0_1) := (d634 BK171.out 1).trans rfl
       have hcz26_2 : wc.cell? ⟨gb171, 2, none⟩ = some (.int .i64 a0_2) := (d634 BK171.out 2).trans rfl
       have hcz26_3 : wc.cell? ⟨gb171, 3, none⟩ = some (.int .i64 a0_3) := (d634 BK171.out 3).trans rfl
       have hcz26_4 : wc.cell? ⟨gb171, 4, none⟩ = some (.int .i64 a0_4) := (d634 BK171.out 4).trans rfl
       have hcz26_5 : wc.cell? ⟨gb171, 5, none⟩ = some (.int .i64 a0_5) := (d634 BK171.out 5).trans rfl
       have hcz26_6 : wc.cell? ⟨gb171, 6, none⟩ = some (.int .i64 a0_6) := (d634 BK171.out 6).trans rfl
       have hfz26_0 := d734 BK171.out 0
       have hfz26_1 := d734 BK171.out 1
       have hfz26_2 := d734 BK171.out 2
       have hfz26_3 := d734 BK171.out 3
       have hfz26_4 := d734 BK171.out 4
       have hfz26_5 := d734 BK171.out 5
       have hfz26_6 := d734 BK171.out 6
       go_wp2_with (first | ((with_reducible refine gate_callee (f := 33) rfl ?_); refine goesL_ (some 25) rfl rfl Try.func33 (by kernel_rfl) rfl #[.int .i64 a0_2] rfl (by (try simp only [List.map_toArray, List.map_cons, List.map_nil]); first | done | rfl | (simp only [List.length_drop, List.length_take]; rfl)) ?_; (with_reducible refine (flyleafref08_in.calls a0_2 true _ A14.out).mono ?_); rintro e w' ⟨rfl, ⟨nd, rfl⟩⟩; refine ⟨_, rfl, ?_⟩) | (go_at_call 33; (with_reducible refine (flyleafref08_in.calls a0_3 false _ A16.out).mono ?_); rintro e w' ⟨rfl, ⟨nd, rfl⟩⟩))
       go_meet
       case rel => exact ⟨_, (true), (by first | rfl | (simp; done) | (simp [*]; done)), H', ⟨by have := HJ2.out; first | omega | exact Nat.le_refl _⟩, ⟨by (with_reducible repeat (first | refine d134 ?_ _ | refine d234 ?_ | refine d334 ?_ _)); exact BK171.out⟩, ⟨by repeat (first | (with_reducible first | exact HB.out | apply below_alloc | apply pw_below_drewN | apply below_drew1 | refine d434 ?_ GE171.out) | exact HB.out)⟩⟩
     ·replace c15 := Bool.eq_false_iff.mpr c15
      subst c15
      have H1 : (flyleafref08_segment.j1 kj2 a1 true a0_0 a0_1 a0_2 a0_3 a0_4 a0_5 a0_6) = some r := by rw [if_neg (show ¬ (false = true) by decide)] at H; exact H
      clear H
      have H := H1
      clear H1
      have H' := Aside0.mk H
      clear H
      have hcz27_0 : wc.cell? ⟨gb171, 0, none⟩ = some (.int .i64 a0_0) := (d634 BK171.out 0).trans rfl
      have hcz27_1 : wc.cell? ⟨gb171, 1, none⟩ = some (.int .i64 a0_1) := (d634 BK171.out 1).trans rfl
      have hcz27_2 : wc.cell? ⟨gb171, 2, none⟩ = some (.int .i64 a0_2) := (d634 BK171.out 2).trans rfl
      have hcz27_3 : wc.cell? ⟨gb171, 3, none⟩ = some (.int .i64 a0_3) := (d634 BK171.out 3).trans rfl
      have hcz27_4 : wc.cell? ⟨gb171, 4, none⟩ = some (.int .i64 a0_4) := (d634 BK171.out 4).trans rfl
      have hcz27_5 : wc.cell? ⟨gb171, 5, none⟩ = some (.int .i64 a0_5) := (d634 BK171.out 5).trans rfl
      have hcz27_6 : wc.cell? ⟨gb171, 6, none⟩ = some (.int .i64 a0_6) := (d634 BK171.out 6).trans rfl
      have hfz27_0 := d734 BK171.out 0
      have hfz27_1 := d734 BK171.out 1
      have hfz27_2 := d734 BK171.out 2
      have hfz27_3 := d734 BK171.out 3
      have hfz27_4 := d734 BK171.out 4
      have hfz27_5 := d734 BK171.out 5
      have hfz27_6 := d734 BK171.out 6
      go_wp2_with (first | ((with_reducible refine gate_callee (f := 33) rfl ?_); refine goesL_ (some 25) rfl rfl Try.func33 (by kernel_rfl) rfl #[.int .i64 a0_2] rfl (by (try simp only [List.map_toArray, List.map_cons, List.map_nil]); first | done | rfl | (simp only [List.length_drop, List.length_take]; rfl)) ?_; (with_reducible refine (flyleafref08_in.calls a0_2 false _ A14.out).mono ?_); rintro e w' ⟨rfl, ⟨nd, rfl⟩⟩; refine ⟨_, rfl, ?_⟩))
      go_meet
      case rel => exact ⟨_, (true), (by first | rfl | (simp; done) | (simp [*]; done)), H', ⟨by have := HJ2.out; first | omega | exact Nat.le_refl _⟩, ⟨by (with_reducible repeat (first | refine d134 ?_ _ | refine d234 ?_ | refine d334 ?_ _)); exact BK171.out⟩, ⟨by repeat (first | (with_reducible first | exact HB.out | apply below_alloc | apply pw_below_drewN | apply below_drew1 | refine d434 ?_ GE171.out) | exact HB.out)⟩⟩
    case rest =>
     clear HC13
     try clear c1
     try clear c2
     try clear p2
     try clear c3
     try clear c5
     try clear c5b0
     try clear c7
     try clear c7b0
     try clear c9
     try clear c9b0
     try clear c12
     try clear c15
     try clear c17
     try clear c19
     try clear c21
     try clear hcz10_0
     try clear hcz10_1
     try clear hcz10_2
     try clear hcz10_3
     try clear hcz10_4
     try clear hcz10_5
     try clear hcz10_6
     try clear hcz11_0
     try clear hcz11_1
     try clear hcz11_2
     try clear hcz11_3
     try clear hcz11_4
     try clear hcz11_5
     try clear hcz11_6
     try clear hcz23_0
     try clear hcz23_1
     try clear hcz23_2
     try clear hcz23_3
     try clear hcz23_4
     try clear hcz23_5
     try clear hcz23_6
     try clear hcz24_0
     try clear hcz24_1
     try clear hcz24_2
     try clear hcz24_3
     try clear hcz24_4
     try clear hcz24_5
     try clear hcz24_6
     try clear hcz25_0
     try clear hcz25_1
     try clear hcz25_2
     try clear hcz25_3
     try clear hcz25_4
     try clear hcz25_5
     try clear hcz25_6
     try clear hcz26_0
     try clear hcz26_1
     try clear hcz26_2
     try clear hcz26_3
     try clear hcz26_4
     try clear hcz26_5
     try clear hcz26_6
     try clear hcz27_0
     try clear hcz27_1
     try clear hcz27_2
     try clear hcz27_3
     try clear hcz27_4
     try clear hcz27_5
     try clear hcz27_6
     try clear hcz6_0
     try clear hcz6_1
     try clear hcz6_2
     try clear hcz6_3
     try clear hcz6_4
     try clear hcz6_5
     try clear hcz6_6
     try clear hcz8_0
     try clear hcz8_1
     try clear hcz8_2
     try clear hcz8_3
     try clear hcz8_4
     try clear hcz8_5
     try clear hcz8_6
     try clear hfz10_0
     try clear hfz10_1
     try clear hfz10_2
     try clear hfz10_3
     try clear hfz10_4
     try clear hfz10_5
     try clear hfz10_6
     try clear hfz11_0
     try clear hfz11_1
     try clear hfz11_2
     try clear hfz11_3
     try clear hfz11_4
     try clear hfz11_5
     try clear hfz11_6
     try clear hfz23_0
     try clear hfz23_1
     try clear hfz23_2
     try clear hfz23_3
     try clear hfz23_4
     try clear hfz23_5
     try clear hfz23_6
     try clear hfz24_0
     try clear hfz24_1
     try clear hfz24_2
     try clear hfz24_3
     try clear hfz24_4
     try clear hfz24_5
     try clear hfz24_6
     try clear hfz25_0
     try clear hfz25_1
     try clear hfz25_2
     try clear hfz25_3
     try clear hfz25_4
     try clear hfz25_5
     try clear hfz25_6
     try clear hfz26_0
     try clear hfz26_1
     try clear hfz26_2
     try clear hfz26_3
     try clear hfz26_4
     try clear hfz26_5
     try clear hfz26_6
     try clear hfz27_0
     try clear hfz27_1
     try clear hfz27_2
     try clear hfz27_3
     try clear hfz27_4
     try clear hfz27_5
     try clear hfz27_6
     try clear hfz6_0
     try clear hfz6_1
     try clear hfz6_2
     try clear hfz6_3
     try clear hfz6_4
     try clear hfz6_5
     try clear hfz6_6
     try clear hfz8_0
     try clear hfz8_1
     try clear hfz8_2
     try clear hfz8_3
     try clear hfz8_4
     try clear hfz8_5
     try clear hfz8_6
     try clear p2
     obtain ⟨kq, x50_12, rfl, HA, HJ12, BK171, HB⟩ := hcut
     cases kq with
     | zero => exact absurd HA.out (by simp [flyleafref08_segment.j1])
     | succ kj12 =>
      have H := HA.out
      clear HA
      simp only [flyleafref08_segment.j1] at H
      by_cases c28 : x50_12 = true
      ·subst c28
       have H1 : (some false) = some r := by rw [if_pos rfl] at H; exact H
       clear H
       have H := H1
       clear H1
       obtain rfl := Option.some.inj H
       go_wp2
       go_ret
       exact ⟨by first | rfl | (simp [errW_none, errW_some] <;> rfl) | (simp [*, errW_none, errW_some] <;> rfl), by repeat (first | (with_reducible first | exact HB.out | apply below_alloc | apply pw_below_drewN | apply below_drew1 | refine d434 ?_ GE171.out) | exact HB.out)⟩
      ·replace c28 := Bool.eq_false_iff.mpr c28
       subst c28
       have H1 : (if a0_0 = 1 then (flyleafref08_segment.j2 kj12 a1 false a0_0 a0_1 a0_2 a0_3 a0_4 a0_5 a0_6) else (flyleafref08_segment.j2 kj12 a1 (a0_0 != 2) a0_0 a0_1 a0_2 a0_3 a0_4 a0_5 a0_6)) = some r := by rw [if_neg (show ¬ (false = true) by decide)] at H; exact H
       clear H
       have H := H1
       clear H1
       have HC29 := Aside0.mk H
       clear H
       go_upto_region 5 with (fail)
       go_cut [58] (fun v58 wc => ∃ (kq : Nat) (x58_28 : Bool), v58 = .bool x58_28 ∧ Aside0 (flyleafref08_segment.j2 kq a1 x58_28 a0_0 a0_1 a0_2 a0_3 a0_4 a0_5 a0_6 = some r) ∧ Aside0 (kq ≤ kj12) ∧ Aside0 (wc.heap[gb171]? = some (.cells #[.int .i64 a0_0, .int .i64 a0_1, .int .i64 a0_2, .int .i64 a0_3, .int .i64 a0_4, .int .i64 a0_5, .int .i64 a0_6] 32 (0, 0))) ∧ Aside0 (Below w.heap.size w wc))
       case first =>
        have H := HC29.out
        clear HC29
        by_cases c30 : a0_0 = 1
        ·rw [if_pos c30] at H
         have c30b0 : (a0_0 == 1) = true := beq_iff_eq.mpr c30
         have c30b1 : (a0_0 != 1) = false := bne_eq_false_iff_eq.mpr c30
         clear c30
         (first | rw [c30b0] | (simp only [i64_w, i32_w]; rw [c30b0]) | skip)
         have H' := Aside0.mk H
         clear H
         have hcz31_0 : wc.cell? ⟨gb171, 0, none⟩ = some (.int .i64 a0_0) := (d634 BK171.out 0).trans rfl
         have hcz31_1 : wc.cell? ⟨gb171, 1, none⟩ = some (.int .i64 a0_1) := (d634 BK171.out 1).trans rfl
         have hcz31_2 : wc.cell? ⟨gb171, 2, none⟩ = some (.int .i64 a0_2) := (d634 BK171.out 2).trans rfl
         have hcz31_3 : wc.cell? ⟨gb171, 3, none⟩ = some (.int .i64 a0_3) := (d634 BK171.out 3).trans rfl
         have hcz31_4 : wc.cell? ⟨gb171, 4, none⟩ = some (.int .i64 a0_4) := (d634 BK171.out 4).trans rfl
         have hcz31_5 : wc.cell? ⟨gb171, 5, none⟩ = some (.int .i64 a0_5) := (d634 BK171.out 5).trans rfl
         have hcz31_6 : wc.cell? ⟨gb171, 6, none⟩ = some (.int .i64 a0_6) := (d634 BK171.out 6).trans rfl
         have hfz31_0 := d734 BK171.out 0
         have hfz31_1 := d734 BK171.out 1
         have hfz31_2 := d734 BK171.out 2
         have hfz31_3 := d734 BK171.out 3
         have hfz31_4 := d734 BK171.out 4
         have hfz31_5 := d734 BK171.out 5
         have hfz31_6 := d734 BK171.out 6
         go_wp2
         go_meet
         case rel => exact ⟨_, (false), (by first | rfl | (simp; done) | (simp [*]; done)), H', ⟨by have := HJ2.out; have := HJ12.out; first | omega | exact Nat.le_refl _⟩, ⟨by (with_reducible repeat (first | refine d134 ?_ _ | refine d234 ?_ | refine d334 ?_ _)); exact BK171.out⟩, ⟨by repeat (first | (with_reducible first | exact HB.out | apply below_alloc | apply pw_below_drewN | apply below_drew1 | refine d434 ?_ GE171.out) | exact HB.out)⟩⟩
        ·rw [if_neg c30] at H
         have c30b0 : (a0_0 == 1) = false := beq_eq_false_iff_ne.mpr c30
         have c30b1 : (a0_0 != 1) = true := bne_iff_ne.mpr c30
         (first | rw [c30b0] | (simp only [i64_w, i32_w]; rw [c30b0]) | skip)
         have H' := Aside0.mk H
         clear H
         have hcz32_0 : wc.cell? ⟨gb171, 0, none⟩ = some (.int .i64 a0_0) := (d634 BK171.out 0).trans rfl
         have hcz32_1 : wc.cell? ⟨gb171, 1, none⟩ = some (.int .i64 a0_1) := (d634 BK171.out 1).trans rfl
         have hcz32_2 : wc.cell? ⟨gb171, 2, none⟩ = some (.int .i64 a0_2) := (d634 BK171.out 2).trans rfl
         have hcz32_3 : wc.cell? ⟨gb171, 3, none⟩ = some (.int .i64 a0_3) := (d634 BK171.out 3).trans rfl
         have hcz32_4 : wc.cell? ⟨gb171, 4, none⟩ = some (.int .i64 a0_4) := (d634 BK171.out 4).trans rfl
         have hcz32_5 : wc.cell? ⟨gb171, 5, none⟩ = some (.int .i64 a0_5) := (d634 BK171.out 5).trans rfl
         have hcz32_6 : wc.cell? ⟨gb171, 6, none⟩ = some (.int .i64 a0_6) := (d634 BK171.out 6).trans rfl
         have hfz32_0 := d734 BK171.out 0
         have hfz32_1 := d734 BK171.out 1
         have hfz32_2 := d734 BK171.out 2
         have hfz32_3 := d734 BK171.out 3
         have hfz32_4 := d734 BK171.out 4
         have hfz32_5 := d734 BK171.out 5
         have hfz32_6 := d734 BK171.out 6
         go_wp2
         go_meet
         case rel => exact ⟨_, ((a0_0 != 2)), (by first | rfl | (simp; done) | (simp [*]; done)), H', ⟨by have := HJ2.out; have := HJ12.out; first | omega | exact Nat.le_refl _⟩, ⟨by (with_reducible repeat (first | refine d134 ?_ _ | refine d234 ?_ | refine d334 ?_ _)); exact BK171.out⟩, ⟨by repeat (first | (with_reducible first | exact HB.out | apply below_alloc | apply pw_below_drewN | apply below_drew1 | refine d434 ?_ GE171.out) | exact HB.out)⟩⟩
       case rest =>
        clear HC29
        try clear c1
        try clear c2
        try clear p2
        try clear c3
        try clear c5
        try clear c5b0
        try clear c7
        try clear c7b0
        try clear c9
        try clear c9b0
        try clear c12
        try clear c15
        try clear c17
        try clear c19
        try clear c21
        try clear c28
        try clear c30
        try clear c30b0
        try clear c30b1
        try clear hcz10_0
        try clear hcz10_1
        try clear hcz10_2
        try clear hcz10_3
        try clear hcz10_4
        try clear hcz10_5
        try clear hcz10_6
        try clear hcz11_0
        try clear hcz11_1
        try clear hcz11_2
        try clear hcz11_3
        try clear hcz11_4
        try clear hcz11_5
        try clear hcz11_6
        try clear hcz23_0
        try clear hcz23_1
        try clear hcz23_2
        try clear hcz23_3
        try clear hcz23_4
        try clear hcz23_5
        try clear hcz23_6
        try clear hcz24_0
        try clear hcz24_1
        try clear hcz24_2
        try clear hcz24_3
        try clear hcz24_4
        try clear hcz24_5
        try clear hcz24_6
        try clear hcz25_0
        try clear hcz25_1
        try clear hcz25_2
        try clear hcz25_3
        try clear hcz25_4
        try clear hcz25_5
        try clear hcz25_6
        try clear hcz26_0
        try clear hcz26_1
        try clear hcz26_2
        try clear hcz26_3
        try clear hcz26_4
        try clear hcz26_5
        try clear hcz26_6
        try clear hcz27_0
        try clear hcz27_1
        try clear hcz27_2
        try clear hcz27_3
        try clear hcz27_4
        try clear hcz27_5
        try clear hcz27_6
        try clear hcz31_0
        try clear hcz31_1
        try clear hcz31_2
        try clear hcz31_3
        try clear hcz31_4
        try clear hcz31_5
        try clear hcz31_6
        try clear hcz32_0
        try clear hcz32_1
        try clear hcz32_2
        try clear hcz32_3
        try clear hcz32_4
        try clear hcz32_5
        try clear hcz32_6
        try clear hcz6_0
        try clear hcz6_1
        try clear hcz6_2
        try clear hcz6_3
        try clear hcz6_4
        try clear hcz6_5
        try clear hcz6_6
        try clear hcz8_0
        try clear hcz8_1
        try clear hcz8_2
        try clear hcz8_3
        try clear hcz8_4
        try clear hcz8_5
        try clear hcz8_6
        try clear hfz10_0
        try clear hfz10_1
        try clear hfz10_2
        try clear hfz10_3
        try clear hfz10_4
        try clear hfz10_5
        try clear hfz10_6
        try clear hfz11_0
        try clear hfz11_1
        try clear hfz11_2
        try clear hfz11_3
        try clear hfz11_4
        try clear hfz11_5
        try clear hfz11_6
        try clear hfz23_0
        try clear hfz23_1
        try clear hfz23_2
        try clear hfz23_3
        try clear hfz23_4
        try clear hfz23_5
        try clear hfz23_6
        try clear hfz24_0
        try clear hfz24_1
        try clear hfz24_2
        try clear hfz24_3
        try clear hfz24_4
        try clear hfz24_5
        try clear hfz24_6
        try clear hfz25_0
        try clear hfz25_1
        try clear hfz25_2
        try clear hfz25_3
        try clear hfz25_4
        try clear hfz25_5
        try clear hfz25_6
        try clear hfz26_0
        try clear hfz26_1
        try clear hfz26_2
        try clear hfz26_3
        try clear hfz26_4
        try clear hfz26_5
        try clear hfz26_6
        try clear hfz27_0
        try clear hfz27_1
        try clear hfz27_2
        try clear hfz27_3
        try clear hfz27_4
        try clear hfz27_5
        try clear hfz27_6
        try clear hfz31_0
        try clear hfz31_1
        try clear hfz31_2
        try clear hfz31_3
        try clear hfz31_4
        try clear hfz31_5
        try clear hfz31_6
        try clear hfz32_0
        try clear hfz32_1
        try clear hfz32_2
        try clear hfz32_3
        try clear hfz32_4
        try clear hfz32_5
        try clear hfz32_6
        try clear hfz6_0
        try clear hfz6_1
        try clear hfz6_2
        try clear hfz6_3
        try clear hfz6_4
        try clear hfz6_5
        try clear hfz6_6
        try clear hfz8_0
        try clear hfz8_1
        try clear hfz8_2
        try clear hfz8_3
        try clear hfz8_4
        try clear hfz8_5
        try clear hfz8_6
        try clear p2
        obtain ⟨kq, x58_28, rfl, HA, HJ28, BK171, HB⟩ := hcut
        cases kq with
        | zero => exact absurd HA.out (by simp [flyleafref08_segment.j2])
        | succ kj28 =>
         have H := HA.out
         clear HA
         simp only [flyleafref08_segment.j2] at H
         by_cases c33 : x58_28 = true
         ·subst c33
          have H1 : (some true) = some r := by rw [if_pos rfl] at H; exact H
          clear H
          have H := H1
          clear H1
          obtain rfl := Option.some.inj H
          go_wp2
          go_ret
          exact ⟨by first | rfl | (simp [errW_none, errW_some] <;> rfl) | (simp [*, errW_none, errW_some] <;> rfl), by repeat (first | (with_reducible first | exact HB.out | apply below_alloc | apply pw_below_drewN | apply below_drew1 | refine d434 ?_ GE171.out) | exact HB.out)⟩
         ·replace c33 := Bool.eq_false_iff.mpr c33
          subst c33
          have H1 : (if (wrap64 (a0_2 + a0_4)) > a1 then (some false) else (if a0_4 > a0_5 then (some false) else (if (wrap64 (a0_3 + a0_5)) > 262144 then (some false) else (if a0_0 = 2 then (some true) else (if a0_5 > 0 then (if a0_6 = 64 then (some ((Int.tmod a0_3 64) == (Int.tmod a0_2 64))) else (some false)) else (some false)))))) = some r := by rw [if_neg (show ¬ (false = true) by decide)] at H; exact H
          clear H
          have H := H1
          clear H1
          by_cases c34 : (wrap64 (a0_2 + a0_4)) > a1
          ·rw [if_pos c34] at H
           have c34b0 : decide (a1 < (wrap64 (a0_2 + a0_4))) = true := decide_eq_true c34
           clear c34
           obtain rfl := Option.some.inj H
           have hcz35_0 : wc.cell? ⟨gb171, 0, none⟩ = some (.int .i64 a0_0) := (d634 BK171.out 0).trans rfl
           have hcz35_1 : wc.cell? ⟨gb171, 1, none⟩ = some (.int .i64 a0_1) := (d634 BK171.out 1).trans rfl
           have hcz35_2 : wc.cell? ⟨gb171, 2, none⟩ = some (.int .i64 a0_2) := (d634 BK171.out 2).trans rfl
           have hcz35_3 : wc.cell? ⟨gb171, 3, none⟩ = some (.int .i64 a0_3) := (d634 BK171.out 3).trans rfl
           have hcz35_4 : wc.cell? ⟨gb171, 4, none⟩ = some (.int .i64 a0_4) := (d634 BK171.out 4).trans rfl
           have hcz35_5 : wc.cell? ⟨gb171, 5, none⟩ = some (.int .i64 a0_5) := (d634 BK171.out 5).trans rfl
           have hcz35_6 : wc.cell? ⟨gb171, 6, none⟩ = some (.int .i64 a0_6) := (d634 BK171.out 6).trans rfl
           have hfz35_0 := d734 BK171.out 0
           have hfz35_1 := d734 BK171.out 1
           have hfz35_2 := d734 BK171.out 2
           have hfz35_3 := d734 BK171.out 3
           have hfz35_4 := d734 BK171.out 4
           have hfz35_5 := d734 BK171.out 5
           have hfz35_6 := d734 BK171.out 6
           go_wp2
           go_ret
           exact ⟨by first | rfl | (simp [errW_none, errW_some] <;> rfl) | (simp [*, errW_none, errW_some] <;> rfl), by repeat (first | (with_reducible first | exact HB.out | apply below_alloc | apply pw_below_drewN | apply below_drew1 | refine d434 ?_ GE171.out) | exact HB.out)⟩
          ·rw [if_neg c34] at H
           have c34b0 : decide (a1 < (wrap64 (a0_2 + a0_4))) = false := decide_eq_false c34
           clear c34
           by_cases c36 : a0_4 > a0_5
           ·rw [if_pos c36] at H
            have c36b0 : decide (a0_5 < a0_4) = true := decide_eq_true c36
            clear c36
            obtain rfl := Option.some.inj H
            have hcz37_0 : wc.cell? ⟨gb171, 0, none⟩ = some (.int .i64 a0_0) := (d634 BK171.out 0).trans rfl
            have hcz37_1 : wc.cell? ⟨gb171, 1, none⟩ = some (.int .i64 a0_1) := (d634 BK171.out 1).trans rfl
            have hcz37_2 : wc.cell? ⟨gb171, 2, none⟩ = some (.int .i64 a0_2) := (d634 BK171.out 2).trans rfl
            have hcz37_3 : wc.cell? ⟨gb171, 3, none⟩ = some (.int .i64 a0_3) := (d634 BK171.out 3).trans rfl
            have hcz37_4 : wc.cell? ⟨gb171, 4, none⟩ = some (.int .i64 a0_4) := (d634 BK171.out 4).trans rfl
            have hcz37_5 : wc.cell? ⟨gb171, 5, none⟩ = some (.int .i64 a0_5) := (d634 BK171.out 5).trans rfl
            have hcz37_6 : wc.cell? ⟨gb171, 6, none⟩ = some (.int .i64 a0_6) := (d634 BK171.out 6).trans rfl
            have hfz37_0 := d734 BK171.out 0
            have hfz37_1 := d734 BK171.out 1
            have hfz37_2 := d734 BK171.out 2
            have hfz37_3 := d734 BK171.out 3
            have hfz37_4 := d734 BK171.out 4
            have hfz37_5 := d734 BK171.out 5
            have hfz37_6 := d734 BK171.out 6
            go_wp2
            go_ret
            exact ⟨by first | rfl | (simp [errW_none, errW_some] <;> rfl) | (simp [*, errW_none, errW_some] <;> rfl), by repeat (first | (with_reducible first | exact HB.out | apply below_alloc | apply pw_below_drewN | apply below_drew1 | refine d434 ?_ GE171.out) | exact HB.out)⟩
           ·rw [if_neg c36] at H
            have c36b0 : decide (a0_5 < a0_4) = false := decide_eq_false c36
            clear c36
            by_cases c38 : (wrap64 (a0_3 + a0_5)) > 262144
            ·rw [if_pos c38] at H
             have c38b0 : decide (262144 < (wrap64 (a0_3 + a0_5))) = true := decide_eq_true c38
             clear c38
             obtain rfl := Option.some.inj H
             have hcz39_0 : wc.cell? ⟨gb171, 0, none⟩ = some (.int .i64 a0_0) := (d634 BK171.out 0).trans rfl
             have hcz39_1 : wc.cell? ⟨gb171, 1, none⟩ = some (.int .i64 a0_1) := (d634 BK171.out 1).trans rfl
             have hcz39_2 : wc.cell? ⟨gb171, 2, none⟩ = some (.int .i64 a0_2) := (d634 BK171.out 2).trans rfl
             have hcz39_3 : wc.cell? ⟨gb171, 3, none⟩ = some (.int .i64 a0_3) := (d634 BK171.out 3).trans rfl
             have hcz39_4 : wc.cell? ⟨gb171, 4, none⟩ = some (.int .i64 a0_4) := (d634 BK171.out 4).trans rfl
             have hcz39_5 : wc.cell? ⟨gb171, 5, none⟩ = some (.int .i64 a0_5) := (d634 BK171.out 5).trans rfl
             have hcz39_6 : wc.cell? ⟨gb171, 6, none⟩ = some (.int .i64 a0_6) := (d634 BK171.out 6).trans rfl
             have hfz39_0 := d734 BK171.out 0
             have hfz39_1 := d734 BK171.out 1
             have hfz39_2 := d734 BK171.out 2
             have hfz39_3 := d734 BK171.out 3
             have hfz39_4 := d734 BK171.out 4
             have hfz39_5 := d734 BK171.out 5
             have hfz39_6 := d734 BK171.out 6
             go_wp2
             go_ret
             exact ⟨by first | rfl | (simp [errW_none, errW_some] <;> rfl) | (simp [*, errW_none, errW_some] <;> rfl), by repeat (first | (with_reducible first | exact HB.out | apply below_alloc | apply pw_below_drewN | apply below_drew1 | refine d434 ?_ GE171.out) | exact HB.out)⟩
            ·rw [if_neg c38] at H
             have c38b0 : decide (262144 < (wrap64 (a0_3 + a0_5))) = false := decide_eq_false c38
             clear c38
             by_cases c40 : a0_0 = 2
             ·rw [if_pos c40] at H
              have c40b0 : (a0_0 == 2) = true := beq_iff_eq.mpr c40
              have c40b1 : (a0_0 != 2) = false := bne_eq_false_iff_eq.mpr c40
              clear c40
              obtain rfl := Option.some.inj H
              have hcz41_0 : wc.cell? ⟨gb171, 0, none⟩ = some (.int .i64 a0_0) := (d634 BK171.out 0).trans rfl
              have hcz41_1 : wc.cell? ⟨gb171, 1, none⟩ = some (.int .i64 a0_1) := (d634 BK171.out 1).trans rfl
              have hcz41_2 : wc.cell? ⟨gb171, 2, none⟩ = some (.int .i64 a0_2) := (d634 BK171.out 2).trans rfl
              have hcz41_3 : wc.cell? ⟨gb171, 3, none⟩ = some (.int .i64 a0_3) := (d634 BK171.out 3).trans rfl
              have hcz41_4 : wc.cell? ⟨gb171, 4, none⟩ = some (.int .i64 a0_4) := (d634 BK171.out 4).trans rfl
              have hcz41_5 : wc.cell? ⟨gb171, 5, none⟩ = some (.int .i64 a0_5) := (d634 BK171.out 5).trans rfl
              have hcz41_6 : wc.cell? ⟨gb171, 6, none⟩ = some (.int .i64 a0_6) := (d634 BK171.out 6).trans rfl
              have hfz41_0 := d734 BK171.out 0
              have hfz41_1 := d734 BK171.out 1
              have hfz41_2 := d734 BK171.out 2
              have hfz41_3 := d734 BK171.out 3
              have hfz41_4 := d734 BK171.out 4
              have hfz41_5 := d734 BK171.out 5
              have hfz41_6 := d734 BK171.out 6
              go_wp2
              go_ret
              exact ⟨by first | rfl | (simp [errW_none, errW_some] <;> rfl) | (simp [*, errW_none, errW_some] <;> rfl), by repeat (first | (with_reducible first | exact HB.out | apply below_alloc | apply pw_below_drewN | apply below_drew1 | refine d434 ?_ GE171.out) | exact HB.out)⟩
             ·rw [if_neg c40] at H
              have c40b0 : (a0_0 == 2) = false := beq_eq_false_iff_ne.mpr c40
              have c40b1 : (a0_0 != 2) = true := bne_iff_ne.mpr c40
              by_cases c42 : a0_5 > 0
              ·rw [if_pos c42] at H
               have c42b0 : decide (0 < a0_5) = true := decide_eq_true c42
               clear c42
               by_cases c43 : a0_6 = 64
               ·rw [if_pos c43] at H
                have c43b0 : (a0_6 == 64) = true := beq_iff_eq.mpr c43
                have c43b1 : (a0_6 != 64) = false := bne_eq_false_iff_eq.mpr c43
                clear c43
                obtain rfl := Option.some.inj H
                have hcz44_0 : wc.cell? ⟨gb171, 0, none⟩ = some (.int .i64 a0_0) := (d634 BK171.out 0).trans rfl
                have hcz44_1 : wc.cell? ⟨gb171, 1, none⟩ = some (.int .i64 a0_1) := (d634 BK171.out 1).trans rfl
                have hcz44_2 : wc.cell? ⟨gb171, 2, none⟩ = some (.int .i64 a0_2) := (d634 BK171.out 2).trans rfl
                have hcz44_3 : wc.cell? ⟨gb171, 3, none⟩ = some (.int .i64 a0_3) := (d634 BK171.out 3).trans rfl
                have hcz44_4 : wc.cell? ⟨gb171, 4, none⟩ = some (.int .i64 a0_4) := (d634 BK171.out 4).trans rfl
                have hcz44_5 : wc.cell? ⟨gb171, 5, none⟩ = some (.int .i64 a0_5) := (d634 BK171.out 5).trans rfl
                have hcz44_6 : wc.cell? ⟨gb171, 6, none⟩ = some (.int .i64 a0_6) := (d634 BK171.out 6).trans rfl
                have hfz44_0 := d734 BK171.out 0
                have hfz44_1 := d734 BK171.out 1
                have hfz44_2 := d734 BK171.out 2
                have hfz44_3 := d734 BK171.out 3
                have hfz44_4 := d734 BK171.out 4
                have hfz44_5 := d734 BK171.out 5
                have hfz44_6 := d734 BK171.out 6
                go_wp2
                go_ret
                exact ⟨by first | rfl | (simp [errW_none, errW_some] <;> rfl) | (simp [*, errW_none, errW_some] <;> rfl), by repeat (first | (with_reducible first | exact HB.out | apply below_alloc | apply pw_below_drewN | apply below_drew1 | refine d434 ?_ GE171.out) | exact HB.out)⟩
               ·rw [if_neg c43] at H
                have c43b0 : (a0_6 == 64) = false := beq_eq_false_iff_ne.mpr c43
                have c43b1 : (a0_6 != 64) = true := bne_iff_ne.mpr c43
                obtain rfl := Option.some.inj H
                have hcz45_0 : wc.cell? ⟨gb171, 0, none⟩ = some (.int .i64 a0_0) := (d634 BK171.out 0).trans rfl
                have hcz45_1 : wc.cell? ⟨gb171, 1, none⟩ = some (.int .i64 a0_1) := (d634 BK171.out 1).trans rfl
                have hcz45_2 : wc.cell? ⟨gb171, 2, none⟩ = some (.int .i64 a0_2) := (d634 BK171.out 2).trans rfl
                have hcz45_3 : wc.cell? ⟨gb171, 3, none⟩ = some (.int .i64 a0_3) := (d634 BK171.out 3).trans rfl
                have hcz45_4 : wc.cell? ⟨gb171, 4, none⟩ = some (.int .i64 a0_4) := (d634 BK171.out 4).trans rfl
                have hcz45_5 : wc.cell? ⟨gb171, 5, none⟩ = some (.int .i64 a0_5) := (d634 BK171.out 5).trans rfl
                have hcz45_6 : wc.cell? ⟨gb171, 6, none⟩ = some (.int .i64 a0_6) := (d634 BK171.out 6).trans rfl
                have hfz45_0 := d734 BK171.out 0
                have hfz45_1 := d734 BK171.out 1
                have hfz45_2 := d734 BK171.out 2
                have hfz45_3 := d734 BK171.out 3
                have hfz45_4 := d734 BK171.out 4
                have hfz45_5 := d734 BK171.out 5
                have hfz45_6 := d734 BK171.out 6
                go_wp2
                go_ret
                exact ⟨by first | rfl | (simp [errW_none, errW_some] <;> rfl) | (simp [*, errW_none, errW_some] <;> rfl), by repeat (first | (with_reducible first | exact HB.out | apply below_alloc | apply pw_below_drewN | apply below_drew1 | refine d434 ?_ GE171.out) | exact HB.out)⟩
              ·rw [if_neg c42] at H
               have c42b0 : decide (0 < a0_5) = false := decide_eq_false c42
               clear c42
               obtain rfl := Option.some.inj H
               have hcz46_0 : wc.cell? ⟨gb171, 0, none⟩ = some (.int .i64 a0_0) := (d634 BK171.out 0).trans rfl
               have hcz46_1 : wc.cell? ⟨gb171, 1, none⟩ = some (.int .i64 a0_1) := (d634 BK171.out 1).trans rfl
               have hcz46_2 : wc.cell? ⟨gb171, 2, none⟩ = some (.int .i64 a0_2) := (d634 BK171.out 2).trans rfl
               have hcz46_3 : wc.cell? ⟨gb171, 3, none⟩ = some (.int .i64 a0_3) := (d634 BK171.out 3).trans rfl
               have hcz46_4 : wc.cell? ⟨gb171, 4, none⟩ = some (.int .i64 a0_4) := (d634 BK171.out 4).trans rfl
               have hcz46_5 : wc.cell? ⟨gb171, 5, none⟩ = some (.int .i64 a0_5) := (d634 BK171.out 5).trans rfl
               have hcz46_6 : wc.cell? ⟨gb171, 6, none⟩ = some (.int .i64 a0_6) := (d634 BK171.out 6).trans rfl
               have hfz46_0 := d734 BK171.out 0
               have hfz46_1 := d734 BK171.out 1
               have hfz46_2 := d734 BK171.out 2
               have hfz46_3 := d734 BK171.out 3
               have hfz46_4 := d734 BK171.out 4
               have hfz46_5 := d734 BK171.out 5
               have hfz46_6 := d734 BK171.out 6
               go_wp2
               go_ret
               exact ⟨by first | rfl | (simp [errW_none, errW_some] <;> rfl) | (simp [*, errW_none, errW_some] <;> rfl), by repeat (first | (with_reducible first | exact HB.out | apply below_alloc | apply pw_below_drewN | apply below_drew1 | refine d434 ?_ GE171.out) | exact HB.out)⟩

end Go.Proofs.Ytdlgfjefbjkdaaa.A
