-- Laid by pr.py, a program of this session, out of the translation. Not trusted: Lean checks it.
import Derived.Test.YtdlgfjefbjkdaaaAx0
import Derived.Test.YtdlgfjefbjkdaaaAxEqA32
namespace Go.Proofs.Ytdlgfjefbjkdaaa.A
open Go.RowKit Go.Proofs.YtdlgfjefbjkdaaaW.PrintWords Go.Proofs.YtdlgfjefbjkdaaaW.PrintLast Go.Proofs.YtdlgfjefbjkdaaaW.PrintMore
attribute [local go_sem] max2_int min2_int max_two min_two max_three min_three max_four min_four   -- for this text's walks alone
set_option linter.unusedVariables false
set_option linter.unusedSimpArgs false

attribute [local go_sem high] eqA32
theorem mk0_20 {p : Prop} (h : p) : Aside0 p := ⟨h⟩
theorem d120 : type_of% @blk_drewN := @blk_drewN
theorem d220 : type_of% @blk_drew := @blk_drew
theorem d320 : type_of% @blk_alloc := @blk_alloc
theorem d420 : type_of% @below_set := @below_set
theorem d520 : type_of% @blk_far := @blk_far
theorem d620 : type_of% @blk_cell := @blk_cell
theorem d720 : type_of% @blk_frozen := @blk_frozen
/-! ### flyleafref08_Same: function 20 -/
def flyleafref08_Same.l0 : Nat → Int → Int → Int → List (S32) → Int → Int → List (S32) → Option (Bool)
 | 0, _, _, _, _, _, _, _ => none
 | k + 1, x5, x219000, x219001, x219002, x220000, x220001, x220002 => if x5 < (x219002.length : Int) then (if 0 ≤ x5 then (if x5 < (x220002.length : Int) then (if (!(((rd_T32 x219002 x5).f0) == ((rd_T32 x220002 x5).f0)) || (!(((rd_T32 x219002 x5).f1) == ((rd_T32 x220002 x5).f1)) || (!(((rd_T32 x219002 x5).f2) == ((rd_T32 x220002 x5).f2)) || (!(((rd_T32 x219002 x5).f3) == ((rd_T32 x220002 x5).f3)) || (!(((rd_T32 x219002 x5).f4) == ((rd_T32 x220002 x5).f4)) || (!(((rd_T32 x219002 x5).f5) == ((rd_T32 x220002 x5).f5)) || (!(((rd_T32 x219002 x5).f6) == ((rd_T32 x220002 x5).f6))))))))) = true then (some false) else (flyleafref08_Same.l0 k (wrap64 (x5 + 1)) x219000 x219001 x219002 x220000 x220001 x220002)) else (none)) else (none)) else (if x219000 = x220000 then (some (x219001 == x220001)) else (some false))
def flyleafref08_Same.f (k : Nat) (a0_0 : Int) (a0_1 : Int) (l0_2 : List (S32)) (a1_0 : Int) (a1_1 : Int) (l1_2 : List (S32)) : Option (Bool) := if (l0_2.length : Int) = (l1_2.length : Int) then (flyleafref08_Same.l0 k 0 a0_0 a0_1 l0_2 a1_0 a1_1 l1_2) else (some false)
theorem flyleafref08_Same.mono_l : ∀ k, (∀ y0 y1 y2 y3 y4 y5 y6, LeO (flyleafref08_Same.l0 k y0 y1 y2 y3 y4 y5 y6) (flyleafref08_Same.l0 (k + 1) y0 y1 y2 y3 y4 y5 y6))
 | 0 => fun _ _ _ _ _ _ _ r h => by simp [flyleafref08_Same.l0] at h
 | k + 1 => by
  have ih0 := flyleafref08_Same.mono_l k
  ·intro y0 y1 y2 y3 y4 y5 y6
   unfold flyleafref08_Same.l0
   repeat' first
   | (with_reducible exact ih0 _ _ _ _ _ _ _)
   | (with_reducible exact LeO.refl _)
   | (with_reducible exact LeO.none _)
   | (with_reducible refine LeO.ite ?_ ?_)
   | (with_reducible refine LeO.bind ?_ (fun _ => ?_))
   | exact ih0 _ _ _ _ _ _ _
   | exact LeO.none _
   | refine LeO.ite ?_ ?_
   | refine LeO.bind ?_ (fun _ => ?_)
theorem flyleafref08_Same.mono : ∀ a0 a1 a2 a3 a4 a5 k, LeO (flyleafref08_Same.f k a0 a1 a2 a3 a4 a5) (flyleafref08_Same.f (k + 1) a0 a1 a2 a3 a4 a5) := by
 intro a0 a1 a2 a3 a4 a5 k
 have ih0 := flyleafref08_Same.mono_l k
 unfold flyleafref08_Same.f
 repeat' first
   | (with_reducible exact ih0 _ _ _ _ _ _ _)
   | (with_reducible exact LeO.refl _)
   | (with_reducible exact LeO.none _)
   | (with_reducible refine LeO.ite ?_ ?_)
   | (with_reducible refine LeO.bind ?_ (fun _ => ?_))
   | exact ih0 _ _ _ _ _ _ _
   | exact LeO.none _
   | refine LeO.ite ?_ ?_
   | refine LeO.bind ?_ (fun _ => ?_)
set_option maxHeartbeats 8000000 in
set_option maxRecDepth 100000 in
theorem flyleafref08_Same.calls (k : Nat) (a0_0 : Int) (a0_1 : Int) (A0_2 : Option Addr) (c0_2 : Nat) (l0_2 : List (S32)) (a1_0 : Int) (a1_1 : Int) (A1_2 : Option Addr) (c1_2 : Nat) (l1_2 : List (S32)) (r : Bool) (w : World) (hr0_2 : Kd.C k32 w A0_2 l0_2.length l0_2) (hc0_2 : l0_2.length ≤ c0_2) (hr1_2 : Kd.C k32 w A1_2 l1_2.length l1_2) (hc1_2 : l1_2.length ≤ c1_2) (h : flyleafref08_Same.f k a0_0 a0_1 l0_2 a1_0 a1_1 l1_2 = some r) :
  Calls Try.prog 20 #[.agg #[.int .i64 a0_0, .int .i64 a0_1, .slice A0_2 l0_2.length c0_2], .agg #[.int .i64 a1_0, .int .i64 a1_1, .slice A1_2 l1_2.length c1_2]] w fun e w' => e = .returned (.bool r) ∧ Below w.heap.size w w' := by
 have hu28 := Try.underlying28
 have hu32 := Try.underlying32
 have HR0_2 := Aside0.mk hr0_2
 have HC0_2 := Aside0.mk hc0_2
 clear hr0_2 hc0_2
 have HR1_2 := Aside0.mk hr1_2
 have HC1_2 := Aside0.mk hc1_2
 clear hr1_2 hc1_2
 have HB := mk0_20 (Below.refl w.heap.size w)
 have H : (if (l0_2.length : Int) = (l1_2.length : Int) then (flyleafref08_Same.l0 k 0 a0_0 a0_1 l0_2 a1_0 a1_1 l1_2) else (some false)) = some r := h
 clear h
 by_cases c3 : (l0_2.length : Int) = (l1_2.length : Int)
 ·rw [if_pos c3] at H
  have c3b0 : ((l0_2.length : Int) == (l1_2.length : Int)) = true := beq_iff_eq.mpr c3
  have c3b1 : ((l0_2.length : Int) != (l1_2.length : Int)) = false := bne_eq_false_iff_eq.mpr c3
  have c3b2 : (l0_2.length == l1_2.length) = true := by first | simpa using c3 | (simp at c3 ⊢; omega)
  clear c3
  have H' := Aside0.mk H
  clear H
  go_enter Try.func20, Try.ntmps20
  go_wp2_with (first | ((with_reducible refine gate_dst (N := 2) rfl ?_); refine box_event ?hg (N := 2) ?hd (cs := #[.int .i64 a0_0, .int .i64 a0_1, .slice A0_2 l0_2.length c0_2]) (t := 28) ?hr ?_; (case hd => rfl); (case hg => rfl); (case hr => first | (go_simp; done) | (go_simp; rfl)); intro gb218 hg w4 hbox hb; have n0_ := mk0_20 (below_step (by repeat (first | (with_reducible first | exact HB.out | apply below_alloc | apply pw_below_drewN | apply below_drew1) | exact HB.out)) hb); have n1_ := mk0_20 (hbox); have n2_ := mk0_20 ((by rw [hg]; exact (below_size (by repeat (first | (with_reducible first | exact HB.out | apply below_alloc | apply pw_below_drewN | apply below_drew1) | exact HB.out))) : w.heap.size ≤ gb218)); have n3_ := mk0_20 ((by rw [hg]; exact (below_size (by repeat (first | (with_reducible first | exact HB.out | apply below_alloc | apply pw_below_drewN | apply below_drew1) | exact HB.out))) : w.heap.size ≤ gb218)); clear HB; have HB := n0_; have BK218 := n1_; have GW218 := n2_; have GE218 := n3_; clear n0_ n1_ n2_ n3_; clear hb hbox hg) | ((with_reducible refine gate_dst (N := 3) rfl ?_); refine box_event ?hg (N := 3) ?hd (cs := #[.int .i64 a1_0, .int .i64 a1_1, .slice A1_2 l1_2.length c1_2]) (t := 28) ?hr ?_; (case hd => rfl); (case hg => rfl); (case hr => first | (go_simp; done) | (go_simp; rfl)); intro gb219 hg w5 hbox hb; have n0_ := mk0_20 (blk_below (g := gb218) (o := .cells #[.int .i64 a0_0, .int .i64 a0_1, .slice A0_2 l0_2.length c0_2] 28 (0, 0)) (by (with_reducible repeat (first | refine d120 ?_ _ | refine d220 ?_ | refine d320 ?_ _)); exact BK218.out) hb); have n1_ := mk0_20 (below_step (by repeat (first | (with_reducible first | exact HB.out | apply below_alloc | apply pw_below_drewN | apply below_drew1 | refine d420 ?_ GE218.out) | exact HB.out)) hb); have n2_ := mk0_20 (hbox); have n3_ := mk0_20 ((by rw [hg]; exact (below_size (by repeat (first | (with_reducible first | exact HB.out | apply below_alloc | apply pw_below_drewN | apply below_drew1 | refine d420 ?_ GE218.out) | exact HB.out))) : w.heap.size ≤ gb219)); have n4_ := mk0_20 ((by rw [hg]; exact (below_size (by repeat (first | (with_reducible first | exact HB.out | apply below_alloc | apply pw_below_drewN | apply below_drew1 | refine d420 ?_ GE218.out) | exact HB.out))) : w.heap.size ≤ gb219)); have n5_ := mk0_20 ((by rw [hg]; exact Nat.ne_of_lt (blk_lt (g := gb218) (o := .cells #[.int .i64 a0_0, .int .i64 a0_1, .slice A0_2 l0_2.length c0_2] 28 (0, 0)) (by (with_reducible repeat (first | refine d120 ?_ _ | refine d220 ?_ | refine d320 ?_ _)); exact BK218.out)) : gb218 ≠ gb219)); have n6_ := mk0_20 ((by rw [hg]; exact Nat.ne_of_gt (blk_lt (g := gb218) (o := .cells #[.int .i64 a0_0, .int .i64 a0_1, .slice A0_2 l0_2.length c0_2] 28 (0, 0)) (by (with_reducible repeat (first | refine d120 ?_ _ | refine d220 ?_ | refine d320 ?_ _)); exact BK218.out)) : gb219 ≠ gb218)); clear BK218; clear HB; have BK218 := n0_; have HB := n1_; have BK219 := n2_; have GW219 := n3_; have GE219 := n4_; have NB218_219 := n5_; have NB219_218 := n6_; clear n0_ n1_ n2_ n3_ n4_ n5_ n6_; clear hb hbox hg; have hnb6 := NB218_219.out; have hnc6 := NB219_218.out; have hcz7_0 : w5.cell? ⟨gb218, 0, none⟩ = some (.int .i64 a0_0) := (d620 BK218.out 0).trans rfl; have hcz7_1 : w5.cell? ⟨gb218, 1, none⟩ = some (.int .i64 a0_1) := (d620 BK218.out 1).trans rfl; have hcz7_2 : w5.cell? ⟨gb218, 2, none⟩ = some (.slice A0_2 l0_2.length c0_2) := (d620 BK218.out 2).trans rfl; have hfz7_0 := d720 BK218.out 0; have hfz7_1 := d720 BK218.out 1; have hfz7_2 := d720 BK218.out 2; have hcz8_0 : w5.cell? ⟨gb219, 0, none⟩ = some (.int .i64 a1_0) := (d620 BK219.out 0).trans rfl; have hcz8_1 : w5.cell? ⟨gb219, 1, none⟩ = some (.int .i64 a1_1) := (d620 BK219.out 1).trans rfl; have hcz8_2 : w5.cell? ⟨gb219, 2, none⟩ = some (.slice A1_2 l1_2.length c1_2) := (d620 BK219.out 2).trans rfl; have hfz8_0 := d720 BK219.out 0; have hfz8_1 := d720 BK219.out 1; have hfz8_2 := d720 BK219.out 2))
  repeat (go_quiet (first | ((with_reducible refine gate_dst (N := 2) rfl ?_); refine box_event ?hg (N := 2) ?hd (cs := #[.int .i64 a0_0, .int .i64 a0_1, .slice A0_2 l0_2.length c0_2]) (t := 28) ?hr ?_; (case hd => rfl); (case hg => rfl); (case hr => first | (go_simp; done) | (go_simp; rfl)); intro gb218 hg w4 hbox hb; have n0_ := mk0_20 (below_step (by repeat (first | (with_reducible first | exact HB.out | apply below_alloc | apply pw_below_drewN | apply below_drew1) | exact HB.out)) hb); have n1_ := mk0_20 (hbox); have n2_ := mk0_20 ((by rw [hg]; exact (below_size (by repeat (first | (with_reducible first | exact HB.out | apply below_alloc | apply pw_below_drewN | apply below_drew1) | exact HB.out))) : w.heap.size ≤ gb218)); have n3_ := mk0_20 ((by rw [hg]; exact (below_size (by repeat (first | (with_reducible first | exact HB.out | apply below_alloc | apply pw_below_drewN | apply below_drew1) | exact HB.out))) : w.heap.size ≤ gb218)); clear HB; have HB := n0_; have BK218 := n1_; have GW218 := n2_; have GE218 := n3_; clear n0_ n1_ n2_ n3_; clear hb hbox hg) | ((with_reducible refine gate_dst (N := 3) rfl ?_); refine box_event ?hg (N := 3) ?hd (cs := #[.int .i64 a1_0, .int .i64 a1_1, .slice A1_2 l1_2.length c1_2]) (t := 28) ?hr ?_; (case hd => rfl); (case hg => rfl); (case hr => first | (go_simp; done) | (go_simp; rfl)); intro gb219 hg w5 hbox hb; have n0_ := mk0_20 (blk_below (g := gb218) (o := .cells #[.int .i64 a0_0, .int .i64 a0_1, .slice A0_2 l0_2.length c0_2] 28 (0, 0)) (by (with_reducible repeat (first | refine d120 ?_ _ | refine d220 ?_ | refine d320 ?_ _)); exact BK218.out) hb); have n1_ := mk0_20 (below_step (by repeat (first | (with_reducible first | exact HB.out | apply below_alloc | apply pw_below_drewN | apply below_drew1 | refine d420 ?_ GE218.out) | exact HB.out)) hb); have n2_ := mk0_20 (hbox); have n3_ := mk0_20 ((by rw [hg]; exact (below_size (by repeat (first | (with_reducible first | exact HB.out | apply below_alloc | apply pw_below_drewN | apply below_drew1 | refine d420 ?_ GE218.out) | exact HB.out))) : w.heap.size ≤ gb219)); have n4_ := mk0_20 ((by rw [hg]; exact (below_size (by repeat (first | (with_reducible first | exact HB.out | apply below_alloc | apply pw_below_drewN | apply below_drew1 | refine d420 ?_ GE218.out) | exact HB.out))) : w.heap.size ≤ gb219)); have n5_ := mk0_20 ((by rw [hg]; exact Nat.ne_of_lt (blk_lt (g := gb218) (o := .cells #[.int .i64 a0_0, .int .i64 a0_1, .slice A0_2 l0_2.length c0_2] 28 (0, 0)) (by (with_reducible repeat (first | refine d120 ?_ _ | refine d220 ?_ | refine d320 ?_ _)); exact BK218.out)) : gb218 ≠ gb219)); have n6_ := mk0_20 ((by rw [hg]; exact Nat.ne_of_gt (blk_lt (g := gb218) (o := .cells #[.int .i64 a0_0, .int .i64 a0_1, .slice A0_2 l0_2.length c0_2] 28 (0, 0)) (by (with_reducible repeat (first | refine d120 ?_ _ | refine d220 ?_ | refine d320 ?_ _)); exact BK218.out)) : gb219 ≠ gb218)); clear BK218; clear HB; have BK218 := n0_; have HB := n1_; have BK219 := n2_; have GW219 := n3_; have GE219 := n4_; have NB218_219 := n5_; have NB219_218 := n6_; clear n0_ n1_ n2_ n3_ n4_ n5_ n6_; clear hb hbox hg; have hnb6 := NB218_219.out; have hnc6 := NB219_218.out; have hcz7_0 : w5.cell? ⟨gb218, 0, none⟩ = some (.int .i64 a0_0) := (d620 BK218.out 0).trans rfl; have hcz7_1 : w5.cell? ⟨gb218, 1, none⟩ = some (.int .i64 a0_1) := (d620 BK218.out 1).trans rfl; have hcz7_2 : w5.cell? ⟨gb218, 2, none⟩ = some (.slice A0_2 l0_2.length c0_2) := (d620 BK218.out 2).trans rfl; have hfz7_0 := d720 BK218.out 0; have hfz7_1 := d720 BK218.out 1; have hfz7_2 := d720 BK218.out 2; have hcz8_0 : w5.cell? ⟨gb219, 0, none⟩ = some (.int .i64 a1_0) := (d620 BK219.out 0).trans rfl; have hcz8_1 : w5.cell? ⟨gb219, 1, none⟩ = some (.int .i64 a1_1) := (d620 BK219.out 1).trans rfl; have hcz8_2 : w5.cell? ⟨gb219, 2, none⟩ = some (.slice A1_2 l1_2.length c1_2) := (d620 BK219.out 2).trans rfl; have hfz8_0 := d720 BK219.out 0; have hfz8_1 := d720 BK219.out 1; have hfz8_2 := d720 BK219.out 2)); try go_wp2_with (first | ((with_reducible refine gate_dst (N := 2) rfl ?_); refine box_event ?hg (N := 2) ?hd (cs := #[.int .i64 a0_0, .int .i64 a0_1, .slice A0_2 l0_2.length c0_2]) (t := 28) ?hr ?_; (case hd => rfl); (case hg => rfl); (case hr => first | (go_simp; done) | (go_simp; rfl)); intro gb218 hg w4 hbox hb; have n0_ := mk0_20 (below_step (by repeat (first | (with_reducible first | exact HB.out | apply below_alloc | apply pw_below_drewN | apply below_drew1) | exact HB.out)) hb); have n1_ := mk0_20 (hbox); have n2_ := mk0_20 ((by rw [hg]; exact (below_size (by repeat (first | (with_reducible first | exact HB.out | apply below_alloc | apply pw_below_drewN | apply below_drew1) | exact HB.out))) : w.heap.size ≤ gb218)); have n3_ := mk0_20 ((by rw [hg]; exact (below_size (by repeat (first | (with_reducible first | exact HB.out | apply below_alloc | apply pw_below_drewN | apply below_drew1) | exact HB.out))) : w.heap.size ≤ gb218)); clear HB; have HB := n0_; have BK218 := n1_; have GW218 := n2_; have GE218 := n3_; clear n0_ n1_ n2_ n3_; clear hb hbox hg) | ((with_reducible refine gate_dst (N := 3) rfl ?_); refine box_event ?hg (N := 3) ?hd (cs := #[.int .i64 a1_0, .int .i64 a1_1, .slice A1_2 l1_2.length c1_2]) (t := 28) ?hr ?_; (case hd => rfl); (case hg => rfl); (case hr => first | (go_simp; done) | (go_simp; rfl)); intro gb219 hg w5 hbox hb; have n0_ := mk0_20 (blk_below (g := gb218) (o := .cells #[.int .i64 a0_0, .int .i64 a0_1, .slice A0_2 l0_2.length c0_2] 28 (0, 0)) (by (with_reducible repeat (first | refine d120 ?_ _ | refine d220 ?_ | refine d320 ?_ _)); exact BK218.out) hb); have n1_ := mk0_20 (below_step (by repeat (first | (with_reducible first | exact HB.out | apply below_alloc | apply pw_below_drewN | apply below_drew1 | refine d420 ?_ GE218.out) | exact HB.out)) hb); have n2_ := mk0_20 (hbox); have n3_ := mk0_20 ((by rw [hg]; exact (below_size (by repeat (first | (with_reducible first | exact HB.out | apply below_alloc | apply pw_below_drewN | apply below_drew1 | refine d420 ?_ GE218.out) | exact HB.out))) : w.heap.size ≤ gb219)); have n4_ := mk0_20 ((by rw [hg]; exact (below_size (by repeat (first | (with_reducible first | exact HB.out | apply below_alloc | apply pw_below_drewN | apply below_drew1 | refine d420 ?_ GE218.out) | exact HB.out))) : w.heap.size ≤ gb219)); have n5_ := mk0_20 ((by rw [hg]; exact Nat.ne_of_lt (blk_lt (g := gb218) (o := .cells #[.int .i64 a0_0, .int .i64 a0_1, .slice A0_2 l0_2.length c0_2] 28 (0, 0)) (by (with_reducible repeat (first | refine d120 ?_ _ | refine d220 ?_ | refine d320 ?_ _)); exact BK218.out)) : gb218 ≠ gb219)); have n6_ := mk0_20 ((by rw [hg]; exact Nat.ne_of_gt (blk_lt (g := gb218) (o := .cells #[.int .i64 a0_0, .int .i64 a0_1, .slice A0_2 l0_2.length c0_2] 28 (0, 0)) (by (with_reducible repeat (first | refine d120 ?_ _ | refine d220 ?_ | refine d320 ?_ _)); exact BK218.out)) : gb219 ≠ gb218)); clear BK218; clear HB; have BK218 := n0_; have HB := n1_; have BK219 := n2_; have GW219 := n3_; have GE219 := n4_; have NB218_219 := n5_; have NB219_218 := n6_; clear n0_ n1_ n2_ n3_ n4_ n5_ n6_; clear hb hbox hg; have hnb6 := NB218_219.out; have hnc6 := NB219_218.out; have hcz7_0 : w5.cell? ⟨gb218, 0, none⟩ = some (.int .i64 a0_0) := (d620 BK218.out 0).trans rfl; have hcz7_1 : w5.cell? ⟨gb218, 1, none⟩ = some (.int .i64 a0_1) := (d620 BK218.out 1).trans rfl; have hcz7_2 : w5.cell? ⟨gb218, 2, none⟩ = some (.slice A0_2 l0_2.length c0_2) := (d620 BK218.out 2).trans rfl; have hfz7_0 := d720 BK218.out 0; have hfz7_1 := d720 BK218.out 1; have hfz7_2 := d720 BK218.out 2; have hcz8_0 : w5.cell? ⟨gb219, 0, none⟩ = some (.int .i64 a1_0) := (d620 BK219.out 0).trans rfl; have hcz8_1 : w5.cell? ⟨gb219, 1, none⟩ = some (.int .i64 a1_1) := (d620 BK219.out 1).trans rfl; have hcz8_2 : w5.cell? ⟨gb219, 2, none⟩ = some (.slice A1_2 l1_2.length c1_2) := (d620 BK219.out 2).trans rfl; have hfz8_0 := d720 BK219.out 0; have hfz8_1 := d720 BK219.out 1; have hfz8_2 := d720 BK219.out 2)))
  go_loopg [5] k (fun kq v5 w' => ∃ (x5_1 : Int), v5 = .int .i64 x5_1 ∧ Aside0 (flyleafref08_Same.l0 kq x5_1 a0_0 a0_1 l0_2 a1_0 a1_1 l1_2 = some r) ∧ Aside0 (kq ≤ k) ∧ Aside0 (w'.heap[gb218]? = some (.cells #[.int .i64 a0_0, .int .i64 a0_1, (.slice A0_2 l0_2.length c0_2)] 28 (0, 0))) ∧ Aside0 (w'.heap[gb219]? = some (.cells #[.int .i64 a1_0, .int .i64 a1_1, (.slice A1_2 l1_2.length c1_2)] 28 (0, 0))) ∧ Aside0 (Below w.heap.size w w'))
  case atStart => exact ⟨(0), (by first | rfl | (simp; done) | (simp [*]; done)), H', ⟨Nat.le_refl _⟩, ⟨by (with_reducible repeat (first | refine d120 ?_ _ | refine d220 ?_ | refine d320 ?_ _)); exact BK218.out⟩, ⟨by (with_reducible repeat (first | refine d120 ?_ _ | refine d220 ?_ | refine d320 ?_ _)); exact BK219.out⟩, ⟨by repeat (first | (with_reducible first | exact HB.out | apply below_alloc | apply pw_below_drewN | apply below_drew1 | refine d420 ?_ GE218.out | refine d420 ?_ GE219.out) | exact HB.out)⟩⟩
  case round =>
   clear H'
   try clear c1
   try clear c2
   try clear p2
   try clear c3
   try clear c3b0
   try clear c3b1
   try clear c3b2
   try clear c6
   try clear hcz7_0
   try clear hcz7_1
   try clear hcz7_2
   try clear hcz8_0
   try clear hcz8_1
   try clear hcz8_2
   try clear hfz7_0
   try clear hfz7_1
   try clear hfz7_2
   try clear hfz8_0
   try clear hfz8_1
   try clear hfz8_2
   obtain ⟨x5_1, rfl, HA, HK1, BK218, BK219, HB⟩ := hrel
   cases gk with
   | zero => exact absurd HA.out (by simp [flyleafref08_Same.l0])
   | succ k1 =>
    have H := HA.out
    clear HA
    simp only [flyleafref08_Same.l0] at H
    by_cases c9 : x5_1 < (l0_2.length : Int)
    ·rw [if_pos c9] at H
     have c9b0 : decide (x5_1 < (l0_2.length : Int)) = true := decide_eq_true c9
     clear c9
     by_cases c10 : 0 ≤ x5_1
     ·rw [if_pos c10] at H
      have c10b0 : decide (0 ≤ x5_1) = true := decide_eq_true c10
      clear c10
      by_cases c11 : x5_1 < (l1_2.length : Int)
      ·rw [if_pos c11] at H
       have c11b0 : decide (x5_1 < (l1_2.length : Int)) = true := decide_eq_true c11
       clear c11
       by_cases c12 : (!(((rd_T32 l0_2 x5_1).f0) == ((rd_T32 l1_2 x5_1).f0)) || (!(((rd_T32 l0_2 x5_1).f1) == ((rd_T32 l1_2 x5_1).f1)) || (!(((rd_T32 l0_2 x5_1).f2) == ((rd_T32 l1_2 x5_1).f2)) || (!(((rd_T32 l0_2 x5_1).f3) == ((rd_T32 l1_2 x5_1).f3)) || (!(((rd_T32 l0_2 x5_1).f4) == ((rd_T32 l1_2 x5_1).f4)) || (!(((rd_T32 l0_2 x5_1).f5) == ((rd_T32 l1_2 x5_1).f5)) || (!(((rd_T32 l0_2 x5_1).f6) == ((rd_T32 l1_2 x5_1).f6))))))))) = true
       ·rw [if_pos c12] at H
        have c12b0 : (!(((rd_T32 l0_2 x5_1).f0) == ((rd_T32 l1_2 x5_1).f0)) || (!(((rd_T32 l0_2 x5_1).f1) == ((rd_T32 l1_2 x5_1).f1)) || (!(((rd_T32 l0_2 x5_1).f2) == ((rd_T32 l1_2 x5_1).f2)) || (!(((rd_T32 l0_2 x5_1).f3) == ((rd_T32 l1_2 x5_1).f3)) || (!(((rd_T32 l0_2 x5_1).f4) == ((rd_T32 l1_2 x5_1).f4)) || (!(((rd_T32 l0_2 x5_1).f5) == ((rd_T32 l1_2 x5_1).f5)) || (!(((rd_T32 l0_2 x5_1).f6) == ((rd_T32 l1_2 x5_1).f6))))))))) = true := c12
        clear c12
        obtain rfl := Option.some.inj H
        have hnb13 := NB218_219.out
        have hnc13 := NB219_218.out
        have hcz14_0 : wr.cell? ⟨gb218, 0, none⟩ = some (.int .i64 a0_0) := (d620 BK218.out 0).trans rfl
        have hcz14_1 : wr.cell? ⟨gb218, 1, none⟩ = some (.int .i64 a0_1) := (d620 BK218.out 1).trans rfl
        have hcz14_2 : wr.cell? ⟨gb218, 2, none⟩ = some (.slice A0_2 l0_2.length c0_2) := (d620 BK218.out 2).trans rfl
        have hfz14_0 := d720 BK218.out 0
        have hfz14_1 := d720 BK218.out 1
        have hfz14_2 := d720 BK218.out 2
        have p220 : 0 ≤ (x5_1 : Int) := of_decide_eq_true (by first | (with_reducible assumption) | assumption)
        have q220 : x5_1 < (l0_2.length : Int) := of_decide_eq_true (by first | (with_reducible assumption) | assumption)
        obtain ⟨ad220, e220, hx220_0, hx220_1, hx220_2, hx220_3, hx220_4, hx220_5, hx220_6⟩ := at_T32 HR0_2.out x5_1 p220 q220
        cases e220
        replace hx220_0 := (HB.out.cell (World.block_lt_of_cell? w _ hx220_0)).trans hx220_0
        replace hx220_1 := (HB.out.cell (World.block_lt_of_cell? w _ hx220_1)).trans hx220_1
        replace hx220_2 := (HB.out.cell (World.block_lt_of_cell? w _ hx220_2)).trans hx220_2
        replace hx220_3 := (HB.out.cell (World.block_lt_of_cell? w _ hx220_3)).trans hx220_3
        replace hx220_4 := (HB.out.cell (World.block_lt_of_cell? w _ hx220_4)).trans hx220_4
        replace hx220_5 := (HB.out.cell (World.block_lt_of_cell? w _ hx220_5)).trans hx220_5
        replace hx220_6 := (HB.out.cell (World.block_lt_of_cell? w _ hx220_6)).trans hx220_6
        replace p220 := eq_true p220
        replace q220 := eq_true q220
        have hcz15_0 : wr.cell? ⟨gb219, 0, none⟩ = some (.int .i64 a1_0) := (d620 BK219.out 0).trans rfl
        have hcz15_1 : wr.cell? ⟨gb219, 1, none⟩ = some (.int .i64 a1_1) := (d620 BK219.out 1).trans rfl
        have hcz15_2 : wr.cell? ⟨gb219, 2, none⟩ = some (.slice A1_2 l1_2.length c1_2) := (d620 BK219.out 2).trans rfl
        have hfz15_0 := d720 BK219.out 0
        have hfz15_1 := d720 BK219.out 1
        have hfz15_2 := d720 BK219.out 2
        have p221 : 0 ≤ (x5_1 : Int) := of_decide_eq_true (by first | (with_reducible assumption) | assumption)
        have q221 : x5_1 < (l1_2.length : Int) := of_decide_eq_true (by first | (with_reducible assumption) | assumption)
        obtain ⟨ad221, e221, hx221_0, hx221_1, hx221_2, hx221_3, hx221_4, hx221_5, hx221_6⟩ := at_T32 HR1_2.out x5_1 p221 q221
        cases e221
        replace hx221_0 := (HB.out.cell (World.block_lt_of_cell? w _ hx221_0)).trans hx221_0
        replace hx221_1 := (HB.out.cell (World.block_lt_of_cell? w _ hx221_1)).trans hx221_1
        replace hx221_2 := (HB.out.cell (World.block_lt_of_cell? w _ hx221_2)).trans hx221_2
        replace hx221_3 := (HB.out.cell (World.block_lt_of_cell? w _ hx221_3)).trans hx221_3
        replace hx221_4 := (HB.out.cell (World.block_lt_of_cell? w _ hx221_4)).trans hx221_4
        replace hx221_5 := (HB.out.cell (World.block_lt_of_cell? w _ hx221_5)).trans hx221_5
        replace hx221_6 := (HB.out.cell (World.block_lt_of_cell? w _ hx221_6)).trans hx221_6
        replace p221 := eq_true p221
        replace q221 := eq_true q221
        go_wp2
        repeat (go_quiet (fail); try go_wp2)
        go_ret
        exact ⟨by first | rfl | (simp [errW_none, errW_some] <;> rfl) | (simp [*, errW_none, errW_some] <;> rfl), by repeat (first | (with_reducible first | exact HB.out | apply below_alloc | apply pw_below_drewN | apply below_drew1 | refine d420 ?_ GE218.out | refine d420 ?_ GE219.out) | exact HB.out)⟩
       ·rw [if_neg c12] at H
        have c12b0 : (!(((rd_T32 l0_2 x5_1).f0) == ((rd_T32 l1_2 x5_1).f0)) || (!(((rd_T32 l0_2 x5_1).f1) == ((rd_T32 l1_2 x5_1).f1)) || (!(((rd_T32 l0_2 x5_1).f2) == ((rd_T32 l1_2 x5_1).f2)) || (!(((rd_T32 l0_2 x5_1).f3) == ((rd_T32 l1_2 x5_1).f3)) || (!(((rd_T32 l0_2 x5_1).f4) == ((rd_T32 l1_2 x5_1).f4)) || (!(((rd_T32 l0_2 x5_1).f5) == ((rd_T32 l1_2 x5_1).f5)) || (!(((rd_T32 l0_2 x5_1).f6) == ((rd_T32 l1_2 x5_1).f6))))))))) = false := by simpa using c12
        clear c12
        have H' := Aside0.mk H
        clear H
        have hnb16 := NB218_219.out
        have hnc16 := NB219_218.out
        have hcz17_0 : wr.cell? ⟨gb218, 0, none⟩ = some (.int .i64 a0_0) := (d620 BK218.out 0).trans rfl
        have hcz17_1 : wr.cell? ⟨gb218, 1, none⟩ = some (.int .i64 a0_1) := (d620 BK218.out 1).trans rfl
        have hcz17_2 : wr.cell? ⟨gb218, 2, none⟩ = some (.slice A0_2 l0_2.length c0_2) := (d620 BK218.out 2).trans rfl
        have hfz17_0 := d720 BK218.out 0
        have hfz17_1 := d720 BK218.out 1
        have hfz17_2 := d720 BK218.out 2
        have p220 : 0 ≤ (x5_1 : Int) := of_decide_eq_true (by first | (with_reducible assumption) | assumption)
        have q220 : x5_1 < (l0_2.length : Int) := of_decide_eq_true (by first | (with_reducible assumption) | assumption)
        obtain ⟨ad220, e220, hx220_0, hx220_1, hx220_2, hx220_3, hx220_4, hx220_5, hx220_6⟩ := at_T32 HR0_2.out x5_1 p220 q220
        cases e220
        replace hx220_0 := (HB.out.cell (World.block_lt_of_cell? w _ hx220_0)).trans hx220_0
        replace hx220_1 := (HB.out.cell (World.block_lt_of_cell? w _ hx220_1)).trans hx220_1
        replace hx220_2 := (HB.out.cell (World.block_lt_of_cell? w _ hx220_2)).trans hx220_2
        replace hx220_3 := (HB.out.cell (World.block_lt_of_cell? w _ hx220_3)).trans hx220_3
        replace hx220_4 := (HB.out.cell (World.block_lt_of_cell? w _ hx220_4)).trans hx220_4
        replace hx220_5 := (HB.out.cell (World.block_lt_of_cell? w _ hx220_5)).trans hx220_5
        replace hx220_6 := (HB.out.cell (World.block_lt_of_cell? w _ hx220_6)).trans hx220_6
        replace p220 := eq_true p220
        replace q220 := eq_true q220
        have hcz18_0 : wr.cell? ⟨gb219, 0, none⟩ = some (.int .i64 a1_0) := (d620 BK219.out 0).trans rfl
        have hcz18_1 : wr.cell? ⟨gb219, 1, none⟩ = some (.int .i64 a1_1) := (d620 BK219.out 1).trans rfl
        have hcz18_2 : wr.cell? ⟨gb219, 2, none⟩ = some (.slice A1_2 l1_2.length c1_2) := (d620 BK219.out 2).trans rfl
        have hfz18_0 := d720 BK219.out 0
        have hfz18_1 := d720 BK219.out 1
        have hfz18_2 := d720 BK219.out 2
        have p221 : 0 ≤ (x5_1 : Int) := of_decide_eq_true (by first | (with_reducible assumption) | assumption)
        have q221 : x5_1 < (l1_2.length : Int) := of_decide_eq_true (by first | (with_reducible assumption) | assumption)
        obtain ⟨ad221, e221, hx221_0, hx221_1, hx221_2, hx221_3, hx221_4, hx221_5, hx221_6⟩ := at_T32 HR1_2.out x5_1 p221 q221
        cases e221
        replace hx221_0 := (HB.out.cell (World.block_lt_of_cell? w _ hx221_0)).trans hx221_0
        replace hx221_1 := (HB.out.cell (World.block_lt_of_cell? w _ hx221_1)).trans hx221_1
        replace hx221_2 := (HB.out.cell (World.block_lt_of_cell? w _ hx221_2)).trans hx221_2
        replace hx221_3 := (HB.out.cell (World.block_lt_of_cell? w _ hx221_3)).trans hx221_3
        replace hx221_4 := (HB.out.cell (World.block_lt_of_cell? w _ hx221_4)).trans hx221_4
        replace hx221_5 := (HB.out.cell (World.block_lt_of_cell? w _ hx221_5)).trans hx221_5
        replace hx221_6 := (HB.out.cell (World.block_lt_of_cell? w _ hx221_6)).trans hx221_6
        replace p221 := eq_true p221
        replace q221 := eq_true q221
        go_wp2
        repeat (go_quiet (fail); try go_wp2)
        go_roundg k1
        case measure => have := HK1.out; omega
        case rel => exact ⟨(wrap64 (x5_1 + 1)), (by first | rfl | (simp; done) | (simp [*]; done)), H', ⟨by have := HK1.out; omega⟩, ⟨by (with_reducible repeat (first | refine d120 ?_ _ | refine d220 ?_ | refine d320 ?_ _)); exact BK218.out⟩, ⟨by (with_reducible repeat (first | refine d120 ?_ _ | refine d220 ?_ | refine d320 ?_ _)); exact BK219.out⟩, ⟨by repeat (first | (with_reducible first | exact HB.out | apply below_alloc | apply pw_below_drewN | apply below_drew1 | refine d420 ?_ GE218.out | refine d420 ?_ GE219.out) | exact HB.out)⟩⟩
      ·rw [if_neg c11] at H
       exact absurd H (by simp)
     ·rw [if_neg c10] at H
      exact absurd H (by simp)
    ·rw [if_neg c9] at H
     have c9b0 : decide (x5_1 < (l0_2.length : Int)) = false := decide_eq_false c9
     clear c9
     by_cases c19 : a0_0 = a1_0
     ·rw [if_pos c19] at H
      have c19b0 : (a0_0 == a1_0) = true := beq_iff_eq.mpr c19
      have c19b1 : (a0_0 != a1_0) = false := bne_eq_false_iff_eq.mpr c19
      clear c19
      obtain rfl := Option.some.inj H
      have hnb20 := NB218_219.out
      have hnc20 := NB219_218.out
      have hcz21_0 : wr.cell? ⟨gb218, 0, none⟩ = some (.int .i64 a0_0) := (d620 BK218.out 0).trans rfl
      have hcz21_1 : wr.cell? ⟨gb218, 1, none⟩ = some (.int .i64 a0_1) := (d620 BK218.out 1).trans rfl
      have hcz21_2 : wr.cell? ⟨gb218, 2, none⟩ = some (.slice A0_2 l0_2.length c0_2) := (d620 BK218.out 2).trans rfl
      have hfz21_0 := d720 BK218.out 0
      have hfz21_1 := d720 BK218.out 1
      have hfz21_2 := d720 BK218.out 2
      have hcz22_0 : wr.cell? ⟨gb219, 0, none⟩ = some (.int .i64 a1_0) := (d620 BK219.out 0).trans rfl
      have hcz22_1 : wr.cell? ⟨gb219, 1, none⟩ = some (.int .i64 a1_1) := (d620 BK219.out 1).trans rfl
      have hcz22_2 : wr.cell? ⟨gb219, 2, none⟩ = some (.slice A1_2 l1_2.length c1_2) := (d620 BK219.out 2).trans rfl
      have hfz22_0 := d720 BK219.out 0
      have hfz22_1 := d720 BK219.out 1
      have hfz22_2 := d720 BK219.out 2
      go_wp2
      repeat (go_quiet (fail); try go_wp2)
      go_ret
      exact ⟨by first | rfl | (simp [errW_none, errW_some] <;> rfl) | (simp [*, errW_none, errW_some] <;> rfl), by repeat (first | (with_reducible first | exact HB.out | apply below_alloc | apply pw_below_drewN | apply below_drew1 | refine d420 ?_ GE218.out | refine d420 ?_ GE219.out) | exact HB.out)⟩
     ·rw [if_neg c19] at H
      have c19b0 : (a0_0 == a1_0) = false := beq_eq_false_iff_ne.mpr c19
      have c19b1 : (a0_0 != a1_0) = true := bne_iff_ne.mpr c19
      obtain rfl := Option.some.inj H
      have hnb23 := NB218_219.out
      have hnc23 := NB219_218.out
      have hcz24_0 : wr.cell? ⟨gb218, 0, none⟩ = some (.int .i64 a0_0) := (d620 BK218.out 0).trans rfl
      have hcz24_1 : wr.cell? ⟨gb218, 1, none⟩ = some (.int .i64 a0_1) := (d620 BK218.out 1).trans rfl
      have hcz24_2 : wr.cell? ⟨gb218, 2, none⟩ = some (.slice A0_2 l0_2.length c0_2) := (d620 BK218.out 2).trans rfl
      have hfz24_0 := d720 BK218.out 0
      have hfz24_1 := d720 BK218.out 1
      have hfz24_2 := d720 BK218.out 2
      have hcz25_0 : wr.cell? ⟨gb219, 0, none⟩ = some (.int .i64 a1_0) := (d620 BK219.out 0).trans rfl
      have hcz25_1 : wr.cell? ⟨gb219, 1, none⟩ = some (.int .i64 a1_1) := (d620 BK219.out 1).trans rfl
      have hcz25_2 : wr.cell? ⟨gb219, 2, none⟩ = some (.slice A1_2 l1_2.length c1_2) := (d620 BK219.out 2).trans rfl
      have hfz25_0 := d720 BK219.out 0
      have hfz25_1 := d720 BK219.out 1
      have hfz25_2 := d720 BK219.out 2
      go_wp2
      repeat (go_quiet (fail); try go_wp2)
      go_ret
      exact ⟨by first | rfl | (simp [errW_none, errW_some] <;> rfl) | (simp [*, errW_none, errW_some] <;> rfl), by repeat (first | (with_reducible first | exact HB.out | apply below_alloc | apply pw_below_drewN | apply below_drew1 | refine d420 ?_ GE218.out | refine d420 ?_ GE219.out) | exact HB.out)⟩
 ·rw [if_neg c3] at H
  have c3b0 : ((l0_2.length : Int) == (l1_2.length : Int)) = false := beq_eq_false_iff_ne.mpr c3
  have c3b1 : ((l0_2.length : Int) != (l1_2.length : Int)) = true := bne_iff_ne.mpr c3
  have c3b2 : (l0_2.length == l1_2.length) = false := by first | simpa using c3 | (simp at c3 ⊢; omega)
  obtain rfl := Option.some.inj H
  go_enter Try.func20, Try.ntmps20
  go_wp2_with (first | ((with_reducible refine gate_dst (N := 2) rfl ?_); refine box_event ?hg (N := 2) ?hd (cs := #[.int .i64 a0_0, .int .i64 a0_1, .slice A0_2 l0_2.length c0_2]) (t := 28) ?hr ?_; (case hd => rfl); (case hg => rfl); (case hr => first | (go_simp; done) | (go_simp; rfl)); intro gb218 hg w26 hbox hb; have n0_ := mk0_20 (below_step (by repeat (first | (with_reducible first | exact HB.out | apply below_alloc | apply pw_below_drewN | apply below_drew1) | exact HB.out)) hb); have n1_ := mk0_20 (hbox); have n2_ := mk0_20 ((by rw [hg]; exact (below_size (by repeat (first | (with_reducible first | exact HB.out | apply below_alloc | apply pw_below_drewN | apply below_drew1) | exact HB.out))) : w.heap.size ≤ gb218)); have n3_ := mk0_20 ((by rw [hg]; exact (below_size (by repeat (first | (with_reducible first | exact HB.out | apply below_alloc | apply pw_below_drewN | apply below_drew1) | exact HB.out))) : w.heap.size ≤ gb218)); clear HB; have HB := n0_; have BK218 := n1_; have GW218 := n2_; have GE218 := n3_; clear n0_ n1_ n2_ n3_; clear hb hbox hg) | ((with_reducible refine gate_dst (N := 3) rfl ?_); refine box_event ?hg (N := 3) ?hd (cs := #[.int .i64 a1_0, .int .i64 a1_1, .slice A1_2 l1_2.length c1_2]) (t := 28) ?hr ?_; (case hd => rfl); (case hg => rfl); (case hr => first | (go_simp; done) | (go_simp; rfl)); intro gb219 hg w27 hbox hb; have n0_ := mk0_20 (blk_below (g := gb218) (o := .cells #[.int .i64 a0_0, .int .i64 a0_1, .slice A0_2 l0_2.length c0_2] 28 (0, 0)) (by (with_reducible repeat (first | refine d120 ?_ _ | refine d220 ?_ | refine d320 ?_ _)); exact BK218.out) hb); have n1_ := mk0_20 (below_step (by repeat (first | (with_reducible first | exact HB.out | apply below_alloc | apply pw_below_drewN | apply below_drew1 | refine d420 ?_ GE218.out) | exact HB.out)) hb); have n2_ := mk0_20 (hbox); have n3_ := mk0_20 ((by rw [hg]; exact (below_size (by repeat (first | (with_reducible first | exact HB.out | apply below_alloc | apply pw_below_drewN | apply below_drew1 | refine d420 ?_ GE218.out) | exact HB.out))) : w.heap.size ≤ gb219)); have n4_ := mk0_20 ((by rw [hg]; exact (below_size (by repeat (first | (with_reducible first | exact HB.out | apply below_alloc | apply pw_below_drewN | apply below_drew1 | refine d420 ?_ GE218.out) | exact HB.out))) : w.heap.size ≤ gb219)); have n5_ := mk0_20 ((by rw [hg]; exact Nat.ne_of_lt (blk_lt (g := gb218) (o := .cells #[.int .i64 a0_0, .int .i64 a0_1, .slice A0_2 l0_2.length c0_2] 28 (0, 0)) (by (with_reducible repeat (first | refine d120 ?_ _ | refine d220 ?_ | refine d320 ?_ _)); exact BK218.out)) : gb218 ≠ gb219)); have n6_ := mk0_20 ((by rw [hg]; exact Nat.ne_of_gt (blk_lt (g := gb218) (o := .cells #[.int .i64 a0_0, .int .i64 a0_1, .slice A0_2 l0_2.length c0_2] 28 (0, 0)) (by (with_reducible repeat (first | refine d120 ?_ _ | refine d220 ?_ | refine d320 ?_ _)); exact BK218.out)) : gb219 ≠ gb218)); clear BK218; clear HB; have BK218 := n0_; have HB := n1_; have BK219 := n2_; have GW219 := n3_; have GE219 := n4_; have NB218_219 := n5_; have NB219_218 := n6_; clear n0_ n1_ n2_ n3_ n4_ n5_ n6_; clear hb hbox hg; have hnb28 := NB218_219.out; have hnc28 := NB219_218.out; have hcz29_0 : w27.cell? ⟨gb218, 0, none⟩ = some (.int .i64 a0_0) := (d620 BK218.out 0).trans rfl; have hcz29_1 : w27.cell? ⟨gb218, 1, none⟩ = some (.int .i64 a0_1) := (d620 BK218.out 1).trans rfl; have hcz29_2 : w27.cell? ⟨gb218, 2, none⟩ = some (.slice A0_2 l0_2.length c0_2) := (d620 BK218.out 2).trans rfl; have hfz29_0 := d720 BK218.out 0; have hfz29_1 := d720 BK218.out 1; have hfz29_2 := d720 BK218.out 2; have hcz30_0 : w27.cell? ⟨gb219, 0, none⟩ = some (.int .i64 a1_0) := (d620 BK219.out 0).trans rfl; have hcz30_1 : w27.cell? ⟨gb219, 1, none⟩ = some (.int .i64 a1_1) := (d620 BK219.out 1).trans rfl; have hcz30_2 : w27.cell? ⟨gb219, 2, none⟩ = some (.slice A1_2 l1_2.length c1_2) := (d620 BK219.out 2).trans rfl; have hfz30_0 := d720 BK219.out 0; have hfz30_1 := d720 BK219.out 1; have hfz30_2 := d720 BK219.out 2))
  repeat (go_quiet (first | ((with_reducible refine gate_dst (N := 2) rfl ?_); refine box_event ?hg (N := 2) ?hd (cs := #[.int .i64 a0_0, .int .i64 a0_1, .slice A0_2 l0_2.length c0_2]) (t := 28) ?hr ?_; (case hd => rfl); (case hg => rfl); (case hr => first | (go_simp; done) | (go_simp; rfl)); intro gb218 hg w26 hbox hb; have n0_ := mk0_20 (below_step (by repeat (first | (with_reducible first | exact HB.out | apply below_alloc | apply pw_below_drewN | apply below_drew1) | exact HB.out)) hb); have n1_ := mk0_20 (hbox); have n2_ := mk0_20 ((by rw [hg]; exact (below_size (by repeat (first | (with_reducible first | exact HB.out | apply below_alloc | apply pw_below_drewN | apply below_drew1) | exact HB.out))) : w.heap.size ≤ gb218)); have n3_ := mk0_20 ((by rw [hg]; exact (below_size (by repeat (first | (with_reducible first | exact HB.out | apply below_alloc | apply pw_below_drewN | apply below_drew1) | exact HB.out))) : w.heap.size ≤ gb218)); clear HB; have HB := n0_; have BK218 := n1_; have GW218 := n2_; have GE218 := n3_; clear n0_ n1_ n2_ n3_; clear hb hbox hg) | ((with_reducible refine gate_dst (N := 3) rfl ?_); refine box_event ?hg (N := 3) ?hd (cs := #[.int .i64 a1_0, .int .i64 a1_1, .slice A1_2 l1_2.length c1_2]) (t := 28) ?hr ?_; (case hd => rfl); (case hg => rfl); (case hr => first | (go_simp; done) | (go_simp; rfl)); intro gb219 hg w27 hbox hb; have n0_ := mk0_20 (blk_below (g := gb218) (o := .cells #[.int .i64 a0_0, .int .i64 a0_1, .slice A0_2 l0_2.length c0_2] 28 (0, 0)) (by (with_reducible repeat (first | refine d120 ?_ _ | refine d220 ?_ | refine d320 ?_ _)); exact BK218.out) hb); have n1_ := mk0_20 (below_step (by repeat (first | (with_reducible first | exact HB.out | apply below_alloc | apply pw_below_drewN | apply below_drew1 | refine d420 ?_ GE218.out) | exact HB.out)) hb); have n2_ := mk0_20 (hbox); have n3_ := mk0_20 ((by rw [hg]; exact (below_size (by repeat (first | (with_reducible first | exact HB.out | apply below_alloc | apply pw_below_drewN | apply below_drew1 | refine d420 ?_ GE218.out) | exact HB.out))) : w.heap.size ≤ gb219)); have n4_ := mk0_20 ((by rw [hg]; exact (below_size (by repeat (first | (with_reducible first | exact HB.out | apply below_alloc | apply pw_below_drewN | apply below_drew1 | refine d420 ?_ GE218.out) | exact HB.out))) : w.heap.size ≤ gb219)); have n5_ := mk0_20 ((by rw [hg]; exact Nat.ne_of_lt (blk_lt (g := gb218) (o := .cells #[.int .i64 a0_0, .int .i64 a0_1, .slice A0_2 l0_2.length c0_2] 28 (0, 0)) (by (with_reducible repeat (first | refine d120 ?_ _ | refine d220 ?_ | refine d320 ?_ _)); exact BK218.out)) : gb218 ≠ gb219)); have n6_ := mk0_20 ((by rw [hg]; exact Nat.ne_of_gt (blk_lt (g := gb218) (o := .cells #[.int .i64 a0_0, .int .i64 a0_1, .slice A0_2 l0_2.length c0_2] 28 (0, 0)) (by (with_reducible repeat (first | refine d120 ?_ _ | refine d220 ?_ | refine d320 ?_ _)); exact BK218.out)) : gb219 ≠ gb218)); clear BK218; clear HB; have BK218 := n0_; have HB := n1_; have BK219 := n2_; have GW219 := n3_; have GE219 := n4_; have NB218_219 := n5_; have NB219_218 := n6_; clear n0_ n1_ n2_ n3_ n4_ n5_ n6_; clear hb hbox hg; have hnb28 := NB218_219.out; have hnc28 := NB219_218.out; have hcz29_0 : w27.cell? ⟨gb218, 0, none⟩ = some (.int .i64 a0_0) := (d620 BK218.out 0).trans rfl; have hcz29_1 : w27.cell? ⟨gb218, 1, none⟩ = some (.int .i64 a0_1) := (d620 BK218.out 1).trans rfl; have hcz29_2 : w27.cell? ⟨gb218, 2, none⟩ = some (.slice A0_2 l0_2.length c0_2) := (d620 BK218.out 2).trans rfl; have hfz29_0 := d720 BK218.out 0; have hfz29_1 := d720 BK218.out 1; have hfz29_2 := d720 BK218.out 2; have hcz30_0 : w27.cell? ⟨gb219, 0, none⟩ = some (.int .i64 a1_0) := (d620 BK219.out 0).trans rfl; have hcz30_1 : w27.cell? ⟨gb219, 1, none⟩ = some (.int .i64 a1_1) := (d620 BK219.out 1).trans rfl; have hcz30_2 : w27.cell? ⟨gb219, 2, none⟩ = some (.slice A1_2 l1_2.length c1_2) := (d620 BK219.out 2).trans rfl; have hfz30_0 := d720 BK219.out 0; have hfz30_1 := d720 BK219.out 1; have hfz30_2 := d720 BK219.out 2)); try go_wp2_with (first | ((with_reducible refine gate_dst (N := 2) rfl ?_); refine box_event ?hg (N := 2) ?hd (cs := #[.int .i64 a0_0, .int .i64 a0_1, .slice A0_2 l0_2.length c0_2]) (t := 28) ?hr ?_; (case hd => rfl); (case hg => rfl); (case hr => first | (go_simp; done) | (go_simp; rfl)); intro gb218 hg w26 hbox hb; have n0_ := mk0_20 (below_step (by repeat (first | (with_reducible first | exact HB.out | apply below_alloc | apply pw_below_drewN | apply below_drew1) | exact HB.out)) hb); have n1_ := mk0_20 (hbox); have n2_ := mk0_20 ((by rw [hg]; exact (below_size (by repeat (first | (with_reducible first | exact HB.out | apply below_alloc | apply pw_below_drewN | apply below_drew1) | exact HB.out))) : w.heap.size ≤ gb218)); have n3_ := mk0_20 ((by rw [hg]; exact (below_size (by repeat (first | (with_reducible first | exact HB.out | apply below_alloc | apply pw_below_drewN | apply below_drew1) | exact HB.out))) : w.heap.size ≤ gb218)); clear HB; have HB := n0_; have BK218 := n1_; have GW218 := n2_; have GE218 := n3_; clear n0_ n1_ n2_ n3_; clear hb hbox hg) | ((with_reducible refine gate_dst (N := 3) rfl ?_); refine box_event ?hg (N := 3) ?hd (cs := #[.int .i64 a1_0, .int .i64 a1_1, .slice A1_2 l1_2.length c1_2]) (t := 28) ?hr ?_; (case hd => rfl); (case hg => rfl); (case hr => first | (go_simp; done) | (go_simp; rfl)); intro gb219 hg w27 hbox hb; have n0_ := mk0_20 (blk_below (g := gb218) (o := .cells #[.int .i64 a0_0, .int .i64 a0_1, .slice A0_2 l0_2.length c0_2] 28 (0, 0)) (by (with_reducible repeat (first | refine d120 ?_ _ | refine d220 ?_ | refine d320 ?_ _)); exact BK218.out) hb); have n1_ := mk0_20 (below_step (by repeat (first | (with_reducible first | exact HB.out | apply below_alloc | apply pw_below_drewN | apply below_drew1 | refine d420 ?_ GE218.out) | exact HB.out)) hb); have n2_ := mk0_20 (hbox); have n3_ := mk0_20 ((by rw [hg]; exact (below_size (by repeat (first | (with_reducible first | exact HB.out | apply below_alloc | apply pw_below_drewN | apply below_drew1 | refine d420 ?_ GE218.out) | exact HB.out))) : w.heap.size ≤ gb219)); have n4_ := mk0_20 ((by rw [hg]; exact (below_size (by repeat (first | (with_reducible first | exact HB.out | apply below_alloc | apply pw_below_drewN | apply below_drew1 | refine d420 ?_ GE218.out) | exact HB.out))) : w.heap.size ≤ gb219)); have n5_ := mk0_20 ((by rw [hg]; exact Nat.ne_of_lt (blk_lt (g := gb218) (o := .cells #[.int .i64 a0_0, .int .i64 a0_1, .slice A0_2 l0_2.length c0_2] 28 (0, 0)) (by (with_reducible repeat (first | refine d120 ?_ _ | refine d220 ?_ | refine d320 ?_ _)); exact BK218.out)) : gb218 ≠ gb219)); have n6_ := mk0_20 ((by rw [hg]; exact Nat.ne_of_gt (blk_lt (g := gb218) (o := .cells #[.int .i64 a0_0, .int .i64 a0_1, .slice A0_2 l0_2.length c0_2] 28 (0, 0)) (by (with_reducible repeat (first | refine d120 ?_ _ | refine d220 ?_ | refine d320 ?_ _)); exact BK218.out)) : gb219 ≠ gb218)); clear BK218; clear HB; have BK218 := n0_; have HB := n1_; have BK219 := n2_; have GW219 := n3_; have GE219 := n4_; have NB218_219 := n5_; have NB219_218 := n6_; clear n0_ n1_ n2_ n3_ n4_ n5_ n6_; clear hb hbox hg; have hnb28 := NB218_219.out; have hnc28 := NB219_218.out; have hcz29_0 : w27.cell? ⟨gb218, 0, none⟩ = some (.int .i64 a0_0) := (d620 BK218.out 0).trans rfl; have hcz29_1 : w27.cell? ⟨gb218, 1, none⟩ = some (.int .i64 a0_1) := (d620 BK218.out 1).trans rfl; have hcz29_2 : w27.cell? ⟨gb218, 2, none⟩ = some (.slice A0_2 l0_2.length c0_2) := (d620 BK218.out 2).trans rfl; have hfz29_0 := d720 BK218.out 0; have hfz29_1 := d720 BK218.out 1; have hfz29_2 := d720 BK218.out 2; have hcz30_0 : w27.cell? ⟨gb219, 0, none⟩ = some (.int .i64 a1_0) := (d620 BK219.out 0).trans rfl; have hcz30_1 : w27.cell? ⟨gb219, 1, none⟩ = some (.int .i64 a1_1) := (d620 BK219.out 1).trans rfl; have hcz30_2 : w27.cell? ⟨gb219, 2, none⟩ = some (.slice A1_2 l1_2.length c1_2) := (d620 BK219.out 2).trans rfl; have hfz30_0 := d720 BK219.out 0; have hfz30_1 := d720 BK219.out 1; have hfz30_2 := d720 BK219.out 2)))
  go_ret
  exact ⟨by first | rfl | (simp [errW_none, errW_some] <;> rfl) | (simp [*, errW_none, errW_some] <;> rfl), by repeat (first | (with_reducible first | exact HB.out | apply below_alloc | apply pw_below_drewN | apply below_drew1 | refine d420 ?_ GE218.out | refine d420 ?_ GE219.out) | exact HB.out)⟩

end Go.Proofs.Ytdlgfjefbjkdaaa.A
