/- StackBuilds walked: the law tells true, for every input. -/
import Derived.Test.YtokilodeihocjaaSmall
import Derived.Test.YtokilodeihocjaaBuild
import Derived.Test.YtokilodeihocjaaPureRefBuild
import Derived.Test.YtokilodeihocjaaPureAwake17
import Derived.Test.YtokilodeihocjaaAxFlyleafref17Size
import Derived.Deep.QuietTactic
import Derived.BigQuiet
namespace Go.Proofs.Ytokilodeihocjaa.H
open Go.RowKit Go.Proofs.Ytokilodeihocjaa.A Go.Proofs.Flat Go.Proofs.YtokilodeihocjaaW.PrintWords Go.Proofs.YtokilodeihocjaaW.PrintLast Go.Proofs.YtokilodeihocjaaW.PrintMore
set_option linter.unusedVariables false
set_option linter.unusedSimpArgs false
def stackBuilds.f (k : Nat) (a0 : Int) (l0 l1 : List ByteArray) (l2 : List Pr) : Option Bool := some true
theorem fewL_few (l : List ByteArray) : Pure.Few (fewL l) := by
  refine ⟨by rw [fewL, List.length_map, List.length_take]; omega, fun x hx => ?_⟩
  rw [fewL, List.mem_map] at hx
  obtain ⟨y, _, rfl⟩ := hx
  unfold cut40
  split
  · rw [ByteArray.size_extract]; omega
  · omega
theorem C_takeAny {α : Type} {kd : Kd α} {w : World} {A : Option Addr} {l : List α} (n : Nat) (h : Kd.C kd w A l.length l) : Kd.C kd w A (l.take n).length (l.take n) := by
  obtain ⟨h1, h2, h3⟩ := h
  refine ⟨rfl, by rw [List.length_take]; omega, fun hp => ?_⟩
  obtain ⟨ad, e, hc⟩ := h3 (by rw [List.length_take] at hp; omega)
  refine ⟨ad, e, fun j p hj => hc j p ?_⟩
  rw [List.getElem?_take] at hj
  split at hj
  · exact hj
  · cases hj
set_option maxHeartbeats 8000000 in
set_option maxRecDepth 100000 in
theorem stackBuilds.calls (k : Nat) (a0 : Int) (A1_0 : Option Addr) (c1_0 : Nat) (l1_0 : List ByteArray) (A1_1 : Option Addr) (c1_1 : Nat) (l1_1 : List ByteArray) (A1_2 : Option Addr) (c1_2 : Nat) (l1_2 : List Pr) (r : Bool) (w : World)
    (hr1_0 : Kd.C Kd.string w A1_0 l1_0.length l1_0) (hc1_0 : l1_0.length ≤ c1_0) (hr1_1 : Kd.C Kd.string w A1_1 l1_1.length l1_1) (hc1_1 : l1_1.length ≤ c1_1) (hr1_2 : Kd.C kPr w A1_2 l1_2.length l1_2) (hc1_2 : l1_2.length ≤ c1_2) (h : stackBuilds.f k a0 l1_0 l1_1 l1_2 = some r) :
    Calls Try.prog 3 #[.int .i64 a0, .agg #[.slice A1_0 l1_0.length c1_0, .slice A1_1 l1_1.length c1_1, .slice A1_2 l1_2.length c1_2]] w fun e w' => e = .returned (.bool r) ∧ Below w.heap.size w w' := by
  obtain rfl := Option.some.inj h
  clear h
  have hu := Try.underlying25
  have hu2 := Try.underlying32
  have HR0 := Lib.hid hr1_0; have HR1 := Lib.hid hr1_1; have HR2 := Lib.hid hr1_2
  have HF0 := Lib.hid (fewL_few l1_0); have HF1 := Lib.hid (fewL_few l1_1)
  have hl2 : (l1_2.take 10).length ≤ 10 := by rw [List.length_take]; omega
  have hlc : (l1_2.take 10).length ≤ c1_2 := by rw [List.length_take]; omega
  have HR3 := Lib.hid (C_takeAny 10 hr1_2)
  clear hr1_0 hr1_1 hr1_2
  go_enter Try.func3, Try.ntmps3
  go_wp2_with fail
  have HB : (w.alloc (.cells #[.slice A1_0 l1_0.length c1_0, .slice A1_1 l1_1.length c1_1, .slice A1_2 l1_2.length c1_2] 25)).heap[w.heap.size]? = some (.cells #[.slice A1_0 l1_0.length c1_0, .slice A1_1 l1_1.length c1_1, .slice A1_2 l1_2.length c1_2] 25 (0, 0)) := blk_new w _
  have hbw : Below w.heap.size w (w.alloc (.cells #[.slice A1_0 l1_0.length c1_0, .slice A1_1 l1_1.length c1_1, .slice A1_2 l1_2.length c1_2] 25)) := (Below.refl _ _).alloc (Nat.le_refl _) _
  generalize (w.alloc (.cells #[.slice A1_0 l1_0.length c1_0, .slice A1_1 l1_1.length c1_1, .slice A1_2 l1_2.length c1_2] 25)) = W0 at *
  generalize hg : w.heap.size = g at *
  have HGS := Lib.hid hg
  clear hg
  refine (flyleaflaw17_awake.calls true _ Pure.awake_told).mono ?_
  rintro e w1 ⟨rfl, hb1⟩
  have HB1 := blk_below HB hb1
  have hbw1 : Below g w w1 := hbw.trans (hb1.mono (by have := blk_lt HB; omega))
  clear HB hbw hb1
  have k0 : w1.cell? ⟨g, 0, none⟩ = some (.slice A1_0 l1_0.length c1_0) := (blk_cell HB1 0).trans rfl
  have k1 : w1.cell? ⟨g, 1, none⟩ = some (.slice A1_1 l1_1.length c1_1) := (blk_cell HB1 1).trans rfl
  have k2 : w1.cell? ⟨g, 2, none⟩ = some (.slice A1_2 l1_2.length c1_2) := (blk_cell HB1 2).trans rfl
  go_wp2_with fail
  clear k0 k1 k2
  refine (small_calls A1_0 c1_0 l1_0 A1_1 c1_1 l1_1 A1_2 c1_2 l1_2 w1 (Kd.C_below HR0.out (HGS.out ▸ hbw1)) hc1_0 (Kd.C_below HR1.out (HGS.out ▸ hbw1)) hc1_1 (Kd.C_below HR2.out (HGS.out ▸ hbw1)) hc1_2).mono ?_
  rintro e w2 ⟨B0, d0, B1, d1, rfl, hT0, hT1, hb2⟩
  have HB2 := blk_below HB1 hb2
  have hbw2 : Below g w w2 := hbw1.trans (hb2.mono (by have := blk_lt HB1; omega))
  clear HB1 hbw1 hb2
  have k0 : w2.cell? ⟨g, 0, none⟩ = some (.slice A1_0 l1_0.length c1_0) := (blk_cell HB2 0).trans rfl
  have k1 : w2.cell? ⟨g, 1, none⟩ = some (.slice A1_1 l1_1.length c1_1) := (blk_cell HB2 1).trans rfl
  have k2 : w2.cell? ⟨g, 2, none⟩ = some (.slice A1_2 l1_2.length c1_2) := (blk_cell HB2 2).trans rfl
  have f0 : w2.frozen? ⟨g, 0, none⟩ = false := blk_frozen HB2 0
  have f1 : w2.frozen? ⟨g, 1, none⟩ = false := blk_frozen HB2 1
  have f2 : w2.frozen? ⟨g, 2, none⟩ = false := blk_frozen HB2 2
  generalize hL0 : fewL l1_0 = L0 at *
  generalize hL1 : fewL l1_1 = L1 at *
  generalize hL2 : l1_2.take 10 = L2 at *
  clear hL0 hL1 hL2
  go_wp2_with fail
  clear k0 k1 k2 f0 f1 f2
  have HB3 := blk_put (blk_put (blk_put HB2 0 (.slice B0 L0.length d0) rfl) 1 (.slice B1 L1.length d1) rfl) 2 (.slice A1_2 L2.length c1_2) rfl
  have hT0' := ((hT0.set HB2 0 (.slice B0 L0.length d0)).set (blk_put HB2 0 (.slice B0 L0.length d0) rfl) 1 (.slice B1 L1.length d1)).set (blk_put (blk_put HB2 0 (.slice B0 L0.length d0) rfl) 1 (.slice B1 L1.length d1) rfl) 2 (.slice A1_2 L2.length c1_2)
  have hT1' := ((hT1.set HB2 0 (.slice B0 L0.length d0)).set (blk_put HB2 0 (.slice B0 L0.length d0) rfl) 1 (.slice B1 L1.length d1)).set (blk_put (blk_put HB2 0 (.slice B0 L0.length d0) rfl) 1 (.slice B1 L1.length d1) rfl) 2 (.slice A1_2 L2.length c1_2)
  have hbw3 : Below g w (((w2.setCell ⟨g, 0, none⟩ (.slice B0 L0.length d0)).setCell ⟨g, 1, none⟩ (.slice B1 L1.length d1)).setCell ⟨g, 2, none⟩ (.slice A1_2 L2.length c1_2)) := ((hbw2.setCell (p := ⟨g, 0, none⟩) (Nat.le_refl _) _).setCell (p := ⟨g, 1, none⟩) (Nat.le_refl _) _).setCell (p := ⟨g, 2, none⟩) (Nat.le_refl _) _
  clear hT0 hT1 HB2 hbw2
  generalize (((w2.setCell ⟨g, 0, none⟩ (.slice B0 L0.length d0)).setCell ⟨g, 1, none⟩ (.slice B1 L1.length d1)).setCell ⟨g, 2, none⟩ (.slice A1_2 L2.length c1_2)) = w3 at *
  have hx : lowL L0 := Pure.lowL_of (by have := HF0.out.texts; omega)
  have hy : lowL L1 := Pure.lowL_of (by have := HF1.out.texts; omega)
  obtain ⟨R, hR⟩ : ∃ R, buildR a0 L0 L1 L2 = R := ⟨_, rfl⟩
  obtain ⟨r1, r2, r3⟩ := R
  have HX := Lib.hid (show stack_Build.f a0 L0 L1 L2 = some (r1, r2, r3) from by rw [stack_Build.f, if_pos ⟨hx, hy, by omega⟩, hR])
  have HY := Lib.hid (show flyleafref17_Build.f 701 a0 L0 L1 L2 = some (r1, r2, r3) from by rw [Pure.refBuild_told a0 L0 L1 L2 HF0.out HF1.out hl2 701 (by omega), hR])
  have HS1 := Lib.hid (Size_told L0 L1 L2 hx hy (by omega) 11 (by have := HF0.out.len; omega) (by have := HF1.out.len; omega))
  have HS2 := Lib.hid (Pure.rsize_told L0 L1 L2 HF0.out HF1.out hl2 11 (by omega))
  clear hR hx hy
  have hB2 := hT0'.d; have hB3 := hT1'.d
  have HT0 := Lib.hid hT0'; have HT1 := Lib.hid hT1'
  clear hT0' hT1'
  have k0 : w3.cell? ⟨g, 0, none⟩ = some (.slice B0 L0.length d0) := (blk_cell HB3 0).trans rfl
  have k1 : w3.cell? ⟨g, 1, none⟩ = some (.slice B1 L1.length d1) := (blk_cell HB3 1).trans rfl
  have k2 : w3.cell? ⟨g, 2, none⟩ = some (.slice A1_2 L2.length c1_2) := (blk_cell HB3 2).trans rfl
  go_wp2_with fail
  clear k0 k1 k2
  refine (stack_Build.calls a0 B0 d0 L0 B1 d1 L1 A1_2 c1_2 L2 r1 r2 r3 w3 HT0.out.c hB2 HT1.out.c hB3 (Kd.C_below HR3.out (HGS.out ▸ hbw3)) hlc HX.out).mono ?_
  rintro e w4 ⟨rfl, hb4⟩
  have HB4 := blk_below HB3 hb4
  have HT0' := Lib.hid (HT0.out.below hb4); have HT1' := Lib.hid (HT1.out.below hb4)
  have hbw4 : Below g w w4 := hbw3.trans (hb4.mono (by have := blk_lt HB3; omega))
  clear HB3 hbw3 hb4 HT0 HT1
  have k0 : w4.cell? ⟨g, 0, none⟩ = some (.slice B0 L0.length d0) := (blk_cell HB4 0).trans rfl
  have k1 : w4.cell? ⟨g, 1, none⟩ = some (.slice B1 L1.length d1) := (blk_cell HB4 1).trans rfl
  have k2 : w4.cell? ⟨g, 2, none⟩ = some (.slice A1_2 L2.length c1_2) := (blk_cell HB4 2).trans rfl
  go_wp2_with fail
  clear k0 k1 k2
  refine (flyleafref17_Build.calls 701 a0 B0 d0 L0 B1 d1 L1 A1_2 c1_2 L2 r1 r2 r3 w4 HT0'.out.c hB2 HT1'.out.c hB3 (Kd.C_below HR3.out (HGS.out ▸ hbw4)) hlc HY.out).mono ?_
  rintro e w5 ⟨rfl, hb5⟩
  have HB5 := blk_below HB4 hb5
  have HT0 := Lib.hid (HT0'.out.below hb5); have HT1 := Lib.hid (HT1'.out.below hb5)
  have hbw5 : Below g w w5 := hbw4.trans (hb5.mono (by have := blk_lt HB4; omega))
  clear HB4 hbw4 hb5 HT0' HT1'
  go_wp2_with fail
  have HB6 := blk_alloc HB5 (.cells #[.int .i64 r1, .string r2, .int .i64 r3] 32)
  have HC6 := blk_new w5 (.cells #[.int .i64 r1, .string r2, .int .i64 r3] 32)
  have HT0' := Lib.hid (HT0.out.below ((Below.refl _ _).alloc (Nat.le_refl _) (.cells #[.int .i64 r1, .string r2, .int .i64 r3] 32)))
  have HT1' := Lib.hid (HT1.out.below ((Below.refl _ _).alloc (Nat.le_refl _) (.cells #[.int .i64 r1, .string r2, .int .i64 r3] 32)))
  have hbw6 : Below g w (w5.alloc (.cells #[.int .i64 r1, .string r2, .int .i64 r3] 32)) := hbw5.alloc (by have := blk_lt HB5; omega) _
  clear HB5 hbw5 HT0 HT1
  generalize (w5.alloc (.cells #[.int .i64 r1, .string r2, .int .i64 r3] 32)) = w6 at *
  generalize w5.heap.size = q at *
  have k0 : w6.cell? ⟨g, 0, none⟩ = some (.slice B0 L0.length d0) := (blk_cell HB6 0).trans rfl
  have k1 : w6.cell? ⟨g, 1, none⟩ = some (.slice B1 L1.length d1) := (blk_cell HB6 1).trans rfl
  have k2 : w6.cell? ⟨g, 2, none⟩ = some (.slice A1_2 L2.length c1_2) := (blk_cell HB6 2).trans rfl
  have q0 : w6.cell? ⟨q, 0, none⟩ = some (.int .i64 r1) := (blk_cell HC6 0).trans rfl
  have q1 : w6.cell? ⟨q, 1, none⟩ = some (.string r2) := (blk_cell HC6 1).trans rfl
  have q2 : w6.cell? ⟨q, 2, none⟩ = some (.int .i64 r3) := (blk_cell HC6 2).trans rfl
  have e1 : (r1 == r1) = true := by simp
  have e2 : (r2.toList == r2.toList) = true := by simp
  have e3 : (r3 == r3) = true := by simp
  generalize hsn : (sizeN L0 L1 L2 : Int) = n at *
  have e4 : (n == n) = true := by simp
  have P1 : ∀ m, Calls Try.prog 12 #[.slice B0 L0.length d0, .slice B1 L1.length d1, .slice A1_2 L2.length c1_2] (w6.drewN m) fun e w' => e = .returned (.int .i64 n) ∧ ∃ j, w' = (w6.drewN m).drewN j := fun m =>
    (stack_Size.calls 11 B0 d0 L0 B1 d1 L1 A1_2 c1_2 L2 n _ (Kd.C_drewN HT0'.out.c m) hB2 (Kd.C_drewN HT1'.out.c m) hB3 (Kd.C_drewN (Kd.C_below HR3.out (HGS.out ▸ hbw6)) m) hlc HS1.out).mono fun _ _ ⟨he, hd⟩ => ⟨he, hd.out⟩
  have P2 : ∀ m, Calls Try.prog 13 #[.slice B0 L0.length d0, .slice B1 L1.length d1, .slice A1_2 L2.length c1_2] (w6.drewN m) fun e w' => e = .returned (.int .i64 n) ∧ ∃ j, w' = (w6.drewN m).drewN j := fun m =>
    (flyleafref17_Size.calls 11 B0 d0 L0 B1 d1 L1 A1_2 c1_2 L2 n _ (Kd.C_drewN HT0'.out.c m) hB2 (Kd.C_drewN HT1'.out.c m) hB3 (Kd.C_drewN (Kd.C_below HR3.out (HGS.out ▸ hbw6)) m) hlc HS2.out).mono fun _ _ ⟨he, hd⟩ => ⟨he, hd.out⟩
  have HP1 := Lib.hid P1; have HP2 := Lib.hid P2
  clear P1 P2 hsn
  go_quiet ((first | (go_at_call 12; exact Calls.quiet_of (HP1.out _)) | (go_at_call 13; exact Calls.quiet_of (HP2.out _))))
  go_wp2_with fail
  go_ret
  refine ⟨rfl, ?_⟩
  rw [HGS.out]
  exact pw_below_drewN hbw6 _
end Go.Proofs.Ytokilodeihocjaa.H
