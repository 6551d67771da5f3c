/- elf.Same compares two images: the contract of the Go function, with slices.EqualFunc at its closure. -/
import Derived.Test.YtdlgfjefbjkdaaaAx0
import Derived.Test.YtdlgfjefbjkdaaaWEqStruct
import Derived.WalkKit
import Derived.Lib.Hide
import Derived.WalkSpells
namespace Go.Proofs.Ytdlgfjefbjkdaaa.H
open Go.RowKit Go.Proofs.YtdlgfjefbjkdaaaW.PrintWords Go.Proofs.YtdlgfjefbjkdaaaW.PrintLast Go.Proofs.YtdlgfjefbjkdaaaW.PrintMore Go.Proofs.Ytdlgfjefbjkdaaa.A
set_option linter.unusedVariables false
set_option linter.unusedSimpArgs false

abbrev Seg := S32
abbrev kSeg := k32
abbrev zSeg := z32
def segEq (x y : Seg) : Bool := x.f0 == y.f0 && (x.f1 == y.f1 && (x.f2 == y.f2 && (x.f3 == y.f3 && (x.f4 == y.f4 && (x.f5 == y.f5 && (x.f6 == y.f6))))))
def segsEq (l0 l1 : List Seg) : Bool := decide (l0.length = l1.length) && (List.range l0.length).all fun i => segEq (l0.getD i zSeg) (l1.getD i zSeg)
def elf_Same.f (a0_0 a0_1 : Int) (l0_2 : List Seg) (a1_0 a1_1 : Int) (l1_2 : List Seg) : Option Bool :=
  if l0_2.length ≤ 140737488355328 then some (decide (a0_0 = a1_0) && decide (a0_1 = a1_1) && segsEq l0_2 l1_2) else none

theorem seg_eq_run (w : World) (x y : Seg) :
    (binOp .eql 32 (.agg #[.int .i64 x.f0, .int .i64 x.f1, .int .i64 x.f2, .int .i64 x.f3, .int .i64 x.f4, .int .i64 x.f5, .int .i64 x.f6]) (.agg #[.int .i64 y.f0, .int .i64 y.f1, .int .i64 y.f2, .int .i64 y.f3, .int .i64 y.f4, .int .i64 y.f5, .int .i64 y.f6])).run Try.prog w = .ok (.bool (segEq x y)) w := by
  have h : (Op.equalIn (9998 + 2) 32 (.agg #[.int .i64 x.f0, .int .i64 x.f1, .int .i64 x.f2, .int .i64 x.f3, .int .i64 x.f4, .int .i64 x.f5, .int .i64 x.f6]) (.agg #[.int .i64 y.f0, .int .i64 y.f1, .int .i64 y.f2, .int .i64 y.f3, .int .i64 y.f4, .int .i64 y.f5, .int .i64 y.f6])).run Try.prog w = .ok (segEq x y) w := by
    refine eqA_of Try.underlying32 (by kernel_rfl) ?_
    refine eqf_cons (by rfl) (by go_simp; rfl) (by go_simp; rfl) (by go_simp) ?_
    refine eqf_cons (by rfl) (by go_simp; rfl) (by go_simp; rfl) (by go_simp) ?_
    refine eqf_cons (by rfl) (by go_simp; rfl) (by go_simp; rfl) (by go_simp) ?_
    refine eqf_cons (by rfl) (by go_simp; rfl) (by go_simp; rfl) (by go_simp) ?_
    refine eqf_cons (by rfl) (by go_simp; rfl) (by go_simp; rfl) (by go_simp) ?_
    refine eqf_cons (by rfl) (by go_simp; rfl) (by go_simp; rfl) (by go_simp) ?_
    exact eqf_last (by rfl) (by go_simp; rfl) (by go_simp; rfl) (by go_simp)
  simp only [binOp]
  simp [Op.equal, Op.maxDepth, h]

set_option maxRecDepth 100000 in
theorem same1_calls (x y : Seg) (w : World) :
    Calls Try.prog 39 #[.agg #[.int .i64 x.f0, .int .i64 x.f1, .int .i64 x.f2, .int .i64 x.f3, .int .i64 x.f4, .int .i64 x.f5, .int .i64 x.f6], .agg #[.int .i64 y.f0, .int .i64 y.f1, .int .i64 y.f2, .int .i64 y.f3, .int .i64 y.f4, .int .i64 y.f5, .int .i64 y.f6]] w fun e w' => e = .returned (.bool (segEq x y)) ∧ Below w.heap.size w w' := by
  have hu := Try.underlying32
  have he := fun W => seg_eq_run W x y
  go_enter Try.func39, Try.ntmps39
  go_wp2
  go_ret
  exact ⟨rfl, ((Below.refl _ _).alloc (Nat.le_refl _) _).alloc (by simp) _⟩

theorem segs_not {l0 l1 : List Seg} {k : Nat} (hk : k < l0.length) (h : segEq (l0.getD k zSeg) (l1.getD k zSeg) = false) : segsEq l0 l1 = false := by
  simp only [segsEq, Bool.and_eq_false_iff, List.all_eq_false, List.mem_range]
  exact .inr ⟨k, hk, by rw [h]; simp⟩
theorem segs_all {l0 l1 : List Seg} (hl : l0.length = l1.length) (h : ∀ j, j < l0.length → segEq (l0.getD j zSeg) (l1.getD j zSeg) = true) : segsEq l0 l1 = true := by
  simp only [segsEq, Bool.and_eq_true, decide_eq_true_eq, List.all_eq_true, List.mem_range]
  exact ⟨hl, h⟩

set_option maxHeartbeats 4000000 in
set_option maxRecDepth 100000 in
theorem EqualFunc_calls (A0 A1 : Option Addr) (c0 c1 : Nat) (l0 l1 : List Seg) (w : World) (hr0 : Kd.C kSeg w A0 l0.length l0) (hc0 : l0.length ≤ c0) (hr1 : Kd.C kSeg w A1 l1.length l1) (hc1 : l1.length ≤ c1) (hb : l0.length ≤ 140737488355328) :
    Calls Try.prog 38 #[.slice A0 l0.length c0, .slice A1 l1.length c1, .func (.func 39) #[] #[]] w fun e w' => e = .returned (.bool (segsEq l0 l1)) ∧ Below w.heap.size w w' := by
  have hu := Try.underlying32
  by_cases hl : l0.length = l1.length
  · have hd : (l0.length == l1.length) = true := by simp [hl]
    have hd' : (l0.length != l1.length) = false := by simp [hl]
    have hi : ((l0.length : Int) != (l1.length : Int)) = false := by simp [hl]
    have HL := Lib.hid hl; have HR0 := Lib.hid hr0; have HR1 := Lib.hid hr1; clear hl hr0 hr1
    go_enter Try.func38, Try.ntmps38
    go_wp2
    go_loopw [17] (fun i wr => ∃ k : Nat, k ≤ l0.length ∧ i = .int .i64 k ∧ Hid (∀ j, j < k → segEq (l0.getD j zSeg) (l1.getD j zSeg) = true) ∧ Below w.heap.size w wr) (fun i _ => l0.length - (intOf i).toNat)
    case atStart => exact ⟨0, Nat.zero_le _, rfl, fun j hj => absurd hj (Nat.not_lt_zero _), Below.refl _ _⟩
    case round =>
      obtain ⟨k, hk, rfl, HK, hbl⟩ := hrel
      by_cases hlt : k < l0.length
      · have hlt1 : k < l1.length := by have := HL.out; omega
        have hk0 : (k : Int) < (l0.length : Int) := by omega
        have hk1 : (k : Int) < (l1.length : Int) := by omega
        obtain ⟨ad0, rfl, hx0, hx1, hx2, hx3, hx4, hx5, hx6⟩ := at_T32 (Kd.C_below HR0.out hbl) k (by omega) hk0
        obtain ⟨ad1, rfl, hy0, hy1, hy2, hy3, hy4, hy5, hy6⟩ := at_T32 (Kd.C_below HR1.out hbl) k (by omega) hk1
        have e0 : rd_T32 l0 (k : Int) = l0.getD k zSeg := by simp [rd_T32]
        have e1 : rd_T32 l1 (k : Int) = l1.getD k zSeg := by simp [rd_T32]
        rw [e0] at hx0 hx1 hx2 hx3 hx4 hx5 hx6
        rw [e1] at hy0 hy1 hy2 hy3 hy4 hy5 hy6
        rw [Int.toNat_natCast] at hx0 hx1 hx2 hx3 hx4 hx5 hx6 hy0 hy1 hy2 hy3 hy4 hy5 hy6
        clear e0 e1
        generalize hX : l0.getD k zSeg = x at *
        generalize hY : l1.getD k zSeg = y at *
        have HX := Lib.hid hX; have HY := Lib.hid hY; clear hX hY
        have later : ∀ {a : Addr} {v : Value}, wr.cell? a = some v → ∀ o, (wr.alloc o).cell? a = some v := fun h o => pw_cell_below ((Below.refl _ _).alloc (Nat.le_refl _) o) h
        have gy0 := later hy0; have gy1 := later hy1; have gy2 := later hy2; have gy3 := later hy3; have gy4 := later hy4; have gy5 := later hy5; have gy6 := later hy6
        clear hy0 hy1 hy2 hy3 hy4 hy5 hy6 later
        go_wp2_with fail
        refine (same1_calls x y _).mono ?_
        rintro e w1 ⟨rfl, hb1⟩
        have hbl1 : Below w.heap.size w w1 := below_then ((hbl.alloc hbl.size _).alloc (by have := hbl.size; simp; omega) _) (by have := hbl.size; simp; omega) hb1
        clear hb1 hbl gy0 gy1 gy2 gy3 gy4 gy5 gy6 hx0 hx1 hx2 hx3 hx4 hx5 hx6
        cases hv : segEq x y with
        | true =>
          have HV := Lib.hid hv; clear hv
          go_wp2_with fail
          go_roundw
          case measure => simp [intOf]; omega
          case rel => exact ⟨k + 1, by omega, by go_num, fun j hj => by
            by_cases e : j = k
            · subst e; rw [HX.out, HY.out]; exact HV.out
            · exact HK.out j (by omega), hbl1⟩
        | false =>
          have hfin : segsEq l0 l1 = false := segs_not hlt (by rw [HX.out, HY.out]; exact hv)
          have HF := Lib.hid hfin; clear hfin hv
          go_wp2_with fail
          go_ret
          refine ⟨?_, hbl1⟩
          rw [HF.out]
          rfl
      · have hfin := segs_all HL.out (fun j hj => HK.out j (by omega))
        have HF := Lib.hid hfin; clear hfin
        go_wp2_with fail
        go_ret
        refine ⟨?_, hbl⟩
        rw [HF.out]
        rfl
  · have hd : (l0.length == l1.length) = false := by simp [hl]
    have hd' : (l0.length != l1.length) = true := by simp [hl]
    have hfin : segsEq l0 l1 = false := by simp [segsEq, hl]
    have HF := Lib.hid hfin; clear hfin
    go_enter Try.func38, Try.ntmps38
    go_wp2
    go_ret
    refine ⟨?_, Below.refl _ _⟩
    rw [HF.out]
    rfl

set_option maxHeartbeats 4000000 in
set_option maxRecDepth 100000 in
theorem elf_Same.calls (a0_0 a0_1 : Int) (A0_2 : Option Addr) (c0_2 : Nat) (l0_2 : List Seg) (a1_0 a1_1 : Int) (A1_2 : Option Addr) (c1_2 : Nat) (l1_2 : List Seg) (r : Bool) (w : World)
    (hr0_2 : Kd.C kSeg w A0_2 l0_2.length l0_2) (hc0_2 : l0_2.length ≤ c0_2) (hr1_2 : Kd.C kSeg w A1_2 l1_2.length l1_2) (hc1_2 : l1_2.length ≤ c1_2) (h : elf_Same.f a0_0 a0_1 l0_2 a1_0 a1_1 l1_2 = some r) :
    Calls Try.prog 19 #[.agg #[.int .i64 a0_0, .int .i64 a0_1, .slice A0_2 l0_2.length c0_2], .agg #[.int .i64 a1_0, .int .i64 a1_1, .slice A1_2 l1_2.length c1_2]] w fun e w' => e = .returned (.bool r) ∧ Below w.heap.size w w' := by
  unfold elf_Same.f at h
  by_cases hb : l0_2.length ≤ 140737488355328
  · rw [if_pos hb] at h
    obtain rfl := Option.some.inj h
    clear h
    have hu := Try.underlying28
    have HR0 := Lib.hid hr0_2; have HR1 := Lib.hid hr1_2; clear hr0_2 hr1_2
    by_cases h1 : a0_0 = a1_0
    · have hd1 : (a0_0 == a1_0) = true := by simp [h1]
      by_cases h2 : a0_1 = a1_1
      · have hd2 : (a0_1 == a1_1) = true := by simp [h2]
        have hfin : (decide (a0_0 = a1_0) && decide (a0_1 = a1_1) && segsEq l0_2 l1_2) = segsEq l0_2 l1_2 := by simp [h1, h2]
        have HF := Lib.hid hfin; clear hfin h1 h2
        go_enter Try.func19, Try.ntmps19
        go_wp2_with fail
        refine (EqualFunc_calls A0_2 A1_2 c0_2 c1_2 l0_2 l1_2 _ (Kd.C_below HR0.out (((Below.refl _ _).alloc (Nat.le_refl _) _).alloc (by simp) _)) hc0_2 (Kd.C_below HR1.out (((Below.refl _ _).alloc (Nat.le_refl _) _).alloc (by simp) _)) hc1_2 hb).mono ?_
        rintro e w1 ⟨rfl, hb1⟩
        go_wp2_with fail
        go_ret
        refine ⟨?_, below_then (((Below.refl _ _).alloc (Nat.le_refl _) _).alloc (by simp) _) (by simp; omega) hb1⟩
        rw [HF.out]
        rfl
      · have hd2 : (a0_1 == a1_1) = false := by simp [h2]
        have hfin : (decide (a0_0 = a1_0) && decide (a0_1 = a1_1) && segsEq l0_2 l1_2) = false := by simp [h2]
        have HF := Lib.hid hfin; clear hfin h1 h2
        go_enter Try.func19, Try.ntmps19
        go_wp2
        go_ret
        refine ⟨?_, ((Below.refl _ _).alloc (Nat.le_refl _) _).alloc (by simp) _⟩
        rw [HF.out]
        rfl
    · have hd1 : (a0_0 == a1_0) = false := by simp [h1]
      have hfin : (decide (a0_0 = a1_0) && decide (a0_1 = a1_1) && segsEq l0_2 l1_2) = false := by simp [h1]
      have HF := Lib.hid hfin; clear hfin h1
      go_enter Try.func19, Try.ntmps19
      go_wp2
      go_ret
      refine ⟨?_, ((Below.refl _ _).alloc (Nat.le_refl _) _).alloc (by simp) _⟩
      rw [HF.out]
      rfl
  · rw [if_neg hb] at h
    cases h
end Go.Proofs.Ytdlgfjefbjkdaaa.H
