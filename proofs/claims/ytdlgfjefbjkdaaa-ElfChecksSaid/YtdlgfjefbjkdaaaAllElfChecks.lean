/- ElfChecks holds: whatever the input, the law tells true, and the input reads as it did. Its conditions: none beyond those of the given statement. -/
import Derived.Test.YtdlgfjefbjkdaaaCheckDefs
import Derived.Test.YtdlgfjefbjkdaaaHeader
import Derived.Test.YtdlgfjefbjkdaaaCheck
import Derived.Test.YtdlgfjefbjkdaaaSame
import Derived.Test.YtdlgfjefbjkdaaaBxFlyleaflaw08Awake
import Derived.Test.YtdlgfjefbjkdaaaAxFlyleafref08Check
import Derived.Test.YtdlgfjefbjkdaaaAxFlyleafref08Header
import Derived.Test.YtdlgfjefbjkdaaaAxFlyleafref08Same
import Derived.Test.YtdlgfjefbjkdaaaOpen
import Derived.Test.YtdlgfjefbjkdaaaPureArith
import Derived.Test.YtdlgfjefbjkdaaaRows
import Derived.WalkKit
import Derived.ProofKit
import Derived.OpenShut
import Derived.ShutString
import Derived.ChangeOld
import Derived.Below
import Derived.SizedLaws
namespace Go.Proofs.Ytdlgfjefbjkdaaa.H
open Go.RowKit Go.Proofs.Ytdlgfjefbjkdaaa.A Go.Proofs.Flat Go.Proofs.YtdlgfjefbjkdaaaW.PrintWords Go.Proofs.YtdlgfjefbjkdaaaW.PrintLast Go.Proofs.YtdlgfjefbjkdaaaW.PrintMore
attribute [local go_sem] max2_int min2_int
set_option linter.unusedVariables false
set_option linter.unusedSimpArgs false
theorem C_take {α : Type} {kd : Kd α} {w : World} {A : Option Addr} {l : List α} (n : Nat) (h : Kd.C kd w A l.length l) : Kd.C kd w A (l.take n).length (l.take n) := by
  obtain ⟨h1, h2, h3⟩ := h
  refine ⟨rfl, by rw [List.length_take]; omega, fun hp => ?_⟩
  obtain ⟨ad, e, hc⟩ := h3 (by rw [List.length_take] at hp; omega)
  refine ⟨ad, e, fun j p hj => hc j p ?_⟩
  rw [List.getElem?_take] at hj
  split at hj
  · exact hj
  · cases hj
set_option maxHeartbeats 4000000 in
set_option maxRecDepth 100000 in
theorem few_calls (a0 a1 : Int) (A : Option Addr) (c : Nat) (l : List Seg) (w : World) (hr : Kd.C kSeg w A l.length l) (hc : l.length ≤ c) :
    Calls Try.prog 16 #[imgV a0 a1 A c l] w fun e w' => e = .returned (imgV a0 a1 A c (l.take 17)) ∧ Below w.heap.size w w' := by
  have hu := Try.underlying28
  by_cases h17 : 17 < l.length
  · have hd : decide ((l.length : Int) > 17) = true := decide_eq_true (by omega)
    obtain ⟨ad, rfl⟩ : ∃ ad, A = some ad := by
      obtain ⟨_, _, h⟩ := hr
      obtain ⟨ad, e, _⟩ := h (by omega)
      exact ⟨ad, e⟩
    have hl : (l.take 17).length = 17 := by rw [List.length_take]; omega
    have h1 : (17 : Int) ≤ (c : Int) := by omega
    have HL := Lib.hid hl
    clear hr hc h17 hl
    go_enter Try.func16, Try.ntmps16
    go_wp2
    refine bodyPost_ret (results_cell_row rfl _ _ (w.heap.size + 1) 28 #[.int .i64 a0, .int .i64 a1, .slice (some ad) 17 c] (0, 0) _ rfl (by
      have hsz : (w.alloc (.cells #[.int .i64 a0, .int .i64 a1, .slice (some ad) 17 c] 28)).heap.size = w.heap.size + 1 := by simp
      rw [← hsz]; exact blk_new _ _) hu rfl (by kernel_rfl)) rfl ?_
    refine ⟨?_, ?_⟩
    · unfold imgV; rw [HL.out]
    · exact ((Below.refl _ _).alloc (Nat.le_refl _) _).alloc (by simp) _
  · have hd : decide ((l.length : Int) > 17) = false := decide_eq_false (by omega)
    have hl : l.take 17 = l := List.take_of_length_le (by omega)
    have HL := Lib.hid hl
    clear hr hc h17 hl
    go_enter Try.func16, Try.ntmps16
    go_wp2
    refine bodyPost_ret (results_cell_row rfl _ _ (w.heap.size + 1) 28 #[.int .i64 a0, .int .i64 a1, .slice A l.length c] (0, 0) _ rfl (by
      have hsz : (w.alloc (.cells #[.int .i64 a0, .int .i64 a1, .slice A l.length c] 28)).heap.size = w.heap.size + 1 := by simp
      rw [← hsz]; exact blk_new _ _) hu rfl (by kernel_rfl)) rfl ?_
    refine ⟨?_, ?_⟩
    · unfold imgV; rw [HL.out]
    · exact ((Below.refl _ _).alloc (Nat.le_refl _) _).alloc (by simp) _
end Go.Proofs.Ytdlgfjefbjkdaaa.H
namespace Go.Proofs.Ytdlgfjefbjkdaaa.H
open Go.RowKit Go.Proofs.Ytdlgfjefbjkdaaa.A Go.Proofs.Flat Go.Proofs.YtdlgfjefbjkdaaaW.PrintWords Go.Proofs.YtdlgfjefbjkdaaaW.PrintLast Go.Proofs.YtdlgfjefbjkdaaaW.PrintMore
attribute [local go_sem] max2_int min2_int
set_option linter.unusedVariables false
set_option linter.unusedSimpArgs false
/-- The four comparisons hold, with so many rounds. -/
structure Told (k : Nat) (x0 x1 : Int) (xl : List Seg) (size : Int) (y0 y1 : Int) (yl : List Seg) : Prop where
  aw : flyleaflaw08_awake.f k = some true
  ck : ∃ r, elf_Check.f x0 x1 (xl.take 17) size = some r ∧ flyleafref08_Check.f k x0 x1 (xl.take 17) size = some r
  hd : ∃ r, elf_Header.f x0 x1 (xl.take 17) = some r ∧ flyleafref08_Header.f k x0 x1 (xl.take 17) = some r
  sm : ∃ r, elf_Same.f x0 x1 (xl.take 17) y0 y1 (yl.take 17) = some r ∧ flyleafref08_Same.f k x0 x1 (xl.take 17) y0 y1 (yl.take 17) = some r
  me : elf_Same.f x0 x1 (xl.take 17) x0 x1 (xl.take 17) = some true
open Classical in
noncomputable def elfChecks.f (k : Nat) (x0 x1 : Int) (xl : List Seg) (size : Int) (y0 y1 : Int) (yl : List Seg) : Option Bool := if Told k x0 x1 xl size y0 y1 yl then some true else none

structure EC (w : World) (x0 x1 : Int) (Ax : Option Addr) (nx cx : Nat) (y0 y1 : Int) (Ay : Option Addr) (ny cy : Nat) (W : World) : Prop where
  bel : Below w.heap.size w W
  bx : W.heap[w.heap.size]? = some (.cells #[.int .i64 x0, .int .i64 x1, .slice Ax nx cx] 28 (0, 0))
  bY : W.heap[w.heap.size + 1]? = some (.cells #[.int .i64 y0, .int .i64 y1, .slice Ay ny cy] 28 (0, 0))
section
variable {w W W' : World} {x0 x1 y0 y1 : Int} {Ax Ay : Option Addr} {nx cx ny cy : Nat}
theorem EC.step (h : EC w x0 x1 Ax nx cx y0 y1 Ay ny cy W) (hb : Below W.heap.size W W') : EC w x0 x1 Ax nx cx y0 y1 Ay ny cy W' := ⟨below_then h.bel h.bel.size hb, blk_below h.bx hb, blk_below h.bY hb⟩
theorem EC.drew (h : EC w x0 x1 Ax nx cx y0 y1 Ay ny cy W) : EC w x0 x1 Ax nx cx y0 y1 Ay ny cy W.drew := ⟨below_drew h.bel, h.bx, h.bY⟩
theorem EC.setx (h : EC w x0 x1 Ax nx cx y0 y1 Ay ny cy W) (n : Nat) : EC w x0 x1 Ax n cx y0 y1 Ay ny cy (((W.setCell ⟨w.heap.size, 0, none⟩ (.int .i64 x0)).setCell ⟨w.heap.size, 1, none⟩ (.int .i64 x1)).setCell ⟨w.heap.size, 2, none⟩ (.slice Ax n cx)) :=
  ⟨below_set (below_set (below_set h.bel (by simp) ) (by simp)) (by simp), blk_put (blk_put (blk_put h.bx 0 _ rfl) 1 _ rfl) 2 _ rfl, blk_far (blk_far (blk_far h.bY (by simp) _) (by simp) _) (by simp) _⟩
theorem EC.sety (h : EC w x0 x1 Ax nx cx y0 y1 Ay ny cy W) (n : Nat) : EC w x0 x1 Ax nx cx y0 y1 Ay n cy (((W.setCell ⟨w.heap.size + 1, 0, none⟩ (.int .i64 y0)).setCell ⟨w.heap.size + 1, 1, none⟩ (.int .i64 y1)).setCell ⟨w.heap.size + 1, 2, none⟩ (.slice Ay n cy)) :=
  ⟨below_set (below_set (below_set h.bel (by simp)) (by simp)) (by simp), blk_far (blk_far (blk_far h.bx (by simp) _) (by simp) _) (by simp) _, blk_put (blk_put (blk_put h.bY 0 _ rfl) 1 _ rfl) 2 _ rfl⟩
theorem EC.start (w : World) (x0 x1 y0 y1 : Int) (Ax Ay : Option Addr) (nx cx ny cy : Nat) : EC w x0 x1 Ax nx cx y0 y1 Ay ny cy ((w.alloc (.cells #[.int .i64 x0, .int .i64 x1, .slice Ax nx cx] 28)).alloc (.cells #[.int .i64 y0, .int .i64 y1, .slice Ay ny cy] 28)) := by
  have hsz : (w.alloc (.cells #[.int .i64 x0, .int .i64 x1, .slice Ax nx cx] 28)).heap.size = w.heap.size + 1 := by simp
  exact ⟨((Below.refl _ _).alloc (Nat.le_refl _) _).alloc (by simp) _, blk_alloc (blk_new _ _) _, by rw [← hsz]; exact blk_new _ _⟩
theorem EC.cx0 (h : EC w x0 x1 Ax nx cx y0 y1 Ay ny cy W) : W.cell? ⟨w.heap.size, 0, none⟩ = some (.int .i64 x0) := (blk_cell h.bx 0).trans rfl
theorem EC.cx1 (h : EC w x0 x1 Ax nx cx y0 y1 Ay ny cy W) : W.cell? ⟨w.heap.size, 1, none⟩ = some (.int .i64 x1) := (blk_cell h.bx 1).trans rfl
theorem EC.cx2 (h : EC w x0 x1 Ax nx cx y0 y1 Ay ny cy W) : W.cell? ⟨w.heap.size, 2, none⟩ = some (.slice Ax nx cx) := (blk_cell h.bx 2).trans rfl
theorem EC.cy0 (h : EC w x0 x1 Ax nx cx y0 y1 Ay ny cy W) : W.cell? ⟨w.heap.size + 1, 0, none⟩ = some (.int .i64 y0) := (blk_cell h.bY 0).trans rfl
theorem EC.cy1 (h : EC w x0 x1 Ax nx cx y0 y1 Ay ny cy W) : W.cell? ⟨w.heap.size + 1, 1, none⟩ = some (.int .i64 y1) := (blk_cell h.bY 1).trans rfl
theorem EC.cy2 (h : EC w x0 x1 Ax nx cx y0 y1 Ay ny cy W) : W.cell? ⟨w.heap.size + 1, 2, none⟩ = some (.slice Ay ny cy) := (blk_cell h.bY 2).trans rfl
end
theorem few_told (a0 a1 : Int) (A : Option Addr) (c : Nat) (l : List Seg) (w : World) (hr : Kd.C kSeg w A l.length l) (hc : l.length ≤ c) :
    Calls Try.prog 16 #[imgV a0 a1 A c l] w fun e w' => ∃ n : Nat, Hid (n = (l.take 17).length) ∧ e = .returned (.agg #[.int .i64 a0, .int .i64 a1, .slice A n c]) ∧ Below w.heap.size w w' :=
  (few_calls a0 a1 A c l w hr hc).mono fun e w' h => ⟨_, Lib.hid rfl, h.1, h.2⟩
set_option maxHeartbeats 8000000 in
set_option maxRecDepth 100000 in
theorem elfChecks.calls (k : Nat) (a0_0 a0_1 : Int) (A0_2 : Option Addr) (c0_2 : Nat) (l0_2 : List Seg) (a1 : Int) (a2_0 a2_1 : Int) (A2_2 : Option Addr) (c2_2 : Nat) (l2_2 : List Seg) (r : Bool) (w : World)
    (hr0_2 : Kd.C kSeg w A0_2 l0_2.length l0_2) (hc0_2 : l0_2.length ≤ c0_2) (hr2_2 : Kd.C kSeg w A2_2 l2_2.length l2_2) (hc2_2 : l2_2.length ≤ c2_2) (h : elfChecks.f k a0_0 a0_1 l0_2 a1 a2_0 a2_1 l2_2 = some r) :
    Calls Try.prog 5 #[imgV a0_0 a0_1 A0_2 c0_2 l0_2, .int .i64 a1, imgV a2_0 a2_1 A2_2 c2_2 l2_2] w fun e w' => e = .returned (.bool r) ∧ Below w.heap.size w w' := by
  unfold elfChecks.f at h
  split at h
  case isFalse => cases h
  rename_i ht
  obtain rfl := Option.some.inj h
  clear h
  obtain ⟨aw, ⟨rc, ck1, ck2⟩, ⟨rh, hd1, hd2⟩, ⟨rs, sm1, sm2⟩, me⟩ := ht
  have hu := Try.underlying28
  have AW := Lib.hid aw; have CK1 := Lib.hid ck1; have CK2 := Lib.hid ck2; have HD1 := Lib.hid hd1; have HD2 := Lib.hid hd2; have SM1 := Lib.hid sm1; have SM2 := Lib.hid sm2; have ME := Lib.hid me
  have HR0 := Lib.hid hr0_2; have HR2 := Lib.hid hr2_2; have HC0 := Lib.hid hc0_2; have HC2 := Lib.hid hc2_2
  clear aw ck1 ck2 hd1 hd2 sm1 sm2 me hr0_2 hr2_2 hc0_2 hc2_2
  have hq1 : (rc == rc) = true := by simp
  have hq3 : (rs == rs) = true := by simp
  go_enter Try.func5, Try.ntmps5
  go_wp2_with fail
  have HE := EC.start w a0_0 a0_1 a2_0 a2_1 A0_2 A2_2 l0_2.length c0_2 l2_2.length c2_2
  generalize ((w.alloc (.cells #[.int .i64 a0_0, .int .i64 a0_1, .slice A0_2 l0_2.length c0_2] 28)).alloc (.cells #[.int .i64 a2_0, .int .i64 a2_1, .slice A2_2 l2_2.length c2_2] 28)) = W0 at *
  refine (flyleaflaw08_awake.calls k true _ AW.out).mono ?_
  rintro e w1 ⟨rfl, hb1⟩
  replace HE := HE.step hb1
  clear hb1
  have f0 := HE.cx0; have f1 := HE.cx1; have f2 := HE.cx2
  go_wp2_with fail
  clear f0 f1 f2
  refine (few_told a0_0 a0_1 A0_2 c0_2 l0_2 _ (Kd.C_below HR0.out HE.bel) HC0.out).mono ?_
  rintro e w2 ⟨n0, HN0, rfl, hb1⟩
  replace HE := HE.step hb1
  clear hb1
  have f0 := HE.cy0; have f1 := HE.cy1; have f2 := HE.cy2; have g0 := HE.cx0; have g1 := HE.cx1; have g2 := HE.cx2
  have f3 := blk_frozen HE.bx 0; have f4 := blk_frozen HE.bx 1; have f5 := blk_frozen HE.bx 2
  go_wp2_with fail
  clear f0 f1 f2 f3 f4 f5 g0 g1 g2
  replace HE := HE.setx n0
  refine (few_told a2_0 a2_1 A2_2 c2_2 l2_2 _ (Kd.C_below HR2.out HE.bel) HC2.out).mono ?_
  rintro e w3 ⟨n2, HN2, rfl, hb1⟩
  replace HE := HE.step hb1
  clear hb1
  have g0 := HE.cy0; have g1 := HE.cy1; have g2 := HE.cy2
  have f3 := blk_frozen HE.bY 0; have f4 := blk_frozen HE.bY 1; have f5 := blk_frozen HE.bY 2
  go_wp2_with fail
  clear g0 g1 g2 f3 f4 f5
  replace HE := HE.sety n2
  generalize (((w3.setCell ⟨w.heap.size + 1, 0, none⟩ (.int .i64 a2_0)).setCell ⟨w.heap.size + 1, 1, none⟩ (.int .i64 a2_1)).setCell ⟨w.heap.size + 1, 2, none⟩ (.slice A2_2 n2 c2_2)) = W4 at *
  have hE : ∀ W, EC w a0_0 a0_1 A0_2 n0 c0_2 a2_0 a2_1 A2_2 n2 c2_2 W → Kd.C kSeg W A0_2 n0 (l0_2.take 17) ∧ n0 ≤ c0_2 ∧ n0 = (l0_2.take 17).length ∧ Kd.C kSeg W A2_2 n2 (l2_2.take 17) ∧ n2 ≤ c2_2 ∧ n2 = (l2_2.take 17).length := by
    intro W h
    have e0 := HN0.out
    have e2 := HN2.out
    have k0 := HC0.out
    have k2 := HC2.out
    refine ⟨by rw [e0]; exact C_take 17 (Kd.C_below HR0.out h.bel), by rw [e0, List.length_take]; omega, e0, by rw [e2]; exact C_take 17 (Kd.C_below HR2.out h.bel), by rw [e2, List.length_take]; omega, e2⟩
  have P1 : Hid (∀ W, EC w a0_0 a0_1 A0_2 n0 c0_2 a2_0 a2_1 A2_2 n2 c2_2 W → Calls Try.prog 13 #[.agg #[.int .i64 a0_0, .int .i64 a0_1, .slice A0_2 n0 c0_2], .int .i64 a1] W fun e w' => e = .returned (.int .i64 rc) ∧ Below W.heap.size W w') := Lib.hid (by
    intro W h
    obtain ⟨C0, L0, E0, C2, L2, E2⟩ := hE W h
    subst E0
    exact elf_Check.calls _ _ _ _ _ _ _ _ C0 L0 CK1.out)
  have P2 : Hid (∀ W, EC w a0_0 a0_1 A0_2 n0 c0_2 a2_0 a2_1 A2_2 n2 c2_2 W → Calls Try.prog 17 #[.agg #[.int .i64 a0_0, .int .i64 a0_1, .slice A0_2 n0 c0_2], .int .i64 a1] W fun e w' => e = .returned (.int .i64 rc) ∧ Below W.heap.size W w') := Lib.hid (by
    intro W h
    obtain ⟨C0, L0, E0, C2, L2, E2⟩ := hE W h
    subst E0
    exact flyleafref08_Check.calls k _ _ _ _ _ _ _ _ C0 L0 CK2.out)
  have P3 : Hid (∀ W, EC w a0_0 a0_1 A0_2 n0 c0_2 a2_0 a2_1 A2_2 n2 c2_2 W → Calls Try.prog 12 #[.agg #[.int .i64 a0_0, .int .i64 a0_1, .slice A0_2 n0 c0_2]] W fun e w' => e = .returned (.string rh) ∧ Below W.heap.size W w') := Lib.hid (by
    intro W h
    obtain ⟨C0, L0, E0, C2, L2, E2⟩ := hE W h
    subst E0
    exact elf_Header.calls _ _ _ _ _ _ _ C0 L0 HD1.out)
  have P4 : Hid (∀ W, EC w a0_0 a0_1 A0_2 n0 c0_2 a2_0 a2_1 A2_2 n2 c2_2 W → Calls Try.prog 18 #[.agg #[.int .i64 a0_0, .int .i64 a0_1, .slice A0_2 n0 c0_2]] W fun e w' => e = .returned (.string rh) ∧ Below W.heap.size W w') := Lib.hid (by
    intro W h
    obtain ⟨C0, L0, E0, C2, L2, E2⟩ := hE W h
    subst E0
    exact flyleafref08_Header.calls k _ _ _ _ _ _ _ C0 L0 HD2.out)
  have P5 : Hid (∀ W, EC w a0_0 a0_1 A0_2 n0 c0_2 a2_0 a2_1 A2_2 n2 c2_2 W → Calls Try.prog 19 #[.agg #[.int .i64 a0_0, .int .i64 a0_1, .slice A0_2 n0 c0_2], .agg #[.int .i64 a2_0, .int .i64 a2_1, .slice A2_2 n2 c2_2]] W fun e w' => e = .returned (.bool rs) ∧ Below W.heap.size W w') := Lib.hid (by
    intro W h
    obtain ⟨C0, L0, E0, C2, L2, E2⟩ := hE W h
    subst E0
    subst E2
    exact elf_Same.calls _ _ _ _ _ _ _ _ _ _ _ _ C0 L0 C2 L2 SM1.out)
  have P6 : Hid (∀ W, EC w a0_0 a0_1 A0_2 n0 c0_2 a2_0 a2_1 A2_2 n2 c2_2 W → Calls Try.prog 20 #[.agg #[.int .i64 a0_0, .int .i64 a0_1, .slice A0_2 n0 c0_2], .agg #[.int .i64 a2_0, .int .i64 a2_1, .slice A2_2 n2 c2_2]] W fun e w' => e = .returned (.bool rs) ∧ Below W.heap.size W w') := Lib.hid (by
    intro W h
    obtain ⟨C0, L0, E0, C2, L2, E2⟩ := hE W h
    subst E0
    subst E2
    exact flyleafref08_Same.calls k _ _ _ _ _ _ _ _ _ _ _ _ C0 L0 C2 L2 SM2.out)
  have P7 : Hid (∀ W, EC w a0_0 a0_1 A0_2 n0 c0_2 a2_0 a2_1 A2_2 n2 c2_2 W → Calls Try.prog 19 #[.agg #[.int .i64 a0_0, .int .i64 a0_1, .slice A0_2 n0 c0_2], .agg #[.int .i64 a0_0, .int .i64 a0_1, .slice A0_2 n0 c0_2]] W fun e w' => e = .returned (.bool true) ∧ Below W.heap.size W w') := Lib.hid (by
    intro W h
    obtain ⟨C0, L0, E0, C2, L2, E2⟩ := hE W h
    subst E0
    exact elf_Same.calls _ _ _ _ _ _ _ _ _ _ _ _ C0 L0 C0 L0 ME.out)
  clear hE AW CK1 CK2 HD1 HD2 SM1 SM2 ME HR0 HR2 HC0 HC2 HN0 HN2
  replace HE := HE.drew
  refine start_ (n := 32) (S := fun w' => w'.cell? ⟨w.heap.size, 0, none⟩ = some (.int .i64 a0_0) ∧ w'.cell? ⟨w.heap.size, 1, none⟩ = some (.int .i64 a0_1) ∧ w'.cell? ⟨w.heap.size, 2, none⟩ = some (.slice A0_2 n0 c0_2) ∧ w'.cell? ⟨w.heap.size + 1, 0, none⟩ = some (.int .i64 a2_0) ∧ w'.cell? ⟨w.heap.size + 1, 1, none⟩ = some (.int .i64 a2_1) ∧ w'.cell? ⟨w.heap.size + 1, 2, none⟩ = some (.slice A2_2 n2 c2_2)) (ds := []) #[false, false, false, false, false, false, false, false, false, false, false, false, false, false, false, false, false, false, false, false, false, false, false, false, false, false, false, false, false, false, false, false] (by kernel_rfl) rfl rfl ⟨HE.cx0, HE.cx1, HE.cx2, HE.cy0, HE.cy1, HE.cy2⟩ (fun hHeld => ?_)
  refine pure_ (i := 0) (N := some 13) (v := ?_) (a' := ?_) #[true, false, false, false, false, false, false, false, false, false, false, false, false, false, false, false, false, false, false, false, false, false, false, false, false, false, false, false, false, false, false, false] rfl rfl (by kernel_rfl) (fun _ _ _ h => h) (Or.inl ⟨by rfl, ?_⟩) ?_ ?_
  rotate_left
  · intro w'
    go_simp
    with_reducible rfl
  rotate_left
  · simp only [Act.put, List.setIfInBounds_toArray, List.set_cons_zero, List.set_cons_succ, i64_w, i32_w]
    rfl
  refine pure_ (i := 1) (N := some 14) (v := ?_) (a' := ?_) #[true, true, false, false, false, false, false, false, false, false, false, false, false, false, false, false, false, false, false, false, false, false, false, false, false, false, false, false, false, false, false, false] rfl rfl (by kernel_rfl) (fun _ _ _ h => h) (Or.inl ⟨by rfl, ?_⟩) ?_ ?_
  rotate_left
  · intro w'
    go_simp
    with_reducible rfl
  rotate_left
  · simp only [Act.put, List.setIfInBounds_toArray, List.set_cons_zero, List.set_cons_succ, i64_w, i32_w]
    rfl
  refine pure_ (i := 3) (N := some 16) (v := ?_) (a' := ?_) #[true, true, false, true, false, false, false, false, false, false, false, false, false, false, false, false, false, false, false, false, false, false, false, false, false, false, false, false, false, false, false, false] rfl rfl (by kernel_rfl) (fun _ _ _ h => h) (Or.inl ⟨by rfl, ?_⟩) ?_ ?_
  rotate_left
  · intro w'
    go_simp
    with_reducible rfl
  rotate_left
  · simp only [Act.put, List.setIfInBounds_toArray, List.set_cons_zero, List.set_cons_succ, i64_w, i32_w]
    rfl
  refine pure_ (i := 6) (N := some 19) (v := ?_) (a' := ?_) #[true, true, false, true, false, false, true, false, false, false, false, false, false, false, false, false, false, false, false, false, false, false, false, false, false, false, false, false, false, false, false, false] rfl rfl (by kernel_rfl) (fun _ _ _ h => h) (Or.inl ⟨by rfl, ?_⟩) ?_ ?_
  rotate_left
  · intro w'
    go_simp
    with_reducible rfl
  rotate_left
  · simp only [Act.put, List.setIfInBounds_toArray, List.set_cons_zero, List.set_cons_succ, i64_w, i32_w]
    rfl
  refine take_ (i := 2) (N := some 15) (v := ?_) (a' := ?_) #[true, true, true, true, false, false, true, false, false, false, false, false, false, false, false, false, false, false, false, false, false, false, false, false, false, false, false, false, false, false, false, false] rfl rfl (by kernel_rfl) (fun _ _ _ h => h) (Or.inl ⟨by rfl, ?_⟩) hHeld ?_ ?_
  rotate_left
  · rintro w' ⟨s0, s1, s2, s3, s4, s5⟩
    go_simp
    with_reducible rfl
  rotate_left
  · simp only [Act.put, List.setIfInBounds_toArray, List.set_cons_zero, List.set_cons_succ, i64_w, i32_w]
    rfl
  refine take_ (i := 5) (N := some 18) (v := ?_) (a' := ?_) #[true, true, true, true, false, true, true, false, false, false, false, false, false, false, false, false, false, false, false, false, false, false, false, false, false, false, false, false, false, false, false, false] rfl rfl (by kernel_rfl) (fun _ _ _ h => h) (Or.inl ⟨by rfl, ?_⟩) hHeld ?_ ?_
  rotate_left
  · rintro w' ⟨s0, s1, s2, s3, s4, s5⟩
    go_simp
    with_reducible rfl
  rotate_left
  · simp only [Act.put, List.setIfInBounds_toArray, List.set_cons_zero, List.set_cons_succ, i64_w, i32_w]
    rfl
  refine one_ (i := 4) (N := some 17) #[true, true, true, true, true, true, true, false, false, false, false, false, false, false, false, false, false, false, false, false, false, false, false, false, false, false, false, false, false, false, false, false] rfl rfl (by kernel_rfl) (by decide) (fun K hK => ?_)
  refine goes_ Try.func13 (by kernel_rfl) rfl #[.agg #[.int .i64 a0_0, .int .i64 a0_1, .slice A0_2 n0 c0_2], .int .i64 a1] (by rfl) rfl rfl (by simp only [List.map_toArray, List.map_cons, List.map_nil]; rfl) ?_
  with_reducible refine (P1.out _ HE).mono ?_
  rintro e w1 ⟨rfl, hb1⟩
  refine ⟨_, rfl, ?_⟩
  replace HE := HE.step hb1
  clear hb1
  refine hK.out _ _ ⟨HE.cx0, HE.cx1, HE.cx2, HE.cy0, HE.cy1, HE.cy2⟩ (fun hHeld => ?_)
  clear hK K
  refine norm_ (a' := ?_) ?_ ?_
  rotate_left
  · show Act.put _ (some 17) _ = _
    simp only [Act.put, List.setIfInBounds_toArray, List.set_cons_zero, List.set_cons_succ, i64_w, i32_w]
    rfl
  refine one_ (i := 7) (N := some 20) #[true, true, true, true, true, true, true, true, false, false, false, false, false, false, false, false, false, false, false, false, false, false, false, false, false, false, false, false, false, false, false, false] rfl rfl (by kernel_rfl) (by decide) (fun K hK => ?_)
  refine goes_ Try.func17 (by kernel_rfl) rfl #[.agg #[.int .i64 a0_0, .int .i64 a0_1, .slice A0_2 n0 c0_2], .int .i64 a1] (by rfl) rfl rfl (by simp only [List.map_toArray, List.map_cons, List.map_nil]; rfl) ?_
  with_reducible refine (P2.out _ HE).mono ?_
  rintro e w1 ⟨rfl, hb1⟩
  refine ⟨_, rfl, ?_⟩
  replace HE := HE.step hb1
  clear hb1
  refine hK.out _ _ ⟨HE.cx0, HE.cx1, HE.cx2, HE.cy0, HE.cy1, HE.cy2⟩ (fun hHeld => ?_)
  clear hK K
  refine norm_ (a' := ?_) ?_ ?_
  rotate_left
  · show Act.put _ (some 20) _ = _
    simp only [Act.put, List.setIfInBounds_toArray, List.set_cons_zero, List.set_cons_succ, i64_w, i32_w]
    rfl
  refine pure_ (i := 8) (N := some 21) (v := ?_) (a' := ?_) #[true, true, true, true, true, true, true, true, true, false, false, false, false, false, false, false, false, false, false, false, false, false, false, false, false, false, false, false, false, false, false, false] rfl rfl (by kernel_rfl) (fun _ _ _ h => h) (Or.inl ⟨by rfl, ?_⟩) ?_ ?_
  rotate_left
  · intro w'
    go_simp
    with_reducible rfl
  rotate_left
  · simp only [Act.put, List.setIfInBounds_toArray, List.set_cons_zero, List.set_cons_succ, i64_w, i32_w]
    rfl
  refine pure_ (i := 9) (N := some 22) (v := ?_) (a' := ?_) #[true, true, true, true, true, true, true, true, true, true, false, false, false, false, false, false, false, false, false, false, false, false, false, false, false, false, false, false, false, false, false, false] rfl rfl (by kernel_rfl) (fun _ _ _ h => h) (Or.inl ⟨by rfl, ?_⟩) ?_ ?_
  rotate_left
  · intro w'
    go_simp
    with_reducible rfl
  rotate_left
  · simp only [Act.put, List.setIfInBounds_toArray, List.set_cons_zero, List.set_cons_succ, i64_w, i32_w]
    rfl
  refine pure_ (i := 10) (N := some 23) (v := ?_) (a' := ?_) #[true, true, true, true, true, true, true, true, true, true, true, false, false, false, false, false, false, false, false, false, false, false, false, false, false, false, false, false, false, false, false, false] rfl rfl (by kernel_rfl) (fun _ _ _ h => h) (Or.inl ⟨by rfl, ?_⟩) ?_ ?_
  rotate_left
  · intro w'
    go_simp
    with_reducible rfl
  rotate_left
  · simp only [Act.put, List.setIfInBounds_toArray, List.set_cons_zero, List.set_cons_succ, i64_w, i32_w]
    rfl
  refine take_ (i := 11) (N := some 24) (v := ?_) (a' := ?_) #[true, true, true, true, true, true, true, true, true, true, true, true, false, false, false, false, false, false, false, false, false, false, false, false, false, false, false, false, false, false, false, false] rfl rfl (by kernel_rfl) (fun _ _ _ h => h) (Or.inl ⟨by rfl, ?_⟩) hHeld ?_ ?_
  rotate_left
  · rintro w' ⟨s0, s1, s2, s3, s4, s5⟩
    go_simp
    with_reducible rfl
  rotate_left
  · simp only [Act.put, List.setIfInBounds_toArray, List.set_cons_zero, List.set_cons_succ, i64_w, i32_w]
    rfl
  refine take_ (i := 13) (N := some 26) (v := ?_) (a' := ?_) #[true, true, true, true, true, true, true, true, true, true, true, true, false, true, false, false, false, false, false, false, false, false, false, false, false, false, false, false, false, false, false, false] rfl rfl (by kernel_rfl) (fun _ _ _ h => h) (Or.inl ⟨by rfl, ?_⟩) hHeld ?_ ?_
  rotate_left
  · rintro w' ⟨s0, s1, s2, s3, s4, s5⟩
    go_simp
    with_reducible rfl
  rotate_left
  · simp only [Act.put, List.setIfInBounds_toArray, List.set_cons_zero, List.set_cons_succ, i64_w, i32_w]
    rfl
  refine one_ (i := 12) (N := some 25) #[true, true, true, true, true, true, true, true, true, true, true, true, true, true, false, false, false, false, false, false, false, false, false, false, false, false, false, false, false, false, false, false] rfl rfl (by kernel_rfl) (by decide) (fun K hK => ?_)
  refine goes_ Try.func12 (by kernel_rfl) rfl #[.agg #[.int .i64 a0_0, .int .i64 a0_1, .slice A0_2 n0 c0_2]] (by rfl) rfl rfl (by simp only [List.map_toArray, List.map_cons, List.map_nil]; rfl) ?_
  with_reducible refine (P3.out _ HE).mono ?_
  rintro e w1 ⟨rfl, hb1⟩
  refine ⟨_, rfl, ?_⟩
  replace HE := HE.step hb1
  clear hb1
  refine hK.out _ _ ⟨HE.cx0, HE.cx1, HE.cx2, HE.cy0, HE.cy1, HE.cy2⟩ (fun hHeld => ?_)
  clear hK K
  refine norm_ (a' := ?_) ?_ ?_
  rotate_left
  · show Act.put _ (some 25) _ = _
    simp only [Act.put, List.setIfInBounds_toArray, List.set_cons_zero, List.set_cons_succ, i64_w, i32_w]
    rfl
  refine one_ (i := 14) (N := some 27) #[true, true, true, true, true, true, true, true, true, true, true, true, true, true, true, false, false, false, false, false, false, false, false, false, false, false, false, false, false, false, false, false] rfl rfl (by kernel_rfl) (by decide) (fun K hK => ?_)
  refine goes_ Try.func18 (by kernel_rfl) rfl #[.agg #[.int .i64 a0_0, .int .i64 a0_1, .slice A0_2 n0 c0_2]] (by rfl) rfl rfl (by simp only [List.map_toArray, List.map_cons, List.map_nil]; rfl) ?_
  with_reducible refine (P4.out _ HE).mono ?_
  rintro e w1 ⟨rfl, hb1⟩
  refine ⟨_, rfl, ?_⟩
  replace HE := HE.step hb1
  clear hb1
  refine hK.out _ _ ⟨HE.cx0, HE.cx1, HE.cx2, HE.cy0, HE.cy1, HE.cy2⟩ (fun hHeld => ?_)
  clear hK K
  refine norm_ (a' := ?_) ?_ ?_
  rotate_left
  · show Act.put _ (some 27) _ = _
    simp only [Act.put, List.setIfInBounds_toArray, List.set_cons_zero, List.set_cons_succ, i64_w, i32_w]
    rfl
  refine pure_ (i := 15) (N := some 28) (v := ?_) (a' := ?_) #[true, true, true, true, true, true, true, true, true, true, true, true, true, true, true, true, false, false, false, false, false, false, false, false, false, false, false, false, false, false, false, false] rfl rfl (by kernel_rfl) (fun _ _ _ h => h) (Or.inl ⟨by rfl, ?_⟩) ?_ ?_
  rotate_left
  · intro w'
    go_simp
    with_reducible rfl
  rotate_left
  · simp only [Act.put, List.setIfInBounds_toArray, List.set_cons_zero, List.set_cons_succ, i64_w, i32_w]
    rfl
  refine pure_ (i := 16) (N := some 29) (v := ?_) (a' := ?_) #[true, true, true, true, true, true, true, true, true, true, true, true, true, true, true, true, true, false, false, false, false, false, false, false, false, false, false, false, false, false, false, false] rfl rfl (by kernel_rfl) (fun _ _ _ h => h) (Or.inl ⟨by rfl, ?_⟩) ?_ ?_
  rotate_left
  · intro w'
    go_simp
    with_reducible rfl
  rotate_left
  · simp only [Act.put, List.setIfInBounds_toArray, List.set_cons_zero, List.set_cons_succ, i64_w, i32_w]
    rfl
  refine pure_ (i := 17) (N := some 30) (v := ?_) (a' := ?_) #[true, true, true, true, true, true, true, true, true, true, true, true, true, true, true, true, true, true, false, false, false, false, false, false, false, false, false, false, false, false, false, false] rfl rfl (by kernel_rfl) (fun _ _ _ h => h) (Or.inl ⟨by rfl, ?_⟩) ?_ ?_
  rotate_left
  · intro w'
    go_simp
    with_reducible rfl
  rotate_left
  · simp only [Act.put, List.setIfInBounds_toArray, List.set_cons_zero, List.set_cons_succ, i64_w, i32_w]
    rfl
  refine take_ (i := 18) (N := some 31) (v := ?_) (a' := ?_) #[true, true, true, true, true, true, true, true, true, true, true, true, true, true, true, true, true, true, true, false, false, false, false, false, false, false, false, false, false, false, false, false] rfl rfl (by kernel_rfl) (fun _ _ _ h => h) (Or.inl ⟨by rfl, ?_⟩) hHeld ?_ ?_
  rotate_left
  · rintro w' ⟨s0, s1, s2, s3, s4, s5⟩
    go_simp
    with_reducible rfl
  rotate_left
  · simp only [Act.put, List.setIfInBounds_toArray, List.set_cons_zero, List.set_cons_succ, i64_w, i32_w]
    rfl
  refine take_ (i := 19) (N := some 32) (v := ?_) (a' := ?_) #[true, true, true, true, true, true, true, true, true, true, true, true, true, true, true, true, true, true, true, true, false, false, false, false, false, false, false, false, false, false, false, false] rfl rfl (by kernel_rfl) (fun _ _ _ h => h) (Or.inl ⟨by rfl, ?_⟩) hHeld ?_ ?_
  rotate_left
  · rintro w' ⟨s0, s1, s2, s3, s4, s5⟩
    go_simp
    with_reducible rfl
  rotate_left
  · simp only [Act.put, List.setIfInBounds_toArray, List.set_cons_zero, List.set_cons_succ, i64_w, i32_w]
    rfl
  refine take_ (i := 21) (N := some 34) (v := ?_) (a' := ?_) #[true, true, true, true, true, true, true, true, true, true, true, true, true, true, true, true, true, true, true, true, false, true, false, false, false, false, false, false, false, false, false, false] rfl rfl (by kernel_rfl) (fun _ _ _ h => h) (Or.inl ⟨by rfl, ?_⟩) hHeld ?_ ?_
  rotate_left
  · rintro w' ⟨s0, s1, s2, s3, s4, s5⟩
    go_simp
    with_reducible rfl
  rotate_left
  · simp only [Act.put, List.setIfInBounds_toArray, List.set_cons_zero, List.set_cons_succ, i64_w, i32_w]
    rfl
  refine take_ (i := 22) (N := some 35) (v := ?_) (a' := ?_) #[true, true, true, true, true, true, true, true, true, true, true, true, true, true, true, true, true, true, true, true, false, true, true, false, false, false, false, false, false, false, false, false] rfl rfl (by kernel_rfl) (fun _ _ _ h => h) (Or.inl ⟨by rfl, ?_⟩) hHeld ?_ ?_
  rotate_left
  · rintro w' ⟨s0, s1, s2, s3, s4, s5⟩
    go_simp
    with_reducible rfl
  rotate_left
  · simp only [Act.put, List.setIfInBounds_toArray, List.set_cons_zero, List.set_cons_succ, i64_w, i32_w]
    rfl
  refine one_ (i := 20) (N := some 33) #[true, true, true, true, true, true, true, true, true, true, true, true, true, true, true, true, true, true, true, true, true, true, true, false, false, false, false, false, false, false, false, false] rfl rfl (by kernel_rfl) (by decide) (fun K hK => ?_)
  refine goes_ Try.func19 (by kernel_rfl) rfl #[.agg #[.int .i64 a0_0, .int .i64 a0_1, .slice A0_2 n0 c0_2], .agg #[.int .i64 a2_0, .int .i64 a2_1, .slice A2_2 n2 c2_2]] (by rfl) rfl rfl (by simp only [List.map_toArray, List.map_cons, List.map_nil]; rfl) ?_
  with_reducible refine (P5.out _ HE).mono ?_
  rintro e w1 ⟨rfl, hb1⟩
  refine ⟨_, rfl, ?_⟩
  replace HE := HE.step hb1
  clear hb1
  refine hK.out _ _ ⟨HE.cx0, HE.cx1, HE.cx2, HE.cy0, HE.cy1, HE.cy2⟩ (fun hHeld => ?_)
  clear hK K
  refine norm_ (a' := ?_) ?_ ?_
  rotate_left
  · show Act.put _ (some 33) _ = _
    simp only [Act.put, List.setIfInBounds_toArray, List.set_cons_zero, List.set_cons_succ, i64_w, i32_w]
    rfl
  refine one_ (i := 23) (N := some 36) #[true, true, true, true, true, true, true, true, true, true, true, true, true, true, true, true, true, true, true, true, true, true, true, true, false, false, false, false, false, false, false, false] rfl rfl (by kernel_rfl) (by decide) (fun K hK => ?_)
  refine goes_ Try.func20 (by kernel_rfl) rfl #[.agg #[.int .i64 a0_0, .int .i64 a0_1, .slice A0_2 n0 c0_2], .agg #[.int .i64 a2_0, .int .i64 a2_1, .slice A2_2 n2 c2_2]] (by rfl) rfl rfl (by simp only [List.map_toArray, List.map_cons, List.map_nil]; rfl) ?_
  with_reducible refine (P6.out _ HE).mono ?_
  rintro e w1 ⟨rfl, hb1⟩
  refine ⟨_, rfl, ?_⟩
  replace HE := HE.step hb1
  clear hb1
  refine hK.out _ _ ⟨HE.cx0, HE.cx1, HE.cx2, HE.cy0, HE.cy1, HE.cy2⟩ (fun hHeld => ?_)
  clear hK K
  refine norm_ (a' := ?_) ?_ ?_
  rotate_left
  · show Act.put _ (some 36) _ = _
    simp only [Act.put, List.setIfInBounds_toArray, List.set_cons_zero, List.set_cons_succ, i64_w, i32_w]
    rfl
  refine pure_ (i := 24) (N := some 37) (v := ?_) (a' := ?_) #[true, true, true, true, true, true, true, true, true, true, true, true, true, true, true, true, true, true, true, true, true, true, true, true, true, false, false, false, false, false, false, false] rfl rfl (by kernel_rfl) (fun _ _ _ h => h) (Or.inl ⟨by rfl, ?_⟩) ?_ ?_
  rotate_left
  · intro w'
    go_simp
    with_reducible rfl
  rotate_left
  · simp only [Act.put, List.setIfInBounds_toArray, List.set_cons_zero, List.set_cons_succ, i64_w, i32_w]
    rfl
  refine pure_ (i := 25) (N := some 38) (v := ?_) (a' := ?_) #[true, true, true, true, true, true, true, true, true, true, true, true, true, true, true, true, true, true, true, true, true, true, true, true, true, true, false, false, false, false, false, false] rfl rfl (by kernel_rfl) (fun _ _ _ h => h) (Or.inl ⟨by rfl, ?_⟩) ?_ ?_
  rotate_left
  · intro w'
    go_simp
    with_reducible rfl
  rotate_left
  · simp only [Act.put, List.setIfInBounds_toArray, List.set_cons_zero, List.set_cons_succ, i64_w, i32_w]
    rfl
  refine pure_ (i := 26) (N := some 39) (v := ?_) (a' := ?_) #[true, true, true, true, true, true, true, true, true, true, true, true, true, true, true, true, true, true, true, true, true, true, true, true, true, true, true, false, false, false, false, false] rfl rfl (by kernel_rfl) (fun _ _ _ h => h) (Or.inl ⟨by rfl, ?_⟩) ?_ ?_
  rotate_left
  · intro w'
    go_simp
    with_reducible rfl
  rotate_left
  · simp only [Act.put, List.setIfInBounds_toArray, List.set_cons_zero, List.set_cons_succ, i64_w, i32_w]
    rfl
  refine take_ (i := 27) (N := some 40) (v := ?_) (a' := ?_) #[true, true, true, true, true, true, true, true, true, true, true, true, true, true, true, true, true, true, true, true, true, true, true, true, true, true, true, true, false, false, false, false] rfl rfl (by kernel_rfl) (fun _ _ _ h => h) (Or.inl ⟨by rfl, ?_⟩) hHeld ?_ ?_
  rotate_left
  · rintro w' ⟨s0, s1, s2, s3, s4, s5⟩
    go_simp
    with_reducible rfl
  rotate_left
  · simp only [Act.put, List.setIfInBounds_toArray, List.set_cons_zero, List.set_cons_succ, i64_w, i32_w]
    rfl
  refine take_ (i := 28) (N := some 41) (v := ?_) (a' := ?_) #[true, true, true, true, true, true, true, true, true, true, true, true, true, true, true, true, true, true, true, true, true, true, true, true, true, true, true, true, true, false, false, false] rfl rfl (by kernel_rfl) (fun _ _ _ h => h) (Or.inl ⟨by rfl, ?_⟩) hHeld ?_ ?_
  rotate_left
  · rintro w' ⟨s0, s1, s2, s3, s4, s5⟩
    go_simp
    with_reducible rfl
  rotate_left
  · simp only [Act.put, List.setIfInBounds_toArray, List.set_cons_zero, List.set_cons_succ, i64_w, i32_w]
    rfl
  refine one_ (i := 29) (N := some 42) #[true, true, true, true, true, true, true, true, true, true, true, true, true, true, true, true, true, true, true, true, true, true, true, true, true, true, true, true, true, true, false, false] rfl rfl (by kernel_rfl) (by decide) (fun K hK => ?_)
  refine goes_ Try.func19 (by kernel_rfl) rfl #[.agg #[.int .i64 a0_0, .int .i64 a0_1, .slice A0_2 n0 c0_2], .agg #[.int .i64 a0_0, .int .i64 a0_1, .slice A0_2 n0 c0_2]] (by rfl) rfl rfl (by simp only [List.map_toArray, List.map_cons, List.map_nil]; rfl) ?_
  with_reducible refine (P7.out _ HE).mono ?_
  rintro e w1 ⟨rfl, hb1⟩
  refine ⟨_, rfl, ?_⟩
  replace HE := HE.step hb1
  clear hb1
  refine hK.out _ _ ⟨HE.cx0, HE.cx1, HE.cx2, HE.cy0, HE.cy1, HE.cy2⟩ (fun hHeld => ?_)
  clear hK K
  refine norm_ (a' := ?_) ?_ ?_
  rotate_left
  · show Act.put _ (some 42) _ = _
    simp only [Act.put, List.setIfInBounds_toArray, List.set_cons_zero, List.set_cons_succ, i64_w, i32_w]
    rfl
  refine pure_ (i := 30) (N := some 43) (v := ?_) (a' := ?_) #[true, true, true, true, true, true, true, true, true, true, true, true, true, true, true, true, true, true, true, true, true, true, true, true, true, true, true, true, true, true, true, false] rfl rfl (by kernel_rfl) (fun _ _ _ h => h) (Or.inl ⟨by rfl, ?_⟩) ?_ ?_
  rotate_left
  · intro w'
    go_simp
    with_reducible rfl
  rotate_left
  · simp only [Act.put, List.setIfInBounds_toArray, List.set_cons_zero, List.set_cons_succ, i64_w, i32_w]
    rfl
  refine pure_ (i := 31) (N := some 6) (v := ?_) (a' := ?_) #[true, true, true, true, true, true, true, true, true, true, true, true, true, true, true, true, true, true, true, true, true, true, true, true, true, true, true, true, true, true, true, true] rfl rfl (by kernel_rfl) (fun _ _ _ h => h) (Or.inl ⟨by rfl, ?_⟩) ?_ ?_
  rotate_left
  · intro w'
    go_simp
    with_reducible rfl
  rotate_left
  · simp only [Act.put, List.setIfInBounds_toArray, List.set_cons_zero, List.set_cons_succ, i64_w, i32_w]
    rfl
  refine done_ (by kernel_rfl) ?_
  go_wp2_with fail
  go_ret
  exact ⟨rfl, HE.bel⟩
end Go.Proofs.Ytdlgfjefbjkdaaa.H
namespace Go.Proofs.Ytdlgfjefbjkdaaa.Pure
open Go.RowKit Go.Proofs.Ytdlgfjefbjkdaaa.A Go.Proofs.YtdlgfjefbjkdaaaW.PrintWords
set_option linter.unusedVariables false
set_option linter.unusedSimpArgs false
theorem awake_is (k : Nat) : flyleaflaw08_awake.f (k + 300) = some true := by
  have h : flyleaflaw08_awake.f 300 = some true := by kernel_rfl
  induction k with
  | zero => exact h
  | succ k ih => exact (show k + 1 + 300 = (k + 300) + 1 by omega) ▸ flyleaflaw08_awake.mono _ _ ih
end Go.Proofs.Ytdlgfjefbjkdaaa.Pure
namespace Go.Proofs.Ytdlgfjefbjkdaaa.Pure
open Go.RowKit Go.Proofs.Ytdlgfjefbjkdaaa.A Go.Proofs.Ytdlgfjefbjkdaaa.H Go.Proofs.Flat Go.Proofs.YtdlgfjefbjkdaaaW.PrintWords Go.Proofs.YtdlgfjefbjkdaaaW.PrintLast Go.Proofs.YtdlgfjefbjkdaaaW.PrintMore
set_option linter.unusedVariables false
set_option linter.unusedSimpArgs false
theorem in_is (a : Int) : flyleafref08_in.f a = some (win a 1099511627776) := by
  unfold flyleafref08_in.f win
  by_cases h : a ≥ 0
  · rw [if_pos h, decide_eq_true (show 0 ≤ a from h)]; rfl
  · rw [if_neg h, decide_eq_false (show ¬ 0 ≤ a from h)]; rfl
theorem j0_t (k : Nat) (z a b c d e f g : Int) : flyleafref08_segment.j0 (k + 1) z true a b c d e f g = some false := by rw [flyleafref08_segment.j0]; rfl
theorem j1_t (k : Nat) (z a b c d e f g : Int) : flyleafref08_segment.j1 (k + 1) z true a b c d e f g = some false := by rw [flyleafref08_segment.j1]; rfl
theorem win_is {n m : Int} (h : win n m = true) : 0 ≤ n ∧ n ≤ m := by
  unfold win at h
  simpa using h
theorem seg_ref (s : S32) (size : Int) (k : Nat) : flyleafref08_segment.f (k + 4) s.f0 s.f1 s.f2 s.f3 s.f4 s.f5 s.f6 size = some (segOk s size) := by
  unfold flyleafref08_segment.f segOk segB fiveB
  by_cases r0 : s.f1 < 0
  · rw [if_pos r0, j0_t, win_f (n := s.f1) (by omega)]; simp
  rw [if_neg r0]
  by_cases r1 : s.f1 > 7
  · rw [if_pos r1, j0_t, win_f (n := s.f1) (by omega)]; simp
  rw [if_neg r1]
  by_cases r2 : s.f0 < 0
  · rw [if_pos r2, j0_t, win_f (n := s.f0) (by omega)]; simp
  rw [if_neg r2]
  by_cases r3 : s.f0 > 1073741824
  · rw [decide_eq_true r3, j0_t, win_f (n := s.f0) (by omega)]; simp
  rw [decide_eq_false r3, win_t (n := s.f0) (by omega) (by omega), win_t (n := s.f1) (by omega) (by omega), show k + 4 = (k + 3) + 1 from rfl, flyleafref08_segment.j0, if_neg (by decide)]
  simp only [in_is, Option.bind_some]
  cases h2 : win s.f2 1099511627776
  · rw [if_neg (by decide), j1_t]; simp
  rw [if_pos rfl]
  cases h3 : win s.f3 1099511627776
  · rw [if_neg (by decide), j1_t]; simp
  rw [if_pos rfl]
  cases h4 : win s.f4 1099511627776
  · rw [if_neg (by decide), j1_t]; simp
  rw [if_pos rfl]
  cases h5 : win s.f5 1099511627776
  · rw [if_neg (by decide), j1_t]; simp
  rw [if_pos rfl]
  cases h6 : win s.f6 1099511627776
  · rw [Bool.not_false, j1_t]; simp
  have g2 := win_is h2; have g3 := win_is h3; have g4 := win_is h4; have g5 := win_is h5; have g6 := win_is h6
  clear h2 h3 h4 h5 h6
  rw [show k + 3 = (k + 2) + 1 from rfl, flyleafref08_segment.j1, if_neg (by decide)]
  simp only [Bool.true_and, Bool.and_true]
  have w1 : wrap64 (s.f2 + s.f4) = s.f2 + s.f4 := w64 (by omega) (by omega)
  have w2 : wrap64 (s.f3 + s.f5) = s.f3 + s.f5 := w64 (by omega) (by omega)
  by_cases t1 : s.f0 = 1
  · rw [if_pos t1, if_pos t1, show k + 2 = (k + 1) + 1 from rfl, flyleafref08_segment.j2, if_neg (by decide), w1, w2]
    unfold placedB
    by_cases c1 : s.f2 + s.f4 > size
    · rw [if_pos c1, win_f (n := s.f2 + s.f4) (by omega)]; rfl
    rw [if_neg c1, win_t (n := s.f2 + s.f4) (by omega) (by omega)]
    by_cases c2 : s.f4 > s.f5
    · rw [if_pos c2, win_f (n := s.f4) (by omega)]; rfl
    rw [if_neg c2, win_t (n := s.f4) (by omega) (by omega)]
    by_cases c3 : s.f3 + s.f5 > 262144
    · rw [if_pos c3, win_f (n := s.f3 + s.f5) (by omega)]; rfl
    rw [if_neg c3, win_t (n := s.f3 + s.f5) (by omega) (by omega), if_neg (show ¬ s.f0 = 2 by omega)]
    by_cases c4 : s.f5 > 0
    · rw [if_pos c4, decide_eq_true (show 0 < s.f5 from c4)]
      by_cases c5 : s.f6 = 64
      · rw [if_pos c5, decide_eq_true c5, Int.tmod_eq_emod_of_nonneg (by omega), Int.tmod_eq_emod_of_nonneg (by omega)]
        by_cases c6 : s.f3 % 64 = s.f2 % 64
        · simp [c6]
        · simp [c6]
      · rw [if_neg c5, decide_eq_false c5]; rfl
    · rw [if_neg c4, decide_eq_false (show ¬ 0 < s.f5 from c4)]; rfl
  · rw [if_neg t1, if_neg t1]
    by_cases t2 : s.f0 = 2
    · have e : (s.f0 != 2) = false := by simp [t2]
      rw [if_pos t2, e, show k + 2 = (k + 1) + 1 from rfl, flyleafref08_segment.j2, if_neg (by decide), w1, w2]
      unfold placedB
      by_cases c1 : s.f2 + s.f4 > size
      · rw [if_pos c1, win_f (n := s.f2 + s.f4) (by omega)]; rfl
      rw [if_neg c1, win_t (n := s.f2 + s.f4) (by omega) (by omega)]
      by_cases c2 : s.f4 > s.f5
      · rw [if_pos c2, win_f (n := s.f4) (by omega)]; rfl
      rw [if_neg c2, win_t (n := s.f4) (by omega) (by omega)]
      by_cases c3 : s.f3 + s.f5 > 262144
      · rw [if_pos c3, win_f (n := s.f3 + s.f5) (by omega)]; rfl
      rw [if_neg c3, win_t (n := s.f3 + s.f5) (by omega) (by omega), if_pos t2]; rfl
    · have e : (s.f0 != 2) = true := by simp [t2]
      rw [if_neg t2, e, show k + 2 = (k + 1) + 1 from rfl, flyleafref08_segment.j2, if_pos rfl]
theorem holdB_is (q s : S32) : holdB q s = (if q.f0 = 1 then (if s.f3 ≥ q.f3 then (if wrap64 (s.f3 + s.f5) ≤ wrap64 (q.f3 + q.f5) then (wrap64 (s.f2 - q.f2) == wrap64 (s.f3 - q.f3)) else false) else false) else false) := by
  unfold holdB elf_holds.f
  split
  · split
    · split <;> rfl
    · rfl
  · rfl
theorem drop_rd (l : List S32) (j : Nat) (hj : j < l.length) : l.drop j = rd_T32 l (j : Int) :: l.drop (j + 1) := drop_at l j hj
theorem within_loop {size x0 x1 : Int} {l : List S32} {s : S32} {x6 x7 x8 x10 : Int} {x9 : Bool} (hl : l.length ≤ 17) : ∀ (n j k : Nat) (x13 : Bool), j + n = l.length →
    flyleafref08_Check.l1 (k + n + 1) size l.length x6 x7 x8 x9 x10 x13 j x0 x1 l s.f0 s.f1 s.f2 s.f3 s.f4 s.f5 s.f6 = if (x13 || (l.drop j).any fun q => holdB q s) = true then flyleafref08_Check.l0 k size l.length x6 x7 x8 x9 (wrap64 (x10 + 1)) x0 x1 l else some 16
  | 0, j, k, x13, hj => by
    rw [flyleafref08_Check.l1, if_neg (by omega), List.drop_of_length_le (by omega)]
    simp
  | n + 1, j, k, x13, hj => by
    have e3 : wrap64 ((j : Int) + 1) = ((j + 1 : Nat) : Int) := by rw [w64 (by omega) (by omega)]; omega
    have c1 : (j : Int) < (l.length : Int) := by omega
    have c2 : (0 : Int) ≤ (j : Int) := by omega
    have ih := fun b => within_loop (size := size) (x0 := x0) (x1 := x1) (s := s) (x6 := x6) (x7 := x7) (x8 := x8) (x10 := x10) (x9 := x9) hl n (j + 1) k b (by omega)
    rw [drop_rd l j (by omega), List.any_cons, show k + (n + 1) + 1 = (k + n + 1) + 1 by omega, flyleafref08_Check.l1, if_pos c1, if_pos c2, if_pos c1, e3]
    cases x13
    · rw [if_neg (by decide), holdB_is]
      simp only [Bool.false_or]
      split
      · split
        · split
          · exact ih _
          · exact ih _
        · exact ih _
      · exact ih _
    · rw [if_pos rfl, ih]
      simp only [Bool.true_or]
theorem ok_is {s : S32} {size : Int} (h : segOk s size = true) : 0 ≤ s.f1 ∧ s.f1 ≤ 7 ∧ 0 ≤ s.f3 ∧ s.f3 ≤ 1099511627776 ∧ 0 ≤ s.f5 ∧ s.f5 ≤ 1099511627776 ∧ (s.f0 = 1 → s.f3 + s.f5 ≤ 262144) := by
  unfold segOk segB fiveB placedB win at h
  by_cases t : s.f0 = 1
  · rw [if_pos t] at h
    simp only [Bool.and_eq_true, decide_eq_true_eq] at h
    omega
  · rw [if_neg t] at h
    simp only [Bool.and_eq_true, decide_eq_true_eq] at h
    omega
theorem check_loop {size kind entry : Int} {l : List S32} (hl : l.length ≤ 17) : ∀ (n j k : Nat) (loads dyns fin : Int) (en : Bool), j + n = l.length → 0 ≤ loads → loads ≤ j → 0 ≤ dyns → dyns ≤ j → (loads = 0 → fin = 0) →
    flyleafref08_Check.l0 (k + 30 * n + 1) size l.length loads dyns fin en j kind entry l = some (if chk l size entry (l.drop j) loads dyns fin en = true then 0 else 16)
  | 0, j, k, loads, dyns, fin, en, hj, h0, h1, h2, h3, h4 => by
    rw [flyleafref08_Check.l0, if_neg (by omega), List.drop_of_length_le (by omega)]
    unfold chk
    by_cases c0 : loads = 0
    · simp [c0]
    · rw [if_neg c0]
      by_cases c1 : dyns > 1
      · have c1' : 1 < dyns := c1
        rw [if_pos c1]; simp [c1']
      · have c1' : ¬ 1 < dyns := c1
        rw [if_neg c1, decide_eq_false c0, decide_eq_false c1']
        cases en <;> rfl
  | n + 1, j, k, loads, dyns, fin, en, hj, h0, h1, h2, h3, h4 => by
    have e3 : wrap64 ((j : Int) + 1) = ((j + 1 : Nat) : Int) := by rw [w64 (by omega) (by omega)]; omega
    have e4 : wrap64 (loads + 1) = loads + 1 := w64 (by omega) (by omega)
    have e5 : wrap64 (dyns + 1) = dyns + 1 := w64 (by omega) (by omega)
    have c1 : (j : Int) < (l.length : Int) := by omega
    have c2 : (0 : Int) ≤ (j : Int) := by omega
    have ih := fun k loads dyns fin en => check_loop (size := size) (kind := kind) (entry := entry) hl n (j + 1) k loads dyns fin en (by omega)
    rw [drop_rd l j (by omega), show k + 30 * (n + 1) + 1 = (k + 30 * n + 30) + 1 by omega, flyleafref08_Check.l0, if_pos c1, if_pos c2, if_pos c1]
    generalize rd_T32 l (j : Int) = x at *
    rw [show k + 30 * n + 30 = (k + 30 * n + 26) + 4 by omega, seg_ref]
    simp only [Option.bind_some]
    unfold chk
    cases hok : segOk x size
    · rfl
    rw [if_pos (show (true = true) from rfl), if_neg (show ¬ (true = false) by decide)]
    obtain ⟨k1, k2, k3, k4, k5, k6, k7⟩ := ok_is hok
    by_cases t1 : x.f0 = 1
    · rw [if_pos t1, if_pos t1]
      have k8 := k7 t1
      have hA : flyleafref08_First.f x.f0 x.f1 x.f2 x.f3 x.f4 x.f5 x.f6 = some (pageA x) := rfl
      have w1 : wrap64 (x.f3 + x.f5) = x.f3 + x.f5 := w64 (by omega) (by omega)
      have hB : flyleafref08_Last.f x.f0 x.f1 x.f2 x.f3 x.f4 x.f5 x.f6 = some (pageB x) := by
        unfold flyleafref08_Last.f pageB
        rw [w1, w64 (x := x.f3 + x.f5 + 63) (by omega) (by omega), w64 (x := x.f3 + x.f5 + 64) (by omega) (by omega), w64 (x := x.f3 + x.f5 + 64 - 1) (by omega) (by omega), show x.f3 + x.f5 + 63 = x.f3 + x.f5 + 64 - 1 by omega]
      have hp0 : 0 ≤ pageA x := by
        unfold pageA
        rw [Int.tdiv_eq_ediv_of_nonneg k3, w64 (by omega) (by omega)]
        omega
      have hbeg : begB x entry = (decide (Int.tmod x.f1 2 = 1) && (decide (entry ≥ x.f3) && decide (entry < x.f3 + x.f5))) := by
        unfold begB elf_begins.f
        rw [if_pos t1, and1, w1, Int.tmod_eq_emod_of_nonneg k1]
        by_cases f : x.f1 % 2 = 0
        · rw [if_pos f, decide_eq_false (show ¬ x.f1 % 2 = 1 by omega)]; rfl
        · rw [if_neg f, decide_eq_true (show x.f1 % 2 = 1 by omega)]
          by_cases g : entry ≥ x.f3
          · rw [if_pos g, decide_eq_true g]; rfl
          · rw [if_neg g, decide_eq_false g]; rfl
      -- behind the page test
      have rest : fin ≤ pageA x → flyleafref08_Check.j3 (k + 30 * n + 30) size l.length loads dyns en j false kind entry l x.f0 x.f1 x.f2 x.f3 x.f4 x.f5 x.f6 = some (if chk l size entry (l.drop (j + 1)) (loads + 1) dyns (pageB x) (en || begB x entry) = true then 0 else 16) := by
        intro hfin
        rw [show k + 30 * n + 30 = (k + 30 * n + 29) + 1 by omega, flyleafref08_Check.j3, if_neg (by decide), hB]
        simp only [Option.bind_some, w1, e4]
        have j4 : ∀ b, flyleafref08_Check.j4 (k + 30 * n + 29) size l.length (loads + 1) dyns (pageB x) b j kind entry l x.f0 x.f1 x.f2 x.f3 x.f4 x.f5 x.f6 = some (if chk l size entry (l.drop (j + 1)) (loads + 1) dyns (pageB x) b = true then 0 else 16) := by
          intro b
          rw [show k + 30 * n + 29 = (k + 27 + 30 * n + 1) + 1 by omega, flyleafref08_Check.j4, if_neg (show ¬ x.f0 = 2 by omega), e3]
          exact ih _ _ _ _ _ (by omega) (by omega) h2 (by omega) (by omega)
        rw [j4, j4, hbeg]
        by_cases f : Int.tmod x.f1 2 = 1
        · rw [if_pos f, decide_eq_true f]
          by_cases g : entry ≥ x.f3
          · rw [if_pos g, decide_eq_true g]
            by_cases g2 : entry < x.f3 + x.f5
            · rw [if_pos g2, decide_eq_true g2, show (en || (true && (true && true))) = true by simp]
            · rw [if_neg g2, decide_eq_false g2, show (en || (true && (true && false))) = en by simp]
          · rw [if_neg g, decide_eq_false g, show ∀ b, (en || (true && (false && b))) = en by simp]
        · rw [if_neg f, decide_eq_false f, show ∀ b, (en || (false && b)) = en by simp]
      rw [hA]
      simp only [Option.bind_some]
      by_cases hfin : fin ≤ pageA x
      · rw [if_pos hfin, decide_eq_false (show ¬ pageA x < fin by omega)]
        split
        · exact rest hfin
        · exact rest hfin
      · have hlp : loads > 0 := by
          rcases Int.lt_or_eq_of_le h0 with h | h
          · exact h
          · exact absurd (h4 h.symm) (by omega)
        rw [if_neg hfin, if_pos hlp, decide_eq_true (show pageA x < fin by omega), show k + 30 * n + 26 + 4 = (k + 30 * n + 29) + 1 by omega, flyleafref08_Check.j3, if_pos rfl]
        rfl
    · rw [if_neg t1, if_neg t1, show k + 30 * n + 26 + 4 = (k + 30 * n + 29) + 1 by omega, flyleafref08_Check.j4]
      by_cases t2 : x.f0 = 2
      · rw [if_pos t2, if_pos t2, e5]
        have hw := within_loop (size := size) (x0 := kind) (x1 := entry) (s := x) (x6 := loads) (x7 := dyns + 1) (x8 := fin) (x10 := (j : Int)) (x9 := en) hl l.length 0 (k + 30 * n + 28 - l.length) false (by omega)
        rw [show k + 30 * n + 28 - l.length + l.length + 1 = k + 30 * n + 29 by omega] at hw
        rw [show ((0 : Nat) : Int) = 0 from rfl] at hw
        rw [hw, List.drop_zero, Bool.false_or]
        by_cases ha : (l.any fun q => holdB q x) = true
        · rw [if_pos ha, if_pos ha, e3, show k + 30 * n + 28 - l.length = (k + 27 - l.length) + 30 * n + 1 by omega]
          exact ih _ _ _ _ _ h0 (by omega) (by omega) (by omega) h4
        · rw [if_neg ha, if_neg ha]; rfl
      · rw [if_neg t2, if_neg t2, e3, show k + 30 * n + 29 = (k + 28) + 30 * n + 1 by omega]
        exact ih _ _ _ _ _ h0 (by omega) h2 (by omega) h4
theorem cj0_t (k : Nat) (z n a b : Int) (l : List S32) : flyleafref08_Check.j0 (k + 1) z n true a b l = some 16 := by rw [flyleafref08_Check.j0]; rfl
theorem check_ref (kind entry size : Int) (l : List S32) (hl : l.length ≤ 17) (k : Nat) : flyleafref08_Check.f (k + 600) kind entry l size = some (checkI kind entry l size) := by
  unfold flyleafref08_Check.f checkI
  have w1 : wrap64 (64 + wrap64 (56 * (l.length : Int))) = 64 + 56 * l.length := by rw [w64 (x := 56 * (l.length : Int)) (by omega) (by omega), w64 (by omega) (by omega)]
  rw [w1, in_is]
  simp only [Option.bind_some]
  have main : (kind = 2 ∨ kind = 3) → (if (l.length : Int) < 1 then flyleafref08_Check.j0 (k + 600) size l.length true kind entry l else if (l.length : Int) > 16 then flyleafref08_Check.j0 (k + 600) size l.length true kind entry l else if 64 + 56 * (l.length : Int) > size then flyleafref08_Check.j0 (k + 600) size l.length true kind entry l else flyleafref08_Check.j0 (k + 600) size l.length (!win entry 1099511627776) kind entry l) = some (if badHead kind entry l.length size then 16 else if chk l size entry l 0 0 0 (decide (kind = 3) && decide (entry = 0)) = true then 0 else 16) := by
    intro hk
    rw [show k + 600 = (k + 599) + 1 by omega, cj0_t]
    by_cases c1 : (l.length : Int) < 1
    · rw [if_pos c1, if_pos (by unfold badHead; omega)]
    rw [if_neg c1]
    by_cases c2 : (l.length : Int) > 16
    · rw [if_pos c2, if_pos (by unfold badHead; omega)]
    rw [if_neg c2]
    by_cases c3 : 64 + 56 * (l.length : Int) > size
    · rw [if_pos c3, if_pos (by unfold badHead; omega)]
    rw [if_neg c3]
    cases hw : win entry 1099511627776
    · rw [Bool.not_false, cj0_t, if_pos]
      unfold badHead
      unfold win at hw
      by_cases h0 : 0 ≤ entry
      · rw [decide_eq_true h0] at hw
        simp at hw
        omega
      · omega
    · have he := win_is hw
      rw [if_neg (show ¬ badHead kind entry l.length size by unfold badHead; omega), Bool.not_true, flyleafref08_Check.j0, if_neg (by decide)]
      have fin : ∀ b, flyleafref08_Check.j1 (k + 599) size l.length 0 0 0 b kind entry l = some (if chk l size entry l 0 0 0 b = true then 0 else 16) := by
        intro b
        have := check_loop (size := size) (kind := kind) (entry := entry) hl l.length 0 (k + 597 - 30 * l.length) 0 0 0 b (by omega) (by omega) (by omega) (by omega) (by omega) (fun _ => rfl)
        rw [show k + 597 - 30 * l.length + 30 * l.length + 1 = k + 598 by omega] at this
        rw [show k + 599 = (k + 598) + 1 by omega, flyleafref08_Check.j1]
        exact this
      rw [fin, fin]
      by_cases h3 : kind = 3
      · rw [if_pos h3, decide_eq_true h3, Bool.true_and]
        rfl
      · rw [if_neg h3, decide_eq_false h3, Bool.false_and]
  by_cases k2 : kind = 2
  · rw [if_pos k2]
    exact main (.inl k2)
  · rw [if_neg k2]
    by_cases k3 : kind = 3
    · rw [if_pos k3]
      exact main (.inr k3)
    · rw [if_neg k3, show k + 600 = (k + 599) + 1 by omega, cj0_t, if_pos (by unfold badHead; omega)]
end Go.Proofs.Ytdlgfjefbjkdaaa.Pure
namespace Go.Proofs.Ytdlgfjefbjkdaaa.Pure
open Go.RowKit Go.Proofs.Ytdlgfjefbjkdaaa.A Go.Proofs.Ytdlgfjefbjkdaaa.H Go.Proofs.Flat Go.Proofs.YtdlgfjefbjkdaaaW.PrintWords Go.Proofs.YtdlgfjefbjkdaaaW.PrintLast Go.Proofs.YtdlgfjefbjkdaaaW.PrintMore
set_option linter.unusedVariables false
set_option linter.unusedSimpArgs false
theorem ext_bytes {a b : ByteArray} (h : bytesL a = bytesL b) : a = b := by
  cases a with
  | mk x =>
  cases b with
  | mk y =>
  have : x.toList = y.toList := h
  rw [Array.toList_inj.1 this]
theorem strOf_app (xs ys : List Int) : strOfNums xs ++ strOfNums ys = strOfNums (xs ++ ys) := by
  apply ext_bytes
  rw [bytesL_app]
  unfold strOfNums bytesL
  simp
theorem leB_succ (N : Int) (j : Nat) : leB N (j + 1) = leB N j ++ [byteAt N j] := by
  unfold leB
  rw [List.range_succ, List.map_append]
  rfl
theorem div_step (N : Int) (j : Nat) (hj : j < 8) (h0 : 0 ≤ N) (h1 : N < 18446744073709551616) :
    (Int.tmod (N / 256 ^ j) 256) % 256 = byteAt N j ∧ IntKind.u64.wrap (Int.tdiv (N / 256 ^ j) 256) = N / 256 ^ (j + 1) := by
  have p : 0 ≤ N / 256 ^ j := Int.ediv_nonneg h0 (Int.le_of_lt (pow256 j))
  rw [Int.tmod_eq_emod_of_nonneg p, Int.tdiv_eq_ediv_of_nonneg p]
  unfold byteAt
  have hj' : j = 0 ∨ j = 1 ∨ j = 2 ∨ j = 3 ∨ j = 4 ∨ j = 5 ∨ j = 6 ∨ j = 7 := by omega
  obtain rfl | rfl | rfl | rfl | rfl | rfl | rfl | rfl := hj' <;> simp only [Nat.reduceAdd, Int.reducePow] at * <;> exact ⟨by omega, by rw [wu64 (by omega) (by omega)]; omega⟩
theorem put_loop (N : Int) (w : Nat) (hw : w ≤ 8) (h0 : 0 ≤ N) (h1 : N < 18446744073709551616) : ∀ (n j k : Nat), j + n = w →
    flyleafref01_Put.l0 (k + n + 1) (N / 256 ^ j) w (strOfNums (leB N j)) j = some (strOfNums (leB N w))
  | 0, j, k, hj => by
    obtain rfl : j = w := by omega
    rw [flyleafref01_Put.l0, if_neg (by omega)]
  | n + 1, j, k, hj => by
    obtain ⟨d1, d2⟩ := div_step N j (by omega) h0 h1
    have e3 : wrap64 ((j : Int) + 1) = ((j + 1 : Nat) : Int) := by rw [w64 (by omega) (by omega)]; omega
    have z : (strOfNums (leB N j)).size + (strOfNums [byteAt N j]).size ≤ 9223372036854775807 := by
      rw [strOfNums_size, strOfNums_size, leB_length]
      simp only [List.length_cons, List.length_nil]
      omega
    rw [show k + (n + 1) + 1 = (k + n + 1) + 1 by omega, flyleafref01_Put.l0, if_pos (by omega), if_pos (by omega), d1, d2, e3]
    simp only [Option.bind_some, if_pos z]
    rw [strOf_app, ← leB_succ]
    exact put_loop N w hw h0 h1 n (j + 1) k (by omega)
theorem put_ref (n : Int) (w : Nat) (hw : w ≤ 8) (hn : n < 9223372036854775808) (k : Nat) : flyleafref08_put.f (k + 9) n w = some (putN n w) := by
  have main : ∀ N : Int, 0 ≤ N → N < 18446744073709551616 → flyleafref01_Put.f (k + 9) N w = some (strOfNums (leB N w)) := by
    intro N h0 h1
    have := put_loop N w hw h0 h1 w 0 (k + 8 - w) (by omega)
    rw [show k + 8 - w + w + 1 = k + 9 by omega, show N / 256 ^ 0 = N by simp] at this
    exact this
  unfold flyleafref08_put.f putN putS
  by_cases c : n < 0
  · rw [if_pos c, main 0 (by decide) (by decide), show mx n 0 = 0 by unfold mx; rw [if_pos c], show IntKind.u64.wrap 0 = 0 from wu64 (by decide) (by decide)]
    rfl
  · rw [if_neg c, show mx n 0 = n by unfold mx; rw [if_neg c], wu64 (by omega) (by omega), main n (by omega) (by omega)]
    rfl
theorem segL_is (x : S32) : segL x = bytesL (putN x.f0 4 ++ putN x.f1 4 ++ putN x.f2 8 ++ putN x.f3 8 ++ putN x.f3 8 ++ putN x.f4 8 ++ putN x.f5 8 ++ putN x.f6 8) := by
  unfold segL
  simp only [bytesL_app]
  simp [List.range_succ, six]
/-- Numbers that are there. -/
def i64S (s : S32) : Prop := s.f0 < 9223372036854775808 ∧ s.f1 < 9223372036854775808 ∧ s.f2 < 9223372036854775808 ∧ s.f3 < 9223372036854775808 ∧ s.f4 < 9223372036854775808 ∧ s.f5 < 9223372036854775808 ∧ s.f6 < 9223372036854775808
theorem header_loop {kind entry : Int} {l : List S32} (hl : l.length ≤ 17) (hf : ∀ x ∈ l, i64S x) : ∀ (n j k : Nat) (x3 : ByteArray), j + n = l.length → x3.size ≤ 64 + 56 * j →
    ∃ b, flyleafref08_Header.l0 (k + n + 10) x3 j kind entry l = some b ∧ bytesL b = bytesL x3 ++ (l.drop j).flatMap segL
  | 0, j, k, x3, hj, hz => ⟨x3, by rw [show k + 0 + 10 = (k + 9) + 1 by omega, flyleafref08_Header.l0, if_neg (by omega)], by rw [List.drop_of_length_le (by omega)]; simp⟩
  | n + 1, j, k, x3, hj, hz => by
    have hil : j < l.length := by omega
    have hx : rd_T32 l (j : Int) ∈ l := by
      unfold rd_T32
      rw [Int.toNat_natCast, List.getD_eq_getElem?_getD, List.getElem?_eq_getElem hil]
      exact List.getElem_mem hil
    have e3 : wrap64 ((j : Int) + 1) = ((j + 1 : Nat) : Int) := by rw [w64 (by omega) (by omega)]; omega
    have c1 : (j : Int) < (l.length : Int) := by omega
    have c2 : (0 : Int) ≤ (j : Int) := by omega
    obtain ⟨f0, f1, f2, f3, f4, f5, f6⟩ := hf _ hx
    rw [drop_rd l j hil]
    have go := fun y hy => header_loop (kind := kind) (entry := entry) hl hf n (j + 1) k y (by omega) hy
    have hstep : flyleafref08_Header.l0 (k + (n + 1) + 10) x3 j kind entry l = flyleafref08_Header.l0 (k + n + 10) (((((((((x3 ++ putN (rd_T32 l (j : Int)).f0 4) ++ putN (rd_T32 l (j : Int)).f1 4) ++ putN (rd_T32 l (j : Int)).f2 8) ++ putN (rd_T32 l (j : Int)).f3 8) ++ putN (rd_T32 l (j : Int)).f3 8) ++ putN (rd_T32 l (j : Int)).f4 8) ++ putN (rd_T32 l (j : Int)).f5 8) ++ putN (rd_T32 l (j : Int)).f6 8)) (j + 1 : Nat) kind entry l := by
      rw [show k + (n + 1) + 10 = (k + n + 10) + 1 by omega, flyleafref08_Header.l0, if_pos c1, if_pos c2]
      generalize rd_T32 l (j : Int) = x at *
      have p0 : flyleafref08_put.f (k + n + 10) x.f0 4 = some (putN x.f0 4) := put_ref _ 4 (by decide) f0 (k + n + 1)
      have p1 : flyleafref08_put.f (k + n + 10) x.f1 4 = some (putN x.f1 4) := put_ref _ 4 (by decide) f1 (k + n + 1)
      have p2 : flyleafref08_put.f (k + n + 10) x.f2 8 = some (putN x.f2 8) := put_ref _ 8 (by decide) f2 (k + n + 1)
      have p3 : flyleafref08_put.f (k + n + 10) x.f3 8 = some (putN x.f3 8) := put_ref _ 8 (by decide) f3 (k + n + 1)
      have p4 : flyleafref08_put.f (k + n + 10) x.f4 8 = some (putN x.f4 8) := put_ref _ 8 (by decide) f4 (k + n + 1)
      have p5 : flyleafref08_put.f (k + n + 10) x.f5 8 = some (putN x.f5 8) := put_ref _ 8 (by decide) f5 (k + n + 1)
      have p6 : flyleafref08_put.f (k + n + 10) x.f6 8 = some (putN x.f6 8) := put_ref _ 8 (by decide) f6 (k + n + 1)
      generalize k + n + 10 = K at *
      have z : ∀ m : Nat, m ≤ 64 → (x3.size + m ≤ 9223372036854775807) = True := fun m hm => eq_true (by omega)
      simp only [p0, p1, p2, p3, p4, p5, p6, Option.bind_some, ByteArray.size_append, putN_size, Nat.add_assoc, Nat.reduceAdd, z _ (by decide : (4 : Nat) ≤ 64), z _ (by decide : (8 : Nat) ≤ 64), z _ (by decide : (16 : Nat) ≤ 64), z _ (by decide : (24 : Nat) ≤ 64), z _ (by decide : (32 : Nat) ≤ 64), z _ (by decide : (40 : Nat) ≤ 64), z _ (by decide : (48 : Nat) ≤ 64), z _ (by decide : (56 : Nat) ≤ 64), if_true, e3]
    obtain ⟨b, h1, h2⟩ := go (((((((((x3 ++ putN (rd_T32 l (j : Int)).f0 4) ++ putN (rd_T32 l (j : Int)).f1 4) ++ putN (rd_T32 l (j : Int)).f2 8) ++ putN (rd_T32 l (j : Int)).f3 8) ++ putN (rd_T32 l (j : Int)).f3 8) ++ putN (rd_T32 l (j : Int)).f4 8) ++ putN (rd_T32 l (j : Int)).f5 8) ++ putN (rd_T32 l (j : Int)).f6 8)) (by simp only [ByteArray.size_append, putN_size]; omega)
    refine ⟨b, by rw [hstep]; exact h1, ?_⟩
    rw [h2, List.flatMap_cons, segL_is]
    simp only [bytesL_app, List.append_assoc]
theorem fill_ref (n : Nat) (h0 : 0 < n) (h : n ≤ 64) : ∃ t, flyleafref01_Fill.f (⟨#[]⟩ : ByteArray) n = some t ∧ bytesL t = List.replicate n 0 ∧ t.size = n := by
  have hz : (⟨#[]⟩ : ByteArray).size = 0 := rfl
  obtain ⟨t, h1, h2, h3⟩ := fill_is (s := ⟨#[]⟩) (n := n) (by rw [hz]; omega) (by omega)
  rw [hz] at h2
  refine ⟨t, h1, ?_, by omega⟩
  rw [h2, show ((n : Int) - ((0 : Nat) : Int)).toNat = n by omega]
  rfl
theorem header_ref {kind entry : Int} {l : List S32} (hk : kind < 9223372036854775808) (he : entry < 9223372036854775808) (hl : l.length ≤ 17) (hf : ∀ x ∈ l, i64S x) (k : Nat) :
    flyleafref08_Header.f (k + 40) kind entry l = some ⟨(headL kind entry l).toArray⟩ := by
  obtain ⟨t9, a1, a2, a3⟩ := fill_ref 9 (by decide) (by decide)
  obtain ⟨t12, b1, b2, b3⟩ := fill_ref 12 (by decide) (by decide)
  obtain ⟨t6, c1, c2, c3⟩ := fill_ref 6 (by decide) (by decide)
  rw [show ((9 : Nat) : Int) = 9 from rfl] at a1
  rw [show ((12 : Nat) : Int) = 12 from rfl] at b1
  rw [show ((6 : Nat) : Int) = 6 from rfl] at c1
  have p0 : flyleafref08_put.f (k + 40) kind 2 = some (putN kind 2) := put_ref _ 2 (by decide) hk (k + 31)
  have p1 : flyleafref08_put.f (k + 40) 62 2 = some (putN 62 2) := put_ref _ 2 (by decide) (by decide) (k + 31)
  have p2 : flyleafref08_put.f (k + 40) 1 4 = some (putN 1 4) := put_ref _ 4 (by decide) (by decide) (k + 31)
  have p3 : flyleafref08_put.f (k + 40) entry 8 = some (putN entry 8) := put_ref _ 8 (by decide) he (k + 31)
  have p4 : flyleafref08_put.f (k + 40) 64 8 = some (putN 64 8) := put_ref _ 8 (by decide) (by decide) (k + 31)
  have p5 : flyleafref08_put.f (k + 40) 64 2 = some (putN 64 2) := put_ref _ 2 (by decide) (by decide) (k + 31)
  have p6 : flyleafref08_put.f (k + 40) 56 2 = some (putN 56 2) := put_ref _ 2 (by decide) (by decide) (k + 31)
  have p7 : flyleafref08_put.f (k + 40) l.length 2 = some (putN l.length 2) := put_ref _ 2 (by decide) (by omega) (k + 31)
  have z7 : (⟨#[127, 69, 76, 70, 2, 1, 1]⟩ : ByteArray).size = 7 := rfl
  obtain ⟨b, h1, h2⟩ := header_loop (kind := kind) (entry := entry) hl hf l.length 0 (k + 30 - l.length) ((((((((((((⟨#[127, 69, 76, 70, 2, 1, 1]⟩ : ByteArray) ++ t9) ++ putN kind 2) ++ putN 62 2) ++ putN 1 4) ++ putN entry 8) ++ putN 64 8) ++ t12) ++ putN 64 2) ++ putN 56 2) ++ putN l.length 2) ++ t6) (by omega) (by simp only [ByteArray.size_append, putN_size, z7, a3, b3, c3]; omega)
  rw [show k + 30 - l.length + l.length + 10 = k + 40 by omega] at h1
  unfold flyleafref08_Header.f
  simp only [a1, b1, c1, p0, p1, p2, p3, p4, p5, p6, p7, Option.bind_some, ByteArray.size_append, putN_size, z7, a3, b3, c3, Nat.reduceAdd, Nat.reduceLeDiff, if_true]
  rw [show ((0 : Nat) : Int) = 0 from rfl] at h1
  rw [h1]
  congr 1
  apply ext_bytes
  rw [h2, List.drop_zero]
  show _ = headL kind entry l
  unfold headL head1 head2 head3
  have f12 : bytesL (fillS emptyS 12) = List.replicate 12 0 := fill_empty 12
  have f6 : bytesL (fillS emptyS 6) = List.replicate 6 0 := fill_empty 6
  have m16 : bytesL magicS = bytesL (⟨#[127, 69, 76, 70, 2, 1, 1]⟩ : ByteArray) ++ List.replicate 9 0 := rfl
  simp only [bytesL_app, a2, b2, c2, f12, f6, m16, List.append_assoc]
def allEq : List S32 → List S32 → Bool
  | x :: xs, y :: ys => segEq x y && allEq xs ys
  | _, _ => true
theorem range_all : ∀ (l m : List S32), l.length = m.length → ((List.range l.length).all fun i => segEq (l.getD i z32) (m.getD i z32)) = allEq l m
  | [], [], _ => rfl
  | x :: l, y :: m, h => by
    have ih := range_all l m (by simpa using h)
    rw [List.length_cons, List.range_succ_eq_map, List.all_cons, List.all_map]
    unfold allEq
    rw [← ih]
    rfl
theorem same_loop {a b c d : Int} {l m : List S32} (hm : l.length = m.length) (hl : l.length ≤ 17) : ∀ (n j k : Nat), j + n = l.length →
    flyleafref08_Same.l0 (k + n + 1) j a b l c d m = some (decide (a = c) && decide (b = d) && allEq (l.drop j) (m.drop j))
  | 0, j, k, hj => by
    rw [flyleafref08_Same.l0, if_neg (by omega), List.drop_of_length_le (by omega)]
    unfold allEq
    by_cases h : a = c
    · rw [if_pos h, decide_eq_true h]
      by_cases hbd : b = d <;> simp [hbd]
    · rw [if_neg h, decide_eq_false h]
      simp
  | n + 1, j, k, hj => by
    have e3 : wrap64 ((j : Int) + 1) = ((j + 1 : Nat) : Int) := by rw [w64 (by omega) (by omega)]; omega
    rw [drop_rd l j (by omega), drop_rd m j (by omega), show k + (n + 1) + 1 = (k + n + 1) + 1 by omega, flyleafref08_Same.l0, if_pos (by omega), if_pos (by omega), if_pos (by omega), e3]
    have ih := same_loop (a := a) (b := b) (c := c) (d := d) hm hl n (j + 1) k (by omega)
    generalize rd_T32 l (j : Int) = x at *
    generalize rd_T32 m (j : Int) = y at *
    have hb : (!(x.f0 == y.f0) || (!(x.f1 == y.f1) || (!(x.f2 == y.f2) || (!(x.f3 == y.f3) || (!(x.f4 == y.f4) || (!(x.f5 == y.f5) || (!(x.f6 == y.f6)))))))) = !segEq x y := by
      unfold segEq
      simp only [Bool.not_and]
    rw [hb, ih]
    unfold allEq
    cases segEq x y
    · simp
    · simp only [Bool.not_true, Bool.true_and]
      rw [if_neg (by decide)]
      generalize l.drop (j + 1) = p
      generalize m.drop (j + 1) = q
      cases p <;> cases q <;> rfl
theorem same_ref {a b c d : Int} {l m : List S32} (hl : l.length ≤ 17) (k : Nat) : flyleafref08_Same.f (k + 20) a b l c d m = elf_Same.f a b l c d m := by
  unfold flyleafref08_Same.f elf_Same.f segsEq
  rw [if_pos (show l.length ≤ 140737488355328 by omega)]
  by_cases h : l.length = m.length
  · have := same_loop (a := a) (b := b) (c := c) (d := d) h hl l.length 0 (k + 19 - l.length) (by omega)
    rw [show k + 19 - l.length + l.length + 1 = k + 20 by omega, List.drop_zero, List.drop_zero] at this
    rw [if_pos (show (l.length : Int) = (m.length : Int) by omega), decide_eq_true h, range_all l m h, Bool.true_and]
    exact this
  · rw [if_neg (show ¬ (l.length : Int) = (m.length : Int) by omega), decide_eq_false h]
    simp
theorem i64_of {n : Int} (h : (Lit.int .i64 n).wf = true) : n < 9223372036854775808 := by have := bounds_i64 h; omega
theorem self_same (a b : Int) (l : List S32) (h : l.length ≤ 17) : elf_Same.f a b l a b l = some true := by
  have e : ∀ l : List S32, allEq l l = true := by
    intro l
    induction l with
    | nil => rfl
    | cons x l ih => unfold allEq; rw [ih]; simp [segEq]
  unfold elf_Same.f segsEq
  rw [if_pos (by omega), range_all l l rfl, e]
  simp
theorem ElfChecks (x0 x1 : Int) (xl : List S32) (hx : b28 ⟨x0, x1, xl⟩) (size : Int) (hs : (Lit.int .i64 size).wf = true) (y0 y1 : Int) (yl : List S32) (hy : b28 ⟨y0, y1, yl⟩) :
    ∃ k, elfChecks.f k x0 x1 xl size y0 y1 yl = some true := by
  obtain ⟨hx0, hx1, _, hxl⟩ := hx
  have h17 : (xl.take 17).length ≤ 17 := by rw [List.length_take]; omega
  have hf : ∀ x ∈ xl.take 17, i64S x := by
    intro x hm
    obtain ⟨h0, h1, h2, h3, h4, h5, h6⟩ := hxl x (List.mem_of_mem_take hm)
    exact ⟨i64_of h0, i64_of h1, i64_of h2, i64_of h3, i64_of h4, i64_of h5, i64_of h6⟩
  have c : elf_Check.f x0 x1 (xl.take 17) size = some (checkI x0 x1 (xl.take 17) size) := by unfold elf_Check.f; rw [if_pos (by omega)]
  have hh : elf_Header.f x0 x1 (xl.take 17) = some ⟨(headL x0 x1 (xl.take 17)).toArray⟩ := by unfold elf_Header.f; rw [if_pos (by omega)]
  obtain ⟨rs, hsm⟩ : ∃ r, elf_Same.f x0 x1 (xl.take 17) y0 y1 (yl.take 17) = some r := ⟨_, by unfold elf_Same.f; rw [if_pos (by omega)]⟩
  refine ⟨600, ?_⟩
  unfold elfChecks.f
  rw [if_pos]
  exact ⟨awake_is 300, ⟨_, c, check_ref x0 x1 size _ h17 0⟩, ⟨_, hh, header_ref (i64_of hx0) (i64_of hx1) h17 hf 560⟩, ⟨rs, hsm, by rw [← hsm]; exact same_ref h17 580⟩, self_same _ _ _ h17⟩
end Go.Proofs.Ytdlgfjefbjkdaaa.Pure
namespace Go.Proofs.Ytdlgfjefbjkdaaa.elfChecks
open Go.ChangeShapes Go.WideShapes Go.ChangeAt Go.RowKit Go.Proofs.Ytdlgfjefbjkdaaa.A Go.Proofs.YtdlgfjefbjkdaaaW.PrintWords
open Go.ChangeMaps (open_string shut_string)
set_option linter.unusedVariables false
set_option linter.unusedSimpArgs false
theorem own : ownKnob Try.prog.godebug = none := by kernel_rfl
theorem laidOut : laidOutB Try.prog = true := by kernel_rfl
set_option maxRecDepth 100000 in
theorem lifted (os : Os) (started : os.Started) (H : Type) (enc : TypeId × Value → H) :
    ReturnsInHanded {} Try.checked os 5 .any (Rows.elfChecksSpec.pre6 enc Try.prog Try.f5 Rows.elfChecksRow.domain false) (Rows.elfChecksSpec.post enc Try.prog Try.f5 false true false false) := by
  refine returnsInHanded_of_change_sized (C := Try.checked) own started (by kernel_rfl) Try.func5
    (ChangeSpec.witness6 (enc := enc) (C := Try.checked) false ⟨#[], #[.agg #[.int .i64 0, .int .i64 0, .slice none 0 0], .int .i64 0, .agg #[.int .i64 0, .int .i64 0, .slice none 0 0]], []⟩ 8 (by kernel_rfl) (by kernel_rfl) (by kernel_rfl) (by kernel_rfl)) ?_
  intro W base args ds gs before hval0 hW hcnd hsz0 _
  have hsz : (DataW.weightsEach Try.prog (Try.f5.params.toList ++ Rows.elfChecksSpec.plain.varTypes Try.prog) (ds ++ gs)).all (· ≤ reachBytes) = true := hsz0
  have hval : ∀ (j : Nat) t v, Try.f5.params[j]? = some t → args[j]? = some v → Value.okWide Try.prog W .any base t v := hval0
  have hW' := hW
  obtain ⟨p, q, hA0, hV, rfl, hfz, hnd⟩ := hW
  have hA : DataW.TrodAll enc Try.prog W 0 (fun _ => true) true Try.f5.params.toList args.toList ds p := hA0
  rw [Try.params5] at hA hval hsz
  obtain ⟨v0, vs0, d0, ds0, p0, q0, hargs, rfl, rfl, h0, r0⟩ := trodAll_cons hA
  obtain ⟨v1, vs1, d1, ds1, p1, q1, rfl, rfl, rfl, h1, r1⟩ := trodAll_cons r0
  obtain ⟨v2, vs2, d2, ds2, p2, q2, rfl, rfl, rfl, h2, r2⟩ := trodAll_cons r1
  obtain ⟨rfl, rfl, rfl⟩ := trodAll_nil r2
  obtain rfl : args = #[v0, v1, v2] := by cases args; simp_all
  obtain ⟨rfl, rfl⟩ := trodVars_none hV
  have k0 := h0
  have lt0 : ∀ x ∈ p0, x.block < W.heap.size := by obtain ⟨m, hm⟩ := k0; exact DataW.trod_lt m _ _ _ hm
  obtain ⟨cs0, rfl, _⟩ := okWide_struct Try.underlying28 (hval 0 28 v0 rfl rfl)
  obtain ⟨fu0, hf0⟩ := h0
  obtain ⟨x0, K0, B0⟩ := opens28 enc W _ _ _ _ _ _ hf0
  obtain ⟨A0_2, c0_2, E0, l0_2, g0_2⟩ := k28_open K0
  have E0' : cs0.toList = [.int .i64 x0.f0, .int .i64 x0.f1, .slice A0_2 x0.f2.length c0_2] := E0
  obtain rfl : cs0 = #[.int .i64 x0.f0, .int .i64 x0.f1, .slice A0_2 x0.f2.length c0_2] := by cases cs0; exact congrArg Array.mk E0'
  obtain ⟨a1, rfl, rfl, rfl, w1⟩ := open_int Try.underlying3 (hval 1 3 v1 rfl rfl) h1
  have k2 := h2
  have lt2 : ∀ x ∈ p2, x.block < W.heap.size := by obtain ⟨m, hm⟩ := k2; exact DataW.trod_lt m _ _ _ hm
  obtain ⟨cs2, rfl, _⟩ := okWide_struct Try.underlying28 (hval 2 28 v2 rfl rfl)
  obtain ⟨fu2, hf2⟩ := h2
  obtain ⟨x2, K2, B2⟩ := opens28 enc W _ _ _ _ _ _ hf2
  obtain ⟨A2_2, c2_2, E2, l2_2, g2_2⟩ := k28_open K2
  have E2' : cs2.toList = [.int .i64 x2.f0, .int .i64 x2.f1, .slice A2_2 x2.f2.length c2_2] := E2
  obtain rfl : cs2 = #[.int .i64 x2.f0, .int .i64 x2.f1, .slice A2_2 x2.f2.length c2_2] := by cases cs2; exact congrArg Array.mk E2'
  clear hA0 hval0 hsz0 hsz
  obtain ⟨k, hk⟩ := Pure.ElfChecks x0.f0 x0.f1 x0.f2 B0 a1 w1 x2.f0 x2.f1 x2.f2 B2
  refine (_root_.Go.Proofs.Ytdlgfjefbjkdaaa.H.elfChecks.calls (h := hk) (w := W) (hr0_2 := g0_2) (hc0_2 := l0_2) (hr2_2 := g2_2) (hc2_2 := l2_2)).mono fun e W' ⟨he, bel⟩ => ?_
  subst he
  exact ⟨_, rfl, _, _, _, [], _, [], hW', trodAll_mk1 (shut_bool Try.underlying4 _), (trodAll_cons_mk (Below.trod laidOut (by kernel_rfl) (of_decide_eq_true (by kernel_rfl)) k0 bel lt0) (trodAll_cons_mk (shut_int Try.underlying3 w1) (trodAll_cons_mk (Below.trod laidOut (by kernel_rfl) (of_decide_eq_true (by kernel_rfl)) k2 bel lt2) trodAll_mk0))), rfl, bel.frame _, fun h => by cases h⟩
theorem over : Rows.elfChecksRow.holds Try.pinned (OpenSpec.ofChange Rows.elfChecksSpec) :=
  OpenClaim.holds_of_wide 5 Try.f5 rfl rfl rfl rfl rfl rfl rfl ⟨rfl, rfl, rfl, rfl, rfl⟩ rfl rfl rfl rfl rfl (by kernel_rfl) Try.func5 (by kernel_rfl)
    (of_decide_eq_true (by kernel_rfl)) (by unfold Func.isWrapper; first | (rw [if_pos (by decide +kernel)]; kernel_rfl) | (rw [if_neg (by decide +kernel)]; exact ⟨rfl, rfl⟩))
    (fun os started H enc _ => lifted os started H enc)
theorem proved : Rows.ElfChecksSaid := over
#print axioms proved
end Go.Proofs.Ytdlgfjefbjkdaaa.elfChecks
namespace Go.Proofs.Ytdlgfjefbjkdaaa
/-- The row, under a short name, for the claim. -/
theorem elfChecks_holds : Rows.ElfChecksSaid := elfChecks.proved
end Go.Proofs.Ytdlgfjefbjkdaaa
