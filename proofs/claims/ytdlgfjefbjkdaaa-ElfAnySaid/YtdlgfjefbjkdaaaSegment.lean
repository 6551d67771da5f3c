/- elf.segment tells whether a segment may be: the contract of the Go function, for all numbers. -/
import Derived.Test.YtdlgfjefbjkdaaaProg
import Derived.WalkKit
import Derived.Lib.Hide
import Derived.WalkSpells
namespace Go.Proofs.Ytdlgfjefbjkdaaa.H
open Go.RowKit
set_option linter.unusedVariables false
set_option linter.unusedSimpArgs false

/-- From 0 up to a bound. -/
def win (n m : Int) : Bool := decide (0 ≤ n) && decide (n ≤ m)

def placedB (off addr siz mem size : Int) : Bool := win (off + siz) size && win siz mem && win (addr + mem) 262144
def fiveB (off addr siz mem al : Int) : Bool := win off 1099511627776 && win addr 1099511627776 && win siz 1099511627776 && win mem 1099511627776 && win al 1099511627776
/-- May a segment be. -/
def segB (t fl off addr siz mem al size : Int) : Bool :=
  win t 1073741824 && win fl 7 && fiveB off addr siz mem al &&
    (if t = 1 then placedB off addr siz mem size && decide (0 < mem) && decide (al = 64) && decide (addr % 64 = off % 64)
     else if t = 2 then placedB off addr siz mem size else true)
def elf_segment.f (a0_0 a0_1 a0_2 a0_3 a0_4 a0_5 a0_6 a1 : Int) : Option Bool := some (segB a0_0 a0_1 a0_2 a0_3 a0_4 a0_5 a0_6 a1)

theorem within_calls (n m : Int) (w : World) :
    Calls Try.prog 45 #[.int .i64 n, .int .i64 m] w fun e w' => e = .returned (.bool (win n m)) ∧ w' = w := by
  by_cases h : 0 ≤ n
  · have hd : decide (0 ≤ n) = true := decide_eq_true h
    go_enter Try.func45, Try.ntmps45
    go_wp2
    go_ret
    exact ⟨by simp [win, h], rfl⟩
  · have hd : decide (0 ≤ n) = false := decide_eq_false h
    go_enter Try.func45, Try.ntmps45
    go_wp2
    go_ret
    refine ⟨?_, rfl⟩
    rw [win, hd]
    rfl

def five (off addr siz mem al : Int) (k : Nat) : Int := match k with | 0 => off | 1 => addr | 2 => siz | 3 => mem | _ => al

theorem five0 (a b c d e : Int) (W : World) : (Instr.index 77 (.agg #[.int .i64 a, .int .i64 b, .int .i64 c, .int .i64 d, .int .i64 e]) (.int .i64 0)).run Try.prog W = .ok (.int .i64 a) W := by kernel_rfl
theorem five1 (a b c d e : Int) (W : World) : (Instr.index 77 (.agg #[.int .i64 a, .int .i64 b, .int .i64 c, .int .i64 d, .int .i64 e]) (.int .i64 1)).run Try.prog W = .ok (.int .i64 b) W := by kernel_rfl
theorem five2 (a b c d e : Int) (W : World) : (Instr.index 77 (.agg #[.int .i64 a, .int .i64 b, .int .i64 c, .int .i64 d, .int .i64 e]) (.int .i64 2)).run Try.prog W = .ok (.int .i64 c) W := by kernel_rfl
theorem five3 (a b c d e : Int) (W : World) : (Instr.index 77 (.agg #[.int .i64 a, .int .i64 b, .int .i64 c, .int .i64 d, .int .i64 e]) (.int .i64 3)).run Try.prog W = .ok (.int .i64 d) W := by kernel_rfl
theorem five4 (a b c d e : Int) (W : World) : (Instr.index 77 (.agg #[.int .i64 a, .int .i64 b, .int .i64 c, .int .i64 d, .int .i64 e]) (.int .i64 4)).run Try.prog W = .ok (.int .i64 e) W := by kernel_rfl
theorem five_at (off addr siz mem al : Int) (k : Nat) (W : World) (hk : k < 5) : (Instr.index 77 (.agg #[.int .i64 off, .int .i64 addr, .int .i64 siz, .int .i64 mem, .int .i64 al]) (.int .i64 (k : Int))).run Try.prog W = .ok (.int .i64 (five off addr siz mem al k)) W := by
  match k, hk with
  | 0, _ => exact five0 ..
  | 1, _ => exact five1 ..
  | 2, _ => exact five2 ..
  | 3, _ => exact five3 ..
  | 4, _ => exact five4 ..
theorem five_all {off addr siz mem al : Int} (h : ∀ j, j < 5 → win (five off addr siz mem al j) 1099511627776 = true) : fiveB off addr siz mem al = true := by
  have h0 := h 0 (by omega); have h1 := h 1 (by omega); have h2 := h 2 (by omega); have h3 := h 3 (by omega); have h4 := h 4 (by omega)
  simp only [five] at h0 h1 h2 h3 h4
  simp [fiveB, h0, h1, h2, h3, h4]
theorem win_iff {n m : Int} (h : win n m = true) : 0 ≤ n ∧ n ≤ m := by simpa [win] using h
theorem five_bounds {off addr siz mem al : Int} (h : fiveB off addr siz mem al = true) : (0 ≤ off ∧ off ≤ 1099511627776) ∧ (0 ≤ addr ∧ addr ≤ 1099511627776) ∧ (0 ≤ siz ∧ siz ≤ 1099511627776) ∧ (0 ≤ mem ∧ mem ≤ 1099511627776) ∧ 0 ≤ al ∧ al ≤ 1099511627776 := by
  simp only [fiveB, Bool.and_eq_true] at h
  obtain ⟨⟨⟨⟨h0, h1⟩, h2⟩, h3⟩, h4⟩ := h
  exact ⟨win_iff h0, win_iff h1, win_iff h2, win_iff h3, win_iff h4⟩
/-- Behind the five numbers: what is left of the answer. -/
theorem segB_rest {t fl off addr siz mem al size : Int} (h1 : win t 1073741824 = true) (h2 : win fl 7 = true) (h3 : fiveB off addr siz mem al = true) :
    segB t fl off addr siz mem al size = (if t = 1 then placedB off addr siz mem size && decide (0 < mem) && decide (al = 64) && decide (addr % 64 = off % 64) else if t = 2 then placedB off addr siz mem size else true) := by
  simp [segB, h1, h2, h3]
theorem five_not {off addr siz mem al : Int} {k : Nat} (hk : k < 5) (h : win (five off addr siz mem al k) 1099511627776 = false) : fiveB off addr siz mem al = false := by
  match k, hk with
  | 0, _ => simp only [five] at h; simp [fiveB, h]
  | 1, _ => simp only [five] at h; simp [fiveB, h]
  | 2, _ => simp only [five] at h; simp [fiveB, h]
  | 3, _ => simp only [five] at h; simp [fiveB, h]
  | 4, _ => simp only [five] at h; simp [fiveB, h]

set_option maxHeartbeats 4000000 in
set_option maxRecDepth 100000 in
theorem elf_segment.calls (t fl off addr siz mem al size : Int) (r : Bool) (w : World) (h : elf_segment.f t fl off addr siz mem al size = some r) :
    Calls Try.prog 28 #[.agg #[.int .i64 t, .int .i64 fl, .int .i64 off, .int .i64 addr, .int .i64 siz, .int .i64 mem, .int .i64 al], .int .i64 size] w fun e w' => e = .returned (.bool r) ∧ Below w.heap.size w w' := by
  obtain rfl := Option.some.inj h
  clear h
  have hu := Try.underlying32
  cases h1 : win t 1073741824 with
  | false =>
    have hfin : segB t fl off addr siz mem al size = false := by simp [segB, h1]
    have HF := Lib.hid hfin; have H1 := Lib.hid h1; clear hfin h1
    go_enter Try.func28, Try.ntmps28
    go_wp2_with fail
    refine (within_calls _ _ _).mono ?_
    rintro e w1 ⟨rfl, rfl⟩
    rw [H1.out]
    go_wp2_with fail
    go_ret
    refine ⟨?_, (Below.refl _ _).alloc (Nat.le_refl _) _⟩
    rw [HF.out]
    rfl
  | true =>
  cases h2 : win fl 7 with
  | false =>
    have hfin : segB t fl off addr siz mem al size = false := by simp [segB, h1, h2]
    have HF := Lib.hid hfin; have H1 := Lib.hid h1; have H2 := Lib.hid h2; clear hfin h1 h2
    go_enter Try.func28, Try.ntmps28
    go_wp2_with fail
    refine (within_calls _ _ _).mono ?_
    rintro e w1 ⟨rfl, rfl⟩
    rw [H1.out]
    go_wp2_with fail
    refine (within_calls _ _ _).mono ?_
    rintro e w1 ⟨rfl, rfl⟩
    rw [H2.out]
    go_wp2_with fail
    go_ret
    refine ⟨?_, (Below.refl _ _).alloc (Nat.le_refl _) _⟩
    rw [HF.out]
    rfl
  | true =>
    have H1 := Lib.hid h1; have H2 := Lib.hid h2; clear h1 h2
    go_enter Try.func28, Try.ntmps28
    go_wp2_with fail
    refine (within_calls _ _ _).mono ?_
    rintro e w1 ⟨rfl, rfl⟩
    rw [H1.out]
    go_wp2_with fail
    refine (within_calls _ _ _).mono ?_
    rintro e w1 ⟨rfl, rfl⟩
    rw [H2.out]
    go_wp2_with fail
    go_loop [32] (fun i => ∃ k : Nat, k ≤ 5 ∧ i = .int .i64 k ∧ Hid (∀ j, j < k → win (five off addr siz mem al j) 1099511627776 = true)) (fun i => 5 - (intOf i).toNat)
    case atStart => exact ⟨0, by omega, rfl, fun j hj => absurd hj (Nat.not_lt_zero _)⟩
    case round =>
      obtain ⟨k, hk, rfl, HK⟩ := hrel
      by_cases hlt : k < 5
      · have hx := fun W => five_at off addr siz mem al k W hlt
        go_wp2_with fail
        refine (within_calls _ _ _).mono ?_
        rintro e w1 ⟨rfl, rfl⟩
        clear hx
        cases hv : win (five off addr siz mem al k) 1099511627776 with
        | false =>
          have hfin : segB t fl off addr siz mem al size = false := by simp [segB, five_not hlt hv]
          have HF := Lib.hid hfin; clear hfin hv
          go_wp2_with fail
          go_ret
          refine ⟨?_, (Below.refl _ _).alloc (Nat.le_refl _) _⟩
          rw [HF.out]
          rfl
        | true =>
          have HV := Lib.hid hv; clear hv
          go_wp2_with fail
          go_round
          case measure => simp [intOf]; omega
          case rel => exact ⟨k + 1, by omega, by go_num, fun j hj => by
            by_cases e : j = k
            · subst e; exact HV.out
            · exact HK.out j (by omega)⟩
      · obtain rfl : k = 5 := by omega
        have hfive := five_all HK.out
        have HS := Lib.hid (segB_rest (size := size) H1.out H2.out hfive)
        obtain ⟨⟨o0, o1⟩, ⟨a0, a1⟩, ⟨s0, s1⟩, ⟨m0, m1⟩, l0, l1⟩ := five_bounds hfive
        clear hfive HK hlt hk
        go_wp2_with fail
        refine (within_calls _ _ _).mono ?_
        rintro e w1 ⟨rfl, rfl⟩
        cases hb1 : win (off + siz) size with
        | false =>
          have HP : Hid (placedB off addr siz mem size = false) := by simp [Hid, placedB, hb1]
          clear hb1
          go_wp2_with fail
          all_goals
            go_ret
            refine ⟨?_, (Below.refl _ _).alloc (Nat.le_refl _) _⟩
            rw [HS.out, HP.out]
            simp_all
        | true =>
        have HB1 := Lib.hid hb1
        clear hb1
        go_wp2_with fail
        refine (within_calls _ _ _).mono ?_
        rintro e w1 ⟨rfl, rfl⟩
        cases hb2 : win siz mem with
        | false =>
          have HP : Hid (placedB off addr siz mem size = false) := by simp [Hid, placedB, hb2]
          clear hb2
          go_wp2_with fail
          all_goals
            go_ret
            refine ⟨?_, (Below.refl _ _).alloc (Nat.le_refl _) _⟩
            rw [HS.out, HP.out]
            simp_all
        | true =>
        have HB2 := Lib.hid hb2
        clear hb2
        go_wp2_with fail
        refine (within_calls _ _ _).mono ?_
        rintro e w1 ⟨rfl, rfl⟩
        cases hb3 : win (addr + mem) 262144 with
        | false =>
          have HP : Hid (placedB off addr siz mem size = false) := by simp [Hid, placedB, hb3]
          clear hb3
          go_wp2_with fail
          all_goals
            go_ret
            refine ⟨?_, (Below.refl _ _).alloc (Nat.le_refl _) _⟩
            rw [HS.out, HP.out]
            simp_all
        | true =>
          have HP : Hid (placedB off addr siz mem size = true) := by simp [Hid, placedB, HB1.out, HB2.out, hb3]
          clear hb3 HB1 HB2
          go_wp2_with fail
          all_goals
            go_ret
            refine ⟨?_, (Below.refl _ _).alloc (Nat.le_refl _) _⟩
            rw [HS.out, HP.out]
            first | (simp_all; done) | (simp_all; rfl) | (simp_all; intros; omega)
end Go.Proofs.Ytdlgfjefbjkdaaa.H
