/- elf.alike tells whether a file begins with headers, but for the bytes that may be any: the contract of the Go function, for all texts. -/
import Derived.Test.YtdlgfjefbjkdaaaProg
import Derived.Test.YtdlgfjefbjkdaaaWWords
import Derived.WalkKit
import Derived.Lib.Hide
import Derived.WalkSpells
import Derived.BigQuiet
import Derived.Deep.QuietTactic
namespace Go.Proofs.Ytdlgfjefbjkdaaa.H
open Go.RowKit Go.Proofs.YtdlgfjefbjkdaaaW.PrintWords
set_option linter.unusedVariables false
set_option linter.unusedSimpArgs false

/-- The bytes of headers that may be any. -/
def anyB (i : Int) : Bool :=
  if i < 64 then (decide (40 ≤ i) && decide (i < 52)) || decide (58 ≤ i) else decide (24 ≤ (i - 64) % 56) && decide ((i - 64) % 56 < 32)
def sameB (file head : ByteArray) (i : Int) : Bool := (bt file i == bt head i) || anyB i
def alikeB (file head : ByteArray) : Bool := decide (head.size ≤ file.size) && (List.range head.size).all fun i => sameB file head i
def elf_alike.f (a0 a1 : ByteArray) : Option Bool := if a1.size ≤ 140737488355328 ∧ a0.size ≤ 140737488355328 then some (alikeB a0 a1) else none

set_option maxRecDepth 100000 in
theorem any_calls (n : Int) (w : World) (h0 : 0 ≤ n) (h1 : n ≤ 140737488355328) :
    Calls Try.prog 41 #[.int .i64 n] w fun e w' => e = .returned (.bool (anyB n)) ∧ w' = w := by
  by_cases h : n < 64
  · have hd : decide (n < 64) = true := decide_eq_true h
    have hfin : anyB n = ((decide (40 ≤ n) && decide (n < 52)) || decide (58 ≤ n)) := by simp [anyB, h]
    have HF := Lib.hid hfin; clear hfin
    by_cases ha : 40 ≤ n
    · have hda : decide (40 ≤ n) = true := decide_eq_true ha
      by_cases hb : n < 52
      · have hdb : decide (n < 52) = true := decide_eq_true hb
        go_enter Try.func41, Try.ntmps41
        go_wp2
        go_ret
        refine ⟨?_, rfl⟩
        rw [HF.out, hda, hdb]
        rfl
      · have hdb : decide (n < 52) = false := decide_eq_false hb
        go_enter Try.func41, Try.ntmps41
        go_wp2
        go_ret
        refine ⟨?_, rfl⟩
        rw [HF.out, hda, hdb]
        rfl
    · have hda : decide (40 ≤ n) = false := decide_eq_false ha
      go_enter Try.func41, Try.ntmps41
      go_wp2
      go_ret
      refine ⟨?_, rfl⟩
      rw [HF.out, hda]
      rfl
  · have hd : decide (n < 64) = false := decide_eq_false h
    have hfin : anyB n = (decide (24 ≤ (n - 64) % 56) && decide ((n - 64) % 56 < 32)) := by simp [anyB, h]
    have HF := Lib.hid hfin; clear hfin
    by_cases ha : 24 ≤ (n - 64) % 56
    · have hda : decide (24 ≤ (n - 64) % 56) = true := decide_eq_true ha
      go_enter Try.func41, Try.ntmps41
      go_wp2
      go_ret
      refine ⟨?_, rfl⟩
      rw [HF.out, hda]
      rfl
    · have hda : decide (24 ≤ (n - 64) % 56) = false := decide_eq_false ha
      go_enter Try.func41, Try.ntmps41
      go_wp2
      go_ret
      refine ⟨?_, rfl⟩
      rw [HF.out, hda]
      rfl

theorem below_drewN {B : Nat} {w W : World} (h : Below B w W) (n : Nat) : Below B w (W.drewN n) := ⟨h.os, h.tape, h.output, h.size, h.block⟩
theorem any_true (n : Int) (w : World) (h0 : 0 ≤ n) (h1 : n ≤ 140737488355328) (h : anyB n = true) :
    Calls Try.prog 41 #[.int .i64 n] w fun e w' => e = .returned (.bool true) ∧ w' = w := by have := any_calls n w h0 h1; rwa [h] at this
theorem any_false (n : Int) (w : World) (h0 : 0 ≤ n) (h1 : n ≤ 140737488355328) (h : anyB n = false) :
    Calls Try.prog 41 #[.int .i64 n] w fun e w' => e = .returned (.bool false) ∧ w' = w := by have := any_calls n w h0 h1; rwa [h] at this
theorem alike_not {file head : ByteArray} {k : Nat} (hk : k < head.size) (h : sameB file head k = false) : alikeB file head = false := by
  simp only [alikeB, Bool.and_eq_false_iff, List.all_eq_false, List.mem_range]
  exact .inr ⟨k, hk, by rw [h]; simp⟩
theorem alike_all {file head : ByteArray} (hs : head.size ≤ file.size) (h : ∀ j, j < head.size → sameB file head j = true) : alikeB file head = true := by
  simp only [alikeB, Bool.and_eq_true, decide_eq_true_eq, List.all_eq_true, List.mem_range]
  exact ⟨hs, h⟩

set_option maxHeartbeats 4000000 in
set_option maxRecDepth 100000 in
theorem elf_alike.calls (file head : ByteArray) (r : Bool) (w : World) (h : elf_alike.f file head = some r) :
    Calls Try.prog 23 #[.string file, .string head] w fun e w' => e = .returned (.bool r) ∧ Below w.heap.size w w' := by
  unfold elf_alike.f at h
  by_cases hb : head.size ≤ 140737488355328 ∧ file.size ≤ 140737488355328
  · rw [if_pos hb] at h
    obtain ⟨hb1, hb2⟩ := hb
    obtain rfl := Option.some.inj h
    clear h
    by_cases hs : file.size < head.size
    · have hd : decide (file.size < head.size) = true := decide_eq_true hs
      have hfin : alikeB file head = false := by simp only [alikeB, Bool.and_eq_false_iff, decide_eq_false_iff_not]; exact .inl (by omega)
      have HF := Lib.hid hfin; clear hfin
      go_enter Try.func23, Try.ntmps23
      go_wp2
      go_ret
      refine ⟨?_, Below.refl _ _⟩
      rw [HF.out]
      rfl
    · have hd : decide (file.size < head.size) = false := decide_eq_false hs
      have hs' : head.size ≤ file.size := by omega
      go_enter Try.func23, Try.ntmps23
      go_wp2
      go_loopw [6, 14] (fun i6 i wr => ∃ k : Nat, k ≤ head.size ∧ i = .int .i64 k ∧ Hid (∀ j, j < k → sameB file head j = true) ∧ Below w.heap.size w wr) (fun _ i _ => head.size - (intOf i).toNat)
      case atStart => exact ⟨0, Nat.zero_le _, rfl, fun j hj => absurd hj (Nat.not_lt_zero _), Below.refl _ _⟩
      case round =>
        obtain ⟨k, hk, rfl, HK, hbl⟩ := hrel
        by_cases hlt : k < head.size
        · have hf1 : ∀ h : k < file.size, ((file[k]'h).toNat : Int) = bt file k := fun h => by simpa using bt_at file k (by simpa using h)
          have hf2 : ∀ h : k < head.size, ((head[k]'h).toNat : Int) = bt head k := fun h => by simpa using bt_at head k (by simpa using h)
          have hlf : k < file.size := by omega
          have hlt' : (k : Int) < (head.size : Int) := by omega
          have hlf' : (k : Int) < (file.size : Int) := by omega
          by_cases he : bt file k = bt head k
          · have hv : (bt file k != bt head k) = false := by simp [he]
            have HE := Lib.hid he; clear he
            go_wp2
            go_quiet (fail)
            go_wp2
            go_roundw
            case measure => simp [intOf]; omega
            case rel => exact ⟨k + 1, by omega, by go_num, fun j hj => by
              by_cases e : j = k
              · subst e; simp [sameB, HE.out]
              · exact HK.out j (by omega), below_drewN hbl _⟩
          · have hv : (bt file k != bt head k) = true := by simp [he]
            have HE := Lib.hid he; clear he
            cases ha : anyB k with
            | true =>
              have hs1 : sameB file head k = true := by simp [sameB, ha]
              have HS := Lib.hid hs1; have HA := Lib.hid ha; clear hs1 ha
              go_wp2
              go_quiet ((go_at_call 41; refine Calls.quiet_of_same (any_true k _ (by omega) (by omega) HA.out)))
              go_wp2
              go_roundw
              case measure => simp [intOf]; omega
              case rel => exact ⟨k + 1, by omega, by go_num, fun j hj => by
                by_cases e : j = k
                · subst e; exact HS.out
                · exact HK.out j (by omega), below_drewN hbl _⟩
            | false =>
              have hs1 : sameB file head k = false := by simp [sameB, ha, HE.out]
              have hfin := alike_not hlt hs1
              have HF := Lib.hid hfin; have HA := Lib.hid ha; clear hs1 ha hfin
              go_wp2
              go_quiet ((go_at_call 41; refine Calls.quiet_of_same (any_false k _ (by omega) (by omega) HA.out)))
              go_wp2
              go_ret
              refine ⟨?_, below_drewN hbl _⟩
              rw [HF.out]
              rfl
        · have hfin := alike_all hs' (fun j hj => HK.out j (by omega))
          have HF := Lib.hid hfin; clear hfin
          go_wp2
          go_ret
          refine ⟨?_, hbl⟩
          rw [HF.out]
          rfl
  · rw [if_neg hb] at h
    cases h
end Go.Proofs.Ytdlgfjefbjkdaaa.H
