/- octet.Fill: a text made longer by bytes 0, or cut: the contract of the Go function, up to 2^47 bytes. -/
import Derived.Test.YtokilodeihocjaaShelf
import Derived.Test.YtokilodeihocjaaPlain
import Derived.WalkKit
import Derived.Lib.Hide
import Derived.Laws.BitsLemmas
import Derived.WalkSpells
namespace Go.Proofs.Ytokilodeihocjaa.H
open Go.RowKit Go.Proofs.Flat
set_option linter.unusedVariables false
set_option linter.unusedSimpArgs false

def octet_Fill.f (a0 : ByteArray) (a1 : Int) : Option ByteArray := if a1 ≤ 140737488355328 ∧ a0.size ≤ 140737488355328 then some (fillS a0 a1) else none

theorem repeat0 (c : Nat) : Lib.repeatL [0] c = List.replicate c (0 : UInt8) := by
  induction c with
  | zero => rfl
  | succ c ih => rw [List.replicate_succ, ← ih]; rfl

set_option maxRecDepth 100000 in
theorem octet_Fill.calls (a0 : ByteArray) (a1 : Int) (r : ByteArray) (w : World) (h : octet_Fill.f a0 a1 = some r) :
    Calls Try.prog 27 #[.string a0, .int .i64 a1] w fun e w' => e = .returned (.string r) ∧ Below w.heap.size w w' := by
  unfold octet_Fill.f at h
  by_cases hb : a1 ≤ 140737488355328 ∧ a0.size ≤ 140737488355328
  · rw [if_pos hb] at h
    obtain ⟨hb1, hb2⟩ := hb
    obtain rfl := Option.some.inj h
    clear h
    have hs0 : 0 ≤ (a0.size : Int) := Int.natCast_nonneg _
    have hm0 : 0 ≤ max a1 0 := by omega
    have hm1 : max a1 0 ≤ 140737488355328 := by omega
    by_cases hc : max a1 0 ≤ (a0.size : Int)
    · have hd : decide (max a1 0 ≤ (a0.size : Int)) = true := decide_eq_true hc
      go_enter Try.func27, Try.ntmps27
      go_wp2
      go_ret
      refine ⟨?_, Below.refl _ _⟩
      rw [fillS, if_pos (by omega), show a1.toNat = (max a1 0).toNat from by omega]
      rfl
    · have hd : decide (max a1 0 ≤ (a0.size : Int)) = false := decide_eq_false hc
      obtain ⟨c, hcc⟩ : ∃ c : Nat, max a1 0 - (a0.size : Int) = c := ⟨(max a1 0 - (a0.size : Int)).toNat, by omega⟩
      have hfin : fillS a0 a1 = a0 ++ ⟨(Lib.repeatL [0] c).toArray⟩ := by
        rw [fillS, if_neg (by omega), repeat0, show a1.toNat - a0.size = c from by omega]
      have HF := Lib.hid hfin; have HC := Lib.hid hcc; clear hfin hcc
      go_enter Try.func27, Try.ntmps27
      go_wp2_with fail
      rw [HC.out]
      have hrep := Try.strings_Repeat ⟨#[0]⟩ c w (by have := HC.out; omega) (by have := HC.out; show 1 * c ≤ _; omega)
      obtain ⟨z, hz⟩ : ∃ z : ByteArray, z = ⟨(Lib.repeatL [0] c).toArray⟩ := ⟨_, rfl⟩
      have hzs : z.size = c := by rw [hz, repeat0]; show (List.replicate c (0 : UInt8)).toArray.size = c; simp
      have hsz : a0.size + z.size ≤ 9223372036854775807 := by have := HC.out; omega
      have HZ := Lib.hid hz; clear hz hzs
      refine hrep.mono ?_
      clear hrep
      rintro e w1 ⟨rfl, hbl⟩
      rw [show (⟨(Lib.repeatL (⟨#[0]⟩ : ByteArray).data.toList c).toArray⟩ : ByteArray) = z from HZ.out.symm]
      go_wp2
      go_ret
      refine ⟨?_, hbl⟩
      rw [HF.out, ← HZ.out]
      rfl
  · rw [if_neg hb] at h
    cases h
end Go.Proofs.Ytokilodeihocjaa.H
