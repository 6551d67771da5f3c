/- octet.Put told plainly: the least byte first; and elf's put over it. -/
import Derived.Test.YtokilodeihocjaaAxOctetPut
import Derived.Lib.Hide
namespace Go.Proofs.Ytokilodeihocjaa.H
open Go.RowKit Go.Proofs.YtokilodeihocjaaW.PrintWords Go.Proofs.YtokilodeihocjaaW.PrintLast Go.Proofs.YtokilodeihocjaaW.PrintMore Go.Proofs.Ytokilodeihocjaa.A
set_option linter.unusedVariables false
set_option linter.unusedSimpArgs false

/-- Byte j of a number. -/
def byteAt (n : Int) (j : Nat) : Int := n / 256 ^ j % 256
def leB (n : Int) (w : Nat) : List Int := (List.range w).map (byteAt n)
/-- A number's bytes, the least one first. -/
def putS (n : Int) (w : Nat) : ByteArray := strOfNums (leB n w)
theorem leB_length (n : Int) (w : Nat) : (leB n w).length = w := by simp [leB]
theorem putS_size (n : Int) (w : Nat) : (putS n w).size = w := by rw [putS, strOfNums_size, leB_length]

theorem pow8 (j : Nat) : (2 : Int) ^ (8 * j) = 256 ^ j := by rw [Int.pow_mul]; rfl
theorem shr8 (n : Int) (j : Nat) (hj : j ≤ 7) : shr .u64 n (8 * (j : Int)) % 256 = byteAt n j := by
  unfold shr byteAt
  rw [show min (8 * (j : Int)).toNat (IntKind.bits .u64) = 8 * j from by show min _ 64 = _; omega, pow8]

theorem octet_Put_loop (n : Int) (w : Nat) (hw : w ≤ 8) (d : Nat) : ∀ (k i : Nat) (y : List Int), i + d = w → d < k → y.length = w → (∀ j, j < i → y[j]? = some (byteAt n j)) →
    octet_Put.l0 k n y (w : Int) (i : Int) = some (putS n w) := by
  induction d with
  | zero =>
    intro k i y hi hk hy hj
    obtain ⟨k, rfl⟩ : ∃ m, k = m + 1 := ⟨k - 1, by omega⟩
    simp only [octet_Put.l0]
    rw [if_neg (by omega)]
    congr 1
    rw [putS]
    congr 1
    refine List.ext_getElem? fun j => ?_
    by_cases h : j < w
    · rw [hj j (by omega), leB, List.getElem?_map, List.getElem?_range h]
      rfl
    · rw [List.getElem?_eq_none (by omega), List.getElem?_eq_none (by rw [leB_length]; omega)]
  | succ d ih =>
    intro k i y hi hk hy hj
    obtain ⟨k, rfl⟩ : ∃ m, k = m + 1 := ⟨k - 1, by omega⟩
    simp only [octet_Put.l0]
    have e8 : wrap64 (8 * (i : Int)) = 8 * (i : Int) := by unfold wrap64; omega
    have e1 : wrap64 ((i : Int) + 1) = ((i + 1 : Nat) : Int) := by unfold wrap64; omega
    rw [if_pos (by omega), e8, if_pos (by omega), if_pos (by omega), if_pos (by rw [hy]; omega), e1, shr8 n i (by omega), Int.toNat_natCast]
    refine ih k (i + 1) _ (by omega) (by omega) (by simp [hy]) fun j hlt => ?_
    by_cases e : j = i
    · subst e
      rw [List.getElem?_set_self (by omega)]
    · rw [List.getElem?_set_ne (by omega)]
      exact hj j (by omega)

theorem octet_Put_told (n a1 : Int) (w : Nat) (h : (w : Int) = mn (mx a1 0) 8) : octet_Put.f 20 n a1 = some (putS n w) := by
  have hw : w ≤ 8 := by unfold mn mx at h; split at h <;> split at h <;> omega
  unfold octet_Put.f
  rw [← h, if_pos (by omega), if_pos (by omega)]
  simp only [Option.bind_some, Int.toNat_natCast, List.length_replicate]
  exact octet_Put_loop n w hw w 20 0 _ (by omega) (by omega) (by simp) (fun j hj => absurd hj (Nat.not_lt_zero _))

/-- octet.Put. -/
theorem octet_Put_calls (n a1 : Int) (m : Nat) (w : World) (h : (m : Int) = mn (mx a1 0) 8) :
    Calls Try.prog 24 #[.int .u64 n, .int .i64 a1] w fun e w' => e = .returned (.string (putS n m)) ∧ Below w.heap.size w w' :=
  octet_Put.calls 20 n a1 _ w (octet_Put_told n a1 m h)
theorem wrap_u64_small (n : Int) (h0 : 0 ≤ n) (h1 : n ≤ 18446744073709551615) : IntKind.u64.wrap n = n := by
  simp only [IntKind.wrap, IntKind.bits, IntKind.signed]
  simp; omega
/-- A number's bytes; below 0 as 0. -/
def putN (n : Int) (m : Nat) : ByteArray := putS (IntKind.u64.wrap (mx n 0)) m
theorem putN_size (n : Int) (m : Nat) : (putN n m).size = m := putS_size _ _
end Go.Proofs.Ytokilodeihocjaa.H
