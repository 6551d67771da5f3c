/- Plain facts of whole numbers, bits and bytes. -/
import Derived.Test.YtdlgfjefbjkdaaaBx0
import Derived.Test.YtdlgfjefbjkdaaaHeader
import Derived.Test.YtdlgfjefbjkdaaaSegment
import Derived.Test.YtdlgfjefbjkdaaaAxFlyleafref01Fill
import Derived.Laws.Bits128
namespace Go.Proofs.Ytdlgfjefbjkdaaa.Pure
open Go.RowKit Go.Proofs.Ytdlgfjefbjkdaaa.A Go.Proofs.Ytdlgfjefbjkdaaa.H Go.Proofs.Flat Go.Proofs.YtdlgfjefbjkdaaaW.PrintWords Go.Proofs.YtdlgfjefbjkdaaaW.PrintLast Go.Proofs.YtdlgfjefbjkdaaaW.PrintMore
set_option linter.unusedVariables false
set_option linter.unusedSimpArgs false
theorem w64 {x : Int} (h0 : -9223372036854775808 ≤ x) (h1 : x < 9223372036854775808) : wrap64 x = x := by unfold wrap64; omega
theorem i64_and (n m : Int) (i : Nat) (hm : (BitVec.ofInt 64 m).toNat = 2 ^ i - 1) (hi : i ≤ 7) : bits .and .i64 n m = n % 2 ^ i := by
  have key : (BitVec.ofInt 64 n &&& BitVec.ofInt 64 m).toNat = (n % ((2 ^ 64 : Nat) : Int)).toNat % 2 ^ i := by
    rw [BitVec.toNat_and, BitVec.toNat_ofInt, hm, Nat.and_two_pow_sub_one_eq_mod]
  show IntKind.i64.wrap ((BitVec.ofInt 64 n &&& BitVec.ofInt 64 m).toNat : Nat) = n % 2 ^ i
  rw [key, IntKind.wrap_i64]
  obtain rfl | rfl | rfl | rfl | rfl | rfl | rfl | rfl : i = 0 ∨ i = 1 ∨ i = 2 ∨ i = 3 ∨ i = 4 ∨ i = 5 ∨ i = 6 ∨ i = 7 := by omega
  all_goals (simp only [show (2:Int)^0 = 1 from rfl, show (2:Int)^1 = 2 from rfl, show (2:Int)^2 = 4 from rfl, show (2:Int)^3 = 8 from rfl, show (2:Int)^4 = 16 from rfl, show (2:Int)^5 = 32 from rfl, show (2:Int)^6 = 64 from rfl, show (2:Int)^7 = 128 from rfl, show (2:Nat)^0 = 1 from rfl, show (2:Nat)^1 = 2 from rfl, show (2:Nat)^2 = 4 from rfl, show (2:Nat)^3 = 8 from rfl, show (2:Nat)^4 = 16 from rfl, show (2:Nat)^5 = 32 from rfl, show (2:Nat)^6 = 64 from rfl, show (2:Nat)^7 = 128 from rfl]; omega)
theorem and1 (n : Int) : bits .and .i64 n 1 = n % 2 := i64_and n 1 1 (by decide) (by decide)
theorem and3 (n : Int) : bits .and .i64 n 3 = n % 4 := i64_and n 3 2 (by decide) (by decide)
theorem and7 (n : Int) : bits .and .i64 n 7 = n % 8 := i64_and n 7 3 (by decide) (by decide)
theorem and15 (n : Int) : bits .and .i64 n 15 = n % 16 := i64_and n 15 4 (by decide) (by decide)
theorem and31 (n : Int) : bits .and .i64 n 31 = n % 32 := i64_and n 31 5 (by decide) (by decide)
theorem and63 (n : Int) : bits .and .i64 n 63 = n % 64 := i64_and n 63 6 (by decide) (by decide)
theorem or1 : ∀ n : Int, 0 ≤ n → n < 8 → bits .or .i64 n 1 = n / 2 * 2 + 1 := by
  intro n h0 h1
  obtain rfl | rfl | rfl | rfl | rfl | rfl | rfl | rfl : n = 0 ∨ n = 1 ∨ n = 2 ∨ n = 3 ∨ n = 4 ∨ n = 5 ∨ n = 6 ∨ n = 7 := by omega
  all_goals decide
theorem wu64 {x : Int} (h0 : 0 ≤ x) (h1 : x < 18446744073709551616) : IntKind.u64.wrap x = x := by
  simp only [IntKind.wrap, IntKind.bits, IntKind.signed]
  simp
  omega
theorem pow256 (m : Nat) : (0 : Int) < 256 ^ m := Int.pow_pos (by decide)
theorem bytesL_app (a b : ByteArray) : bytesL (a ++ b) = bytesL a ++ bytesL b := by simp [bytesL]
theorem fill_empty (n : Nat) : bytesL (fillS emptyS n) = List.replicate n 0 := by
  cases n with
  | zero => rfl
  | succ n =>
    unfold fillS
    rw [if_neg (show ¬ (((n + 1 : Nat) : Int).toNat ≤ emptyS.size) by show ¬ (n + 1 ≤ 0); omega), bytesL_app]
    rfl
theorem win_t {n m : Int} (h0 : 0 ≤ n) (h1 : n ≤ m) : win n m = true := by simp [win, h0, h1]
theorem win_f {n m : Int} (h : ¬ (0 ≤ n ∧ n ≤ m)) : win n m = false := by
  unfold win
  cases h0 : decide (0 ≤ n)
  · rfl
  · simp at h0 h ⊢
    exact h h0
/-- Fill, of a shorter text. -/
theorem fill_is {s : ByteArray} {n : Int} (h0 : (s.size : Int) < n) (h1 : n ≤ 4096) : ∃ t, flyleafref01_Fill.f s n = some t ∧ bytesL t = bytesL s ++ List.replicate (n - s.size).toNat 0 ∧ (t.size : Int) = n := by
  have w : wrap64 (n - (s.size : Int)) = n - s.size := w64 (by omega) (by omega)
  have hz : (strOfNums (List.replicate (n - (s.size : Int)).toNat 0)).size = (n - (s.size : Int)).toNat := by rw [strOfNums_size, List.length_replicate]
  refine ⟨s ++ strOfNums (List.replicate (n - (s.size : Int)).toNat 0), ?_, ?_, ?_⟩
  · unfold flyleafref01_Fill.f
    rw [if_neg (show ¬ n < 0 by omega), if_neg (show ¬ (s.size : Int) ≥ n by omega), w, if_pos (show 0 ≤ n - (s.size : Int) by omega), if_pos (show (n - (s.size : Int)).toNat ≤ 281474976710656 by omega)]
    simp only [Option.bind_some]
    rw [if_pos (by rw [hz]; omega)]
  · rw [bytesL_app]
    congr 1
    unfold strOfNums bytesL
    simp
  · rw [ByteArray.size_append, hz]; omega
theorem bytesL_mk (l : List UInt8) : bytesL ⟨l.toArray⟩ = l := rfl
end Go.Proofs.Ytdlgfjefbjkdaaa.Pure
