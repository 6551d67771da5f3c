/- Plain facts of whole numbers, bits and texts of one letter. -/
import Derived.Test.YtokilodeihocjaaBx0
import Derived.Test.YtokilodeihocjaaBuildDefs
import Derived.Laws.Bits128
namespace Go.Proofs.Ytokilodeihocjaa.Pure
open Go.RowKit Go.Proofs.Ytokilodeihocjaa.A Go.Proofs.Ytokilodeihocjaa.H Go.Proofs.Flat Go.Proofs.YtokilodeihocjaaW.PrintWords Go.Proofs.YtokilodeihocjaaW.PrintLast Go.Proofs.YtokilodeihocjaaW.PrintMore
set_option linter.unusedVariables false
set_option linter.unusedSimpArgs false
theorem w64 {x : Int} (h0 : -9223372036854775808 ≤ x) (h1 : x < 9223372036854775808) : wrap64 x = x := by unfold wrap64; omega
theorem i64_and (n m : Int) (i : Nat) (hm : (BitVec.ofInt 64 m).toNat = 2 ^ i - 1) (hi : i ≤ 7) : bits .and .i64 n m = n % 2 ^ i := by
  have key : (BitVec.ofInt 64 n &&& BitVec.ofInt 64 m).toNat = (n % ((2 ^ 64 : Nat) : Int)).toNat % 2 ^ i := by
    rw [BitVec.toNat_and, BitVec.toNat_ofInt, hm, Nat.and_two_pow_sub_one_eq_mod]
  show IntKind.i64.wrap ((BitVec.ofInt 64 n &&& BitVec.ofInt 64 m).toNat : Nat) = n % 2 ^ i
  rw [key, IntKind.wrap_i64]
  obtain rfl | rfl | rfl | rfl | rfl | rfl | rfl | rfl : i = 0 ∨ i = 1 ∨ i = 2 ∨ i = 3 ∨ i = 4 ∨ i = 5 ∨ i = 6 ∨ i = 7 := by omega
  all_goals (simp only [show (2:Int)^0 = 1 from rfl, show (2:Int)^1 = 2 from rfl, show (2:Int)^2 = 4 from rfl, show (2:Int)^3 = 8 from rfl, show (2:Int)^4 = 16 from rfl, show (2:Int)^5 = 32 from rfl, show (2:Int)^6 = 64 from rfl, show (2:Int)^7 = 128 from rfl, show (2:Nat)^0 = 1 from rfl, show (2:Nat)^1 = 2 from rfl, show (2:Nat)^2 = 4 from rfl, show (2:Nat)^3 = 8 from rfl, show (2:Nat)^4 = 16 from rfl, show (2:Nat)^5 = 32 from rfl, show (2:Nat)^6 = 64 from rfl, show (2:Nat)^7 = 128 from rfl]; omega)
theorem and1 (n : Int) : bits .and .i64 n 1 = n % 2 := i64_and n 1 1 (by decide) (by decide)
theorem and3 (n : Int) : bits .and .i64 n 3 = n % 4 := i64_and n 3 2 (by decide) (by decide)
theorem and7 (n : Int) : bits .and .i64 n 7 = n % 8 := i64_and n 7 3 (by decide) (by decide)
theorem and15 (n : Int) : bits .and .i64 n 15 = n % 16 := i64_and n 15 4 (by decide) (by decide)
theorem and31 (n : Int) : bits .and .i64 n 31 = n % 32 := i64_and n 31 5 (by decide) (by decide)
theorem and63 (n : Int) : bits .and .i64 n 63 = n % 64 := i64_and n 63 6 (by decide) (by decide)
theorem wu64 {x : Int} (h0 : 0 ≤ x) (h1 : x < 18446744073709551616) : IntKind.u64.wrap x = x := by
  simp only [IntKind.wrap, IntKind.bits, IntKind.signed]
  simp
  omega
theorem and4095 (n : Int) : bits .and .i64 n 4095 = n % 4096 := by
  have key : (BitVec.ofInt 64 n &&& BitVec.ofInt 64 4095).toNat = (n % ((2 ^ 64 : Nat) : Int)).toNat % 2 ^ 12 := by
    rw [BitVec.toNat_and, BitVec.toNat_ofInt, show (BitVec.ofInt 64 4095).toNat = 2 ^ 12 - 1 from by decide, Nat.and_two_pow_sub_one_eq_mod]
  show IntKind.i64.wrap ((BitVec.ofInt 64 n &&& BitVec.ofInt 64 4095).toNat : Nat) = n % 4096
  rw [key, IntKind.wrap_i64]
  simp only [show (2:Nat)^12 = 4096 from rfl]
  omega
theorem bytesL_app (a b : ByteArray) : bytesL (a ++ b) = bytesL a ++ bytesL b := by simp [bytesL]
theorem bytesL_mk (l : List UInt8) : bytesL ⟨l.toArray⟩ = l := rfl
theorem bytesL_inj {a b : ByteArray} (h : bytesL a = bytesL b) : a = b := Go.WideShapes.bytes_inj h
/-- n letters c. -/
def repS (c : UInt8) (n : Nat) : ByteArray := ⟨(List.replicate n c).toArray⟩
theorem repS_L (c : UInt8) (n : Nat) : bytesL (repS c n) = List.replicate n c := rfl
theorem repS_size (c : UInt8) (n : Nat) : (repS c n).size = n := by rw [← bytesL_length, repS_L, List.length_replicate]
theorem repS_succ (c : UInt8) (n : Nat) : repS c n ++ ⟨#[c]⟩ = repS c (n + 1) := by
  refine bytesL_inj ?_
  rw [bytesL_app, repS_L, repS_L, List.replicate_succ']
  rfl
theorem repS_has0 (c : UInt8) (n : Nat) (h : c ≠ 0) : has0 (repS c n) = false := by
  show (bytesL (repS c n)).contains 0 = false
  rw [repS_L]
  simp
  intro _ e
  exact h e.symm

/-! ### a stack that is built -/
theorem mayB_of (l0 l1 : List ByteArray) (l2 : List Pr) (h0 : ∀ s, s ∈ l0 → has0 s = false) (h1 : ∀ s, s ∈ l1 → has0 s = false) (h2 : ∀ x, x ∈ l2 → pairOk x = true) : mayB l0 l1 l2 = true := by
  have e0 : l0.any has0 = false := by rw [List.any_eq_false]; intro s hs; simp [h0 s hs]
  have e1 : l1.any has0 = false := by rw [List.any_eq_false]; intro s hs; simp [h1 s hs]
  have e2 : l2.all pairOk = true := by rw [List.all_eq_true]; exact h2
  simp [mayB, okTo, e0, e1, e2]
theorem Build_bad {top : Int} {l0 l1 : List ByteArray} {l2 : List Pr} (a : lowL l0) (b : lowL l1) (c : l2.length ≤ 8796093022208) (h0 : 0 ≤ top) (h1 : top ≤ 262144) (h2 : top % 16 = 0) (hm : mayB l0 l1 l2 = true) (h : 1024 < sizeN l0 l1 l2 ∨ top < sizeN l0 l1 l2) :
    stack_Build.f top l0 l1 l2 = some (0, ⟨#[]⟩, 11) := by
  rw [stack_Build.f, if_pos ⟨a, b, c⟩, buildR, if_neg (by rw [hm]; simp; omega), if_pos (by omega)]
theorem Build_ok {top : Int} {l0 l1 : List ByteArray} {l2 : List Pr} (a : lowL l0) (b : lowL l1) (c : l2.length ≤ 8796093022208) (h0 : 0 ≤ top) (h1 : top ≤ 262144) (h2 : top % 16 = 0) (hm : mayB l0 l1 l2 = true) (h : sizeN l0 l1 l2 ≤ 1024) (h' : (sizeN l0 l1 l2 : Int) ≤ top) :
    stack_Build.f top l0 l1 l2 = some (top - sizeN l0 l1 l2, builtS top l0 l1 l2, 0) := by
  rw [stack_Build.f, if_pos ⟨a, b, c⟩, buildR, if_neg (by rw [hm]; simp; omega), if_neg (by omega)]
theorem endTo2 (l0 l1 : List ByteArray) : endTo l0 l1 2 = endL l0 ++ endL l1 := by simp [endTo]
theorem fillS_sz (s : ByteArray) (n : Int) : (fillS s n).size = n.toNat := by
  unfold fillS
  split
  · rw [ByteArray.size_extract]; omega
  · rw [ByteArray.size_append]
    show s.size + (List.replicate _ (0 : UInt8)).toArray.size = _
    simp
    omega
theorem builtS_size (top : Int) (l0 l1 : List ByteArray) (l2 : List Pr) : (builtS top l0 l1 l2).size = sizeN l0 l1 l2 := by
  have h : (endTo l0 l1 2).length = textsN l0 + textsN l1 := by rw [endTo2, List.length_append]; rfl
  have h2 : textsN l0 + textsN l1 ≤ sizeN l0 l1 l2 := by unfold sizeN; omega
  rw [builtS, ByteArray.size_append, fillS_sz]
  show _ + (endTo l0 l1 2).toArray.size = _
  simp
  omega
theorem lowL_of {l : List ByteArray} (h : textsN l ≤ 140737488355328) : lowL l := by
  have := textsN_eq l
  exact ⟨by omega, by omega⟩
theorem textsN_nil : textsN [] = 0 := rfl
theorem textsN_rep (s : ByteArray) (m : Nat) : textsN (List.replicate m s) = m * (s.size + 1) := by
  induction m with
  | zero => simp [textsN, endL]
  | succ m ih => rw [List.replicate_succ, textsN_cons, ih, Nat.succ_mul]; omega
theorem bi_size (x : UInt8) : (⟨#[x]⟩ : ByteArray).size = 1 := rfl
end Go.Proofs.Ytokilodeihocjaa.Pure
