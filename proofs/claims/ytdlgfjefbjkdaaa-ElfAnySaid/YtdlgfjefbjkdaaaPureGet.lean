/- A number that was written is read again: Put and Get, in plain numbers. -/
import Derived.Test.YtdlgfjefbjkdaaaPureImage
import Derived.Test.YtdlgfjefbjkdaaaHeader
import Derived.Test.YtdlgfjefbjkdaaaAxElfGet
namespace Go.Proofs.Ytdlgfjefbjkdaaa.Pure
open Go.RowKit Go.Proofs.Ytdlgfjefbjkdaaa.A Go.Proofs.Ytdlgfjefbjkdaaa.H Go.Proofs.Flat Go.Proofs.YtdlgfjefbjkdaaaW.PrintWords Go.Proofs.YtdlgfjefbjkdaaaW.PrintLast Go.Proofs.YtdlgfjefbjkdaaaW.PrintMore
set_option linter.unusedVariables false
set_option linter.unusedSimpArgs false
theorem or_comm64 (x y : Int) : bits .or .u64 x y = bits .or .u64 y x := by simp only [bits, BitVec.or_comm]
theorem le_step (N : Int) (j : Nat) (hj : j < 8) :
    bits .or .u64 (N % 256 ^ j) (shl .u64 (IntKind.u64.wrap (byteAt N j)) (8 * (j : Int))) = N % 256 ^ (j + 1) := by
  have b0 : 0 ≤ byteAt N j := by unfold byteAt; omega
  have b1 : byteAt N j < 256 := by unfold byteAt; omega
  rw [wu64 b0 (by omega)]
  unfold shl
  rw [show min (8 * (j : Int)).toNat IntKind.u64.bits = 8 * j by rw [show IntKind.u64.bits = 64 from rfl]; omega]
  have hk : ∀ n : Int, 0 ≤ n → n < 2 ^ 64 → IntKind.u64.wrap n = n := fun n h0 h1 => wu64 h0 (by simpa using h1)
  have e : (2 : Int) ^ (8 * j) = 256 ^ j := pow8 j
  rw [e, or_comm64]
  have hj' : j = 0 ∨ j = 1 ∨ j = 2 ∨ j = 3 ∨ j = 4 ∨ j = 5 ∨ j = 6 ∨ j = 7 := by omega
  have key : byteAt N j * 256 ^ j + N % 256 ^ j = N % 256 ^ (j + 1) ∧ 0 ≤ byteAt N j * 256 ^ j ∧ byteAt N j * 256 ^ j < 2 ^ 64 ∧ (byteAt N j * 256 ^ j) % 256 ^ j = 0 ∧ N % 256 ^ j < 256 ^ j ∧ 0 ≤ N % 256 ^ j ∧ N % 256 ^ j < 2 ^ 64 := by
    unfold byteAt at b0 b1 ⊢
    obtain rfl | rfl | rfl | rfl | rfl | rfl | rfl | rfl := hj' <;> simp only [Nat.reduceAdd, Int.reducePow] at * <;> omega
  obtain ⟨k1, k2, k3, k4, k5, k6, k7⟩ := key
  rw [hk _ k2 k3, bits_join .u64 64 (by decide) hk (8 * j) _ _ k2 (by rw [e]; exact k4) k3 k6 (by rw [e]; exact k5) k7]
  exact k1
/-- At a place of a text stand a number's bytes. -/
def At (s : ByteArray) (off N : Int) (m : Nat) : Prop := 0 ≤ off ∧ off + m ≤ s.size ∧ ∀ j : Nat, j < m → bt s (off + j) = byteAt N j
theorem get_loop (s : ByteArray) (off N : Int) (w : Nat) (hs : s.size ≤ 140737488355328) (hw : w ≤ 8) (h : At s off N w) : ∀ (n j k : Nat), j + n = w →
    octet_Get.l0 (k + n + 1) s off (N % 256 ^ j) w j = some (N % 256 ^ w, true)
  | 0, j, k, hj => by
    obtain rfl : j = w := by omega
    rw [octet_Get.l0, if_neg (by omega)]
  | n + 1, j, k, hj => by
    obtain ⟨h0, h1, h2⟩ := h
    have e1 : wrap64 (off + (j : Int)) = off + j := w64 (by omega) (by omega)
    have e2 : wrap64 (8 * (j : Int)) = 8 * j := w64 (by omega) (by omega)
    have e3 : wrap64 ((j : Int) + 1) = ((j + 1 : Nat) : Int) := by rw [w64 (by omega) (by omega)]; omega
    have c1 : (j : Int) < w := by omega
    have c2 : 0 ≤ off + (j : Int) := by omega
    have c3 : off + (j : Int) < s.size := by omega
    have c4 : 0 ≤ 8 * (j : Int) := by omega
    rw [show k + (n + 1) + 1 = (k + n + 1) + 1 by omega, octet_Get.l0, if_pos c1]
    simp only [e1, e2, e3, if_pos c2, if_pos c3, if_pos c4, h2 j (by omega)]
    rw [le_step N j (by omega)]
    exact get_loop s off N w hs hw ⟨h0, h1, h2⟩ n (j + 1) k (by omega)
theorem get_at {s : ByteArray} {off N : Int} {m : Nat} (hs : s.size ≤ 140737488355328) (h1 : 1 ≤ m) (h8 : m ≤ 8) (h : At s off N m) (hN : 0 ≤ N) (hm : N < 256 ^ m) (hb : N ≤ 1099511627776) (k : Nat) :
    elf_get.f (k + m + 1) s off m = some N := by
  unfold elf_get.f octet_Get.f octet_number.f octet_Within.f
  have hl := get_loop s off N m hs h8 h m 0 k (by omega)
  have e : N % 256 ^ m = N := Int.emod_eq_of_lt hN hm
  rw [show N % 256 ^ 0 = 0 by simp [Int.emod_one], e] at hl
  obtain ⟨h0, h2, h3⟩ := h
  have c : wrap64 ((s.size : Int) - off) = s.size - off := w64 (by omega) (by omega)
  have d : decide ((m : Int) ≤ (s.size : Int) - off) = true := decide_eq_true (by omega)
  simp only [if_pos (show (m : Int) ≥ 1 by omega), if_pos (show (m : Int) ≤ 8 by omega), if_pos (show off ≥ 0 from h0), if_pos (show (m : Int) ≥ 0 by omega), if_pos (show off ≤ (s.size : Int) by omega), c, d, Option.bind_some, if_true]
  have hl' : octet_Get.l0 (k + m + 1) s off 0 m 0 = some (N, true) := hl
  rw [hl']
  simp only [Option.bind_some, if_true, if_neg (show ¬ N > 1099511627776 by omega)]
  rw [w64 (by omega) (by omega)]
theorem bt_list (s : ByteArray) (i : Nat) : bt s (i : Int) = (((bytesL s).getD i 0).toNat : Int) := by
  unfold bt bytesL
  split
  · rename_i h
    have h' : i < s.size := by simpa using h
    have hl : i < s.data.toList.length := by simpa using h'
    rw [List.getD_eq_getElem?_getD, List.getElem?_eq_getElem hl]
    rfl
  · rename_i h
    have h' : ¬ i < s.size := by simpa using h
    have hl : ¬ i < s.data.toList.length := by simpa using h'
    rw [List.getD_eq_getElem?_getD, List.getElem?_eq_none (by omega)]
    rfl
theorem put_byte (n : Int) (m j : Nat) (hj : j < m) : (((bytesL (putN n m)).getD j 0).toNat : Int) = byteAt (IntKind.u64.wrap (mx n 0)) j := by
  unfold putN putS strOfNums bytesL leB
  have b0 : 0 ≤ byteAt (IntKind.u64.wrap (mx n 0)) j := by unfold byteAt; omega
  have b1 : byteAt (IntKind.u64.wrap (mx n 0)) j < 256 := by unfold byteAt; omega
  simp only [List.map_map, List.getD_eq_getElem?_getD, List.getElem?_map, List.getElem?_range hj, Option.map_some, Option.getD_some, Function.comp]
  rw [UInt8.toNat_ofNat_of_lt' (by simp [UInt8.size]; omega)]
  omega
/-- What was written at a place stands there. -/
theorem at_of {s : ByteArray} {pre post : List UInt8} {n : Int} {m : Nat} (h : bytesL s = pre ++ bytesL (putN n m) ++ post) : At s pre.length (IntKind.u64.wrap (mx n 0)) m := by
  have hl : (bytesL s).length = s.size := bytesL_length s
  have hp : (bytesL (putN n m)).length = m := by rw [bytesL_length, putN_size]
  have hz : s.size = pre.length + m + post.length := by rw [← hl, h]; simp only [List.length_append, hp]
  refine ⟨by omega, by omega, fun j hj => ?_⟩
  rw [show (pre.length : Int) + (j : Int) = ((pre.length + j : Nat) : Int) by omega, bt_list, h, ← put_byte n m j hj]
  congr 2
  rw [List.append_assoc, List.getD_eq_getElem?_getD, List.getD_eq_getElem?_getD, List.getElem?_append_right (by omega), List.getElem?_append_left (by omega)]
  congr 2
  omega
end Go.Proofs.Ytdlgfjefbjkdaaa.Pure
