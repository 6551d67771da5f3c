/- A number that was written is read again, and a text up to its byte 0: octet.Get and the document's Get and Text, in plain numbers. -/
import Derived.Test.YtokilodeihocjaaPureStack
import Derived.Test.YtokilodeihocjaaAxOctetGet
import Derived.Test.YtokilodeihocjaaAxFlyleafref01Get
import Derived.Test.YtokilodeihocjaaAxFlyleafref01Text
import Derived.Test.YtokilodeihocjaaWTab
import Derived.Laws.BitsLemmas
import Derived.Laws.BitsAllLaws
namespace Go.Proofs.Ytokilodeihocjaa.Pure
open Go.RowKit Go.Proofs.Ytokilodeihocjaa.A Go.Proofs.Ytokilodeihocjaa.H Go.Proofs.Flat Go.Proofs.YtokilodeihocjaaW.PrintWords Go.Proofs.YtokilodeihocjaaW.PrintLast Go.Proofs.YtokilodeihocjaaW.PrintMore
set_option linter.unusedVariables false
set_option linter.unusedSimpArgs false
theorem or_comm64 (x y : Int) : bits .or .u64 x y = bits .or .u64 y x := by simp only [bits, BitVec.or_comm]
theorem le_step (N : Int) (j : Nat) (hj : j < 8) :
    bits .or .u64 (N % 256 ^ j) (shl .u64 (IntKind.u64.wrap (byteAt N j)) (8 * (j : Int))) = N % 256 ^ (j + 1) := by
  have b0 : 0 ≤ byteAt N j := by unfold byteAt; omega
  have b1 : byteAt N j < 256 := by unfold byteAt; omega
  rw [wu64 b0 (by omega)]
  unfold shl
  rw [show min (8 * (j : Int)).toNat IntKind.u64.bits = 8 * j by rw [show IntKind.u64.bits = 64 from rfl]; omega]
  have hk : ∀ n : Int, 0 ≤ n → n < 2 ^ 64 → IntKind.u64.wrap n = n := fun n h0 h1 => wu64 h0 (by simpa using h1)
  have e : (2 : Int) ^ (8 * j) = 256 ^ j := pow8 j
  rw [e, or_comm64]
  have hj' : j = 0 ∨ j = 1 ∨ j = 2 ∨ j = 3 ∨ j = 4 ∨ j = 5 ∨ j = 6 ∨ j = 7 := by omega
  have key : byteAt N j * 256 ^ j + N % 256 ^ j = N % 256 ^ (j + 1) ∧ 0 ≤ byteAt N j * 256 ^ j ∧ byteAt N j * 256 ^ j < 2 ^ 64 ∧ (byteAt N j * 256 ^ j) % 256 ^ j = 0 ∧ N % 256 ^ j < 256 ^ j ∧ 0 ≤ N % 256 ^ j ∧ N % 256 ^ j < 2 ^ 64 := by
    unfold byteAt at b0 b1 ⊢
    obtain rfl | rfl | rfl | rfl | rfl | rfl | rfl | rfl := hj' <;> simp only [Nat.reduceAdd, Int.reducePow] at * <;> omega
  obtain ⟨k1, k2, k3, k4, k5, k6, k7⟩ := key
  rw [hk _ k2 k3, bits_join .u64 64 (by decide) hk (8 * j) _ _ k2 (by rw [e]; exact k4) k3 k6 (by rw [e]; exact k5) k7]
  exact k1
/-- At a place of a text stand a number's bytes. -/
def At (s : ByteArray) (off N : Int) (m : Nat) : Prop := 0 ≤ off ∧ off + m ≤ s.size ∧ ∀ j : Nat, j < m → bt s (off + j) = byteAt N j
theorem get_loop (s : ByteArray) (off N : Int) (w : Nat) (hs : s.size ≤ 140737488355328) (hw : w ≤ 8) (h : At s off N w) : ∀ (n j k : Nat), j + n = w →
    octet_Get.l0 (k + n + 1) s off (N % 256 ^ j) w j = some (N % 256 ^ w, true)
  | 0, j, k, hj => by
    obtain rfl : j = w := by omega
    rw [octet_Get.l0, if_neg (by omega)]
  | n + 1, j, k, hj => by
    obtain ⟨h0, h1, h2⟩ := h
    have e1 : wrap64 (off + (j : Int)) = off + j := w64 (by omega) (by omega)
    have e2 : wrap64 (8 * (j : Int)) = 8 * j := w64 (by omega) (by omega)
    have e3 : wrap64 ((j : Int) + 1) = ((j + 1 : Nat) : Int) := by rw [w64 (by omega) (by omega)]; omega
    have c1 : (j : Int) < w := by omega
    have c2 : 0 ≤ off + (j : Int) := by omega
    have c3 : off + (j : Int) < s.size := by omega
    have c4 : 0 ≤ 8 * (j : Int) := by omega
    rw [show k + (n + 1) + 1 = (k + n + 1) + 1 by omega, octet_Get.l0, if_pos c1]
    simp only [e1, e2, e3, if_pos c2, if_pos c3, if_pos c4, h2 j (by omega)]
    rw [le_step N j (by omega)]
    exact get_loop s off N w hs hw ⟨h0, h1, h2⟩ n (j + 1) k (by omega)
theorem octGet_at {s : ByteArray} {off N : Int} {m : Nat} (hs : s.size ≤ 140737488355328) (h1 : 1 ≤ m) (h8 : m ≤ 8) (h : At s off N m) (hN : 0 ≤ N) (hm : N < 256 ^ m) (k : Nat) (hk : m < k) :
    octet_Get.f k s off m = some (N, true) := by
  obtain ⟨k, rfl⟩ : ∃ q, k = q + m + 1 := ⟨k - m - 1, by omega⟩
  unfold octet_Get.f octet_number.f octet_Within.f
  have hl := get_loop s off N m hs h8 h m 0 k (by omega)
  have e : N % 256 ^ m = N := Int.emod_eq_of_lt hN hm
  rw [show N % 256 ^ 0 = 0 by simp [Int.emod_one], e] at hl
  obtain ⟨h0, h2, h3⟩ := h
  have c : wrap64 ((s.size : Int) - off) = s.size - off := w64 (by omega) (by omega)
  have d : decide ((m : Int) ≤ (s.size : Int) - off) = true := decide_eq_true (by omega)
  simp only [if_pos (show (m : Int) ≥ 1 by omega), if_pos (show (m : Int) ≤ 8 by omega), if_pos (show off ≥ 0 from h0), if_pos (show (m : Int) ≥ 0 by omega), if_pos (show off ≤ (s.size : Int) by omega), c, d, Option.bind_some, if_true]
  exact hl
theorem refGet_loop (s : ByteArray) (off N : Int) (hs : s.size ≤ 140737488355328) (h : At s off N 8) (hN : 0 ≤ N) (hm : N < 18446744073709551616) : ∀ (i k : Nat), i ≤ 8 → i < k →
    flyleafref01_Get.l0 k s off (N / 256 ^ i) ((i : Int) - 1) = some (N, true) := by
  intro i
  induction i with
  | zero =>
    intro k _ hk
    obtain ⟨k, rfl⟩ : ∃ q, k = q + 1 := ⟨k - 1, by omega⟩
    simp only [flyleafref01_Get.l0]
    rw [if_neg (by omega)]
    simp
  | succ i ih =>
    intro k h8 hk
    obtain ⟨k, rfl⟩ : ∃ q, k = q + 1 := ⟨k - 1, by omega⟩
    obtain ⟨h0, h1, h2⟩ := h
    have e1 : wrap64 (off + ((i + 1 : Nat) - 1 : Int)) = off + i := by rw [w64 (by omega) (by omega)]; omega
    have e3 : wrap64 (((i + 1 : Nat) : Int) - 1 - 1) = (i : Int) - 1 := by rw [w64 (by omega) (by omega)]; omega
    simp only [flyleafref01_Get.l0]
    rw [if_pos (by omega), e1, if_pos (by omega), if_pos (by omega), e3, h2 i (by omega)]
    have hi : i = 0 ∨ i = 1 ∨ i = 2 ∨ i = 3 ∨ i = 4 ∨ i = 5 ∨ i = 6 ∨ i = 7 := by omega
    have key : 0 ≤ N / 256 ^ (i + 1) * 256 ∧ N / 256 ^ (i + 1) * 256 < 18446744073709551616 ∧ 0 ≤ byteAt N i ∧ byteAt N i < 256 ∧ N / 256 ^ (i + 1) * 256 + byteAt N i = N / 256 ^ i ∧ N / 256 ^ i < 18446744073709551616 ∧ 0 ≤ N / 256 ^ i := by
      unfold byteAt
      obtain rfl | rfl | rfl | rfl | rfl | rfl | rfl | rfl := hi <;> simp only [Nat.reduceAdd, Int.reducePow] <;> omega
    obtain ⟨k1, k2, k3, k4, k5, k6, k7⟩ := key
    rw [wu64 k1 k2, wu64 k3 (by omega), k5, wu64 k7 k6]
    exact ih k (by omega) (by omega)
/-- The document's Get of eight bytes. -/
theorem refGet_at {s : ByteArray} {off N : Int} (hs : s.size ≤ 140737488355328) (h : At s off N 8) (hN : 0 ≤ N) (hm : N < 18446744073709551616) (k : Nat) (hk : 10 < k) :
    flyleafref01_Get.f k s off 8 = some (N, true) := by
  have hl := refGet_loop s off N hs h hN hm 8
  have h' := h
  obtain ⟨h0, h2, h3⟩ := h'
  obtain ⟨k, rfl⟩ : ∃ q, k = q + 1 := ⟨k - 1, by omega⟩
  have c : wrap64 ((s.size : Int) - off) = s.size - off := w64 (by omega) (by omega)
  have d : decide ((8 : Int) ≤ (s.size : Int) - off) = true := decide_eq_true (by omega)
  unfold flyleafref01_Get.f flyleafref01_Within.f
  rw [if_pos h0, if_pos (by omega), if_pos (by omega), c, d]
  simp only [Option.bind_some, if_true]
  rw [if_neg (by omega), show decide ((8 : Int) > 8) = false from rfl]
  simp only [flyleafref01_Get.j0]
  have e0 : N / 256 ^ 8 = 0 := by simp only [Int.reducePow]; omega
  have := hl k (by omega) (by omega)
  rw [e0] at this
  rw [if_neg (by decide), show wrap64 (8 - 1) = ((8 : Nat) : Int) - 1 from by unfold wrap64; omega]
  exact this
theorem bt_list (s : ByteArray) (i : Nat) : bt s (i : Int) = (((bytesL s).getD i 0).toNat : Int) := by
  unfold bt bytesL
  split
  · rename_i h
    have h' : i < s.size := by simpa using h
    have hl : i < s.data.toList.length := by simpa using h'
    rw [List.getD_eq_getElem?_getD, List.getElem?_eq_getElem hl]
    rfl
  · rename_i h
    have h' : ¬ i < s.size := by simpa using h
    have hl : ¬ i < s.data.toList.length := by simpa using h'
    rw [List.getD_eq_getElem?_getD, List.getElem?_eq_none (by omega)]
    rfl
theorem put_byte (n : Int) (m j : Nat) (hj : j < m) : (((bytesL (putS n m)).getD j 0).toNat : Int) = byteAt n j := by
  unfold putS strOfNums bytesL leB
  have b0 : 0 ≤ byteAt n j := by unfold byteAt; omega
  have b1 : byteAt n j < 256 := by unfold byteAt; omega
  simp only [List.map_map, List.getD_eq_getElem?_getD, List.getElem?_map, List.getElem?_range hj, Option.map_some, Option.getD_some, Function.comp]
  rw [UInt8.toNat_ofNat_of_lt' (by simp [UInt8.size]; omega)]
  omega
/-- What was written at a place stands there. -/
theorem at_of {s : ByteArray} {pre post : List UInt8} {n : Int} {m : Nat} (h : bytesL s = pre ++ bytesL (putS n m) ++ post) : At s pre.length n m := by
  have hl : (bytesL s).length = s.size := bytesL_length s
  have hp : (bytesL (putS n m)).length = m := by rw [bytesL_length, putS_size]
  have hz : s.size = pre.length + m + post.length := by rw [← hl, h]; simp only [List.length_append, hp]
  refine ⟨by omega, by omega, fun j hj => ?_⟩
  rw [show (pre.length : Int) + (j : Int) = ((pre.length + j : Nat) : Int) by omega, bt_list, h, ← put_byte n m j hj]
  congr 2
  rw [List.append_assoc, List.getD_eq_getElem?_getD, List.getD_eq_getElem?_getD, List.getElem?_append_right (by omega), List.getElem?_append_left (by omega)]
  congr 2
  omega
theorem bytesL_extract (s : ByteArray) (a b : Nat) : bytesL (s.extract a b) = ((bytesL s).take b).drop a := by
  unfold bytesL
  rw [ByteArray.data_extract, Array.toList_extract, List.extract_eq_take_drop]
  rw [List.take_drop]
  by_cases h : a ≤ b
  · rw [show a + (b - a) = b from by omega]
  · rw [show b - a = 0 from by omega, List.drop_eq_nil_of_le (by rw [List.length_take]; omega), List.drop_eq_nil_of_le (by rw [List.length_take]; omega)]
/-- A text stands there, and a byte 0 behind it. -/
theorem refText_loop (s : ByteArray) (pre t post : List UInt8) (h : bytesL s = pre ++ t ++ 0 :: post) (h0 : (0 : UInt8) ∉ t) (hs : s.size ≤ 140737488355328) (most : Int) (hm : (t.length : Int) ≤ most) (d : Nat) : ∀ k i : Nat, i + d = t.length → 2 * d + 2 < k →
    flyleafref01_Text.l0 k s pre.length most ((pre.length + i : Nat) : Int) = some (⟨t.toArray⟩, true) := by
  have hl : s.size = pre.length + t.length + 1 + post.length := by rw [← bytesL_length, h]; simp; omega
  induction d with
  | zero =>
    intro k i hi hk
    obtain ⟨k, rfl⟩ : ∃ q, k = q + 2 := ⟨k - 2, by omega⟩
    obtain rfl : i = t.length := by omega
    have hb : bt s ((pre.length + t.length : Nat) : Int) = 0 := by
      rw [bt_list, h, List.getD_eq_getElem?_getD, List.getElem?_append_right (by simp), List.length_append, Nat.sub_self]
      rfl
    simp only [flyleafref01_Text.l0]
    rw [if_pos (by omega), show wrap64 (((pre.length + t.length : Nat) : Int) - (pre.length : Int)) = t.length from by rw [w64 (by omega) (by omega)]; omega, decide_eq_true hm]
    simp only [flyleafref01_Text.j1]
    rw [if_pos trivial, if_pos (by omega), if_pos (by omega), if_pos hb, if_pos (by omega), if_pos (by omega), if_pos (by omega), Int.toNat_natCast, Int.toNat_natCast]
    congr 2
    refine bytesL_inj ?_
    rw [bytesL_extract, h, bytesL_mk, List.append_assoc, List.take_append, List.drop_append]
    simp
  | succ d ih =>
    intro k i hi hk
    obtain ⟨k, rfl⟩ : ∃ q, k = q + 2 := ⟨k - 2, by omega⟩
    have hb : bt s ((pre.length + i : Nat) : Int) ≠ 0 := by
      rw [bt_list, h, List.getD_eq_getElem?_getD, List.append_assoc, List.getElem?_append_right (by omega), show pre.length + i - pre.length = i from by omega, List.getElem?_append_left (by omega), List.getElem?_eq_getElem (by omega), Option.getD_some]
      intro e
      have e' : t[i] = 0 := by
        refine UInt8.toNat_inj.1 ?_
        have : (t[i].toNat : Int) = 0 := e
        show t[i].toNat = 0
        omega
      exact h0 (e' ▸ List.getElem_mem _)
    simp only [flyleafref01_Text.l0]
    rw [if_pos (by omega), show wrap64 (((pre.length + i : Nat) : Int) - (pre.length : Int)) = i from by rw [w64 (by omega) (by omega)]; omega, decide_eq_true (show (i : Int) ≤ most by omega)]
    simp only [flyleafref01_Text.j1]
    rw [if_pos trivial, if_pos (by omega), if_pos (by omega), if_neg hb, show wrap64 (((pre.length + i : Nat) : Int) + 1) = ((pre.length + (i + 1) : Nat) : Int) from by rw [w64 (by omega) (by omega)]; omega]
    exact ih k (i + 1) (by omega) (by omega)
theorem refText_at {s : ByteArray} {pre t post : List UInt8} (h : bytesL s = pre ++ t ++ 0 :: post) (h0 : (0 : UInt8) ∉ t) (hs : s.size ≤ 140737488355328) {most : Int} (hm : (t.length : Int) ≤ most) (k : Nat) (hk : 2 * t.length + 2 < k) :
    flyleafref01_Text.f k s pre.length most = some (⟨t.toArray⟩, true) := by
  unfold flyleafref01_Text.f
  rw [if_neg (by omega)]
  exact refText_loop s pre t post h h0 hs most hm t.length k 0 (by omega) hk
end Go.Proofs.Ytokilodeihocjaa.Pure
