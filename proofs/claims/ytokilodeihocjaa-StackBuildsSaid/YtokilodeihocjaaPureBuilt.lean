/- How a stack that was built lies: its numbers, bytes 0, its texts. -/
import Derived.Test.YtokilodeihocjaaPureNum
namespace Go.Proofs.Ytokilodeihocjaa.Pure
open Go.RowKit Go.Proofs.Ytokilodeihocjaa.A Go.Proofs.Ytokilodeihocjaa.H Go.Proofs.Flat Go.Proofs.YtokilodeihocjaaW.PrintWords Go.Proofs.YtokilodeihocjaaW.PrintLast Go.Proofs.YtokilodeihocjaaW.PrintMore
set_option linter.unusedVariables false
set_option linter.unusedSimpArgs false
theorem fillS_L (s : ByteArray) (n : Int) (h : (s.size : Int) ≤ n) : bytesL (fillS s n) = bytesL s ++ List.replicate (n.toNat - s.size) 0 := by
  unfold fillS
  by_cases e : n.toNat ≤ s.size
  · rw [if_pos e, bytesL_extract, show n.toNat - s.size = 0 from by omega, List.replicate_zero, List.append_nil, List.drop_zero, List.take_of_length_le]
    rw [bytesL_length]
    omega
  · rw [if_neg e, bytesL_app]
    rfl
theorem numsOf_length (top : Int) (l0 l1 : List ByteArray) (l2 : List Pr) : (numsOf top l0 l1 l2).length = 5 + l0.length + l1.length + 2 * l2.length := by
  simp [numsOf, numsTo, places_length, pairL_length]
  omega
theorem built_L (top : Int) (l0 l1 : List ByteArray) (l2 : List Pr) : ∃ z, bytesL (builtS top l0 l1 l2) = numB (numsOf top l0 l1 l2) ++ List.replicate z 0 ++ (endL l0 ++ endL l1) ∧ 8 * (5 + l0.length + l1.length + 2 * l2.length) + z + textsN l0 + textsN l1 = sizeN l0 l1 l2 := by
  have h : (endTo l0 l1 2).length = textsN l0 + textsN l1 := by rw [endTo2, List.length_append]; rfl
  have hn : (numB (numsOf top l0 l1 l2)).length = 8 * (5 + l0.length + l1.length + 2 * l2.length) := by rw [numB_length, numsOf_length]
  have hz : (⟨(numB (numsOf top l0 l1 l2)).toArray⟩ : ByteArray).size = 8 * (5 + l0.length + l1.length + 2 * l2.length) := by rw [← hn, ← bytesL_length, bytesL_mk]
  have hs : 8 * (5 + l0.length + l1.length + 2 * l2.length) + textsN l0 + textsN l1 ≤ sizeN l0 l1 l2 := by unfold sizeN; omega
  rw [builtS, bytesL_app, fillS_L _ _ (by rw [hz, h]; omega), bytesL_mk, bytesL_mk, endTo2, hz]
  refine ⟨_, rfl, ?_⟩
  rw [List.length_append]
  rw [show (endL l0).length = textsN l0 from rfl, show (endL l1).length = textsN l1 from rfl]
  omega
/-- Number j of a row of numbers that stands at the beginning. -/
theorem num_at {s : ByteArray} {xs : List Int} {rest : List UInt8} (h : bytesL s = numB xs ++ rest) (j : Nat) (x : Int) (hj : xs[j]? = some x) (h0 : 0 ≤ x) (h1 : x < 18446744073709551616) : At s (8 * (j : Int)) x 8 := by
  obtain ⟨hlt, e⟩ := List.getElem?_eq_some_iff.1 hj
  have hx : xs = xs.take j ++ x :: xs.drop (j + 1) := by rw [← e]; simp
  have hb : bytesL s = numB (xs.take j) ++ bytesL (putS x 8) ++ (numB (xs.drop (j + 1)) ++ rest) := by
    rw [h]
    conv => lhs; rw [hx]
    rw [numB_append, show x :: xs.drop (j + 1) = [x] ++ xs.drop (j + 1) from rfl, numB_append, numB_one, wordL, wu64 h0 h1]
    simp only [List.append_assoc]
  have := at_of hb
  rw [numB_length, List.length_take, show min j xs.length = j from by omega] at this
  rw [show (8 * (j : Int)) = ((8 * j : Nat) : Int) from by omega]
  exact this
theorem places_get (l : List ByteArray) : ∀ (p : Int) (i : Nat), i < l.length → (places p l)[i]? = some (p + textsN (l.take i)) := by
  induction l with
  | nil => intro p i h; simp at h
  | cons s l ih =>
    intro p i h
    cases i with
    | zero => simp [places, textsN_nil]
    | succ i =>
      rw [places, List.getElem?_cons_succ, ih _ i (by simpa using h), List.take_succ_cons, textsN_cons]
      congr 1
      omega
theorem nums_head (top : Int) (l0 l1 : List ByteArray) (l2 : List Pr) : (numsOf top l0 l1 l2)[0]? = some (l0.length : Int) := by simp [numsOf, numsTo]
theorem nums_arg (top : Int) (l0 l1 : List ByteArray) (l2 : List Pr) (i : Nat) (h : i < l0.length) : (numsOf top l0 l1 l2)[1 + i]? = some (at0 top l0 l1 + textsN (l0.take i)) := by
  rw [numsOf, numsTo, List.append_assoc, List.append_assoc, List.getElem?_append_right (by simp), if_neg (by decide), List.append_assoc]
  rw [show 1 + i - [(l0.length : Int)].length = i from by simp, List.getElem?_append_left (by rw [places_length]; exact h), places_get _ _ i h]
theorem textsN_split (l : List ByteArray) (i : Nat) : textsN l = textsN (l.take i) + textsN (l.drop i) := by
  rw [textsN, textsN, textsN, ← List.length_append, endL, endL, endL, ← List.flatMap_append, List.take_append_drop]
theorem endL_split (l : List ByteArray) (i : Nat) (h : i < l.length) : endL l = endL (l.take i) ++ (bytesL (l.getD i ByteArray.empty) ++ 0 :: endL (l.drop (i + 1))) := by
  have hx : l = l.take i ++ l.getD i ByteArray.empty :: l.drop (i + 1) := by rw [List.getD_eq_getElem?_getD, List.getElem?_eq_getElem h]; simp
  conv => lhs; rw [hx]
  simp only [endL, List.flatMap_append, List.flatMap_cons, List.append_assoc, List.cons_append, List.nil_append]
end Go.Proofs.Ytokilodeihocjaa.Pure
