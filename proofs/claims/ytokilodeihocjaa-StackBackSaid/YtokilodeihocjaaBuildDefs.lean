/- stack.Build, what it computes: the numbers, the texts' bytes, the size; and the contract of its closure that puts a number. No walk of Build itself. -/
import Derived.Test.YtokilodeihocjaaMay
import Derived.Test.YtokilodeihocjaaFill
import Derived.Test.YtokilodeihocjaaAxStackSize
namespace Go.Proofs.Ytokilodeihocjaa.H
open Go.RowKit Go.Proofs.Flat Go.Proofs.YtokilodeihocjaaW.PrintWords Go.Proofs.YtokilodeihocjaaW.PrintLast Go.Proofs.YtokilodeihocjaaW.PrintMore Go.Proofs.Ytokilodeihocjaa.A
set_option linter.unusedVariables false
set_option linter.unusedSimpArgs false

/-- The texts' bytes, each with a byte 0 behind it. -/
def endL (l : List ByteArray) : List UInt8 := l.flatMap fun s => bytesL s ++ [0]
def textsN (l : List ByteArray) : Nat := (endL l).length
def sizeN (l0 l1 : List ByteArray) (l2 : List Pr) : Nat := (8 * (5 + l0.length + l1.length + 2 * l2.length) + textsN l0 + textsN l1 + 15) / 16 * 16
/-- Where texts stand, the first one at a place. -/
def places (p : Int) : List ByteArray → List Int
  | [] => []
  | s :: l => p :: places (p + s.size + 1) l
def wordL (x : Int) : List UInt8 := bytesL (putS (IntKind.u64.wrap x) 8)
def numB (xs : List Int) : List UInt8 := xs.flatMap wordL
def pairL (l : List Pr) : List Int := l.flatMap fun x => [x.f0, x.f1]
def at0 (top : Int) (l0 l1 : List ByteArray) : Int := top - textsN l0 - textsN l1
/-- The numbers that were put when k of the two lists are done. -/
def numsTo (top : Int) (l0 l1 : List ByteArray) (k : Nat) : List Int :=
  [(l0.length : Int)] ++ (if k < 1 then [] else places (at0 top l0 l1) l0 ++ [0]) ++ (if k < 2 then [] else places (at0 top l0 l1 + textsN l0) l1 ++ [0])
def endTo (l0 l1 : List ByteArray) (k : Nat) : List UInt8 := (if k < 1 then [] else endL l0) ++ (if k < 2 then [] else endL l1)
def numsOf (top : Int) (l0 l1 : List ByteArray) (l2 : List Pr) : List Int := numsTo top l0 l1 2 ++ pairL (l2 ++ [zPr])
def builtS (top : Int) (l0 l1 : List ByteArray) (l2 : List Pr) : ByteArray :=
  fillS ⟨(numB (numsOf top l0 l1 l2)).toArray⟩ ((sizeN l0 l1 l2 : Int) - ((endTo l0 l1 2).length : Int)) ++ ⟨(endTo l0 l1 2).toArray⟩
def buildR (top : Int) (l0 l1 : List ByteArray) (l2 : List Pr) : Int × ByteArray × Int :=
  if top < 0 ∨ 262144 < top ∨ top % 16 ≠ 0 ∨ mayB l0 l1 l2 = false then (0, ⟨#[]⟩, 1)
  else if 1024 < (sizeN l0 l1 l2 : Int) ∨ top < (sizeN l0 l1 l2 : Int) then (0, ⟨#[]⟩, 11)
  else (top - sizeN l0 l1 l2, builtS top l0 l1 l2, 0)
def stack_Build.f (a0 : Int) (l1 l2 : List ByteArray) (l3 : List Pr) : Option (Int × ByteArray × Int) :=
  if lowL l1 ∧ lowL l2 ∧ l3.length ≤ 8796093022208 then some (buildR a0 l1 l2 l3) else none

theorem endL_take (l : List ByteArray) (j : Nat) (h : j < l.length) : endL (l.take (j + 1)) = endL (l.take j) ++ (bytesL (l.getD j ByteArray.empty) ++ [0]) := by
  rw [List.take_succ_eq_append_getElem h, endL, List.flatMap_append, endL]
  simp [List.getD_eq_getElem?_getD, List.getElem?_eq_getElem h]
theorem textsN_eq (l : List ByteArray) : textsN l = l.length + (joinB l).length := by
  unfold textsN endL joinB
  induction l with
  | nil => rfl
  | cons x r ih => simp only [List.flatMap_cons, List.length_append, List.length_cons, List.length_nil, ih]; omega
theorem textsN_cons (s : ByteArray) (l : List ByteArray) : textsN (s :: l) = s.size + 1 + textsN l := by
  simp [textsN, endL, bytesL_length]
  omega
theorem places_snoc (l : List ByteArray) (s : ByteArray) : ∀ p : Int, places p (l ++ [s]) = places p l ++ [p + textsN l] := by
  induction l with
  | nil => intro p; simp [places, textsN, endL]
  | cons x r ih =>
    intro p
    rw [List.cons_append, places, ih, places, List.cons_append, textsN_cons]
    congr 3
    omega
theorem places_take (l : List ByteArray) (j : Nat) (h : j < l.length) (p : Int) : places p (l.take (j + 1)) = places p (l.take j) ++ [p + (endL (l.take j)).length] := by
  rw [List.take_succ_eq_append_getElem h, places_snoc]
  rfl
theorem places_length (l : List ByteArray) : ∀ p, (places p l).length = l.length := by
  induction l with
  | nil => intro p; rfl
  | cons x r ih => intro p; simp [places, ih]
theorem numB_append (a b : List Int) : numB (a ++ b) = numB a ++ numB b := by simp [numB]
theorem wordL_length (x : Int) : (wordL x).length = 8 := by rw [wordL, bytesL_length, putS_size]
theorem numB_length (a : List Int) : (numB a).length = 8 * a.length := by
  induction a with
  | nil => rfl
  | cons x r ih => rw [numB, List.flatMap_cons, List.length_append, wordL_length, ← numB, ih, List.length_cons]; omega
theorem numB_one (x : Int) : numB [x] = wordL x := by simp [numB]
theorem pairL_length (l : List Pr) : (pairL l).length = 2 * l.length := by
  induction l with
  | nil => rfl
  | cons x r ih => rw [pairL, List.flatMap_cons, List.length_append, ← pairL, ih, List.length_cons]; simp; omega
theorem pairL_take (l : List Pr) (j : Nat) (h : j < l.length) : pairL (l.take (j + 1)) = pairL (l.take j) ++ [(l.getD j zPr).f0] ++ [(l.getD j zPr).f1] := by
  rw [List.take_succ_eq_append_getElem h, pairL, List.flatMap_append, pairL]
  simp [List.getD_eq_getElem?_getD, List.getElem?_eq_getElem h]
theorem endTake_le (l : List ByteArray) (j : Nat) : (endL (l.take j)).length ≤ textsN l := by
  have h : textsN l = (endL (l.take j)).length + (endL (l.drop j)).length := by
    rw [textsN, ← List.length_append, endL, endL, endL, ← List.flatMap_append, List.take_append_drop]
  omega
/-- What is done when list k is done too. -/
theorem numsTo_succ (top : Int) (l0 l1 : List ByteArray) (k : Nat) (hk : k < 2) : numsTo top l0 l1 (k + 1) = numsTo top l0 l1 k ++ (places (at0 top l0 l1 + (endTo l0 l1 k).length) (pick2 l0 l1 k) ++ [0]) := by
  match k, hk with
  | 0, _ => simp [numsTo, endTo, pick2]
  | 1, _ => simp [numsTo, endTo, pick2, textsN]
theorem endTo_succ (l0 l1 : List ByteArray) (k : Nat) (hk : k < 2) : endTo l0 l1 (k + 1) = endTo l0 l1 k ++ endL (pick2 l0 l1 k) := by
  match k, hk with
  | 0, _ => simp [endTo, pick2]
  | 1, _ => simp [endTo, pick2]
theorem endTo_le (l0 l1 : List ByteArray) (k : Nat) (hk : k < 2) : (endTo l0 l1 k).length + textsN (pick2 l0 l1 k) ≤ textsN l0 + textsN l1 := by
  match k, hk with
  | 0, _ => simp [endTo, pick2]
  | 1, _ => simp [endTo, pick2, textsN]
theorem numsTo_length (top : Int) (l0 l1 : List ByteArray) (k : Nat) : (numsTo top l0 l1 k).length ≤ 3 + l0.length + l1.length := by
  rw [numsTo, List.length_append, List.length_append]
  split <;> split <;> simp [places_length] <;> omega

/-! ### the size, told -/
theorem wid {x : Int} (h0 : -9223372036854775808 ≤ x) (h1 : x ≤ 9223372036854775807) : wrap64 x = x := by unfold wrap64; omega
theorem texts_loop (l : List ByteArray) (hl : lowL l) (d : Nat) : ∀ (k i : Nat) (x : Int), i + d = l.length → d < k → x = (l.length + (joinB (l.take i)).length : Int) →
    stack_texts.l0 k x l (l.length : Int) (i : Int) = some ((l.length : Int) + (joinB l).length) := by
  obtain ⟨hl1, hl2⟩ := hl
  induction d with
  | zero =>
    intro k i x hi hk hx
    obtain ⟨k, rfl⟩ : ∃ m, k = m + 1 := ⟨k - 1, by omega⟩
    simp only [stack_texts.l0]
    rw [if_neg (by omega), hx, List.take_of_length_le (by omega)]
  | succ d ih =>
    intro k i x hi hk hx
    obtain ⟨k, rfl⟩ : ∃ m, k = m + 1 := ⟨k - 1, by omega⟩
    have hil : i < l.length := by omega
    have hj : (joinB (l.take (i + 1))).length = (joinB (l.take i)).length + (l.getD i ByteArray.empty).size := by
      rw [List.take_succ_eq_append_getElem hil, joinB, List.flatMap_append, List.length_append]
      simp [joinB, bytesL_length, List.getD_eq_getElem?_getD, List.getElem?_eq_getElem hil]
    have hle : (joinB (l.take (i + 1))).length ≤ (joinB l).length := by
      have h2 : (joinB l).length = (joinB (l.take (i + 1))).length + (joinB (l.drop (i + 1))).length := by
        rw [← List.length_append, joinB, joinB, joinB, ← List.flatMap_append, List.take_append_drop]
      omega
    simp only [stack_texts.l0]
    have e1 : wrap64 ((i : Int) + 1) = ((i + 1 : Nat) : Int) := by unfold wrap64; omega
    have e2 : wrap64 (x + ((rdOf ByteArray.empty l (i : Int)).size : Int)) = (l.length + (joinB (l.take (i + 1))).length : Int) := by
      rw [rdOf, Int.toNat_natCast, hj]
      unfold wrap64; omega
    rw [if_pos (by omega), if_pos (by omega), if_pos (by omega), e1, e2]
    exact ih k (i + 1) _ (by omega) (by omega) rfl
theorem texts_told (l : List ByteArray) (hl : lowL l) (k : Nat) (hk : l.length < k) : stack_texts.f k l = some (textsN l : Int) := by
  unfold stack_texts.f
  rw [show (0 : Int) = ((0 : Nat) : Int) from rfl, texts_loop l hl l.length k 0 _ (by omega) hk (by simp [joinB]), textsN_eq]
  simp
theorem Round_told (n : Nat) (hn : n ≤ 4611686018427387888) (k : Nat) (hk : 1 ≤ k) : octet_Round.f k n 16 = some ((((n + 15) / 16 * 16 : Nat) : Int), true) := by
  obtain ⟨k, rfl⟩ : ∃ m, k = m + 1 := ⟨k - 1, by omega⟩
  unfold octet_Round.f
  rw [if_neg (by omega), if_neg (by omega), show decide ((n : Int) > 4611686018427387904) = false from decide_eq_false (by omega)]
  simp only [octet_Round.j0]
  have ht : Int.tmod (n : Int) 16 = ((n % 16 : Nat) : Int) := by rw [Int.tmod_eq_emod_of_nonneg (by omega)]; omega
  rw [if_neg (by decide), if_neg (by decide), ht]
  by_cases h0 : n % 16 = 0
  · rw [if_pos (by omega)]
    congr 2
    omega
  · rw [if_neg (by omega), if_neg (by unfold wrap64; omega)]
    congr 2
    unfold wrap64
    omega
theorem Size_told (l0 l1 : List ByteArray) (l2 : List Pr) (h0 : lowL l0) (h1 : lowL l1) (h2 : l2.length ≤ 8796093022208) (k : Nat) (hk0 : l0.length < k) (hk1 : l1.length < k) :
    stack_Size.f k l0 l1 l2 = some (sizeN l0 l1 l2 : Int) := by
  have t0 := textsN_eq l0
  have t1 := textsN_eq l1
  obtain ⟨a0, b0⟩ := h0
  obtain ⟨a1, b1⟩ := h1
  unfold stack_Size.f
  rw [texts_told l0 ⟨a0, b0⟩ k hk0, Option.bind_some, texts_told l1 ⟨a1, b1⟩ k hk1, Option.bind_some]
  generalize hA : textsN l0 = A at *
  generalize hB : textsN l1 = B at *
  generalize hx0 : l0.length = x0 at *
  generalize hx1 : l1.length = x1 at *
  generalize hx2 : l2.length = x2 at *
  have bA : A ≤ 281474976710656 := by omega
  have bB : B ≤ 281474976710656 := by omega
  clear t0 t1 b0 b1
  rw [wid (x := 1 + (x0 : Int)) (by omega) (by omega), wid (x := 1 + (x0 : Int) + x1) (by omega) (by omega), wid (x := 1 + (x0 : Int) + x1 + 2) (by omega) (by omega), wid (x := 2 * (x2 : Int)) (by omega) (by omega),
    wid (x := 1 + (x0 : Int) + x1 + 2 + 2 * x2) (by omega) (by omega), wid (x := 1 + (x0 : Int) + x1 + 2 + 2 * x2 + 2) (by omega) (by omega), wid (x := (1 + (x0 : Int) + x1 + 2 + 2 * x2 + 2) * 8) (by omega) (by omega),
    wid (x := (1 + (x0 : Int) + x1 + 2 + 2 * x2 + 2) * 8 + A) (by omega) (by omega), wid (x := (1 + (x0 : Int) + x1 + 2 + 2 * x2 + 2) * 8 + A + B) (by omega) (by omega)]
  rw [show (1 + (x0 : Int) + x1 + 2 + 2 * x2 + 2) * 8 + A + B = ((8 * (5 + x0 + x1 + 2 * x2) + A + B : Nat) : Int) from by omega, Round_told _ (by omega) k (by omega), sizeN, hA, hB, hx0, hx1, hx2]
  rfl

/-! ### the closure -/
set_option maxHeartbeats 1000000 in
set_option maxRecDepth 100000 in
theorem put_calls {B b1 b2 : Nat} {x1 : List Int} {x2 : List UInt8} {W : World} (h : Two B b1 b2 (numB x1) x2 W) (n : Int) (hlen : x1.length ≤ 8796093022208) (hBw : B ≤ W.heap.size) :
    Calls Try.prog 22 #[.int .i64 n, .pointer (some ⟨b1, 0, none⟩)] W fun e w' => e = .returned (.tuple #[]) ∧ (Two B b1 b2 (numB (x1 ++ [n])) x2 w' ∧ Below B W w' ∧ BKept W w' b1) := by
  have hps := putS_size (IntKind.u64.wrap n) 8
  have HPS := Lib.hid hps
  clear hps
  go_enter Try.func22, Try.ntmps22
  go_wp2_with fail
  refine (octet_Put_calls (IntKind.u64.wrap n) 8 8 _ (by decide)).mono ?_
  rintro e w1 ⟨rfl, hb⟩
  have h1 := h.below hb
  have HH := Lib.hid h
  have hB1 : B ≤ w1.heap.size := Nat.le_trans hBw hb.size
  go_wp2_with fail
  refine (write1_calls h1 (putS (IntKind.u64.wrap n) 8) (by rw [numB_length, HPS.out]; omega) hB1).mono ?_
  rintro e w2 ⟨rfl, h2, hb2, hk2⟩
  go_wp2_with fail
  go_end0
  refine ⟨rfl, by rw [numB_append, numB_one]; exact h2, (hb.mono hBw).trans hb2, ?_⟩
  exact hk2.after hb.size (fun i hi => hb.block i hi) (HH.out.one.below hb).2
end Go.Proofs.Ytokilodeihocjaa.H
