/- StackBack holds: whatever the input, the law tells true, and the input reads as it did. Its conditions: none beyond those of the given statement. -/
import Derived.Test.YtokilodeihocjaaPureNum
import Derived.Test.YtokilodeihocjaaReadF
import Derived.Test.YtokilodeihocjaaAxFlyleafref17Build
import Derived.Lib.Hide
import Derived.Test.YtokilodeihocjaaBxFlyleaflaw17Awake
import Derived.Test.YtokilodeihocjaaPureStack
import Derived.OpenShut
import Derived.Test.YtokilodeihocjaaBxFlyleaflaw17StackBack
import Derived.Test.YtokilodeihocjaaOpen
import Derived.Test.YtokilodeihocjaaRows
import Derived.WalkKit
import Derived.ProofKit
import Derived.ShutString
import Derived.ChangeOld
import Derived.Below
import Derived.SizedLaws
namespace Go.Proofs.Ytokilodeihocjaa.Pure
open Go.RowKit Go.Proofs.Ytokilodeihocjaa.A Go.Proofs.Ytokilodeihocjaa.H Go.Proofs.Flat Go.Proofs.YtokilodeihocjaaW.PrintWords Go.Proofs.YtokilodeihocjaaW.PrintLast Go.Proofs.YtokilodeihocjaaW.PrintMore
set_option linter.unusedVariables false
set_option linter.unusedSimpArgs false
theorem fillS_L (s : ByteArray) (n : Int) (h : (s.size : Int) ≤ n) : bytesL (fillS s n) = bytesL s ++ List.replicate (n.toNat - s.size) 0 := by
  unfold fillS
  by_cases e : n.toNat ≤ s.size
  · rw [if_pos e, bytesL_extract, show n.toNat - s.size = 0 from by omega, List.replicate_zero, List.append_nil, List.drop_zero, List.take_of_length_le]
    rw [bytesL_length]
    omega
  · rw [if_neg e, bytesL_app]
    rfl
theorem numsOf_length (top : Int) (l0 l1 : List ByteArray) (l2 : List Pr) : (numsOf top l0 l1 l2).length = 5 + l0.length + l1.length + 2 * l2.length := by
  simp [numsOf, numsTo, places_length, pairL_length]
  omega
theorem built_L (top : Int) (l0 l1 : List ByteArray) (l2 : List Pr) : ∃ z, bytesL (builtS top l0 l1 l2) = numB (numsOf top l0 l1 l2) ++ List.replicate z 0 ++ (endL l0 ++ endL l1) ∧ 8 * (5 + l0.length + l1.length + 2 * l2.length) + z + textsN l0 + textsN l1 = sizeN l0 l1 l2 := by
  have h : (endTo l0 l1 2).length = textsN l0 + textsN l1 := by rw [endTo2, List.length_append]; rfl
  have hn : (numB (numsOf top l0 l1 l2)).length = 8 * (5 + l0.length + l1.length + 2 * l2.length) := by rw [numB_length, numsOf_length]
  have hz : (⟨(numB (numsOf top l0 l1 l2)).toArray⟩ : ByteArray).size = 8 * (5 + l0.length + l1.length + 2 * l2.length) := by rw [← hn, ← bytesL_length, bytesL_mk]
  have hs : 8 * (5 + l0.length + l1.length + 2 * l2.length) + textsN l0 + textsN l1 ≤ sizeN l0 l1 l2 := by unfold sizeN; omega
  rw [builtS, bytesL_app, fillS_L _ _ (by rw [hz, h]; omega), bytesL_mk, bytesL_mk, endTo2, hz]
  refine ⟨_, rfl, ?_⟩
  rw [List.length_append]
  rw [show (endL l0).length = textsN l0 from rfl, show (endL l1).length = textsN l1 from rfl]
  omega
/-- Number j of a row of numbers that stands at the beginning. -/
theorem num_at {s : ByteArray} {xs : List Int} {rest : List UInt8} (h : bytesL s = numB xs ++ rest) (j : Nat) (x : Int) (hj : xs[j]? = some x) (h0 : 0 ≤ x) (h1 : x < 18446744073709551616) : At s (8 * (j : Int)) x 8 := by
  obtain ⟨hlt, e⟩ := List.getElem?_eq_some_iff.1 hj
  have hx : xs = xs.take j ++ x :: xs.drop (j + 1) := by rw [← e]; simp
  have hb : bytesL s = numB (xs.take j) ++ bytesL (putS x 8) ++ (numB (xs.drop (j + 1)) ++ rest) := by
    rw [h]
    conv => lhs; rw [hx]
    rw [numB_append, show x :: xs.drop (j + 1) = [x] ++ xs.drop (j + 1) from rfl, numB_append, numB_one, wordL, wu64 h0 h1]
    simp only [List.append_assoc]
  have := at_of hb
  rw [numB_length, List.length_take, show min j xs.length = j from by omega] at this
  rw [show (8 * (j : Int)) = ((8 * j : Nat) : Int) from by omega]
  exact this
theorem places_get (l : List ByteArray) : ∀ (p : Int) (i : Nat), i < l.length → (places p l)[i]? = some (p + textsN (l.take i)) := by
  induction l with
  | nil => intro p i h; simp at h
  | cons s l ih =>
    intro p i h
    cases i with
    | zero => simp [places, textsN_nil]
    | succ i =>
      rw [places, List.getElem?_cons_succ, ih _ i (by simpa using h), List.take_succ_cons, textsN_cons]
      congr 1
      omega
theorem nums_head (top : Int) (l0 l1 : List ByteArray) (l2 : List Pr) : (numsOf top l0 l1 l2)[0]? = some (l0.length : Int) := by simp [numsOf, numsTo]
theorem nums_arg (top : Int) (l0 l1 : List ByteArray) (l2 : List Pr) (i : Nat) (h : i < l0.length) : (numsOf top l0 l1 l2)[1 + i]? = some (at0 top l0 l1 + textsN (l0.take i)) := by
  rw [numsOf, numsTo, List.append_assoc, List.append_assoc, List.getElem?_append_right (by simp), if_neg (by decide), List.append_assoc]
  rw [show 1 + i - [(l0.length : Int)].length = i from by simp, List.getElem?_append_left (by rw [places_length]; exact h), places_get _ _ i h]
theorem textsN_split (l : List ByteArray) (i : Nat) : textsN l = textsN (l.take i) + textsN (l.drop i) := by
  rw [textsN, textsN, textsN, ← List.length_append, endL, endL, endL, ← List.flatMap_append, List.take_append_drop]
theorem endL_split (l : List ByteArray) (i : Nat) (h : i < l.length) : endL l = endL (l.take i) ++ (bytesL (l.getD i ByteArray.empty) ++ 0 :: endL (l.drop (i + 1))) := by
  have hx : l = l.take i ++ l.getD i ByteArray.empty :: l.drop (i + 1) := by rw [List.getD_eq_getElem?_getD, List.getElem?_eq_getElem h]; simp
  conv => lhs; rw [hx]
  simp only [endL, List.flatMap_append, List.flatMap_cons, List.append_assoc, List.cons_append, List.nil_append]
end Go.Proofs.Ytokilodeihocjaa.Pure
namespace Go.Proofs.Ytokilodeihocjaa.Pure
open Go.RowKit Go.Proofs.Ytokilodeihocjaa.A Go.Proofs.Ytokilodeihocjaa.H Go.Proofs.Flat Go.Proofs.YtokilodeihocjaaW.PrintWords Go.Proofs.YtokilodeihocjaaW.PrintLast Go.Proofs.YtokilodeihocjaaW.PrintMore
set_option linter.unusedVariables false
set_option linter.unusedSimpArgs false
theorem get_right {α : Type} (a b : List α) (i j : Nat) (h : i = a.length + j) : (a ++ b)[i]? = b[j]? := by
  subst h
  rw [List.getElem?_append_right (by omega), Nat.add_sub_cancel_left]
theorem get_left {α : Type} (a b : List α) (i : Nat) (h : i < a.length) : (a ++ b)[i]? = a[i]? := List.getElem?_append_left h
theorem nums_shape (top : Int) (l0 l1 : List ByteArray) (l2 : List Pr) : numsOf top l0 l1 l2 = [(l0.length : Int)] ++ (places (at0 top l0 l1) l0 ++ ([0] ++ (places (at0 top l0 l1 + textsN l0) l1 ++ ([0] ++ pairL (l2 ++ [zPr]))))) := by
  rw [numsOf, numsTo, if_neg (by decide), if_neg (by decide)]
  simp only [List.append_assoc]
theorem nums_argEnd (top : Int) (l0 l1 : List ByteArray) (l2 : List Pr) : (numsOf top l0 l1 l2)[1 + l0.length]? = some 0 := by
  rw [nums_shape, get_right _ _ _ l0.length (by simp), get_right _ _ _ 0 (by rw [places_length]; omega)]
  rfl
theorem nums_env (top : Int) (l0 l1 : List ByteArray) (l2 : List Pr) (i : Nat) (h : i < l1.length) : (numsOf top l0 l1 l2)[2 + l0.length + i]? = some (at0 top l0 l1 + textsN l0 + textsN (l1.take i)) := by
  rw [nums_shape, get_right _ _ _ (1 + l0.length + i) (by simp; omega), get_right _ _ _ (1 + i) (by rw [places_length]; omega), get_right _ _ _ i (by simp), get_left _ _ _ (by rw [places_length]; exact h), places_get _ _ i h]
theorem nums_envEnd (top : Int) (l0 l1 : List ByteArray) (l2 : List Pr) : (numsOf top l0 l1 l2)[2 + l0.length + l1.length]? = some 0 := by
  rw [nums_shape, get_right _ _ _ (1 + l0.length + l1.length) (by simp; omega), get_right _ _ _ (1 + l1.length) (by rw [places_length]; omega), get_right _ _ _ l1.length (by simp), get_right _ _ _ 0 (by rw [places_length]; omega)]
  rfl
theorem pairL_get : ∀ (l : List Pr) (i : Nat), i < l.length → (pairL l)[2 * i]? = some (l.getD i zPr).f0 ∧ (pairL l)[2 * i + 1]? = some (l.getD i zPr).f1 := by
  intro l
  induction l with
  | nil => intro i h; simp at h
  | cons x l ih =>
    intro i h
    have e : pairL (x :: l) = [x.f0, x.f1] ++ pairL l := by simp [pairL]
    cases i with
    | zero => rw [e]; exact ⟨rfl, rfl⟩
    | succ i =>
      rw [e, get_right _ _ _ (2 * i) (by simp; omega), get_right _ _ _ (2 * i + 1) (by simp; omega)]
      exact ih i (by simpa using h)
theorem nums_aux (top : Int) (l0 l1 : List ByteArray) (l2 : List Pr) (j : Nat) : (numsOf top l0 l1 l2)[3 + l0.length + l1.length + j]? = (pairL (l2 ++ [zPr]))[j]? := by
  rw [nums_shape, get_right _ _ _ (2 + l0.length + l1.length + j) (by simp; omega), get_right _ _ _ (2 + l1.length + j) (by rw [places_length]; omega), get_right _ _ _ (1 + l1.length + j) (by simp; omega), get_right _ _ _ (1 + j) (by rw [places_length]; omega), get_right _ _ _ j (by simp)]
/-- Number j of a row of numbers that stands behind d bytes. -/
theorem num_at2 {s : ByteArray} {d : List UInt8} {xs : List Int} {rest : List UInt8} (h : bytesL s = d ++ (numB xs ++ rest)) (j : Nat) (x : Int) (hj : xs[j]? = some x) (h0 : 0 ≤ x) (h1 : x < 18446744073709551616) (off : Int) (ho : off = d.length + 8 * (j : Int)) : At s off x 8 := by
  obtain ⟨hlt, e⟩ := List.getElem?_eq_some_iff.1 hj
  have hx : xs = xs.take j ++ x :: xs.drop (j + 1) := by rw [← e]; simp
  have hb : bytesL s = (d ++ numB (xs.take j)) ++ bytesL (putS x 8) ++ (numB (xs.drop (j + 1)) ++ rest) := by
    rw [h]
    conv => lhs; rw [hx]
    rw [numB_append, show x :: xs.drop (j + 1) = [x] ++ xs.drop (j + 1) from rfl, numB_append, numB_one, wordL, wu64 h0 h1]
    simp only [List.append_assoc]
  have := at_of hb
  rw [List.length_append, numB_length, List.length_take, show min j xs.length = j from by omega] at this
  rw [show off = ((d.length + 8 * j : Nat) : Int) from by omega]
  exact this
theorem oct_at {s : ByteArray} {off x : Int} (hs : s.size ≤ 140737488355328) (h : At s off x 8) (h0 : 0 ≤ x) (h1 : x < 18446744073709551616) : octet_Get.f 9 s off 8 = some (x, true) :=
  octGet_at hs (by decide) (by decide) h h0 (by simpa using h1) 9 (by decide)
/-- What was built can be read, wherever it stands in what is seen. -/
theorem readable_of (top : Int) (l0 l1 : List ByteArray) (l2 : List Pr) (n : Nat) (hn : sizeN l0 l1 l2 = n) (hn1 : n ≤ 1024) (ht : 1024 + 300 ≤ top + 300) (ht1 : top ≤ 262144) (hnt : (n : Int) + 300 ≤ top)
    (w0 : ∀ x, x ∈ l0 → has0 x = false ∧ x.size ≤ 1024) (w1 : ∀ x, x ∈ l1 → has0 x = false ∧ x.size ≤ 1024) (w2 : ∀ x, x ∈ l2 → 0 < x.f0 ∧ x.f0 ≤ 1099511627776 ∧ 0 ≤ x.f1 ∧ x.f1 ≤ 1099511627776)
    (below : Nat) (hbl : below ≤ 240) (v : ByteArray) (hv : bytesL v = List.replicate below 0 ++ bytesL (builtS top l0 l1 l2)) : Readable v (top - n - below) (top - n) l0 l1 l2 := by
  obtain ⟨z, hb, hz⟩ := built_L top l0 l1 l2
  rw [hn] at hz
  have hsz : v.size = below + n := by rw [← bytesL_length, hv, List.length_append, List.length_replicate, bytesL_length, builtS_size, hn]
  have hvs : v.size ≤ 140737488355328 := by omega
  have hj0 := textsN_eq l0
  have hj1 := textsN_eq l1
  have hl0 : l0.length ≤ 128 := by omega
  have hl1 : l1.length ≤ 128 := by omega
  have hl2 : l2.length ≤ 128 := by omega
  have hv1 : bytesL v = List.replicate below 0 ++ (numB (numsOf top l0 l1 l2) ++ (List.replicate z 0 ++ (endL l0 ++ endL l1))) := by rw [hv, hb]; simp only [List.append_assoc]
  have hdl : (List.replicate below (0 : UInt8)).length = below := List.length_replicate
  have hnl : (numB (numsOf top l0 l1 l2)).length = 8 * (5 + l0.length + l1.length + 2 * l2.length) := by rw [numB_length, numsOf_length]
  have g0 : 0 ≤ at0 top l0 l1 := by unfold at0; omega
  have num : ∀ (j : Nat) (x off : Int), (numsOf top l0 l1 l2)[j]? = some x → 0 ≤ x → x ≤ 1099511627776 → off = (below : Int) + 8 * (j : Int) → octet_Get.f 9 v off 8 = some (x, true) := fun j x off hj h0 h1 ho =>
    oct_at hvs (num_at2 hv1 j x hj h0 (by omega) off (by rw [hdl]; exact ho)) h0 (by omega)
  have mem : ∀ (l : List ByteArray) (i : Nat), i < l.length → l.getD i ByteArray.empty ∈ l := fun l i h => by
    rw [List.getD_eq_getElem?_getD, List.getElem?_eq_getElem h]; exact List.getElem_mem h
  refine ⟨by omega, by omega, by omega, num 0 _ _ (nums_head ..) (by omega) (by omega) (by omega), ?_, ?_, ?_⟩
  · refine ⟨hl0, by omega, by omega, by omega, hvs, fun i hi => ?_, num (1 + l0.length) 0 _ (nums_argEnd ..) (by omega) (by omega) (by omega)⟩
    have hs1 := textsN_split l0 i
    have hte : (endL (l0.take i)).length = textsN (l0.take i) := rfl
    obtain ⟨x0, x1⟩ := w0 _ (mem l0 i hi)
    refine ⟨_, num (1 + i) _ _ (nums_arg _ _ _ _ i hi) (by omega) (by unfold at0; omega) (by omega), by unfold at0; omega, by unfold at0; omega,
      List.replicate below 0 ++ (numB (numsOf top l0 l1 l2) ++ (List.replicate z 0 ++ endL (l0.take i))), endL (l0.drop (i + 1)) ++ endL l1, ?_, ?_, ?_, x1⟩
    · rw [hv1, endL_split l0 i hi]
      simp only [List.append_assoc, List.cons_append]
    · simp only [List.length_append, List.length_replicate, hnl, hte]
      unfold at0
      omega
    · intro hm
      have : has0 (l0.getD i ByteArray.empty) = true := by
        show (bytesL _).contains 0 = true
        simpa using hm
      rw [x0] at this
      cases this
  · refine ⟨hl1, by omega, by omega, by omega, hvs, fun i hi => ?_, num (2 + l0.length + l1.length) 0 _ (nums_envEnd ..) (by omega) (by omega) (by omega)⟩
    have hs1 := textsN_split l1 i
    have hte : (endL (l1.take i)).length = textsN (l1.take i) := rfl
    have hte0 : (endL l0).length = textsN l0 := rfl
    obtain ⟨x0, x1⟩ := w1 _ (mem l1 i hi)
    refine ⟨_, num (2 + l0.length + i) _ _ (nums_env _ _ _ _ i hi) (by omega) (by unfold at0; omega) (by omega), by unfold at0; omega, by unfold at0; omega,
      List.replicate below 0 ++ (numB (numsOf top l0 l1 l2) ++ (List.replicate z 0 ++ (endL l0 ++ endL (l1.take i)))), endL (l1.drop (i + 1)), ?_, ?_, ?_, x1⟩
    · rw [hv1, endL_split l1 i hi]
      simp only [List.append_assoc, List.cons_append]
    · simp only [List.length_append, List.length_replicate, hnl, hte, hte0]
      unfold at0
      omega
    · intro hm
      have : has0 (l1.getD i ByteArray.empty) = true := by
        show (bytesL _).contains 0 = true
        simpa using hm
      rw [x0] at this
      cases this
  · have hmem : ∀ i : Nat, i < l2.length → l2.getD i zPr ∈ l2 := fun i h => by
      rw [List.getD_eq_getElem?_getD, List.getElem?_eq_getElem h]; exact List.getElem_mem h
    have hpa : pairL (l2 ++ [zPr]) = pairL l2 ++ [0, 0] := by simp [pairL, z48]
    refine ⟨hl2, by omega, by omega, by omega, fun i hi => ?_, ?_, ?_⟩
    · obtain ⟨a, b, c, d⟩ := w2 _ (hmem i hi)
      obtain ⟨p, q⟩ := pairL_get l2 i hi
      have hpl : (pairL l2).length = 2 * l2.length := pairL_length l2
      refine ⟨num (3 + l0.length + l1.length + 2 * i) _ _ (by rw [nums_aux, hpa, get_left _ _ _ (by omega), p]) (by omega) b (by omega), num (3 + l0.length + l1.length + (2 * i + 1)) _ _ (by rw [nums_aux, hpa, get_left _ _ _ (by omega), q]) c d (by omega), a, b, c, d⟩
    · exact num (3 + l0.length + l1.length + 2 * l2.length) 0 _ (by rw [nums_aux, hpa, get_right _ _ _ 0 (by rw [pairL_length]; omega)]; rfl) (by omega) (by omega) (by omega)
    · unfold octet_Within.f
      rw [if_pos (by omega), if_pos (by omega), if_pos (by omega), wid (by omega) (by omega), decide_eq_true (by omega)]
end Go.Proofs.Ytokilodeihocjaa.Pure
namespace Go.Proofs.Ytokilodeihocjaa.Pure
open Go.RowKit Go.Proofs.Ytokilodeihocjaa.A Go.Proofs.Ytokilodeihocjaa.H Go.Proofs.Flat Go.Proofs.YtokilodeihocjaaW.PrintWords Go.Proofs.YtokilodeihocjaaW.PrintLast Go.Proofs.YtokilodeihocjaaW.PrintMore
set_option linter.unusedVariables false
set_option linter.unusedSimpArgs false
structure Few (L : List ByteArray) : Prop where
  len : L.length ≤ 10
  s : ∀ x, x ∈ L → x.size ≤ 40
theorem Few.texts {L : List ByteArray} (h : Few L) : textsN L ≤ 410 := by
  have key : ∀ L : List ByteArray, (∀ x, x ∈ L → x.size ≤ 40) → textsN L ≤ 41 * L.length := by
    intro L
    induction L with
    | nil => intro _; exact Nat.le_refl _
    | cons a L ih =>
      intro h
      have h1 := ih fun x hx => h x (List.mem_cons_of_mem _ hx)
      have h2 := h a List.mem_cons_self
      rw [textsN_cons, List.length_cons]
      omega
  have := key L h.s
  have := h.len
  omega
theorem Few.get {L : List ByteArray} (h : Few L) (i : Nat) (hi : i < L.length) : (L.getD i ByteArray.empty).size ≤ 40 := by
  rw [List.getD_eq_getElem?_getD, List.getElem?_eq_getElem hi]
  exact h.s _ (List.getElem_mem hi)
def mkS (l : List UInt8) : ByteArray := ⟨l.toArray⟩
theorem mkS_L (l : List UInt8) : bytesL (mkS l) = l := rfl
theorem mkS_size (l : List UInt8) : (mkS l).size = l.length := by rw [← bytesL_length, mkS_L]
theorem mkS_app (l : List UInt8) (s : ByteArray) : mkS l ++ s = mkS (l ++ bytesL s) := bytesL_inj (by rw [bytesL_app, mkS_L, mkS_L])

/-! ### the document's words -/
theorem rtexts_loop (l : List ByteArray) (h : Few l) (d : Nat) : ∀ k i : Nat, i + d = l.length → d < k → flyleafref17_texts.l0 k l (textsN (l.take i)) i = some (textsN l : Int) := by
  induction d with
  | zero =>
    intro k i hi hk
    obtain ⟨k, rfl⟩ : ∃ m, k = m + 1 := ⟨k - 1, by omega⟩
    simp only [flyleafref17_texts.l0]
    rw [if_neg (by omega), List.take_of_length_le (by omega)]
  | succ d ih =>
    intro k i hi hk
    obtain ⟨k, rfl⟩ : ∃ m, k = m + 1 := ⟨k - 1, by omega⟩
    have hil : i < l.length := by omega
    have ht := h.texts
    have hl := h.len
    have hz := textsN_split l (i + 1)
    have hs : textsN (l.take (i + 1)) = textsN (l.take i) + ((l.getD i ByteArray.empty).size + 1) := by
      rw [textsN, endL_take l i hil, List.length_append]
      simp [textsN, bytesL_length]
    have e1 : wrap64 ((i : Int) + 1) = ((i + 1 : Nat) : Int) := by rw [wid (by omega) (by omega)]; omega
    have e2 : wrap64 (wrap64 ((textsN (l.take i) : Int) + ((l.getD i ByteArray.empty).size : Int)) + 1) = (textsN (l.take (i + 1)) : Int) := by
      clear e1
      rw [wid (x := (textsN (l.take i) : Int) + ((l.getD i ByteArray.empty).size : Int)) (by omega) (by omega), wid (by omega) (by omega), hs]
      omega
    have hx := ih k (i + 1) (by omega) (by omega)
    simp only [flyleafref17_texts.l0]
    rw [if_pos (by omega), if_pos (by omega), rdOf, Int.toNat_natCast, e2, e1]
    exact hx
theorem rtexts_told (l : List ByteArray) (h : Few l) (k : Nat) (hk : 10 < k) : flyleafref17_texts.f k l = some (textsN l : Int) := by
  have := h.len
  exact rtexts_loop l h l.length k 0 (by omega) (by omega)
theorem rsize_arith (a b c A B : Nat) (ha : a ≤ 10) (hb : b ≤ 10) (hc : c ≤ 10) (hA : A ≤ 410) (hB : B ≤ 410) :
    wrap64 (wrap64 (Int.tdiv (wrap64 (wrap64 (wrap64 (wrap64 (8 * wrap64 (wrap64 (wrap64 (wrap64 (wrap64 (wrap64 (1 + (a : Int)) + 1) + (b : Int)) + 1) + wrap64 (2 * (c : Int))) + 2)) + (A : Int)) + (B : Int)) + 15)) 16) * 16) = (((8 * (5 + a + b + 2 * c) + A + B + 15) / 16 * 16 : Nat) : Int) := by
  rw [wid (x := 1 + (a : Int)) (by omega) (by omega), wid (x := 1 + (a : Int) + 1) (by omega) (by omega), wid (x := 1 + (a : Int) + 1 + b) (by omega) (by omega), wid (x := 1 + (a : Int) + 1 + b + 1) (by omega) (by omega), wid (x := 2 * (c : Int)) (by omega) (by omega),
    wid (x := 1 + (a : Int) + 1 + b + 1 + 2 * c) (by omega) (by omega), wid (x := 1 + (a : Int) + 1 + b + 1 + 2 * c + 2) (by omega) (by omega), wid (x := 8 * (1 + (a : Int) + 1 + b + 1 + 2 * c + 2)) (by omega) (by omega),
    wid (x := 8 * (1 + (a : Int) + 1 + b + 1 + 2 * c + 2) + A) (by omega) (by omega), wid (x := 8 * (1 + (a : Int) + 1 + b + 1 + 2 * c + 2) + A + B) (by omega) (by omega), wid (x := 8 * (1 + (a : Int) + 1 + b + 1 + 2 * c + 2) + A + B + 15) (by omega) (by omega)]
  rw [Int.tdiv_eq_ediv_of_nonneg (by omega), wid (x := (8 * (1 + (a : Int) + 1 + b + 1 + 2 * c + 2) + A + B + 15) / 16) (by omega) (by omega), wid (by omega) (by omega)]
  omega
theorem rsize_told (l0 l1 : List ByteArray) (l2 : List Pr) (h0 : Few l0) (h1 : Few l1) (h2 : l2.length ≤ 10) (k : Nat) (hk : 10 < k) : flyleafref17_Size.f k l0 l1 l2 = some (sizeN l0 l1 l2 : Int) := by
  unfold flyleafref17_Size.f
  rw [rtexts_told l0 h0 k hk, Option.bind_some, rtexts_told l1 h1 k hk, Option.bind_some, rsize_arith _ _ _ _ _ h0.len h1.len h2 h0.texts h1.texts]
  rfl
theorem leB_succ (n : Int) (i : Nat) : leB n (i + 1) = leB n i ++ [byteAt n i] := by simp [leB, List.range_succ]
theorem strOf_app (a b : List Int) : strOfNums a ++ strOfNums b = strOfNums (a ++ b) := by
  refine bytesL_inj ?_
  rw [bytesL_app]
  simp [strOfNums, bytesL]
theorem rput_loop (n : Int) (h0 : 0 ≤ n) (h1 : n < 18446744073709551616) (d : Nat) : ∀ k i : Nat, i + d = 8 → d < k → flyleafref01_Put.l0 k (n / 256 ^ i) 8 (strOfNums (leB n i)) i = some (putS n 8) := by
  induction d with
  | zero =>
    intro k i hi hk
    obtain ⟨k, rfl⟩ : ∃ m, k = m + 1 := ⟨k - 1, by omega⟩
    obtain rfl : i = 8 := by omega
    simp only [flyleafref01_Put.l0]
    rw [if_neg (by omega)]
    rfl
  | succ d ih =>
    intro k i hi hk
    obtain ⟨k, rfl⟩ : ∃ m, k = m + 1 := ⟨k - 1, by omega⟩
    have hx := ih k (i + 1) (by omega) (by omega)
    have hi' : i = 0 ∨ i = 1 ∨ i = 2 ∨ i = 3 ∨ i = 4 ∨ i = 5 ∨ i = 6 ∨ i = 7 := by omega
    have key : 0 ≤ n / 256 ^ i ∧ n / 256 ^ i % 256 % 256 = byteAt n i ∧ n / 256 ^ i / 256 = n / 256 ^ (i + 1) ∧ 0 ≤ n / 256 ^ (i + 1) ∧ n / 256 ^ (i + 1) < 18446744073709551616 := by
      unfold byteAt
      obtain rfl | rfl | rfl | rfl | rfl | rfl | rfl | rfl := hi' <;> simp only [Nat.reduceAdd, Int.reducePow] <;> omega
    obtain ⟨k1, k2, k3, k4, k5⟩ := key
    have e1 : wrap64 ((i : Int) + 1) = ((i + 1 : Nat) : Int) := by clear k1 k2 k3 k4 k5 hi'; rw [wid (by omega) (by omega)]; omega
    have hs : (strOfNums (leB n i)).size = i := by rw [strOfNums_size, leB_length]
    have c1 : (i : Int) < 8 := by omega
    have c2 : i + 1 ≤ 9223372036854775807 := by omega
    simp only [flyleafref01_Put.l0]
    rw [if_pos c1, if_pos c1, Int.tmod_eq_emod_of_nonneg k1, Int.tdiv_eq_ediv_of_nonneg k1, k2, k3, wu64 k4 k5]
    simp only [Option.bind_some]
    rw [if_pos (by rw [hs, strOfNums_size]; exact c2), e1, strOf_app, ← leB_succ]
    exact hx
theorem rput_told (n : Int) (h0 : 0 ≤ n) (h1 : n < 18446744073709551616) (k : Nat) (hk : 10 < k) : flyleafref01_Put.f k n 8 = some (putS n 8) := by
  have := rput_loop n h0 h1 8 k 0 (by omega) (by omega)
  unfold flyleafref01_Put.f
  rw [show n / 256 ^ 0 = n from by simp] at this
  exact this
theorem rput_u64 (x : Int) (k : Nat) (hk : 10 < k) : flyleafref01_Put.f k (IntKind.u64.wrap x) 8 = some (putS (IntKind.u64.wrap x) 8) := by
  refine rput_told _ ?_ ?_ k hk <;> (simp only [IntKind.wrap, IntKind.bits, IntKind.signed]; simp; omega)
theorem rput_0 (k : Nat) (hk : 10 < k) : flyleafref01_Put.f k 0 8 = some (putS (IntKind.u64.wrap 0) 8) := rput_u64 0 k hk
theorem bt_get (s : ByteArray) (j : Nat) (h : j < s.size) : bt s j = (((bytesL s)[j]'(by rw [bytesL_length]; exact h)).toNat : Int) := by
  rw [bt_list, List.getD_eq_getElem?_getD, List.getElem?_eq_getElem (by rw [bytesL_length]; exact h), Option.getD_some]
/-- plain: are there no bytes 0? -/
theorem rplain_in (L : List ByteArray) (i : Nat) (hi : i < L.length) (hL : L.length ≤ 10) (x : ByteArray) (hx : L.getD i ByteArray.empty = x) (hs : x.size ≤ 40) (r : Bool) (M : Nat)
    (hnext : ∀ k, M ≤ k → flyleafref17_plain.l0 k L ((i + 1 : Nat) : Int) = some r) (d : Nat) : ∀ k j : Nat, j + d = x.size → d + M < k →
    flyleafref17_plain.l1 k L i j = some (!((bytesL x).drop j).contains 0 && r) := by
  have e2 : wrap64 ((i : Int) + 1) = ((i + 1 : Nat) : Int) := by rw [wid (by omega) (by omega)]; omega
  have c0 : 0 ≤ (i : Int) := by omega
  have c1 : (i : Int) < (L.length : Int) := by omega
  have hr : rdOf ByteArray.empty L (i : Int) = x := by rw [rdOf, Int.toNat_natCast, hx]
  induction d with
  | zero =>
    intro k j hj hk
    obtain ⟨k, rfl⟩ : ∃ m, k = m + 1 := ⟨k - 1, by omega⟩
    have hn := hnext k (by omega)
    have c2 : ¬ (j : Int) < (x.size : Int) := by clear e2; omega
    simp only [flyleafref17_plain.l1]
    rw [if_pos c0, if_pos c1, hr, if_neg c2, List.drop_eq_nil_of_le (by rw [bytesL_length]; clear e2; omega), e2, hn]
    simp
  | succ d ih =>
    intro k j hj hk
    obtain ⟨k, rfl⟩ : ∃ m, k = m + 1 := ⟨k - 1, by omega⟩
    have hn := ih k (j + 1) (by omega) (by omega)
    have hjx : j < x.size := by clear e2; omega
    have c2 : (j : Int) < (x.size : Int) := by clear e2; omega
    have c3 : 0 ≤ (j : Int) := by clear e2; omega
    have e1 : wrap64 ((j : Int) + 1) = ((j + 1 : Nat) : Int) := by clear e2; rw [wid (by omega) (by omega)]; omega
    have hjl : j < (bytesL x).length := by rw [bytesL_length]; exact hjx
    simp only [flyleafref17_plain.l1]
    rw [if_pos c0, if_pos c1, hr, if_pos c2, if_pos c3, bt_get x j hjx, List.drop_eq_getElem_cons hjl, List.contains_cons]
    by_cases hz : (bytesL x)[j] = 0
    · rw [hz, if_pos (by rfl)]
      simp
    · have hz2 : ¬ (((bytesL x)[j].toNat : Int) = 0) := fun e => hz (UInt8.toNat_inj.1 (show (bytesL x)[j].toNat = 0 by clear e1 e2; omega))
      rw [if_neg hz2, e1, hn, show ((0 : UInt8) == (bytesL x)[j]) = false from beq_eq_false_iff_ne.2 (fun e => hz e.symm), Bool.false_or]
theorem rplain_l0 (L : List ByteArray) (h : Few L) (d : Nat) : ∀ k i : Nat, i + d = L.length → 50 * d + 1 < k → flyleafref17_plain.l0 k L i = some (!((L.drop i).any has0)) := by
  have hL := h.len
  induction d with
  | zero =>
    intro k i hi hk
    obtain ⟨k, rfl⟩ : ∃ m, k = m + 1 := ⟨k - 1, by omega⟩
    simp only [flyleafref17_plain.l0]
    rw [if_neg (by omega), List.drop_eq_nil_of_le (by omega)]
    rfl
  | succ d ih =>
    intro k i hi hk
    obtain ⟨k, rfl⟩ : ∃ m, k = m + 1 := ⟨k - 1, by omega⟩
    have hil : i < L.length := by omega
    have hx := h.get i hil
    simp only [flyleafref17_plain.l0]
    rw [if_pos (by omega)]
    have hz := rplain_in L i hil hL _ rfl hx (!((L.drop (i + 1)).any has0)) (50 * d + 2) (fun k hk => ih k (i + 1) (by omega) hk) _ k 0 (Nat.zero_add _) (by omega)
    rw [List.drop_zero] at hz
    show flyleafref17_plain.l1 k L i ((0 : Nat) : Int) = _
    rw [hz, List.drop_eq_getElem_cons hil, List.any_cons, List.getD_eq_getElem?_getD, List.getElem?_eq_getElem hil]
    simp [has0, bytesL]
theorem rplain_told (L : List ByteArray) (h : Few L) (k : Nat) (hk : 600 < k) : flyleafref17_plain.f k L = some (!(L.any has0)) := by
  have := h.len
  exact rplain_l0 L h L.length k 0 (by omega) (by omega)
/-- Fill of a text that is not longer. -/
theorem rfill_told (s : ByteArray) (n : Nat) (h : s.size ≤ n) (hn : n ≤ 4096) : flyleafref01_Fill.f s n = some (fillS s n) := by
  unfold flyleafref01_Fill.f fillS
  by_cases e : n ≤ s.size
  · rw [if_neg (by omega), if_pos (by omega), if_pos (by omega), if_pos (by omega), if_pos (by rw [Int.toNat_natCast]; exact e)]
  · have w : wrap64 ((n : Int) - (s.size : Int)) = ((n - s.size : Nat) : Int) := by rw [wid (by omega) (by omega)]; omega
    rw [if_neg (by omega), if_neg (by omega), w, if_pos (by omega), if_pos (by omega), Int.toNat_natCast, Int.toNat_natCast, if_neg e]
    simp only [Option.bind_some]
    rw [if_pos (by rw [strOfNums_size, List.length_replicate]; omega)]
    congr 2
    unfold strOfNums
    rw [List.map_replicate]
    rfl

/-! ### Build -/
theorem numsT_size (xs : List Int) : (mkS (numB xs)).size = 8 * xs.length := by rw [mkS_size, numB_length]
theorem mkS_num (xs : List Int) (x : Int) : mkS (numB xs) ++ putS (IntKind.u64.wrap x) 8 = mkS (numB (xs ++ [x])) := by rw [mkS_app, numB_append, numB_one]; rfl
theorem mkS_end (es : List UInt8) (s : ByteArray) : (mkS es ++ s) ++ (⟨#[0]⟩ : ByteArray) = mkS (es ++ (bytesL s ++ [0])) := by
  rw [mkS_app, mkS_app, List.append_assoc]
  rfl
theorem rb_l3 (top : Int) (l2 : List Pr) (h2 : l2.length ≤ 10) (n : Nat) (hn : n ≤ 1024) (h0 : (n : Int) ≤ top) (h1 : top ≤ 262144) (pre : List Int) (hp : pre.length ≤ 40) (es : List UInt8) (he : 8 * (pre.length + 2 * l2.length + 2) + es.length ≤ n) (d : Nat) : ∀ k i : Nat, i + d = l2.length → d + 20 < k →
    flyleafref17_Build.l3 k top l2 n (mkS (numB (pre ++ pairL (l2.take i)))) (mkS es) i = some (top - n, fillS (mkS (numB (pre ++ pairL (l2 ++ [zPr])))) ((n : Int) - (es.length : Int)) ++ mkS es, 0) := by
  induction d with
  | zero =>
    intro k i hi hk
    obtain ⟨k, rfl⟩ : ∃ m, k = m + 1 := ⟨k - 1, by omega⟩
    obtain rfl : i = l2.length := by omega
    have hl : (pre ++ pairL l2).length = pre.length + 2 * l2.length := by rw [List.length_append, pairL_length]
    have hz : pre ++ pairL (l2 ++ [zPr]) = pre ++ pairL l2 ++ [0] ++ [0] := by simp [pairL, z48]
    have e1 : wrap64 ((n : Int) - ((mkS es).size : Int)) = ((n - es.length : Nat) : Int) := by rw [mkS_size, wid (by omega) (by omega)]; omega
    have e2 : wrap64 (top - (n : Int)) = top - n := wid (by omega) (by omega)
    have e3 : ((n - es.length : Nat) : Int) = (n : Int) - (es.length : Int) := by clear e1 e2; omega
    have hf := rfill_told (mkS (numB (pre ++ pairL l2 ++ [0] ++ [0]))) (n - es.length) (by rw [numsT_size, List.length_append, List.length_append, hl]; simp; clear e1 e2 e3; omega) (by clear e1 e2 e3; omega)
    simp only [flyleafref17_Build.l3]
    rw [List.take_length, if_neg (Int.lt_irrefl _), rput_0 k (by omega), Option.bind_some, mkS_num, if_pos (by rw [numsT_size, hl, putS_size]; clear e1 e2 e3 hf; omega), Option.bind_some, mkS_num,
      if_pos (by rw [numsT_size, List.length_append, hl, putS_size]; simp; clear e1 e2 e3 hf; omega), e1, hf, Option.bind_some, if_pos (by rw [fillS_sz, mkS_size]; clear e1 e2 e3 hf; omega), e2, hz, e3]
  | succ d ih =>
    intro k i hi hk
    obtain ⟨k, rfl⟩ : ∃ m, k = m + 1 := ⟨k - 1, by omega⟩
    have hil : i < l2.length := by omega
    have hx := ih k (i + 1) (by omega) (by omega)
    have hpt := pairL_take l2 i hil
    have hl : (pre ++ pairL (l2.take i)).length ≤ 60 := by rw [List.length_append, pairL_length, List.length_take]; omega
    have e1 : wrap64 ((i : Int) + 1) = ((i + 1 : Nat) : Int) := by rw [wid (by omega) (by omega)]; omega
    have hr : rd_T48 l2 (i : Int) = l2.getD i zPr := by simp [rd_T48]
    have c1 : (i : Int) < (l2.length : Int) := by clear e1; omega
    have c0 : 0 ≤ (i : Int) := by clear e1; omega
    rw [hpt] at hx
    simp only [flyleafref17_Build.l3]
    rw [if_pos c1, if_pos c0, hr, rput_u64 _ k (by omega), Option.bind_some, if_pos (by rw [numsT_size, putS_size]; clear e1; omega), rput_u64 _ k (by omega), Option.bind_some, mkS_num,
      if_pos (by rw [numsT_size, putS_size, List.length_append, List.length_singleton]; clear e1; omega), mkS_num, e1]
    rw [← List.append_assoc, ← List.append_assoc] at hx
    exact hx
theorem rb_l2 (top : Int) (l1 : List ByteArray) (hl1 : Few l1) (l2 : List Pr) (n : Nat) (hn : n ≤ 1024) (h0 : (n : Int) ≤ top) (h1 : top ≤ 262144) (p : Int) (hp0 : 0 ≤ p) (hp1 : p + textsN l1 ≤ top) (pre : List Int) (hp : pre.length ≤ 20) (es : List UInt8) (hes : es.length ≤ 1024) (R : Int × ByteArray × Int) (M : Nat) (hM : 20 ≤ M)
    (hnext : ∀ k, M ≤ k → flyleafref17_Build.l3 k top l2 n (mkS (numB (pre ++ places p l1 ++ [0]))) (mkS (es ++ endL l1)) 0 = some R) (d : Nat) : ∀ k i : Nat, i + d = l1.length → d + M < k →
    flyleafref17_Build.l2 k top l1 l2 n (p + textsN (l1.take i)) (mkS (numB (pre ++ places p (l1.take i)))) (mkS (es ++ endL (l1.take i))) i = some R := by
  have hlen := hl1.len
  have htx := hl1.texts
  induction d with
  | zero =>
    intro k i hi hk
    obtain ⟨k, rfl⟩ : ∃ m, k = m + 1 := ⟨k - 1, by omega⟩
    have hx := hnext k (by omega)
    have hl : (pre ++ places p l1).length ≤ 30 := by rw [List.length_append, places_length]; omega
    simp only [flyleafref17_Build.l2]
    rw [List.take_of_length_le (by omega), if_neg (by omega), rput_0 k (by omega), Option.bind_some, mkS_num, if_pos (by rw [numsT_size, putS_size]; omega)]
    exact hx
  | succ d ih =>
    intro k i hi hk
    obtain ⟨k, rfl⟩ : ∃ m, k = m + 1 := ⟨k - 1, by omega⟩
    have hil : i < l1.length := by omega
    have hx := ih k (i + 1) (by omega) (by omega)
    have hpt := places_take l1 i hil p
    have het := endL_take l1 i hil
    have hz := textsN_split l1 (i + 1)
    have hs : textsN (l1.take (i + 1)) = textsN (l1.take i) + ((l1.getD i ByteArray.empty).size + 1) := by
      rw [textsN, endL_take l1 i hil, List.length_append]
      simp [textsN, bytesL_length]
    have hei : (endL (l1.take i)).length = textsN (l1.take i) := rfl
    have hl : (pre ++ places p (l1.take i)).length ≤ 30 := by rw [List.length_append, places_length, List.length_take]; omega
    have hg := hl1.get i hil
    generalize hX : l1.getD i ByteArray.empty = x at *
    have hr : rdOf ByteArray.empty l1 (i : Int) = x := by rw [rdOf, Int.toNat_natCast, hX]
    have q1 : (mkS (es ++ endL (l1.take i))).size + x.size ≤ 9223372036854775807 := by rw [mkS_size, List.length_append, hei]; omega
    have q2 : (mkS (es ++ endL (l1.take i)) ++ x).size + 1 ≤ 9223372036854775807 := by rw [ByteArray.size_append, mkS_size, List.length_append, hei]; omega
    have c1 : (i : Int) < (l1.length : Int) := by omega
    have c0 : 0 ≤ (i : Int) := by omega
    have e1 : wrap64 ((i : Int) + 1) = ((i + 1 : Nat) : Int) := by rw [wid (by omega) (by omega)]; omega
    have e2 : wrap64 (wrap64 (p + (textsN (l1.take i) : Int) + (x.size : Int)) + 1) = p + (textsN (l1.take (i + 1)) : Int) := by
      clear e1
      rw [wid (x := p + (textsN (l1.take i) : Int) + (x.size : Int)) (by omega) (by omega), wid (by omega) (by omega), hs]
      omega
    have q3 : (mkS (numB (pre ++ places p (l1.take i)))).size + (putS (IntKind.u64.wrap (p + (textsN (l1.take i) : Int))) 8).size ≤ 9223372036854775807 := by rw [numsT_size, putS_size]; clear e1 e2; omega
    have hk10 : 10 < k := by clear e1 e2; omega
    rw [hpt, het, hei, ← List.append_assoc, ← List.append_assoc es] at hx
    simp only [flyleafref17_Build.l2]
    rw [if_pos c1, rput_u64 _ k hk10, Option.bind_some, if_pos q3, if_pos c0, hr, if_pos q1, if_pos q2, e2, mkS_num, mkS_end, e1]
    exact hx
theorem rb_l1 (top : Int) (l0 : List ByteArray) (hl0 : Few l0) (l1 : List ByteArray) (l2 : List Pr) (n : Nat) (hn : n ≤ 1024) (h0 : (n : Int) ≤ top) (h1 : top ≤ 262144) (p : Int) (hp0 : 0 ≤ p) (hp1 : p + textsN l0 ≤ top) (pre : List Int) (hp : pre.length ≤ 1) (R : Int × ByteArray × Int) (M : Nat) (hM : 20 ≤ M)
    (hnext : ∀ k, M ≤ k → flyleafref17_Build.l2 k top l1 l2 n (p + textsN l0) (mkS (numB (pre ++ places p l0 ++ [0]))) (mkS (endL l0)) 0 = some R) (d : Nat) : ∀ k i : Nat, i + d = l0.length → d + M < k →
    flyleafref17_Build.l1 k top l0 l1 l2 n (p + textsN (l0.take i)) (mkS (numB (pre ++ places p (l0.take i)))) (mkS (endL (l0.take i))) i = some R := by
  have hlen := hl0.len
  have htx := hl0.texts
  induction d with
  | zero =>
    intro k i hi hk
    obtain ⟨k, rfl⟩ : ∃ m, k = m + 1 := ⟨k - 1, by omega⟩
    have hx := hnext k (by omega)
    have hl : (pre ++ places p l0).length ≤ 30 := by rw [List.length_append, places_length]; omega
    simp only [flyleafref17_Build.l1]
    rw [List.take_of_length_le (by omega), if_neg (by omega), rput_0 k (by omega), Option.bind_some, mkS_num, if_pos (by rw [numsT_size, putS_size]; omega)]
    exact hx
  | succ d ih =>
    intro k i hi hk
    obtain ⟨k, rfl⟩ : ∃ m, k = m + 1 := ⟨k - 1, by omega⟩
    have hil : i < l0.length := by omega
    have hx := ih k (i + 1) (by omega) (by omega)
    have hpt := places_take l0 i hil p
    have het := endL_take l0 i hil
    have hz := textsN_split l0 (i + 1)
    have hs : textsN (l0.take (i + 1)) = textsN (l0.take i) + ((l0.getD i ByteArray.empty).size + 1) := by
      rw [textsN, endL_take l0 i hil, List.length_append]
      simp [textsN, bytesL_length]
    have hei : (endL (l0.take i)).length = textsN (l0.take i) := rfl
    have hl : (pre ++ places p (l0.take i)).length ≤ 30 := by rw [List.length_append, places_length, List.length_take]; omega
    have hg := hl0.get i hil
    generalize hX : l0.getD i ByteArray.empty = x at *
    have hr : rdOf ByteArray.empty l0 (i : Int) = x := by rw [rdOf, Int.toNat_natCast, hX]
    have q1 : (mkS (endL (l0.take i))).size + x.size ≤ 9223372036854775807 := by rw [mkS_size, hei]; omega
    have q2 : (mkS (endL (l0.take i)) ++ x).size + 1 ≤ 9223372036854775807 := by rw [ByteArray.size_append, mkS_size, hei]; omega
    have c1 : (i : Int) < (l0.length : Int) := by omega
    have c0 : 0 ≤ (i : Int) := by omega
    have e1 : wrap64 ((i : Int) + 1) = ((i + 1 : Nat) : Int) := by rw [wid (by omega) (by omega)]; omega
    have e2 : wrap64 (wrap64 (p + (textsN (l0.take i) : Int) + (x.size : Int)) + 1) = p + (textsN (l0.take (i + 1)) : Int) := by
      clear e1
      rw [wid (x := p + (textsN (l0.take i) : Int) + (x.size : Int)) (by omega) (by omega), wid (by omega) (by omega), hs]
      omega
    have q3 : (mkS (numB (pre ++ places p (l0.take i)))).size + (putS (IntKind.u64.wrap (p + (textsN (l0.take i) : Int))) 8).size ≤ 9223372036854775807 := by rw [numsT_size, putS_size]; clear e1 e2; omega
    have hk10 : 10 < k := by clear e1 e2; omega
    rw [hpt, het, hei, ← List.append_assoc] at hx
    simp only [flyleafref17_Build.l1]
    rw [if_pos c1, rput_u64 _ k hk10, Option.bind_some, if_pos q3, if_pos c0, hr, if_pos q1, if_pos q2, e2, mkS_num, mkS_end, e1]
    exact hx
/-- Behind the looks: built, or too large. -/
def okR (top : Int) (l0 l1 : List ByteArray) (l2 : List Pr) : Int × ByteArray × Int := if 1024 < (sizeN l0 l1 l2 : Int) ∨ top < (sizeN l0 l1 l2 : Int) then (0, ⟨#[]⟩, 11) else (top - sizeN l0 l1 l2, builtS top l0 l1 l2, 0)
theorem rb_end (top : Int) (h0 : 0 ≤ top) (h1 : top ≤ 262144) (l0 l1 : List ByteArray) (l2 : List Pr) (hl0 : Few l0) (hl1 : Few l1) (hl2 : l2.length ≤ 10) (k : Nat) (hk : 100 < k) :
    ((flyleafref17_Size.f k l0 l1 l2).bind fun t155 => (if t155 > 1024 then (flyleafref17_Build.j2 k top l0 l1 l2 t155 true) else (flyleafref17_Build.j2 k top l0 l1 l2 t155 (decide (t155 > top))))) = some (okR top l0 l1 l2) := by
  rw [rsize_told l0 l1 l2 hl0 hl1 hl2 k (by omega), Option.bind_some]
  obtain ⟨k, rfl⟩ : ∃ m, k = m + 1 := ⟨k - 1, by omega⟩
  have hs0 : textsN l0 + textsN l1 + 8 * (l0.length + l1.length) + 16 * l2.length + 40 ≤ sizeN l0 l1 l2 := by unfold sizeN; omega
  by_cases c1 : (sizeN l0 l1 l2 : Int) > 1024
  · rw [if_pos c1, okR, if_pos (.inl c1)]
    simp only [flyleafref17_Build.j2]
    rfl
  · rw [if_neg c1]
    by_cases c2 : (sizeN l0 l1 l2 : Int) > top
    · rw [decide_eq_true c2, okR, if_pos (.inr c2)]
      simp only [flyleafref17_Build.j2]
      rfl
    · rw [decide_eq_false c2, okR, if_neg (fun h => h.elim c1 c2)]
      have t0 := hl0.texts
      have t1 := hl1.texts
      have a0 := hl0.len
      have a1 := hl1.len
      generalize hN : sizeN l0 l1 l2 = n at *
      have e1 : wrap64 (wrap64 (top - (textsN l0 : Int)) - (textsN l1 : Int)) = at0 top l0 l1 := by
        rw [wid (x := top - (textsN l0 : Int)) (by omega) (by omega), wid (by omega) (by omega), at0]
      obtain ⟨R, hR⟩ : ∃ R : Int × ByteArray × Int, R = (top - (n : Int), fillS (mkS (numB ([(l0.length : Int)] ++ places (at0 top l0 l1) l0 ++ [0] ++ places (at0 top l0 l1 + textsN l0) l1 ++ [0] ++ pairL (l2 ++ [zPr])))) ((n : Int) - ((endL l0 ++ endL l1).length : Int)) ++ mkS (endL l0 ++ endL l1), 0) := ⟨_, rfl⟩
      have h3 : ∀ k, l2.length + 20 < k → flyleafref17_Build.l3 k top l2 n (mkS (numB ([(l0.length : Int)] ++ places (at0 top l0 l1) l0 ++ [0] ++ places (at0 top l0 l1 + textsN l0) l1 ++ [0] ++ pairL (l2.take 0)))) (mkS (endL l0 ++ endL l1)) ((0 : Nat) : Int) = some R := fun k hk => by
        rw [hR]
        exact rb_l3 top l2 hl2 n (by omega) (by omega) h1 ([(l0.length : Int)] ++ places (at0 top l0 l1) l0 ++ [0] ++ places (at0 top l0 l1 + textsN l0) l1 ++ [0]) (by simp [places_length]; omega) (endL l0 ++ endL l1) (by simp only [List.length_append, places_length, List.length_singleton]; rw [show (endL l0).length = textsN l0 from rfl, show (endL l1).length = textsN l1 from rfl]; omega) l2.length k 0 (by omega) hk
      have h2 := fun k hk => rb_l2 top l1 hl1 l2 n (by omega) (by omega) h1 (at0 top l0 l1 + textsN l0) (by unfold at0; omega) (by unfold at0; omega) ([(l0.length : Int)] ++ places (at0 top l0 l1) l0 ++ [0]) (by simp [places_length]; omega) (endL l0) (by rw [show (endL l0).length = textsN l0 from rfl]; omega) R (l2.length + 21) (by omega)
        (fun k hk => by have := h3 k (by omega); simpa [pairL] using this) l1.length k 0 (by omega) hk
      have hz := fun k hk => rb_l1 top l0 hl0 l1 l2 n (by omega) (by omega) h1 (at0 top l0 l1) (by unfold at0; omega) (by unfold at0; omega) [(l0.length : Int)] (by simp) R (l1.length + (l2.length + 21) + 1) (by omega)
        (fun k hk => by have := h2 k (by omega); simpa [places, endL, textsN_nil] using this) l0.length k 0 (by omega) hk
      have hz' := hz k (by clear e1; omega)
      simp only [flyleafref17_Build.j2]
      rw [if_neg (by simp), rtexts_told l0 hl0 k (by clear e1; omega), Option.bind_some, rtexts_told l1 hl1 k (by clear e1; omega), Option.bind_some, rput_u64 _ k (by clear e1; omega), Option.bind_some, e1]
      have ep : putS (IntKind.u64.wrap (l0.length : Int)) 8 = mkS (numB [(l0.length : Int)]) := by rw [numB_one]; rfl
      rw [ep]
      have eb : builtS top l0 l1 l2 = fillS (mkS (numB ([(l0.length : Int)] ++ places (at0 top l0 l1) l0 ++ [0] ++ places (at0 top l0 l1 + textsN l0) l1 ++ [0] ++ pairL (l2 ++ [zPr])))) ((n : Int) - ((endL l0 ++ endL l1).length : Int)) ++ mkS (endL l0 ++ endL l1) := by
        rw [builtS, numsOf, numsTo, hN, endTo2, if_neg (by decide), if_neg (by decide)]
        simp only [List.append_assoc]
        rfl
      rw [eb, ← hR]
      have hz2 : flyleafref17_Build.l1 k top l0 l1 l2 (n : Int) (at0 top l0 l1) (mkS (numB [(l0.length : Int)])) (mkS []) ((0 : Nat) : Int) = some R := by
        simpa [places, endL, textsN_nil] using hz'
      exact hz2
theorem rb_l0 (top : Int) (h0 : 0 ≤ top) (h1 : top ≤ 262144) (l0 l1 : List ByteArray) (l2 : List Pr) (hl0 : Few l0) (hl1 : Few l1) (hl2 : l2.length ≤ 10) (d : Nat) : ∀ k i : Nat, i + d = l2.length → d + 101 < k → 
    flyleafref17_Build.l0 k top l0 l1 l2 i = some (if (l2.drop i).all pairOk = true then okR top l0 l1 l2 else (0, ⟨#[]⟩, 1)) := by
  induction d with
  | zero =>
    intro k i hi hk
    obtain ⟨k, rfl⟩ : ∃ m, k = m + 1 := ⟨k - 1, by omega⟩
    simp only [flyleafref17_Build.l0]
    rw [if_neg (by omega), rb_end top h0 h1 l0 l1 l2 hl0 hl1 hl2 k (by omega), List.drop_eq_nil_of_le (by omega)]
    rfl
  | succ d ih =>
    intro k i hi hk
    obtain ⟨k, rfl⟩ : ∃ m, k = m + 1 := ⟨k - 1, by omega⟩
    have hil : i < l2.length := by omega
    have hx := ih k (i + 1) (by omega) (by omega)
    have hr : rd_T48 l2 (i : Int) = l2.getD i zPr := by simp [rd_T48]
    have hd : (l2.drop i).all pairOk = (pairOk (l2.getD i zPr) && (l2.drop (i + 1)).all pairOk) := by
      rw [List.drop_eq_getElem_cons hil, List.all_cons, List.getD_eq_getElem?_getD, List.getElem?_eq_getElem hil]
      rfl
    have e1 : wrap64 ((i : Int) + 1) = ((i + 1 : Nat) : Int) := by rw [wid (by omega) (by omega)]; omega
    simp only [flyleafref17_Build.l0]
    rw [if_pos (by omega), if_pos (by omega), hr, e1, hx, hd]
    generalize l2.getD i zPr = x
    clear e1 hx
    by_cases p1 : x.f0 < 1
    · rw [if_pos p1, show pairOk x = false from by simp [pairOk]; omega]
      rfl
    · rw [if_neg p1]
      by_cases p2 : x.f0 > 1099511627776
      · rw [if_pos p2, show pairOk x = false from by simp [pairOk]; omega]
        rfl
      · rw [if_neg p2]
        by_cases p3 : x.f1 < 0
        · rw [if_pos p3, show pairOk x = false from by simp [pairOk]; omega]
          rfl
        · rw [if_neg p3]
          by_cases p4 : x.f1 > 1099511627776
          · rw [if_pos p4, show pairOk x = false from by simp [pairOk]; omega]
            rfl
          · rw [if_neg p4, show pairOk x = true from by simp [pairOk]; omega, Bool.true_and]
/-- The document's answer. -/
theorem refBuild_told (top : Int) (l0 l1 : List ByteArray) (l2 : List Pr) (hl0 : Few l0) (hl1 : Few l1) (hl2 : l2.length ≤ 10) (k : Nat) (hk : 700 < k) : flyleafref17_Build.f k top l0 l1 l2 = some (buildR top l0 l1 l2) := by
  unfold flyleafref17_Build.f
  rw [rplain_told l0 hl0 k (by omega), Option.bind_some, rplain_told l1 hl1 k (by omega), Option.bind_some]
  obtain ⟨k, rfl⟩ : ∃ m, k = m + 1 := ⟨k - 1, by omega⟩
  simp only [flyleafref17_Build.j0]
  have hm : mayB l0 l1 l2 = (!(l0.any has0) && !(l1.any has0) && l2.all pairOk) := by simp [mayB, okTo]
  by_cases p1 : top < 0
  · rw [if_pos p1]
    show some ((0 : Int), (⟨#[]⟩ : ByteArray), (1 : Int)) = _
    rw [buildR, if_pos (.inl p1)]
  · rw [if_neg p1]
    by_cases p2 : top > 262144
    · rw [if_pos p2]
      show some ((0 : Int), (⟨#[]⟩ : ByteArray), (1 : Int)) = _
      rw [buildR, if_pos (.inr (.inl p2))]
    · rw [if_neg p2, Int.tmod_eq_emod_of_nonneg (by omega)]
      by_cases p3 : top % 16 = 0
      · rw [if_pos p3]
        cases a : l0.any has0 with
        | true =>
          show some ((0 : Int), (⟨#[]⟩ : ByteArray), (1 : Int)) = _
          rw [buildR, if_pos (.inr (.inr (.inr (by rw [hm, a]; rfl))))]
        | false =>
          cases b : l1.any has0 with
          | true =>
            show some ((0 : Int), (⟨#[]⟩ : ByteArray), (1 : Int)) = _
            rw [buildR, if_pos (.inr (.inr (.inr (by rw [hm, a, b]; rfl))))]
          | false =>
            have hz := rb_l0 top (by omega) (by omega) l0 l1 l2 hl0 hl1 hl2 l2.length k 0 (by omega) (by omega)
            rw [List.drop_zero] at hz
            have hz' : flyleafref17_Build.l0 k top l0 l1 l2 0 = _ := hz
            show flyleafref17_Build.l0 k top l0 l1 l2 0 = _
            rw [hz']
            cases c : l2.all pairOk with
            | true =>
              rw [buildR, if_neg (show ¬ (top < 0 ∨ 262144 < top ∨ top % 16 ≠ 0 ∨ mayB l0 l1 l2 = false) by rw [hm, a, b, c]; simp; omega)]
              rfl
            | false =>
              rw [buildR, if_pos (show (top < 0 ∨ 262144 < top ∨ top % 16 ≠ 0 ∨ mayB l0 l1 l2 = false) by rw [hm, a, b, c]; simp)]
              rfl
      · rw [if_neg p3]
        show some ((0 : Int), (⟨#[]⟩ : ByteArray), (1 : Int)) = _
        rw [buildR, if_pos (.inr (.inr (.inl p3)))]
end Go.Proofs.Ytokilodeihocjaa.Pure
namespace Go.Proofs.Ytokilodeihocjaa.Pure
open Go.RowKit Go.Proofs.Ytokilodeihocjaa.A Go.Proofs.Ytokilodeihocjaa.H Go.Proofs.Flat Go.Proofs.YtokilodeihocjaaW.PrintWords Go.Proofs.YtokilodeihocjaaW.PrintLast Go.Proofs.YtokilodeihocjaaW.PrintMore
set_option linter.unusedVariables false
set_option linter.unusedSimpArgs false
theorem awake_told : flyleaflaw17_awake.f = some true := by
  have hs : sizeN [(⟨#[97]⟩ : ByteArray)] [] [] = 64 := by decide
  have hl : textsN [(⟨#[97]⟩ : ByteArray)] = 2 := by decide
  have hb := Build_ok (top := 4096) (l0 := [(⟨#[97]⟩ : ByteArray)]) (l1 := []) (l2 := []) (lowL_of (by rw [hl]; decide)) (lowL_of (by decide)) (by decide) (by decide) (by decide) (by decide) (by decide) (by rw [hs]; decide) (by rw [hs]; decide)
  rw [hs] at hb
  unfold flyleaflaw17_awake.f
  rw [hb]
  simp only [Option.bind_some]
  rw [if_pos (by decide), if_pos (by rw [builtS_size, hs]; rfl)]
  rfl
end Go.Proofs.Ytokilodeihocjaa.Pure
namespace Go.Proofs.Ytokilodeihocjaa.Pure
open Go.RowKit Go.Proofs.Ytokilodeihocjaa.A Go.Proofs.Ytokilodeihocjaa.H Go.Proofs.Flat Go.Proofs.YtokilodeihocjaaW.PrintWords Go.Proofs.YtokilodeihocjaaW.PrintLast Go.Proofs.YtokilodeihocjaaW.PrintMore
set_option linter.unusedVariables false
set_option linter.unusedSimpArgs false
theorem rest_of {a m : Int} (ha : -9223372036854775808 ≤ a) (hb : a ≤ 9223372036854775807) (hm : 0 < m) (hm2 : m ≤ 1000) : ∃ n : Nat, (n : Int) < m ∧ Int.tmod (wrap64 (Int.tmod a m + m)) m = n := by
  have h1 : -m < Int.tmod a m := by
    have := Int.lt_tmod_of_pos a hm
    omega
  have h2 : Int.tmod a m < m := Int.tmod_lt_of_pos a hm
  rw [wid (by omega) (by omega), Int.tmod_eq_emod_of_nonneg (by omega)]
  have h3 := Int.emod_nonneg (Int.tmod a m + m) (show m ≠ 0 by omega)
  have h4 := Int.emod_lt_of_pos (Int.tmod a m + m) hm
  exact ⟨((Int.tmod a m + m) % m).toNat, by omega, by omega⟩
end Go.Proofs.Ytokilodeihocjaa.Pure
namespace Go.Proofs.Ytokilodeihocjaa.Pure
open Go.RowKit Go.Proofs.Ytokilodeihocjaa.A Go.Proofs.Ytokilodeihocjaa.H Go.Proofs.Flat Go.Proofs.YtokilodeihocjaaW.PrintWords Go.Proofs.YtokilodeihocjaaW.PrintLast Go.Proofs.YtokilodeihocjaaW.PrintMore
set_option linter.unusedVariables false
set_option linter.unusedSimpArgs false
theorem and_pow (n m : Int) (i : Nat) (hi : i ≤ 40) (hm : (BitVec.ofInt 64 m).toNat = 2 ^ i - 1) : 0 ≤ bits .and .i64 n m ∧ bits .and .i64 n m < 2 ^ i := by
  have key : (BitVec.ofInt 64 n &&& BitVec.ofInt 64 m).toNat = (n % ((2 ^ 64 : Nat) : Int)).toNat % 2 ^ i := by
    rw [BitVec.toNat_and, BitVec.toNat_ofInt, hm, Nat.and_two_pow_sub_one_eq_mod]
  show 0 ≤ IntKind.i64.wrap ((BitVec.ofInt 64 n &&& BitVec.ofInt 64 m).toNat : Nat) ∧ IntKind.i64.wrap ((BitVec.ofInt 64 n &&& BitVec.ofInt 64 m).toNat : Nat) < 2 ^ i
  rw [key, IntKind.wrap_i64]
  have h1 := Nat.mod_lt (n % ((2 ^ 64 : Nat) : Int)).toNat (show 0 < 2 ^ i from Nat.pow_pos (by decide))
  have h2 : 2 ^ i ≤ 2 ^ 40 := Nat.pow_le_pow_right (by decide) hi
  have h3 : ((2 ^ i : Nat) : Int) = (2 : Int) ^ i := by simp
  rw [← h3]
  generalize 2 ^ i = p at *
  generalize (n % ((2 ^ 64 : Nat) : Int)).toNat % p = q at *
  simp only [show (2 : Nat) ^ 40 = 1099511627776 from rfl] at h2
  clear key hm
  omega
theorem sameT_loop (l : List ByteArray) (hl : l.length ≤ 1000) (d : Nat) : ∀ k i : Nat, i + d = l.length → d < k → flyleafref09_SameTexts.l0 k l l i = some true := by
  induction d with
  | zero =>
    intro k i hi hk
    obtain ⟨k, rfl⟩ : ∃ m, k = m + 1 := ⟨k - 1, by omega⟩
    simp only [flyleafref09_SameTexts.l0]
    rw [if_neg (by omega)]
  | succ d ih =>
    intro k i hi hk
    obtain ⟨k, rfl⟩ : ∃ m, k = m + 1 := ⟨k - 1, by omega⟩
    have e1 : wrap64 ((i : Int) + 1) = ((i + 1 : Nat) : Int) := by rw [wid (by omega) (by omega)]; omega
    have hx := ih k (i + 1) (by omega) (by omega)
    simp only [flyleafref09_SameTexts.l0]
    rw [if_pos (by omega), if_pos (by omega), if_pos (by omega), if_pos trivial, e1]
    exact hx
theorem sameT_told (l : List ByteArray) (hl : l.length ≤ 1000) (k : Nat) (hk : l.length < k) : flyleafref09_SameTexts.f k l l = some true := by
  unfold flyleafref09_SameTexts.f
  rw [if_pos rfl]
  exact sameT_loop l hl l.length k 0 (by omega) hk
theorem sameP_loop (l : List Pr) (hl : l.length ≤ 1000) (d : Nat) : ∀ k i : Nat, i + d = l.length → d < k → flyleafref17_Same.l0 k l l i = some true := by
  induction d with
  | zero =>
    intro k i hi hk
    obtain ⟨k, rfl⟩ : ∃ m, k = m + 1 := ⟨k - 1, by omega⟩
    simp only [flyleafref17_Same.l0]
    rw [if_neg (by omega)]
  | succ d ih =>
    intro k i hi hk
    obtain ⟨k, rfl⟩ : ∃ m, k = m + 1 := ⟨k - 1, by omega⟩
    have e1 : wrap64 ((i : Int) + 1) = ((i + 1 : Nat) : Int) := by rw [wid (by omega) (by omega)]; omega
    have hx := ih k (i + 1) (by omega) (by omega)
    simp only [flyleafref17_Same.l0]
    rw [if_pos (by omega), if_pos (by omega), if_pos (by omega), if_neg (by simp), e1]
    exact hx
theorem sameP_told (l : List Pr) (hl : l.length ≤ 1000) (k : Nat) (hk : l.length < k) : flyleafref17_Same.f k l l = some true := by
  unfold flyleafref17_Same.f
  rw [if_pos rfl]
  exact sameP_loop l hl l.length k 0 (by omega) hk
/-- Short texts of letters. -/
structure Wd (L : List ByteArray) : Prop where
  s : ∀ x, x ∈ L → has0 x = false ∧ x.size ≤ 4
theorem Wd.texts {L : List ByteArray} (h : Wd L) : textsN L ≤ 5 * L.length := by
  have key : ∀ L : List ByteArray, (∀ x, x ∈ L → x.size ≤ 4) → textsN L ≤ 5 * L.length := by
    intro L
    induction L with
    | nil => intro _; exact Nat.le_refl _
    | cons a L ih =>
      intro h
      have h1 := ih fun x hx => h x (List.mem_cons_of_mem _ hx)
      have h2 := h a List.mem_cons_self
      rw [textsN_cons, List.length_cons]
      omega
  exact key L fun x hx => (h.s x hx).2
theorem Wd.snoc {L : List ByteArray} (h : Wd L) {x : ByteArray} (h0 : has0 x = false) (h1 : x.size ≤ 4) : Wd (L ++ [x]) := ⟨fun y hy => by
  rcases List.mem_append.1 hy with hy | hy
  · exact h.s y hy
  · rw [List.mem_singleton.1 hy]; exact ⟨h0, h1⟩⟩
def PrOk (l : List Pr) : Prop := ∀ x, x ∈ l → 0 < x.f0 ∧ x.f0 ≤ 1099511627776 ∧ 0 ≤ x.f1 ∧ x.f1 ≤ 1099511627776
theorem back_end (a e : List ByteArray) (x : List Pr) (ha : Wd a) (he : Wd e) (hx : PrOk x) (hae : a.length + e.length ≤ 10) (hxl : x.length ≤ 8) (a2 : Int) (k : Nat) (hk : 50 < k) : flyleaflaw17_StackBack.j4 k a2 true a e x = some true := by
  have t0 := ha.texts
  have t1 := he.texts
  have hs : sizeN a e x ≤ 500 := by unfold sizeN; omega
  obtain ⟨c0, c1⟩ := and_pow a2 4095 12 (by decide) (by decide)
  have b15 := and15 (a2 / 4096)
  have hmay : mayB a e x = true := mayB_of _ _ _ (fun s hs => (ha.s s hs).1) (fun s hs => (he.s s hs).1) (fun p hp => by obtain ⟨p0, p1, p2, p3⟩ := hx p hp; simp [pairOk]; omega)
  simp only [show (2 : Int) ^ 12 = 4096 from rfl] at c1
  have e1 : wrap64 (1024 + wrap64 (16 * bits .and .i64 a2 4095)) = 1024 + 16 * bits .and .i64 a2 4095 := by rw [wid (x := 16 * bits .and .i64 a2 4095) (by omega) (by omega), wid (by omega) (by omega)]
  obtain ⟨T, hT⟩ : ∃ T, bits .and .i64 a2 4095 = T := ⟨_, rfl⟩
  rw [hT] at c0 c1 e1
  obtain ⟨B, hB⟩ : ∃ B : Nat, (a2 / 4096) % 16 = B := ⟨((a2 / 4096) % 16).toNat, by omega⟩
  have hB16 : B < 16 := by omega
  have e2 : wrap64 (16 * bits .and .i64 (a2 / 4096) 15) = ((16 * B : Nat) : Int) := by rw [b15, hB, wid (by omega) (by omega)]; omega
  have hb := Build_ok (top := 1024 + 16 * T) (lowL_of (by omega) : lowL a) (lowL_of (by omega) : lowL e) (show x.length ≤ 8796093022208 by omega) (by omega) (by omega) (by omega) hmay (by omega) (by omega)
  have hz := builtS_size (1024 + 16 * T) a e x
  have hsz := Size_told a e x (lowL_of (by omega)) (lowL_of (by omega)) (by omega) (k - 1) (by omega) (by omega)
  have hm16 : sizeN a e x % 16 = 0 := by unfold sizeN; omega
  have hrd := fun (v : ByteArray) hv => readable_of (1024 + 16 * T) a e x (sizeN a e x) rfl (by omega) (by omega) (by omega) (by omega) (fun y hy => ⟨(ha.s y hy).1, by have := (ha.s y hy).2; omega⟩) (fun y hy => ⟨(he.s y hy).1, by have := (he.s y hy).2; omega⟩) hx (16 * B) (by omega) v hv
  have hf := rfill_told ⟨#[]⟩ (16 * B) (Nat.zero_le _) (by omega)
  have hfl : bytesL (fillS ⟨#[]⟩ ((16 * B : Nat) : Int)) = List.replicate (16 * B) 0 := by
    rw [fillS_L _ _ (by show ((0 : Nat) : Int) ≤ _; omega)]
    simp [bytesL]
    rw [show (⟨#[]⟩ : ByteArray).size = 0 from rfl]
    omega
  have hfz : (fillS ⟨#[]⟩ ((16 * B : Nat) : Int)).size = 16 * B := by rw [← bytesL_length, hfl, List.length_replicate]
  have hl0 : a.length ≤ 1000 := by omega
  have hl1 : e.length ≤ 1000 := by omega
  have hl2 : x.length ≤ 1000 := by omega
  have hk2 : a.length < k - 2 ∧ e.length < k - 2 ∧ x.length < k - 2 := by omega
  obtain ⟨k, rfl⟩ : ∃ m, k = m + 2 := ⟨k - 2, by omega⟩
  have hS1 := sameT_told a hl0 k (by omega)
  have hS2 := sameT_told e hl1 k (by omega)
  have hS3 := sameP_told x hl2 k (by omega)
  simp only [flyleaflaw17_StackBack.j4]
  rw [hT, e1, hb]
  simp only [Option.bind_some]
  generalize hBS : builtS (1024 + 16 * T) a e x = bs at *
  generalize hN : sizeN a e x = n at *
  clear hb hBS hN hmay b15
  have hrd2 := stack_Read.told (hrd (fillS ⟨#[]⟩ ((16 * B : Nat) : Int) ++ bs) (by rw [bytesL_app, hfl]))
  have e3 : wrap64 (1024 + 16 * T - (1024 + 16 * T - (n : Int))) = (n : Int) := by clear hrd hrd2 e1 e2 hsz hS1 hS2 hS3 hf hfl; rw [wid (by omega) (by omega)]; omega
  have e4 : Int.tmod (1024 + 16 * T - (n : Int)) 16 = 0 := by clear hrd hrd2 e1 e2 e3 hsz hS1 hS2 hS3 hf hfl; rw [Int.tmod_eq_emod_of_nonneg (by omega)]; omega
  have e5 : wrap64 (1024 + 16 * T - (n : Int) - ((16 * B : Nat) : Int)) = 1024 + 16 * T - (n : Int) - ((16 * B : Nat) : Int) := by clear hrd hrd2 e1 e2 e3 e4 hsz hS1 hS2 hS3 hf hfl; exact wid (by omega) (by omega)
  have q1 : (fillS ⟨#[]⟩ ((16 * B : Nat) : Int)).size + bs.size ≤ 9223372036854775807 := by rw [hfz, hz]; clear hrd hrd2 e1 e2 e3 e4 e5 hsz hS1 hS2 hS3 hf hfl; omega
  rw [if_pos trivial, e3, if_pos (by rw [hz]), if_pos e4, show k + 1 = k + 2 - 1 from rfl, hsz]
  simp only [Option.bind_some]
  rw [hz, bne_self_eq_false]
  show flyleaflaw17_StackBack.j5 (k + 1) a2 true a e x (1024 + 16 * T - (n : Int)) bs false = some true
  simp only [flyleaflaw17_StackBack.j5]
  rw [if_neg (by simp), e2, hf]
  simp only [Option.bind_some]
  rw [if_pos q1, e5, hrd2]
  simp only [Option.bind_some]
  rw [hS1, Option.bind_some, hS2, Option.bind_some, hS3, Option.bind_some]
  simp
theorem back_l2 (a e : List ByteArray) (ha : Wd a) (he : Wd e) (hae : a.length + e.length ≤ 10) (l1 : List S46) (a2 : Int) (d : Nat) : ∀ (k : Nat) (x : List Pr), x.length + d = 8 → PrOk x → d + 60 < k →
    flyleaflaw17_StackBack.l2 k l1 a2 true a e x x.length = some true := by
  induction d with
  | zero =>
    intro k x hx hp hk
    obtain ⟨k, rfl⟩ : ∃ m, k = m + 1 := ⟨k - 1, by omega⟩
    have hz := back_end a e x ha he hp hae (by omega) a2 k (by omega)
    simp only [flyleaflaw17_StackBack.l2]
    rw [if_neg (show ¬ (x.length : Int) < 8 by omega), hz]
    split <;> rfl
  | succ d ih =>
    intro k x hx hp hk
    obtain ⟨k, rfl⟩ : ∃ m, k = m + 1 := ⟨k - 1, by omega⟩
    simp only [flyleaflaw17_StackBack.l2]
    by_cases hlt : x.length < l1.length
    · obtain ⟨c0, c1⟩ := and_pow (rd_T46 l1 (x.length : Int)).f0 1023 10 (by decide) (by decide)
      obtain ⟨d0, d1⟩ := and_pow (rd_T46 l1 (x.length : Int)).f1 1099511627775 40 (by decide) (by decide)
      simp only [show (2 : Int) ^ 10 = 1024 from rfl] at c1
      simp only [show (2 : Int) ^ 40 = 1099511627776 from rfl] at d1
      rw [if_pos (by omega), if_pos (by omega), if_pos (by omega), if_pos (by omega)]
      have e1 : wrap64 ((x.length : Int) + 1) = ((x.length + 1 : Nat) : Int) := by rw [wid (by omega) (by omega)]; omega
      have e2 : wrap64 (1 + bits .and .i64 (rd_T46 l1 (x.length : Int)).f0 1023) = 1 + bits .and .i64 (rd_T46 l1 (x.length : Int)).f0 1023 := by clear e1; exact wid (by omega) (by omega)
      rw [e1, e2]
      generalize hP : (⟨1 + bits .and .i64 (rd_T46 l1 (x.length : Int)).f0 1023, bits .and .i64 (rd_T46 l1 (x.length : Int)).f1 1099511627775⟩ : Pr) = p
      have hp0 : 0 < p.f0 ∧ p.f0 ≤ 1099511627776 ∧ 0 ≤ p.f1 ∧ p.f1 ≤ 1099511627776 := by
        rw [← hP]
        clear e1 e2 hP
        show 0 < 1 + bits .and .i64 _ 1023 ∧ 1 + bits .and .i64 _ 1023 ≤ _ ∧ 0 ≤ bits .and .i64 _ 1099511627775 ∧ bits .and .i64 _ 1099511627775 ≤ _
        omega
      have hz := ih k (x ++ [p]) (by simp; clear e1 e2; omega) (fun y hy => by
        rcases List.mem_append.1 hy with hy | hy
        · exact hp y hy
        · rw [List.mem_singleton.1 hy]; exact hp0) (by clear e1 e2; omega)
      rw [show (x ++ [p]).length = x.length + 1 from by simp] at hz
      exact hz
    · rw [if_neg (by omega)]
      exact back_end a e x ha he hp hae (by omega) a2 k (by omega)
theorem chr_ok (n : Int) (h0 : 0 ≤ n) : ∃ c : UInt8, c ≠ 0 ∧ strOfNums [wrap64 (97 + Int.tmod n 8) % 256] = ⟨#[c]⟩ := by
  rw [Int.tmod_eq_emod_of_nonneg h0]
  have hn : n % 8 = 0 ∨ n % 8 = 1 ∨ n % 8 = 2 ∨ n % 8 = 3 ∨ n % 8 = 4 ∨ n % 8 = 5 ∨ n % 8 = 6 ∨ n % 8 = 7 := by omega
  rw [wid (by omega) (by omega)]
  rcases hn with e | e | e | e | e | e | e | e <;> rw [e]
  · exact ⟨97, by decide, rfl⟩
  · exact ⟨98, by decide, rfl⟩
  · exact ⟨99, by decide, rfl⟩
  · exact ⟨100, by decide, rfl⟩
  · exact ⟨101, by decide, rfl⟩
  · exact ⟨102, by decide, rfl⟩
  · exact ⟨103, by decide, rfl⟩
  · exact ⟨104, by decide, rfl⟩
theorem has0_snoc (s : ByteArray) (c : UInt8) (h : has0 s = false) (hc : c ≠ 0) : has0 (s ++ ⟨#[c]⟩) = false := by
  show (bytesL (s ++ ⟨#[c]⟩)).contains 0 = false
  have h' : (bytesL s).contains 0 = false := h
  rw [bytesL_app, show bytesL ⟨#[c]⟩ = [c] from rfl]
  simp only [List.contains_eq_any_beq, List.any_append] at h' ⊢
  rw [h']
  simp
  exact fun e => hc e.symm
theorem back_l1 (l0 l1 : List S46) (a2 : Int) (a e : List ByteArray) (i : Nat) (hi : i < l0.length) (hae : a.length + e.length = i) (hi10 : i < 10) (M : Nat)
    (hnext : ∀ (k : Nat) (s : ByteArray), M ≤ k → has0 s = false → s.size ≤ 4 → flyleaflaw17_StackBack.l0 k l0 l1 a2 true (a ++ [s]) e ((i : Int) + 1) = some true ∧ flyleaflaw17_StackBack.l0 k l0 l1 a2 true a (e ++ [s]) ((i : Int) + 1) = some true) (d : Nat) :
    ∀ (k : Nat) (s : ByteArray) (n : Int), has0 s = false → s.size + d ≤ 4 → 0 ≤ n → n < 8 ^ d → d + M < k → flyleaflaw17_StackBack.l1 k l0 l1 a2 true a e i s n = some true := by
  have c0 : 0 ≤ (i : Int) := by omega
  have c1 : (i : Int) < (l0.length : Int) := by omega
  have c2 : a.length < 8796093022208 := by omega
  have c3 : e.length < 8796093022208 := by omega
  have e1 : wrap64 ((i : Int) + 1) = (i : Int) + 1 := wid (by omega) (by omega)
  have fin : ∀ (k : Nat) (s : ByteArray), has0 s = false → s.size ≤ 4 → M ≤ k → (if 0 ≤ (i : Int) then (if (i : Int) < (l0.length : Int) then (if (Go.bits .and .i64 ((rd_T46 l0 (i : Int)).f0) 1) = 0 then (if a.length < 8796093022208 then (flyleaflaw17_StackBack.l0 k l0 l1 a2 true (a ++ [s]) e (wrap64 ((i : Int) + 1))) else (none)) else (if e.length < 8796093022208 then (flyleaflaw17_StackBack.l0 k l0 l1 a2 true a (e ++ [s]) (wrap64 ((i : Int) + 1))) else (none))) else (none)) else (none)) = some true := by
    intro k s h0 h1 hk
    obtain ⟨q1, q2⟩ := hnext k s hk h0 h1
    rw [if_pos c0, if_pos c1, e1, if_pos c2, if_pos c3, q1, q2]
    split <;> rfl
  induction d with
  | zero =>
    intro k s n h0 h1 hn hd hk
    obtain ⟨k, rfl⟩ : ∃ m, k = m + 1 := ⟨k - 1, by omega⟩
    have hn0 : n = 0 := by simp at hd; clear e1; omega
    simp only [flyleaflaw17_StackBack.l1]
    rw [if_neg (by rw [hn0]; decide)]
    exact fin k s h0 (by clear e1; omega) (by clear e1; omega)
  | succ d ih =>
    intro k s n h0 h1 hn hd hk
    obtain ⟨k, rfl⟩ : ∃ m, k = m + 1 := ⟨k - 1, by omega⟩
    simp only [flyleaflaw17_StackBack.l1]
    by_cases hp : n > 0
    · rw [if_pos hp]
      obtain ⟨c, hc, hcs⟩ := chr_ok n hn
      simp only [Option.bind_some]
      rw [hcs, if_pos (by show s.size + 1 ≤ _; clear e1; omega)]
      have hd2 : n / 8 < 8 ^ d := by
        rw [Int.pow_succ] at hd
        exact Int.ediv_lt_of_lt_mul (by decide) hd
      have e2 : wrap64 (Int.tdiv n 8) = n / 8 := by
        rw [Int.tdiv_eq_ediv_of_nonneg hn]
        have h48 : (8 : Int) ^ d ≤ 4096 := by
          have : d = 0 ∨ d = 1 ∨ d = 2 ∨ d = 3 := by clear e1; omega
          rcases this with rfl | rfl | rfl | rfl <;> decide
        exact wid (by clear e1 hd; omega) (by clear e1 hd; omega)
      rw [e2]
      exact ih k (s ++ ⟨#[c]⟩) (n / 8) (has0_snoc s c h0 hc) (by rw [ByteArray.size_append]; show s.size + 1 + d ≤ 4; clear e1 e2; omega) (by clear e1 e2; omega) hd2 (by clear e1 e2; omega)
    · rw [if_neg hp]
      exact fin k s h0 (by clear e1; omega) (by clear e1; omega)
theorem back_l0 (l0 l1 : List S46) (a2 : Int) (d : Nat) : ∀ (k : Nat) (a e : List ByteArray), Wd a → Wd e → a.length + e.length + d = 10 → 10 * d + 100 < k →
    flyleaflaw17_StackBack.l0 k l0 l1 a2 true a e ((a.length + e.length : Nat) : Int) = some true := by
  induction d with
  | zero =>
    intro k a e ha he hd hk
    obtain ⟨k, rfl⟩ : ∃ m, k = m + 2 := ⟨k - 2, by omega⟩
    have hz := back_l2 a e ha he (by omega) l1 a2 8 k [] rfl (fun x hx => absurd hx (by simp)) (by omega)
    simp only [flyleaflaw17_StackBack.l0]
    by_cases hlt : a.length + e.length < l0.length
    · rw [if_pos (by omega), show decide (((a.length + e.length : Nat) : Int) < 10) = false from decide_eq_false (by omega)]
      simp only [flyleaflaw17_StackBack.j1]
      rw [if_neg (by simp)]
      exact hz
    · rw [if_neg (by omega)]
      simp only [flyleaflaw17_StackBack.j1]
      rw [if_neg (by simp)]
      exact hz
  | succ d ih =>
    intro k a e ha he hd hk
    obtain ⟨k, rfl⟩ : ∃ m, k = m + 2 := ⟨k - 2, by omega⟩
    simp only [flyleaflaw17_StackBack.l0]
    by_cases hlt : a.length + e.length < l0.length
    · rw [if_pos (by omega), show decide (((a.length + e.length : Nat) : Int) < 10) = true from decide_eq_true (by omega)]
      simp only [flyleaflaw17_StackBack.j1]
      rw [if_pos trivial, if_pos (by omega), if_pos (by omega)]
      obtain ⟨c0, c1⟩ := and_pow (rd_T46 l0 ((a.length + e.length : Nat) : Int)).f1 4095 12 (by decide) (by decide)
      refine back_l1 l0 l1 a2 a e (a.length + e.length) hlt rfl (by omega) (10 * d + 101) (fun k s hk h0 h1 => ⟨?_, ?_⟩) 4 k ⟨#[]⟩ _ (by decide) (by decide) c0 (by simpa using c1) (by omega)
      · have := ih k (a ++ [s]) e (ha.snoc h0 h1) he (by simp; omega) (by omega)
        rw [show ((a ++ [s]).length + e.length : Nat) = a.length + e.length + 1 from by simp; omega] at this
        simpa using this
      · have := ih k a (e ++ [s]) ha (he.snoc h0 h1) (by simp; omega) (by omega)
        rw [show (a.length + (e ++ [s]).length : Nat) = a.length + e.length + 1 from by simp; omega] at this
        simpa using this
    · have hz := back_l2 a e ha he (by omega) l1 a2 8 k [] rfl (fun x hx => absurd hx (by simp)) (by omega)
      rw [if_neg (by omega)]
      simp only [flyleaflaw17_StackBack.j1]
      rw [if_neg (by simp)]
      exact hz
theorem StackBack (l0 : List S46) (h0 : l0.length ≤ maxLen ∧ ∀ x ∈ l0, b46 x) (l1 : List S46) (h1 : l1.length ≤ maxLen ∧ ∀ x ∈ l1, b46 x) (a2 : Int) (w2 : (Lit.int .i64 a2).wf = true) : ∃ k, flyleaflaw17_StackBack.f k l0 l1 a2 = some true := by
  obtain ⟨k, hk⟩ : ∃ k : Nat, 300 < k := ⟨301, by decide⟩
  have hz := back_l0 l0 l1 a2 10 k [] [] ⟨fun x hx => absurd hx (by simp)⟩ ⟨fun x hx => absurd hx (by simp)⟩ rfl (by omega)
  refine ⟨k, ?_⟩
  unfold flyleaflaw17_StackBack.f
  rw [awake_told]
  simp only [Option.bind_some]
  exact hz
end Go.Proofs.Ytokilodeihocjaa.Pure
namespace Go.Proofs.Ytokilodeihocjaa.stackBack
open Go.ChangeShapes Go.WideShapes Go.ChangeAt Go.RowKit Go.Proofs.Ytokilodeihocjaa.A Go.Proofs.YtokilodeihocjaaW.PrintWords
open Go.ChangeMaps (open_string shut_string)
set_option linter.unusedVariables false
set_option linter.unusedSimpArgs false
theorem own : ownKnob Try.prog.godebug = none := by kernel_rfl
theorem laidOut : laidOutB Try.prog = true := by kernel_rfl
set_option maxRecDepth 100000 in
theorem lifted (os : Os) (started : os.Started) (H : Type) (enc : TypeId × Value → H) :
    ReturnsInHanded {} Try.checked os 7 .any (Rows.stackBackSpec.pre6 enc Try.prog Try.f7 Rows.stackBackRow.domain false) (Rows.stackBackSpec.post enc Try.prog Try.f7 false true false false) := by
  refine returnsInHanded_of_change_sized (C := Try.checked) own started (by kernel_rfl) Try.func7
    (ChangeSpec.witness6 (enc := enc) (C := Try.checked) false ⟨#[], #[.slice none 0 0, .slice none 0 0, .int .i64 0], []⟩ 8 (by kernel_rfl) (by kernel_rfl) (by kernel_rfl) (by kernel_rfl)) ?_
  intro W base args ds gs before hval0 hW hcnd hsz0 _
  have hsz : (DataW.weightsEach Try.prog (Try.f7.params.toList ++ Rows.stackBackSpec.plain.varTypes Try.prog) (ds ++ gs)).all (· ≤ reachBytes) = true := hsz0
  have hval : ∀ (j : Nat) t v, Try.f7.params[j]? = some t → args[j]? = some v → Value.okWide Try.prog W .any base t v := hval0
  have hW' := hW
  obtain ⟨p, q, hA0, hV, rfl, hfz, hnd⟩ := hW
  have hA : DataW.TrodAll enc Try.prog W 0 (fun _ => true) true Try.f7.params.toList args.toList ds p := hA0
  rw [Try.params7] at hA hval hsz
  obtain ⟨v0, vs0, d0, ds0, p0, q0, hargs, rfl, rfl, h0, r0⟩ := trodAll_cons hA
  obtain ⟨v1, vs1, d1, ds1, p1, q1, rfl, rfl, rfl, h1, r1⟩ := trodAll_cons r0
  obtain ⟨v2, vs2, d2, ds2, p2, q2, rfl, rfl, rfl, h2, r2⟩ := trodAll_cons r1
  obtain ⟨rfl, rfl, rfl⟩ := trodAll_nil r2
  obtain rfl : args = #[v0, v1, v2] := by cases args; simp_all
  obtain ⟨rfl, rfl⟩ := trodVars_none hV
  have k0 := h0
  have lt0 : ∀ x ∈ p0, x.block < W.heap.size := by obtain ⟨m, hm⟩ := k0; exact DataW.trod_lt m _ _ _ hm
  obtain ⟨a0, len0, cap0, rfl⟩ := okWide_slice Try.underlying45 (hval 0 45 v0 rfl rfl)
  obtain ⟨fu0, hf0⟩ := h0
  obtain ⟨x0, ⟨A0, c0, E0, l0, g0⟩, B0⟩ := (opens_slice Try.underlying45 (by kernel_rfl) opens46) enc W _ _ _ _ _ _ hf0
  have E0' : [Value.slice a0 len0 cap0] = [.slice A0 x0.length c0] := E0
  simp only [List.cons.injEq, Value.slice.injEq, and_true] at E0'
  obtain ⟨rfl, rfl, rfl⟩ := E0'
  have k1 := h1
  have lt1 : ∀ x ∈ p1, x.block < W.heap.size := by obtain ⟨m, hm⟩ := k1; exact DataW.trod_lt m _ _ _ hm
  obtain ⟨a1, len1, cap1, rfl⟩ := okWide_slice Try.underlying45 (hval 1 45 v1 rfl rfl)
  obtain ⟨fu1, hf1⟩ := h1
  obtain ⟨x1, ⟨A1, c1, E1, l1, g1⟩, B1⟩ := (opens_slice Try.underlying45 (by kernel_rfl) opens46) enc W _ _ _ _ _ _ hf1
  have E1' : [Value.slice a1 len1 cap1] = [.slice A1 x1.length c1] := E1
  simp only [List.cons.injEq, Value.slice.injEq, and_true] at E1'
  obtain ⟨rfl, rfl, rfl⟩ := E1'
  obtain ⟨a2, rfl, rfl, rfl, w2⟩ := open_int Try.underlying3 (hval 2 3 v2 rfl rfl) h2
  clear hA0 hval0 hsz0 hsz
  obtain ⟨k, hk⟩ := Pure.StackBack x0 B0 x1 B1 a2 w2
  refine (_root_.Go.Proofs.Ytokilodeihocjaa.A.flyleaflaw17_StackBack.calls (h := hk) (w := W) (hr0 := g0) (hc0 := l0) (hr1 := g1) (hc1 := l1)).mono fun e W' ⟨he, bel⟩ => ?_
  subst he
  exact ⟨_, rfl, _, _, _, [], _, [], hW', trodAll_mk1 (shut_bool Try.underlying4 _), (trodAll_cons_mk (Below.trod laidOut (by kernel_rfl) (of_decide_eq_true (by kernel_rfl)) k0 bel lt0) (trodAll_cons_mk (Below.trod laidOut (by kernel_rfl) (of_decide_eq_true (by kernel_rfl)) k1 bel lt1) (trodAll_cons_mk (shut_int Try.underlying3 w2) trodAll_mk0))), rfl, bel.frame _, fun h => by cases h⟩
theorem over : Rows.stackBackRow.holds Try.pinned (OpenSpec.ofChange Rows.stackBackSpec) :=
  OpenClaim.holds_of_wide 7 Try.f7 rfl rfl rfl rfl rfl rfl rfl ⟨rfl, rfl, rfl, rfl, rfl⟩ rfl rfl rfl rfl rfl (by kernel_rfl) Try.func7 (by kernel_rfl)
    (of_decide_eq_true (by kernel_rfl)) (by unfold Func.isWrapper; first | (rw [if_pos (by decide +kernel)]; kernel_rfl) | (rw [if_neg (by decide +kernel)]; exact ⟨rfl, rfl⟩))
    (fun os started H enc _ => lifted os started H enc)
theorem proved : Rows.StackBackSaid := over
#print axioms proved
end Go.Proofs.Ytokilodeihocjaa.stackBack
namespace Go.Proofs.Ytokilodeihocjaa
/-- The row, under a short name, for the claim. -/
theorem stackBack_holds : Rows.StackBackSaid := stackBack.proved
end Go.Proofs.Ytokilodeihocjaa
