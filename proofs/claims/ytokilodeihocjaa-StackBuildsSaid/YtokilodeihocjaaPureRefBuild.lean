/- The document's Build of a stack is the program's, in plain numbers: for few short texts. -/
import Derived.Test.YtokilodeihocjaaPureBuilt
import Derived.Test.YtokilodeihocjaaAxFlyleafref17Build
import Derived.Lib.Hide
namespace Go.Proofs.Ytokilodeihocjaa.Pure
open Go.RowKit Go.Proofs.Ytokilodeihocjaa.A Go.Proofs.Ytokilodeihocjaa.H Go.Proofs.Flat Go.Proofs.YtokilodeihocjaaW.PrintWords Go.Proofs.YtokilodeihocjaaW.PrintLast Go.Proofs.YtokilodeihocjaaW.PrintMore
set_option linter.unusedVariables false
set_option linter.unusedSimpArgs false
structure Few (L : List ByteArray) : Prop where
  len : L.length ≤ 10
  s : ∀ x, x ∈ L → x.size ≤ 40
theorem Few.texts {L : List ByteArray} (h : Few L) : textsN L ≤ 410 := by
  have key : ∀ L : List ByteArray, (∀ x, x ∈ L → x.size ≤ 40) → textsN L ≤ 41 * L.length := by
    intro L
    induction L with
    | nil => intro _; exact Nat.le_refl _
    | cons a L ih =>
      intro h
      have h1 := ih fun x hx => h x (List.mem_cons_of_mem _ hx)
      have h2 := h a List.mem_cons_self
      rw [textsN_cons, List.length_cons]
      omega
  have := key L h.s
  have := h.len
  omega
theorem Few.get {L : List ByteArray} (h : Few L) (i : Nat) (hi : i < L.length) : (L.getD i ByteArray.empty).size ≤ 40 := by
  rw [List.getD_eq_getElem?_getD, List.getElem?_eq_getElem hi]
  exact h.s _ (List.getElem_mem hi)
def mkS (l : List UInt8) : ByteArray := ⟨l.toArray⟩
theorem mkS_L (l : List UInt8) : bytesL (mkS l) = l := rfl
theorem mkS_size (l : List UInt8) : (mkS l).size = l.length := by rw [← bytesL_length, mkS_L]
theorem mkS_app (l : List UInt8) (s : ByteArray) : mkS l ++ s = mkS (l ++ bytesL s) := bytesL_inj (by rw [bytesL_app, mkS_L, mkS_L])

/-! ### the document's words -/
theorem rtexts_loop (l : List ByteArray) (h : Few l) (d : Nat) : ∀ k i : Nat, i + d = l.length → d < k → flyleafref17_texts.l0 k l (textsN (l.take i)) i = some (textsN l : Int) := by
  induction d with
  | zero =>
    intro k i hi hk
    obtain ⟨k, rfl⟩ : ∃ m, k = m + 1 := ⟨k - 1, by omega⟩
    simp only [flyleafref17_texts.l0]
    rw [if_neg (by omega), List.take_of_length_le (by omega)]
  | succ d ih =>
    intro k i hi hk
    obtain ⟨k, rfl⟩ : ∃ m, k = m + 1 := ⟨k - 1, by omega⟩
    have hil : i < l.length := by omega
    have ht := h.texts
    have hl := h.len
    have hz := textsN_split l (i + 1)
    have hs : textsN (l.take (i + 1)) = textsN (l.take i) + ((l.getD i ByteArray.empty).size + 1) := by
      rw [textsN, endL_take l i hil, List.length_append]
      simp [textsN, bytesL_length]
    have e1 : wrap64 ((i : Int) + 1) = ((i + 1 : Nat) : Int) := by rw [wid (by omega) (by omega)]; omega
    have e2 : wrap64 (wrap64 ((textsN (l.take i) : Int) + ((l.getD i ByteArray.empty).size : Int)) + 1) = (textsN (l.take (i + 1)) : Int) := by
      clear e1
      rw [wid (x := (textsN (l.take i) : Int) + ((l.getD i ByteArray.empty).size : Int)) (by omega) (by omega), wid (by omega) (by omega), hs]
      omega
    have hx := ih k (i + 1) (by omega) (by omega)
    simp only [flyleafref17_texts.l0]
    rw [if_pos (by omega), if_pos (by omega), rdOf, Int.toNat_natCast, e2, e1]
    exact hx
theorem rtexts_told (l : List ByteArray) (h : Few l) (k : Nat) (hk : 10 < k) : flyleafref17_texts.f k l = some (textsN l : Int) := by
  have := h.len
  exact rtexts_loop l h l.length k 0 (by omega) (by omega)
theorem rsize_arith (a b c A B : Nat) (ha : a ≤ 10) (hb : b ≤ 10) (hc : c ≤ 10) (hA : A ≤ 410) (hB : B ≤ 410) :
    wrap64 (wrap64 (Int.tdiv (wrap64 (wrap64 (wrap64 (wrap64 (8 * wrap64 (wrap64 (wrap64 (wrap64 (wrap64 (wrap64 (1 + (a : Int)) + 1) + (b : Int)) + 1) + wrap64 (2 * (c : Int))) + 2)) + (A : Int)) + (B : Int)) + 15)) 16) * 16) = (((8 * (5 + a + b + 2 * c) + A + B + 15) / 16 * 16 : Nat) : Int) := by
  rw [wid (x := 1 + (a : Int)) (by omega) (by omega), wid (x := 1 + (a : Int) + 1) (by omega) (by omega), wid (x := 1 + (a : Int) + 1 + b) (by omega) (by omega), wid (x := 1 + (a : Int) + 1 + b + 1) (by omega) (by omega), wid (x := 2 * (c : Int)) (by omega) (by omega),
    wid (x := 1 + (a : Int) + 1 + b + 1 + 2 * c) (by omega) (by omega), wid (x := 1 + (a : Int) + 1 + b + 1 + 2 * c + 2) (by omega) (by omega), wid (x := 8 * (1 + (a : Int) + 1 + b + 1 + 2 * c + 2)) (by omega) (by omega),
    wid (x := 8 * (1 + (a : Int) + 1 + b + 1 + 2 * c + 2) + A) (by omega) (by omega), wid (x := 8 * (1 + (a : Int) + 1 + b + 1 + 2 * c + 2) + A + B) (by omega) (by omega), wid (x := 8 * (1 + (a : Int) + 1 + b + 1 + 2 * c + 2) + A + B + 15) (by omega) (by omega)]
  rw [Int.tdiv_eq_ediv_of_nonneg (by omega), wid (x := (8 * (1 + (a : Int) + 1 + b + 1 + 2 * c + 2) + A + B + 15) / 16) (by omega) (by omega), wid (by omega) (by omega)]
  omega
theorem rsize_told (l0 l1 : List ByteArray) (l2 : List Pr) (h0 : Few l0) (h1 : Few l1) (h2 : l2.length ≤ 10) (k : Nat) (hk : 10 < k) : flyleafref17_Size.f k l0 l1 l2 = some (sizeN l0 l1 l2 : Int) := by
  unfold flyleafref17_Size.f
  rw [rtexts_told l0 h0 k hk, Option.bind_some, rtexts_told l1 h1 k hk, Option.bind_some, rsize_arith _ _ _ _ _ h0.len h1.len h2 h0.texts h1.texts]
  rfl
theorem leB_succ (n : Int) (i : Nat) : leB n (i + 1) = leB n i ++ [byteAt n i] := by simp [leB, List.range_succ]
theorem strOf_app (a b : List Int) : strOfNums a ++ strOfNums b = strOfNums (a ++ b) := by
  refine bytesL_inj ?_
  rw [bytesL_app]
  simp [strOfNums, bytesL]
theorem rput_loop (n : Int) (h0 : 0 ≤ n) (h1 : n < 18446744073709551616) (d : Nat) : ∀ k i : Nat, i + d = 8 → d < k → flyleafref01_Put.l0 k (n / 256 ^ i) 8 (strOfNums (leB n i)) i = some (putS n 8) := by
  induction d with
  | zero =>
    intro k i hi hk
    obtain ⟨k, rfl⟩ : ∃ m, k = m + 1 := ⟨k - 1, by omega⟩
    obtain rfl : i = 8 := by omega
    simp only [flyleafref01_Put.l0]
    rw [if_neg (by omega)]
    rfl
  | succ d ih =>
    intro k i hi hk
    obtain ⟨k, rfl⟩ : ∃ m, k = m + 1 := ⟨k - 1, by omega⟩
    have hx := ih k (i + 1) (by omega) (by omega)
    have hi' : i = 0 ∨ i = 1 ∨ i = 2 ∨ i = 3 ∨ i = 4 ∨ i = 5 ∨ i = 6 ∨ i = 7 := by omega
    have key : 0 ≤ n / 256 ^ i ∧ n / 256 ^ i % 256 % 256 = byteAt n i ∧ n / 256 ^ i / 256 = n / 256 ^ (i + 1) ∧ 0 ≤ n / 256 ^ (i + 1) ∧ n / 256 ^ (i + 1) < 18446744073709551616 := by
      unfold byteAt
      obtain rfl | rfl | rfl | rfl | rfl | rfl | rfl | rfl := hi' <;> simp only [Nat.reduceAdd, Int.reducePow] <;> omega
    obtain ⟨k1, k2, k3, k4, k5⟩ := key
    have e1 : wrap64 ((i : Int) + 1) = ((i + 1 : Nat) : Int) := by clear k1 k2 k3 k4 k5 hi'; rw [wid (by omega) (by omega)]; omega
    have hs : (strOfNums (leB n i)).size = i := by rw [strOfNums_size, leB_length]
    have c1 : (i : Int) < 8 := by omega
    have c2 : i + 1 ≤ 9223372036854775807 := by omega
    simp only [flyleafref01_Put.l0]
    rw [if_pos c1, if_pos c1, Int.tmod_eq_emod_of_nonneg k1, Int.tdiv_eq_ediv_of_nonneg k1, k2, k3, wu64 k4 k5]
    simp only [Option.bind_some]
    rw [if_pos (by rw [hs, strOfNums_size]; exact c2), e1, strOf_app, ← leB_succ]
    exact hx
theorem rput_told (n : Int) (h0 : 0 ≤ n) (h1 : n < 18446744073709551616) (k : Nat) (hk : 10 < k) : flyleafref01_Put.f k n 8 = some (putS n 8) := by
  have := rput_loop n h0 h1 8 k 0 (by omega) (by omega)
  unfold flyleafref01_Put.f
  rw [show n / 256 ^ 0 = n from by simp] at this
  exact this
theorem rput_u64 (x : Int) (k : Nat) (hk : 10 < k) : flyleafref01_Put.f k (IntKind.u64.wrap x) 8 = some (putS (IntKind.u64.wrap x) 8) := by
  refine rput_told _ ?_ ?_ k hk <;> (simp only [IntKind.wrap, IntKind.bits, IntKind.signed]; simp; omega)
theorem rput_0 (k : Nat) (hk : 10 < k) : flyleafref01_Put.f k 0 8 = some (putS (IntKind.u64.wrap 0) 8) := rput_u64 0 k hk
theorem bt_get (s : ByteArray) (j : Nat) (h : j < s.size) : bt s j = (((bytesL s)[j]'(by rw [bytesL_length]; exact h)).toNat : Int) := by
  rw [bt_list, List.getD_eq_getElem?_getD, List.getElem?_eq_getElem (by rw [bytesL_length]; exact h), Option.getD_some]
/-- plain: are there no bytes 0? -/
theorem rplain_in (L : List ByteArray) (i : Nat) (hi : i < L.length) (hL : L.length ≤ 10) (x : ByteArray) (hx : L.getD i ByteArray.empty = x) (hs : x.size ≤ 40) (r : Bool) (M : Nat)
    (hnext : ∀ k, M ≤ k → flyleafref17_plain.l0 k L ((i + 1 : Nat) : Int) = some r) (d : Nat) : ∀ k j : Nat, j + d = x.size → d + M < k →
    flyleafref17_plain.l1 k L i j = some (!((bytesL x).drop j).contains 0 && r) := by
  have e2 : wrap64 ((i : Int) + 1) = ((i + 1 : Nat) : Int) := by rw [wid (by omega) (by omega)]; omega
  have c0 : 0 ≤ (i : Int) := by omega
  have c1 : (i : Int) < (L.length : Int) := by omega
  have hr : rdOf ByteArray.empty L (i : Int) = x := by rw [rdOf, Int.toNat_natCast, hx]
  induction d with
  | zero =>
    intro k j hj hk
    obtain ⟨k, rfl⟩ : ∃ m, k = m + 1 := ⟨k - 1, by omega⟩
    have hn := hnext k (by omega)
    have c2 : ¬ (j : Int) < (x.size : Int) := by clear e2; omega
    simp only [flyleafref17_plain.l1]
    rw [if_pos c0, if_pos c1, hr, if_neg c2, List.drop_eq_nil_of_le (by rw [bytesL_length]; clear e2; omega), e2, hn]
    simp
  | succ d ih =>
    intro k j hj hk
    obtain ⟨k, rfl⟩ : ∃ m, k = m + 1 := ⟨k - 1, by omega⟩
    have hn := ih k (j + 1) (by omega) (by omega)
    have hjx : j < x.size := by clear e2; omega
    have c2 : (j : Int) < (x.size : Int) := by clear e2; omega
    have c3 : 0 ≤ (j : Int) := by clear e2; omega
    have e1 : wrap64 ((j : Int) + 1) = ((j + 1 : Nat) : Int) := by clear e2; rw [wid (by omega) (by omega)]; omega
    have hjl : j < (bytesL x).length := by rw [bytesL_length]; exact hjx
    simp only [flyleafref17_plain.l1]
    rw [if_pos c0, if_pos c1, hr, if_pos c2, if_pos c3, bt_get x j hjx, List.drop_eq_getElem_cons hjl, List.contains_cons]
    by_cases hz : (bytesL x)[j] = 0
    · rw [hz, if_pos (by rfl)]
      simp
    · have hz2 : ¬ (((bytesL x)[j].toNat : Int) = 0) := fun e => hz (UInt8.toNat_inj.1 (show (bytesL x)[j].toNat = 0 by clear e1 e2; omega))
      rw [if_neg hz2, e1, hn, show ((0 : UInt8) == (bytesL x)[j]) = false from beq_eq_false_iff_ne.2 (fun e => hz e.symm), Bool.false_or]
theorem rplain_l0 (L : List ByteArray) (h : Few L) (d : Nat) : ∀ k i : Nat, i + d = L.length → 50 * d + 1 < k → flyleafref17_plain.l0 k L i = some (!((L.drop i).any has0)) := by
  have hL := h.len
  induction d with
  | zero =>
    intro k i hi hk
    obtain ⟨k, rfl⟩ : ∃ m, k = m + 1 := ⟨k - 1, by omega⟩
    simp only [flyleafref17_plain.l0]
    rw [if_neg (by omega), List.drop_eq_nil_of_le (by omega)]
    rfl
  | succ d ih =>
    intro k i hi hk
    obtain ⟨k, rfl⟩ : ∃ m, k = m + 1 := ⟨k - 1, by omega⟩
    have hil : i < L.length := by omega
    have hx := h.get i hil
    simp only [flyleafref17_plain.l0]
    rw [if_pos (by omega)]
    have hz := rplain_in L i hil hL _ rfl hx (!((L.drop (i + 1)).any has0)) (50 * d + 2) (fun k hk => ih k (i + 1) (by omega) hk) _ k 0 (Nat.zero_add _) (by omega)
    rw [List.drop_zero] at hz
    show flyleafref17_plain.l1 k L i ((0 : Nat) : Int) = _
    rw [hz, List.drop_eq_getElem_cons hil, List.any_cons, List.getD_eq_getElem?_getD, List.getElem?_eq_getElem hil]
    simp [has0, bytesL]
theorem rplain_told (L : List ByteArray) (h : Few L) (k : Nat) (hk : 600 < k) : flyleafref17_plain.f k L = some (!(L.any has0)) := by
  have := h.len
  exact rplain_l0 L h L.length k 0 (by omega) (by omega)
/-- Fill of a text that is not longer. -/
theorem rfill_told (s : ByteArray) (n : Nat) (h : s.size ≤ n) (hn : n ≤ 4096) : flyleafref01_Fill.f s n = some (fillS s n) := by
  unfold flyleafref01_Fill.f fillS
  by_cases e : n ≤ s.size
  · rw [if_neg (by omega), if_pos (by omega), if_pos (by omega), if_pos (by omega), if_pos (by rw [Int.toNat_natCast]; exact e)]
  · have w : wrap64 ((n : Int) - (s.size : Int)) = ((n - s.size : Nat) : Int) := by rw [wid (by omega) (by omega)]; omega
    rw [if_neg (by omega), if_neg (by omega), w, if_pos (by omega), if_pos (by omega), Int.toNat_natCast, Int.toNat_natCast, if_neg e]
    simp only [Option.bind_some]
    rw [if_pos (by rw [strOfNums_size, List.length_replicate]; omega)]
    congr 2
    unfold strOfNums
    rw [List.map_replicate]
    rfl

/-! ### Build -/
theorem numsT_size (xs : List Int) : (mkS (numB xs)).size = 8 * xs.length := by rw [mkS_size, numB_length]
theorem mkS_num (xs : List Int) (x : Int) : mkS (numB xs) ++ putS (IntKind.u64.wrap x) 8 = mkS (numB (xs ++ [x])) := by rw [mkS_app, numB_append, numB_one]; rfl
theorem mkS_end (es : List UInt8) (s : ByteArray) : (mkS es ++ s) ++ (⟨#[0]⟩ : ByteArray) = mkS (es ++ (bytesL s ++ [0])) := by
  rw [mkS_app, mkS_app, List.append_assoc]
  rfl
theorem rb_l3 (top : Int) (l2 : List Pr) (h2 : l2.length ≤ 10) (n : Nat) (hn : n ≤ 1024) (h0 : (n : Int) ≤ top) (h1 : top ≤ 262144) (pre : List Int) (hp : pre.length ≤ 40) (es : List UInt8) (he : 8 * (pre.length + 2 * l2.length + 2) + es.length ≤ n) (d : Nat) : ∀ k i : Nat, i + d = l2.length → d + 20 < k →
    flyleafref17_Build.l3 k top l2 n (mkS (numB (pre ++ pairL (l2.take i)))) (mkS es) i = some (top - n, fillS (mkS (numB (pre ++ pairL (l2 ++ [zPr])))) ((n : Int) - (es.length : Int)) ++ mkS es, 0) := by
  induction d with
  | zero =>
    intro k i hi hk
    obtain ⟨k, rfl⟩ : ∃ m, k = m + 1 := ⟨k - 1, by omega⟩
    obtain rfl : i = l2.length := by omega
    have hl : (pre ++ pairL l2).length = pre.length + 2 * l2.length := by rw [List.length_append, pairL_length]
    have hz : pre ++ pairL (l2 ++ [zPr]) = pre ++ pairL l2 ++ [0] ++ [0] := by simp [pairL, z48]
    have e1 : wrap64 ((n : Int) - ((mkS es).size : Int)) = ((n - es.length : Nat) : Int) := by rw [mkS_size, wid (by omega) (by omega)]; omega
    have e2 : wrap64 (top - (n : Int)) = top - n := wid (by omega) (by omega)
    have e3 : ((n - es.length : Nat) : Int) = (n : Int) - (es.length : Int) := by clear e1 e2; omega
    have hf := rfill_told (mkS (numB (pre ++ pairL l2 ++ [0] ++ [0]))) (n - es.length) (by rw [numsT_size, List.length_append, List.length_append, hl]; simp; clear e1 e2 e3; omega) (by clear e1 e2 e3; omega)
    simp only [flyleafref17_Build.l3]
    rw [List.take_length, if_neg (Int.lt_irrefl _), rput_0 k (by omega), Option.bind_some, mkS_num, if_pos (by rw [numsT_size, hl, putS_size]; clear e1 e2 e3 hf; omega), Option.bind_some, mkS_num,
      if_pos (by rw [numsT_size, List.length_append, hl, putS_size]; simp; clear e1 e2 e3 hf; omega), e1, hf, Option.bind_some, if_pos (by rw [fillS_sz, mkS_size]; clear e1 e2 e3 hf; omega), e2, hz, e3]
  | succ d ih =>
    intro k i hi hk
    obtain ⟨k, rfl⟩ : ∃ m, k = m + 1 := ⟨k - 1, by omega⟩
    have hil : i < l2.length := by omega
    have hx := ih k (i + 1) (by omega) (by omega)
    have hpt := pairL_take l2 i hil
    have hl : (pre ++ pairL (l2.take i)).length ≤ 60 := by rw [List.length_append, pairL_length, List.length_take]; omega
    have e1 : wrap64 ((i : Int) + 1) = ((i + 1 : Nat) : Int) := by rw [wid (by omega) (by omega)]; omega
    have hr : rd_T48 l2 (i : Int) = l2.getD i zPr := by simp [rd_T48]
    have c1 : (i : Int) < (l2.length : Int) := by clear e1; omega
    have c0 : 0 ≤ (i : Int) := by clear e1; omega
    rw [hpt] at hx
    simp only [flyleafref17_Build.l3]
    rw [if_pos c1, if_pos c0, hr, rput_u64 _ k (by omega), Option.bind_some, if_pos (by rw [numsT_size, putS_size]; clear e1; omega), rput_u64 _ k (by omega), Option.bind_some, mkS_num,
      if_pos (by rw [numsT_size, putS_size, List.length_append, List.length_singleton]; clear e1; omega), mkS_num, e1]
    rw [← List.append_assoc, ← List.append_assoc] at hx
    exact hx
theorem rb_l2 (top : Int) (l1 : List ByteArray) (hl1 : Few l1) (l2 : List Pr) (n : Nat) (hn : n ≤ 1024) (h0 : (n : Int) ≤ top) (h1 : top ≤ 262144) (p : Int) (hp0 : 0 ≤ p) (hp1 : p + textsN l1 ≤ top) (pre : List Int) (hp : pre.length ≤ 20) (es : List UInt8) (hes : es.length ≤ 1024) (R : Int × ByteArray × Int) (M : Nat) (hM : 20 ≤ M)
    (hnext : ∀ k, M ≤ k → flyleafref17_Build.l3 k top l2 n (mkS (numB (pre ++ places p l1 ++ [0]))) (mkS (es ++ endL l1)) 0 = some R) (d : Nat) : ∀ k i : Nat, i + d = l1.length → d + M < k →
    flyleafref17_Build.l2 k top l1 l2 n (p + textsN (l1.take i)) (mkS (numB (pre ++ places p (l1.take i)))) (mkS (es ++ endL (l1.take i))) i = some R := by
  have hlen := hl1.len
  have htx := hl1.texts
  induction d with
  | zero =>
    intro k i hi hk
    obtain ⟨k, rfl⟩ : ∃ m, k = m + 1 := ⟨k - 1, by omega⟩
    have hx := hnext k (by omega)
    have hl : (pre ++ places p l1).length ≤ 30 := by rw [List.length_append, places_length]; omega
    simp only [flyleafref17_Build.l2]
    rw [List.take_of_length_le (by omega), if_neg (by omega), rput_0 k (by omega), Option.bind_some, mkS_num, if_pos (by rw [numsT_size, putS_size]; omega)]
    exact hx
  | succ d ih =>
    intro k i hi hk
    obtain ⟨k, rfl⟩ : ∃ m, k = m + 1 := ⟨k - 1, by omega⟩
    have hil : i < l1.length := by omega
    have hx := ih k (i + 1) (by omega) (by omega)
    have hpt := places_take l1 i hil p
    have het := endL_take l1 i hil
    have hz := textsN_split l1 (i + 1)
    have hs : textsN (l1.take (i + 1)) = textsN (l1.take i) + ((l1.getD i ByteArray.empty).size + 1) := by
      rw [textsN, endL_take l1 i hil, List.length_append]
      simp [textsN, bytesL_length]
    have hei : (endL (l1.take i)).length = textsN (l1.take i) := rfl
    have hl : (pre ++ places p (l1.take i)).length ≤ 30 := by rw [List.length_append, places_length, List.length_take]; omega
    have hg := hl1.get i hil
    generalize hX : l1.getD i ByteArray.empty = x at *
    have hr : rdOf ByteArray.empty l1 (i : Int) = x := by rw [rdOf, Int.toNat_natCast, hX]
    have q1 : (mkS (es ++ endL (l1.take i))).size + x.size ≤ 9223372036854775807 := by rw [mkS_size, List.length_append, hei]; omega
    have q2 : (mkS (es ++ endL (l1.take i)) ++ x).size + 1 ≤ 9223372036854775807 := by rw [ByteArray.size_append, mkS_size, List.length_append, hei]; omega
    have c1 : (i : Int) < (l1.length : Int) := by omega
    have c0 : 0 ≤ (i : Int) := by omega
    have e1 : wrap64 ((i : Int) + 1) = ((i + 1 : Nat) : Int) := by rw [wid (by omega) (by omega)]; omega
    have e2 : wrap64 (wrap64 (p + (textsN (l1.take i) : Int) + (x.size : Int)) + 1) = p + (textsN (l1.take (i + 1)) : Int) := by
      clear e1
      rw [wid (x := p + (textsN (l1.take i) : Int) + (x.size : Int)) (by omega) (by omega), wid (by omega) (by omega), hs]
      omega
    have q3 : (mkS (numB (pre ++ places p (l1.take i)))).size + (putS (IntKind.u64.wrap (p + (textsN (l1.take i) : Int))) 8).size ≤ 9223372036854775807 := by rw [numsT_size, putS_size]; clear e1 e2; omega
    have hk10 : 10 < k := by clear e1 e2; omega
    rw [hpt, het, hei, ← List.append_assoc, ← List.append_assoc es] at hx
    simp only [flyleafref17_Build.l2]
    rw [if_pos c1, rput_u64 _ k hk10, Option.bind_some, if_pos q3, if_pos c0, hr, if_pos q1, if_pos q2, e2, mkS_num, mkS_end, e1]
    exact hx
theorem rb_l1 (top : Int) (l0 : List ByteArray) (hl0 : Few l0) (l1 : List ByteArray) (l2 : List Pr) (n : Nat) (hn : n ≤ 1024) (h0 : (n : Int) ≤ top) (h1 : top ≤ 262144) (p : Int) (hp0 : 0 ≤ p) (hp1 : p + textsN l0 ≤ top) (pre : List Int) (hp : pre.length ≤ 1) (R : Int × ByteArray × Int) (M : Nat) (hM : 20 ≤ M)
    (hnext : ∀ k, M ≤ k → flyleafref17_Build.l2 k top l1 l2 n (p + textsN l0) (mkS (numB (pre ++ places p l0 ++ [0]))) (mkS (endL l0)) 0 = some R) (d : Nat) : ∀ k i : Nat, i + d = l0.length → d + M < k →
    flyleafref17_Build.l1 k top l0 l1 l2 n (p + textsN (l0.take i)) (mkS (numB (pre ++ places p (l0.take i)))) (mkS (endL (l0.take i))) i = some R := by
  have hlen := hl0.len
  have htx := hl0.texts
  induction d with
  | zero =>
    intro k i hi hk
    obtain ⟨k, rfl⟩ : ∃ m, k = m + 1 := ⟨k - 1, by omega⟩
    have hx := hnext k (by omega)
    have hl : (pre ++ places p l0).length ≤ 30 := by rw [List.length_append, places_length]; omega
    simp only [flyleafref17_Build.l1]
    rw [List.take_of_length_le (by omega), if_neg (by omega), rput_0 k (by omega), Option.bind_some, mkS_num, if_pos (by rw [numsT_size, putS_size]; omega)]
    exact hx
  | succ d ih =>
    intro k i hi hk
    obtain ⟨k, rfl⟩ : ∃ m, k = m + 1 := ⟨k - 1, by omega⟩
    have hil : i < l0.length := by omega
    have hx := ih k (i + 1) (by omega) (by omega)
    have hpt := places_take l0 i hil p
    have het := endL_take l0 i hil
    have hz := textsN_split l0 (i + 1)
    have hs : textsN (l0.take (i + 1)) = textsN (l0.take i) + ((l0.getD i ByteArray.empty).size + 1) := by
      rw [textsN, endL_take l0 i hil, List.length_append]
      simp [textsN, bytesL_length]
    have hei : (endL (l0.take i)).length = textsN (l0.take i) := rfl
    have hl : (pre ++ places p (l0.take i)).length ≤ 30 := by rw [List.length_append, places_length, List.length_take]; omega
    have hg := hl0.get i hil
    generalize hX : l0.getD i ByteArray.empty = x at *
    have hr : rdOf ByteArray.empty l0 (i : Int) = x := by rw [rdOf, Int.toNat_natCast, hX]
    have q1 : (mkS (endL (l0.take i))).size + x.size ≤ 9223372036854775807 := by rw [mkS_size, hei]; omega
    have q2 : (mkS (endL (l0.take i)) ++ x).size + 1 ≤ 9223372036854775807 := by rw [ByteArray.size_append, mkS_size, hei]; omega
    have c1 : (i : Int) < (l0.length : Int) := by omega
    have c0 : 0 ≤ (i : Int) := by omega
    have e1 : wrap64 ((i : Int) + 1) = ((i + 1 : Nat) : Int) := by rw [wid (by omega) (by omega)]; omega
    have e2 : wrap64 (wrap64 (p + (textsN (l0.take i) : Int) + (x.size : Int)) + 1) = p + (textsN (l0.take (i + 1)) : Int) := by
      clear e1
      rw [wid (x := p + (textsN (l0.take i) : Int) + (x.size : Int)) (by omega) (by omega), wid (by omega) (by omega), hs]
      omega
    have q3 : (mkS (numB (pre ++ places p (l0.take i)))).size + (putS (IntKind.u64.wrap (p + (textsN (l0.take i) : Int))) 8).size ≤ 9223372036854775807 := by rw [numsT_size, putS_size]; clear e1 e2; omega
    have hk10 : 10 < k := by clear e1 e2; omega
    rw [hpt, het, hei, ← List.append_assoc] at hx
    simp only [flyleafref17_Build.l1]
    rw [if_pos c1, rput_u64 _ k hk10, Option.bind_some, if_pos q3, if_pos c0, hr, if_pos q1, if_pos q2, e2, mkS_num, mkS_end, e1]
    exact hx
/-- Behind the looks: built, or too large. -/
def okR (top : Int) (l0 l1 : List ByteArray) (l2 : List Pr) : Int × ByteArray × Int := if 1024 < (sizeN l0 l1 l2 : Int) ∨ top < (sizeN l0 l1 l2 : Int) then (0, ⟨#[]⟩, 11) else (top - sizeN l0 l1 l2, builtS top l0 l1 l2, 0)
theorem rb_end (top : Int) (h0 : 0 ≤ top) (h1 : top ≤ 262144) (l0 l1 : List ByteArray) (l2 : List Pr) (hl0 : Few l0) (hl1 : Few l1) (hl2 : l2.length ≤ 10) (k : Nat) (hk : 100 < k) :
    ((flyleafref17_Size.f k l0 l1 l2).bind fun t155 => (if t155 > 1024 then (flyleafref17_Build.j2 k top l0 l1 l2 t155 true) else (flyleafref17_Build.j2 k top l0 l1 l2 t155 (decide (t155 > top))))) = some (okR top l0 l1 l2) := by
  rw [rsize_told l0 l1 l2 hl0 hl1 hl2 k (by omega), Option.bind_some]
  obtain ⟨k, rfl⟩ : ∃ m, k = m + 1 := ⟨k - 1, by omega⟩
  have hs0 : textsN l0 + textsN l1 + 8 * (l0.length + l1.length) + 16 * l2.length + 40 ≤ sizeN l0 l1 l2 := by unfold sizeN; omega
  by_cases c1 : (sizeN l0 l1 l2 : Int) > 1024
  · rw [if_pos c1, okR, if_pos (.inl c1)]
    simp only [flyleafref17_Build.j2]
    rfl
  · rw [if_neg c1]
    by_cases c2 : (sizeN l0 l1 l2 : Int) > top
    · rw [decide_eq_true c2, okR, if_pos (.inr c2)]
      simp only [flyleafref17_Build.j2]
      rfl
    · rw [decide_eq_false c2, okR, if_neg (fun h => h.elim c1 c2)]
      have t0 := hl0.texts
      have t1 := hl1.texts
      have a0 := hl0.len
      have a1 := hl1.len
      generalize hN : sizeN l0 l1 l2 = n at *
      have e1 : wrap64 (wrap64 (top - (textsN l0 : Int)) - (textsN l1 : Int)) = at0 top l0 l1 := by
        rw [wid (x := top - (textsN l0 : Int)) (by omega) (by omega), wid (by omega) (by omega), at0]
      obtain ⟨R, hR⟩ : ∃ R : Int × ByteArray × Int, R = (top - (n : Int), fillS (mkS (numB ([(l0.length : Int)] ++ places (at0 top l0 l1) l0 ++ [0] ++ places (at0 top l0 l1 + textsN l0) l1 ++ [0] ++ pairL (l2 ++ [zPr])))) ((n : Int) - ((endL l0 ++ endL l1).length : Int)) ++ mkS (endL l0 ++ endL l1), 0) := ⟨_, rfl⟩
      have h3 : ∀ k, l2.length + 20 < k → flyleafref17_Build.l3 k top l2 n (mkS (numB ([(l0.length : Int)] ++ places (at0 top l0 l1) l0 ++ [0] ++ places (at0 top l0 l1 + textsN l0) l1 ++ [0] ++ pairL (l2.take 0)))) (mkS (endL l0 ++ endL l1)) ((0 : Nat) : Int) = some R := fun k hk => by
        rw [hR]
        exact rb_l3 top l2 hl2 n (by omega) (by omega) h1 ([(l0.length : Int)] ++ places (at0 top l0 l1) l0 ++ [0] ++ places (at0 top l0 l1 + textsN l0) l1 ++ [0]) (by simp [places_length]; omega) (endL l0 ++ endL l1) (by simp only [List.length_append, places_length, List.length_singleton]; rw [show (endL l0).length = textsN l0 from rfl, show (endL l1).length = textsN l1 from rfl]; omega) l2.length k 0 (by omega) hk
      have h2 := fun k hk => rb_l2 top l1 hl1 l2 n (by omega) (by omega) h1 (at0 top l0 l1 + textsN l0) (by unfold at0; omega) (by unfold at0; omega) ([(l0.length : Int)] ++ places (at0 top l0 l1) l0 ++ [0]) (by simp [places_length]; omega) (endL l0) (by rw [show (endL l0).length = textsN l0 from rfl]; omega) R (l2.length + 21) (by omega)
        (fun k hk => by have := h3 k (by omega); simpa [pairL] using this) l1.length k 0 (by omega) hk
      have hz := fun k hk => rb_l1 top l0 hl0 l1 l2 n (by omega) (by omega) h1 (at0 top l0 l1) (by unfold at0; omega) (by unfold at0; omega) [(l0.length : Int)] (by simp) R (l1.length + (l2.length + 21) + 1) (by omega)
        (fun k hk => by have := h2 k (by omega); simpa [places, endL, textsN_nil] using this) l0.length k 0 (by omega) hk
      have hz' := hz k (by clear e1; omega)
      simp only [flyleafref17_Build.j2]
      rw [if_neg (by simp), rtexts_told l0 hl0 k (by clear e1; omega), Option.bind_some, rtexts_told l1 hl1 k (by clear e1; omega), Option.bind_some, rput_u64 _ k (by clear e1; omega), Option.bind_some, e1]
      have ep : putS (IntKind.u64.wrap (l0.length : Int)) 8 = mkS (numB [(l0.length : Int)]) := by rw [numB_one]; rfl
      rw [ep]
      have eb : builtS top l0 l1 l2 = fillS (mkS (numB ([(l0.length : Int)] ++ places (at0 top l0 l1) l0 ++ [0] ++ places (at0 top l0 l1 + textsN l0) l1 ++ [0] ++ pairL (l2 ++ [zPr])))) ((n : Int) - ((endL l0 ++ endL l1).length : Int)) ++ mkS (endL l0 ++ endL l1) := by
        rw [builtS, numsOf, numsTo, hN, endTo2, if_neg (by decide), if_neg (by decide)]
        simp only [List.append_assoc]
        rfl
      rw [eb, ← hR]
      have hz2 : flyleafref17_Build.l1 k top l0 l1 l2 (n : Int) (at0 top l0 l1) (mkS (numB [(l0.length : Int)])) (mkS []) ((0 : Nat) : Int) = some R := by
        simpa [places, endL, textsN_nil] using hz'
      exact hz2
theorem rb_l0 (top : Int) (h0 : 0 ≤ top) (h1 : top ≤ 262144) (l0 l1 : List ByteArray) (l2 : List Pr) (hl0 : Few l0) (hl1 : Few l1) (hl2 : l2.length ≤ 10) (d : Nat) : ∀ k i : Nat, i + d = l2.length → d + 101 < k → 
    flyleafref17_Build.l0 k top l0 l1 l2 i = some (if (l2.drop i).all pairOk = true then okR top l0 l1 l2 else (0, ⟨#[]⟩, 1)) := by
  induction d with
  | zero =>
    intro k i hi hk
    obtain ⟨k, rfl⟩ : ∃ m, k = m + 1 := ⟨k - 1, by omega⟩
    simp only [flyleafref17_Build.l0]
    rw [if_neg (by omega), rb_end top h0 h1 l0 l1 l2 hl0 hl1 hl2 k (by omega), List.drop_eq_nil_of_le (by omega)]
    rfl
  | succ d ih =>
    intro k i hi hk
    obtain ⟨k, rfl⟩ : ∃ m, k = m + 1 := ⟨k - 1, by omega⟩
    have hil : i < l2.length := by omega
    have hx := ih k (i + 1) (by omega) (by omega)
    have hr : rd_T48 l2 (i : Int) = l2.getD i zPr := by simp [rd_T48]
    have hd : (l2.drop i).all pairOk = (pairOk (l2.getD i zPr) && (l2.drop (i + 1)).all pairOk) := by
      rw [List.drop_eq_getElem_cons hil, List.all_cons, List.getD_eq_getElem?_getD, List.getElem?_eq_getElem hil]
      rfl
    have e1 : wrap64 ((i : Int) + 1) = ((i + 1 : Nat) : Int) := by rw [wid (by omega) (by omega)]; omega
    simp only [flyleafref17_Build.l0]
    rw [if_pos (by omega), if_pos (by omega), hr, e1, hx, hd]
    generalize l2.getD i zPr = x
    clear e1 hx
    by_cases p1 : x.f0 < 1
    · rw [if_pos p1, show pairOk x = false from by simp [pairOk]; omega]
      rfl
    · rw [if_neg p1]
      by_cases p2 : x.f0 > 1099511627776
      · rw [if_pos p2, show pairOk x = false from by simp [pairOk]; omega]
        rfl
      · rw [if_neg p2]
        by_cases p3 : x.f1 < 0
        · rw [if_pos p3, show pairOk x = false from by simp [pairOk]; omega]
          rfl
        · rw [if_neg p3]
          by_cases p4 : x.f1 > 1099511627776
          · rw [if_pos p4, show pairOk x = false from by simp [pairOk]; omega]
            rfl
          · rw [if_neg p4, show pairOk x = true from by simp [pairOk]; omega, Bool.true_and]
/-- The document's answer. -/
theorem refBuild_told (top : Int) (l0 l1 : List ByteArray) (l2 : List Pr) (hl0 : Few l0) (hl1 : Few l1) (hl2 : l2.length ≤ 10) (k : Nat) (hk : 700 < k) : flyleafref17_Build.f k top l0 l1 l2 = some (buildR top l0 l1 l2) := by
  unfold flyleafref17_Build.f
  rw [rplain_told l0 hl0 k (by omega), Option.bind_some, rplain_told l1 hl1 k (by omega), Option.bind_some]
  obtain ⟨k, rfl⟩ : ∃ m, k = m + 1 := ⟨k - 1, by omega⟩
  simp only [flyleafref17_Build.j0]
  have hm : mayB l0 l1 l2 = (!(l0.any has0) && !(l1.any has0) && l2.all pairOk) := by simp [mayB, okTo]
  by_cases p1 : top < 0
  · rw [if_pos p1]
    show some ((0 : Int), (⟨#[]⟩ : ByteArray), (1 : Int)) = _
    rw [buildR, if_pos (.inl p1)]
  · rw [if_neg p1]
    by_cases p2 : top > 262144
    · rw [if_pos p2]
      show some ((0 : Int), (⟨#[]⟩ : ByteArray), (1 : Int)) = _
      rw [buildR, if_pos (.inr (.inl p2))]
    · rw [if_neg p2, Int.tmod_eq_emod_of_nonneg (by omega)]
      by_cases p3 : top % 16 = 0
      · rw [if_pos p3]
        cases a : l0.any has0 with
        | true =>
          show some ((0 : Int), (⟨#[]⟩ : ByteArray), (1 : Int)) = _
          rw [buildR, if_pos (.inr (.inr (.inr (by rw [hm, a]; rfl))))]
        | false =>
          cases b : l1.any has0 with
          | true =>
            show some ((0 : Int), (⟨#[]⟩ : ByteArray), (1 : Int)) = _
            rw [buildR, if_pos (.inr (.inr (.inr (by rw [hm, a, b]; rfl))))]
          | false =>
            have hz := rb_l0 top (by omega) (by omega) l0 l1 l2 hl0 hl1 hl2 l2.length k 0 (by omega) (by omega)
            rw [List.drop_zero] at hz
            have hz' : flyleafref17_Build.l0 k top l0 l1 l2 0 = _ := hz
            show flyleafref17_Build.l0 k top l0 l1 l2 0 = _
            rw [hz']
            cases c : l2.all pairOk with
            | true =>
              rw [buildR, if_neg (show ¬ (top < 0 ∨ 262144 < top ∨ top % 16 ≠ 0 ∨ mayB l0 l1 l2 = false) by rw [hm, a, b, c]; simp; omega)]
              rfl
            | false =>
              rw [buildR, if_pos (show (top < 0 ∨ 262144 < top ∨ top % 16 ≠ 0 ∨ mayB l0 l1 l2 = false) by rw [hm, a, b, c]; simp)]
              rfl
      · rw [if_neg p3]
        show some ((0 : Int), (⟨#[]⟩ : ByteArray), (1 : Int)) = _
        rw [buildR, if_pos (.inr (.inr (.inl p3)))]
end Go.Proofs.Ytokilodeihocjaa.Pure
