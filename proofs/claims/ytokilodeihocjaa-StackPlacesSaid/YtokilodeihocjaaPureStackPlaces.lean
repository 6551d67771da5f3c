/- StackPlaces in plain numbers: each text's place is where its letters stand, for every input. -/
import Derived.Test.YtokilodeihocjaaBxFlyleaflaw17StackPlaces
import Derived.Test.YtokilodeihocjaaPureBuilt
import Derived.Test.YtokilodeihocjaaPureRest
import Derived.Lib.Hide
namespace Go.Proofs.Ytokilodeihocjaa.Pure
open Go.ChangeShapes Go.RowKit Go.Proofs.Ytokilodeihocjaa.A Go.Proofs.Ytokilodeihocjaa.H Go.Proofs.Flat Go.Proofs.YtokilodeihocjaaW.PrintWords Go.Proofs.YtokilodeihocjaaW.PrintLast Go.Proofs.YtokilodeihocjaaW.PrintMore
set_option linter.unusedVariables false
set_option linter.unusedSimpArgs false
/-- Few short texts without a byte 0. -/
structure Short (L : List ByteArray) : Prop where
  len : L.length ≤ 8
  s : ∀ x, x ∈ L → has0 x = false ∧ x.size < 20
theorem textsN_short (L : List ByteArray) (h : ∀ x, x ∈ L → has0 x = false ∧ x.size < 20) : textsN L ≤ 20 * L.length := by
  induction L with
  | nil => exact Nat.le_refl _
  | cons a L ih =>
    have h1 := ih fun x hx => h x (List.mem_cons_of_mem _ hx)
    have h2 := (h a List.mem_cons_self).2
    rw [textsN_cons, List.length_cons]
    omega
theorem not0 {x : ByteArray} (h : has0 x = false) : (0 : UInt8) ∉ bytesL x := by
  intro hm
  have : has0 x = true := by
    show (bytesL x).contains 0 = true
    simpa using hm
  rw [h] at this
  cases this
/-- What is known of the stack. -/
structure Blt (L : List ByteArray) (t : Int) (n : Nat) (b : ByteArray) : Prop where
  size : b.size = n
  le : n ≤ 1024
  t0 : (n : Int) ≤ t
  t1 : t ≤ 100000
  head : At b 0 L.length 8
  arg : ∀ i : Nat, i < L.length → At b (8 * ((1 + i : Nat) : Int)) (t - textsN (L.drop i)) 8
  low : textsN L ≤ n
  text : ∀ i : Nat, i < L.length → ∃ pre post, bytesL b = pre ++ bytesL (L.getD i ByteArray.empty) ++ 0 :: post ∧ pre.length + textsN (L.drop i) = n
theorem blt_of (L : List ByteArray) (t : Int) (hn : sizeN L [] [] ≤ 1024) (h0 : (sizeN L [] [] : Int) ≤ t) (h1 : t ≤ 100000) (hl : L.length ≤ 8) : Blt L t (sizeN L [] []) (builtS t L [] []) := by
  obtain ⟨z, hb, hz⟩ := built_L t L [] []
  have hx : textsN [] = 0 := rfl
  have he : endL [] = [] := rfl
  simp only [List.length_nil, hx, he, List.append_nil] at hz hb
  rw [List.append_assoc] at hb
  refine ⟨builtS_size _ _ _ _, hn, h0, h1, ?_, fun i hi => ?_, by omega, fun i hi => ?_⟩
  · exact num_at hb 0 _ (nums_head ..) (by omega) (by omega)
  · have := textsN_split L i
    exact num_at hb (1 + i) _ (by rw [nums_arg _ _ _ _ i hi, at0, hx]; congr 1; omega) (by omega) (by omega)
  · have hsp := textsN_split L i
    have hdr : textsN (L.take i) = (endL (L.take i)).length := rfl
    refine ⟨numB (numsOf t L [] []) ++ List.replicate z 0 ++ endL (L.take i), endL (L.drop (i + 1)), ?_, ?_⟩
    · rw [hb, endL_split L i hi]
      simp only [List.append_assoc]
    · rw [List.length_append, List.length_append, numB_length, numsOf_length, List.length_replicate, ← hdr]
      simp only [List.length_nil]
      omega
theorem pl_wraps (t : Int) (n j xs D D1 P : Nat) (hj : j < 8) (hle : n ≤ 1024) (h0 : (n : Int) ≤ t) (h1 : t ≤ 100000) (hd : D = xs + 1 + D1) (hp : P + D = n) :
    wrap64 ((j : Int) + 1) = (j : Int) + 1 ∧ wrap64 (8 * ((j : Int) + 1)) = 8 * ((1 + j : Nat) : Int) ∧ wrap64 (t - (D1 : Int) - (xs : Int)) = t - (D1 : Int) - (xs : Int) ∧ wrap64 (t - (D1 : Int) - (xs : Int) - 1) = t - (D : Int) ∧
    wrap64 (t - (D : Int)) = t - (D : Int) ∧ wrap64 (t - (D : Int) - (t - (n : Int))) = (P : Int) ∧ wrap64 ((j : Int) - 1) = (j : Int) - 1 := by
  refine ⟨wid (by omega) (by omega), ?_, wid (by omega) (by omega), ?_, wid (by omega) (by omega), ?_, wid (by omega) (by omega)⟩
  · rw [wid (by omega) (by omega)]; omega
  · rw [wid (by omega) (by omega)]; omega
  · rw [wid (by omega) (by omega)]; omega
theorem pl_l2 (L : List ByteArray) (hS : Short L) (t : Int) (n : Nat) (b : ByteArray) (h : Blt L t n b) : ∀ (j k : Nat), j ≤ L.length → 3 * j + 100 < k →
    flyleaflaw17_StackPlaces.l2 k true L (t - n) b (t - textsN (L.drop j)) ((j : Int) - 1) = some true := by
  have hbs : b.size ≤ 140737488355328 := by rw [h.size]; have := h.le; omega
  have hlen := hS.len
  have hle := h.le
  have hlow := h.low
  have ht0 := h.t0
  have ht1 := h.t1
  intro j
  induction j with
  | zero =>
    intro k _ hk
    obtain ⟨k, rfl⟩ : ∃ q, k = q + 1 := ⟨k - 1, by omega⟩
    simp only [flyleaflaw17_StackPlaces.l2]
    have hg := refGet_at hbs h.head (by omega) (by omega) k (by omega)
    rw [if_neg (by omega), hg]
    simp only [Option.bind_some]
    rw [if_pos trivial, wid (by omega) (by omega)]
    simp
  | succ j ih =>
    intro k hj hk
    obtain ⟨k, rfl⟩ : ∃ q, k = q + 2 := ⟨k - 2, by omega⟩
    have hjl : j < L.length := by omega
    obtain ⟨pre, post, hb, hp⟩ := h.text j hjl
    have ha := h.arg j hjl
    have hmem : L.getD j ByteArray.empty ∈ L := by rw [List.getD_eq_getElem?_getD, List.getElem?_eq_getElem hjl]; exact List.getElem_mem hjl
    obtain ⟨hx0, hxs⟩ := hS.s _ hmem
    have hd : textsN (L.drop j) = (L.getD j ByteArray.empty).size + 1 + textsN (L.drop (j + 1)) := by
      rw [List.drop_eq_getElem_cons hjl, textsN_cons, List.getD_eq_getElem?_getD, List.getElem?_eq_getElem hjl]
      rfl
    have hsp := textsN_split L j
    have hr : rdOf ByteArray.empty L (j : Int) = L.getD j ByteArray.empty := by rw [rdOf, Int.toNat_natCast]
    generalize hX : L.getD j ByteArray.empty = x at *
    have hn0 := not0 hx0
    have c0 : ((j + 1 : Nat) : Int) - 1 = (j : Int) := by omega
    have c1 : (j : Int) ≥ 0 := by omega
    have c2 : (j : Int) < (L.length : Int) := by omega
    have hg := refGet_at hbs ha (by omega) (by omega) (k + 1) (by omega)
    have htx := refText_at hb hn0 hbs (most := 1024) (by rw [bytesL_length]; omega) k (by rw [bytesL_length]; omega)
    have hih := ih k (by omega) (by omega)
    obtain ⟨e1, e2, e3, e4, e5, e6, e7⟩ := pl_wraps t n j x.size (textsN (L.drop j)) (textsN (L.drop (j + 1))) pre.length (by omega) hle ht0 ht1 hd hp
    simp only [flyleaflaw17_StackPlaces.l2]
    rw [c0, if_pos c1, if_pos c1, if_pos c2, e1, e2, hg]
    simp only [Option.bind_some]
    rw [if_pos trivial, hr, e3, e4, e5, bne_self_eq_false]
    simp only [flyleaflaw17_StackPlaces.j5]
    rw [if_neg (by simp), e6, htx]
    simp only [Option.bind_some]
    rw [if_pos trivial, if_pos c1, if_pos c2, hr, if_pos (by rw [show (⟨(bytesL x).toArray⟩ : ByteArray) = x from rfl]), e7]
    exact hih
theorem pl_rest (L : List ByteArray) (hS : Short L) (t : Int) (h0 : 2048 ≤ t) (h1 : t ≤ 4096) (h2 : t % 16 = 0) (l1 : List Int) (i : Int) (k : Nat) (hk : 200 < k) : flyleaflaw17_StackPlaces.j1 k l1 true t L i false = some true := by
  have hlen := hS.len
  have htx := textsN_short L hS.s
  have hs : sizeN L [] [] ≤ 1024 := by
    rw [sizeN, show textsN [] = 0 from rfl]
    simp only [List.length_nil]
    omega
  obtain ⟨k, rfl⟩ : ∃ q, k = q + 2 := ⟨k - 2, by omega⟩
  have hmay : mayB L [] [] = true := mayB_of _ _ _ (fun s hs => (hS.s s hs).1) (by simp) (by simp)
  have hb := Build_ok (top := t) (lowL_of (by omega) : lowL L) (lowL_of (by decide) : lowL []) (show ([] : List Pr).length ≤ 8796093022208 by decide) (by omega) (by omega) h2 hmay hs (by omega)
  have hB := blt_of L t hs (by omega) (by omega) hlen
  have hsz := builtS_size t L [] []
  have hz := pl_l2 L hS t _ _ hB L.length k (Nat.le_refl _) (by omega)
  rw [List.drop_length, show textsN [] = 0 from rfl] at hz
  simp only [flyleaflaw17_StackPlaces.j1]
  rw [if_neg (by simp), hb]
  simp only [Option.bind_some]
  generalize builtS t L [] [] = b at *
  generalize sizeN L [] [] = n at *
  clear hb hmay
  have e1 : wrap64 (t - (t - (n : Int))) = (n : Int) := by clear hz hB; rw [wid (by omega) (by omega)]; omega
  have e2 : wrap64 ((L.length : Int) - 1) = (L.length : Int) - 1 := by clear hz hB e1; exact wid (by omega) (by omega)
  rw [if_pos trivial, e1, hsz, bne_self_eq_false]
  simp only [flyleaflaw17_StackPlaces.j3]
  rw [if_neg (by simp), e2]
  simpa using hz
theorem pl_chr (i : Nat) (hi8 : i < 8) : ((97 + i).toUInt8 ≠ 0) ∧ (strOfNums [wrap64 (97 + (i : Int)) % 256]).size = 1 ∧ wrap64 ((i : Int) + 1) = (i : Int) + 1 ∧ ∀ q, repS (97 + i).toUInt8 q ++ strOfNums [wrap64 (97 + (i : Int)) % 256] = repS (97 + i).toUInt8 (q + 1) := by
  have e : strOfNums [wrap64 (97 + (i : Int)) % 256] = ⟨#[(97 + i).toUInt8]⟩ := by
    rw [wid (by omega) (by omega), show (97 + (i : Int)) % 256 = ((97 + i : Nat) : Int) from by omega]
    rfl
  refine ⟨?_, by rw [e]; rfl, wid (by omega) (by omega), fun q => by rw [e, repS_succ]⟩
  obtain rfl | rfl | rfl | rfl | rfl | rfl | rfl | rfl : i = 0 ∨ i = 1 ∨ i = 2 ∨ i = 3 ∨ i = 4 ∨ i = 5 ∨ i = 6 ∨ i = 7 := by omega
  all_goals decide
theorem pl_l1 (L : List ByteArray) (l1 : List Int) (t : Int) (i : Nat) (hi : i < l1.length) (hi8 : i < 8) (hL : L.length = i) (n : Nat) (hn : n < 20) (hr : Int.tmod (wrap64 (Int.tmod (rd l1 i) 20 + 20)) 20 = n) (M : Nat)
    (hnext : ∀ k, M ≤ k → flyleaflaw17_StackPlaces.l0 k l1 true t (L ++ [repS (97 + i).toUInt8 n]) ((i : Int) + 1) = some true) (d : Nat) : ∀ k q : Nat, q + d = n → d + M < k →
    flyleaflaw17_StackPlaces.l1 k l1 true t L i (repS (97 + i).toUInt8 q) q = some true := by
  obtain ⟨_, hz, e2, hc⟩ := pl_chr i hi8
  have c0 : 0 ≤ (i : Int) := by omega
  have c1 : (i : Int) < (l1.length : Int) := by omega
  have c2 : L.length < 8796093022208 := by omega
  clear hi hi8
  induction d with
  | zero =>
    intro k q hq hk
    obtain ⟨k, rfl⟩ : ∃ q, k = q + 1 := ⟨k - 1, by omega⟩
    obtain rfl : q = n := by omega
    have hx := hnext k (by omega)
    simp only [flyleaflaw17_StackPlaces.l1]
    rw [if_pos c0, if_pos c1, hr, if_neg (Int.lt_irrefl _), if_pos c2, e2]
    exact hx
  | succ d ih =>
    intro k q hq hk
    obtain ⟨k, rfl⟩ : ∃ q, k = q + 1 := ⟨k - 1, by omega⟩
    have hx := ih k (q + 1) (by omega) (by omega)
    have c3 : (q : Int) < (n : Int) := by omega
    have c4 : q + 1 ≤ 9223372036854775807 := by omega
    have e1 : wrap64 ((q : Int) + 1) = ((q + 1 : Nat) : Int) := by clear hr hz e2; rw [wid (by omega) (by omega)]; omega
    simp only [flyleaflaw17_StackPlaces.l1]
    rw [if_pos c0, if_pos c1, hr, if_pos c3]
    simp only [Option.bind_some]
    rw [if_pos (by rw [repS_size, hz]; exact c4), e1, hc]
    exact hx
theorem pl_l0 (l1 : List Int) (hl1 : l1.length ≤ maxLen) (hw : ∀ x ∈ l1, (Lit.int .i64 x).wf = true) (t : Int) (h0 : 2048 ≤ t) (h1 : t ≤ 4096) (h2 : t % 16 = 0) (d : Nat) : ∀ (L : List ByteArray) (k : Nat), Short L → L.length + d = 8 → 40 * d + 300 < k →
    flyleaflaw17_StackPlaces.l0 k l1 true t L L.length = some true := by
  induction d with
  | zero =>
    intro L k hS hL hk
    obtain ⟨k, rfl⟩ : ∃ q, k = q + 1 := ⟨k - 1, by omega⟩
    simp only [flyleaflaw17_StackPlaces.l0]
    rw [show decide ((L.length : Int) < 8) = false from decide_eq_false (by omega)]
    split <;> exact pl_rest L hS t h0 h1 h2 l1 _ k (by omega)
  | succ d ih =>
    intro L k hS hL hk
    obtain ⟨k, rfl⟩ : ∃ q, k = q + 2 := ⟨k - 2, by omega⟩
    simp only [flyleaflaw17_StackPlaces.l0]
    by_cases hlt : L.length < l1.length
    · rw [if_pos (by omega), decide_eq_true (show (L.length : Int) < 8 by omega)]
      have hmem : rd l1 (L.length : Int) ∈ l1 := by
        rw [rd, Int.toNat_natCast, List.getD_eq_getElem?_getD, List.getElem?_eq_getElem hlt]
        exact List.getElem_mem hlt
      have hb := bounds_i64 (hw _ hmem)
      have s0 : ∀ n : Nat, (n : Int) < 20 → n < 20 ∧ n + (40 * d + 300 + 1) < k := fun n hn => by omega
      have s8 : L.length < 8 := by omega
      have s9 : L.length + 1 + d = 8 := by omega
      obtain ⟨n, hn, en⟩ := rest_of hb.1 hb.2 (show (0 : Int) < 20 by decide) (by decide)
      simp only [flyleaflaw17_StackPlaces.j1]
      rw [if_pos trivial]
      have hc0 := (pl_chr L.length s8).1
      obtain ⟨sn, sk⟩ := s0 n hn
      have EN := Lib.hid en
      clear en hb hn
      have hS' : Short (L ++ [repS (97 + L.length).toUInt8 n]) := by
        refine ⟨by simp; omega, fun x hx => ?_⟩
        rcases List.mem_append.1 hx with hx | hx
        · exact hS.s x hx
        · rw [List.mem_singleton.1 hx]
          exact ⟨repS_has0 _ _ hc0, by rw [repS_size]; omega⟩
      have hnext : ∀ k, 40 * d + 300 + 1 ≤ k → flyleaflaw17_StackPlaces.l0 k l1 true t (L ++ [repS (97 + L.length).toUInt8 n]) ((L.length : Int) + 1) = some true := fun k hk => by
        have := ih (L ++ [repS (97 + L.length).toUInt8 n]) k hS' (by rw [List.length_append]; exact s9) hk
        rw [show ((L ++ [repS (97 + L.length).toUInt8 n]).length : Int) = (L.length : Int) + 1 from by simp] at this
        exact this
      have hz := pl_l1 L l1 t L.length hlt s8 rfl n sn EN.out (40 * d + 300 + 1) hnext n k 0 (Nat.zero_add n) sk
      show flyleaflaw17_StackPlaces.l1 k l1 true t L (L.length : Int) (repS (97 + L.length).toUInt8 0) ((0 : Nat) : Int) = some true
      exact hz
    · rw [if_neg (by omega)]
      exact pl_rest L hS t h0 h1 h2 l1 _ (k + 1) (by omega)
theorem StackPlaces : flyleaflaw17_StackPlaces.Pure := by
  intro a0 l1 h0 hl1 _ hw
  obtain ⟨k, hk⟩ : ∃ k : Nat, 700 < k := ⟨701, by decide⟩
  refine ⟨k, ?_⟩
  have e1 : wrap64 (16 * bits .and .i64 a0 63) = 16 * (a0 % 64) := by rw [and63]; exact wid (by omega) (by omega)
  have e2 : wrap64 (2048 + 16 * (a0 % 64)) = 2048 + 16 * (a0 % 64) := by clear e1; exact wid (by omega) (by omega)
  have hz := pl_l0 l1 hl1 hw (2048 + 16 * (a0 % 64)) (by clear e1 e2; omega) (by clear e1 e2; omega) (by clear e1 e2; omega) 8 [] k ⟨by decide, by simp⟩ rfl (by clear e1 e2; omega)
  unfold flyleaflaw17_StackPlaces.f
  rw [awake_told, e1, e2]
  simp only [Option.bind_some]
  exact hz
end Go.Proofs.Ytokilodeihocjaa.Pure
