/- ElfBack, in plain numbers: what was put together may be, and is parsed as it was written. -/
import Derived.Test.YtdlgfjefbjkdaaaPureCheck
import Derived.Test.YtdlgfjefbjkdaaaSame
import Derived.Test.YtdlgfjefbjkdaaaAxFlyleaflaw08Total
import Derived.Test.YtdlgfjefbjkdaaaBxFlyleaflaw08ElfBack
namespace Go.Proofs.Ytdlgfjefbjkdaaa.Pure
open Go.RowKit Go.Proofs.Ytdlgfjefbjkdaaa.A Go.Proofs.Ytdlgfjefbjkdaaa.H Go.Proofs.Flat Go.Proofs.YtdlgfjefbjkdaaaW.PrintWords Go.Proofs.YtdlgfjefbjkdaaaW.PrintLast Go.Proofs.YtdlgfjefbjkdaaaW.PrintMore
set_option linter.unusedVariables false
set_option linter.unusedSimpArgs false
theorem bytesL_take (s : ByteArray) (n : Nat) : bytesL (s.extract 0 n) = (bytesL s).take n := by
  unfold bytesL
  rw [ByteArray.data_extract, Array.toList_extract]
  simp [List.extract]
theorem segEq_refl (x : S32) : segEq x x = true := by simp [segEq]
theorem segsEq_refl (l : List S32) : segsEq l l = true := by
  unfold segsEq
  simp [segEq_refl]
theorem same_refl (kind entry : Int) (l : List S32) (h : l.length ≤ 5) : elf_Same.f kind entry l kind entry l = some true := by
  unfold elf_Same.f
  rw [if_pos (by omega), segsEq_refl]
  simp
theorem alike_pre {s hd : ByteArray} {rest : List UInt8} (h : bytesL s = bytesL hd ++ rest) : alikeB s hd = true := by
  have hl : s.size = hd.size + rest.length := by rw [← bytesL_length, ← bytesL_length, h, List.length_append]
  refine alike_all (by omega) fun j hj => ?_
  have e : bt s (j : Int) = bt hd (j : Int) := by
    rw [bt_list, bt_list, h, List.getD_eq_getElem?_getD, List.getD_eq_getElem?_getD, List.getElem?_append_left (by rw [bytesL_length]; exact hj)]
  unfold sameB
  rw [e]
  simp
theorem Img.fitS {kind entry size : Int} {l : List S32} (h : Img kind entry l size) : ∀ x ∈ l, fitS x := by
  obtain ⟨pg, hc, hp⟩ := h.ch
  intro x hx
  have hh := hc.fits (Int.le_refl _) hp rfl x hx
  unfold Pure.fitS
  rw [cl_id hh.1, cl_id hh.2.1, cl_id hh.2.2.1, cl_id hh.2.2.2.1, cl_id hh.2.2.2.2.1, cl_id hh.2.2.2.2.2.1, cl_id hh.2.2.2.2.2.2.1]
  omega
theorem Img.pos {kind entry size : Int} {l : List S32} (h : Img kind entry l size) : ∀ x ∈ l, 0 ≤ x.f0 ∧ 0 ≤ x.f1 ∧ 0 ≤ x.f2 ∧ 0 ≤ x.f3 ∧ 0 ≤ x.f4 ∧ 0 ≤ x.f5 ∧ 0 ≤ x.f6 := by
  obtain ⟨pg, hc, hp⟩ := h.ch
  intro x hx
  have hh := hc.fits (Int.le_refl _) hp rfl x hx
  omega
/-- An image's headers with anything behind are parsed; whether they may be, the size says. -/
theorem img_parse {kind entry size : Int} {l : List S32} (h : Img kind entry l size) (hl : l ≠ []) {s : ByteArray} {rest : List UInt8} (hs : bytesL s = headL kind entry l ++ rest) (hz : s.size ≤ 4096) (k : Nat) :
    elf_Parse.f (k + 40) s = some (if checkI kind entry l s.size = 0 then (kind, entry, l, 0) else (0, 0, [], 16)) := by
  have he := h.entry
  have h4 := h.len
  have hp : 0 < l.length := List.length_pos_iff.2 hl
  have ck : cl kind = kind := cl_id (by omega)
  have ce : cl entry = entry := cl_id he.2.1
  have := parse_is (s := s) (by omega) (head_at hs (by rw [ck]; omega) (by rw [ce]; omega) (by omega) h.fitS) (by rw [ck]; omega) (by rw [ce]; omega) h.fitS (by omega) (by omega) k
  rw [ck, ce, map_clS h.pos] at this
  rw [this]
  unfold parseI
  have ha : alikeB s ⟨(headL kind entry l).toArray⟩ = true := alike_pre (rest := rest) (by rw [bytesL_mk]; exact hs)
  rw [ha]
  rfl
theorem img_short {kind entry size : Int} {l : List S32} (h : Img kind entry l size) (hl : l ≠ []) {z : Int} (hz : z ≤ 1000) : ¬ checkI kind entry l z = 0 := by
  obtain ⟨pg, hc, hp⟩ := h.ch
  cases hc with
  | nil => exact absurd rfl hl
  | @cons s r _ _ p _ _ g c =>
  have : segOk s z = false := by
    cases hb : segOk s z
    · rfl
    · exfalso
      have := g.in0; have := g.off; have := g.sz0
      unfold segOk segB fiveB placedB win at hb
      rw [if_pos g.t] at hb
      simp only [Bool.and_eq_true, decide_eq_true_eq] at hb
      omega
  unfold checkI chk
  rw [if_pos this]
  split <;> decide
theorem total_loop {kind entry : Int} {l : List S32} (hb : ∀ x ∈ l, 0 ≤ x.f2 ∧ x.f2 ≤ 2100) (hl : l.length ≤ 4) : ∀ (n i k : Nat) (acc : Int), i + n = l.length → 0 ≤ acc → acc ≤ 2100 * i →
    ∃ T, flyleaflaw08_total.l0 (k + n + 1) acc i kind entry l = some T ∧ acc ≤ T ∧ (0 < n → acc + (rd_T32 l i).f2 ≤ T)
  | 0, i, k, acc, hi, h0, h1 => ⟨acc, by rw [flyleaflaw08_total.l0, if_neg (by omega)], Int.le_refl _, fun h => absurd h (by omega)⟩
  | n + 1, i, k, acc, hi, h0, h1 => by
    have hil : i < l.length := by omega
    have hx : rd_T32 l (i : Int) ∈ l := by
      unfold rd_T32
      rw [Int.toNat_natCast, List.getD_eq_getElem?_getD, List.getElem?_eq_getElem hil]
      exact List.getElem_mem hil
    have hf := hb _ hx
    obtain ⟨T, hT, hle, _⟩ := total_loop hb hl n (i + 1) k (acc + (rd_T32 l i).f2) (by omega) (by omega) (by omega)
    refine ⟨T, ?_, by omega, fun _ => hle⟩
    have e1 : wrap64 (acc + (rd_T32 l i).f2) = acc + (rd_T32 l i).f2 := w64 (by omega) (by omega)
    have e2 : wrap64 ((i : Int) + 1) = ((i + 1 : Nat) : Int) := by rw [w64 (by omega) (by omega)]; omega
    rw [show k + (n + 1) + 1 = (k + n + 1) + 1 by omega, flyleaflaw08_total.l0, if_pos (show (i : Int) < (l.length : Int) by omega), if_pos (show (0 : Int) ≤ (i : Int) by omega), e1, e2]
    exact hT
theorem Img.total {kind entry size : Int} {l : List S32} (h : Img kind entry l size) (hl : l ≠ []) (k : Nat) : ∃ T, flyleaflaw08_total.f (k + 5) kind entry l = some T ∧ 1024 ≤ T := by
  obtain ⟨pg, hc, hp⟩ := h.ch
  have hb : ∀ x ∈ l, 0 ≤ x.f2 ∧ x.f2 ≤ 2100 := fun x hx => by have := hc.fits (Int.le_refl _) hp rfl x hx; omega
  have h4 := h.len
  obtain ⟨T, hT, h0, h1⟩ := total_loop (kind := kind) (entry := entry) hb h.len l.length 0 (k + 4 - l.length) 0 (by omega) (Int.le_refl _) (by omega)
  refine ⟨T, ?_, ?_⟩
  · rw [show k + 4 - l.length + l.length + 1 = k + 5 by omega] at hT
    exact hT
  · have := h1 (List.length_pos_iff.2 hl)
    cases hc with
    | nil => exact absurd rfl hl
    | @cons s r _ _ p _ _ g c =>
      have e : rd_T32 (s :: r) ((0 : Nat) : Int) = s := rfl
      rw [e] at this
      have := g.off; have := g.in0
      omega
theorem back_loop {kind entry size : Int} {l : List S32} (h : Img kind entry l size) (hl : l ≠ []) (x1 : ByteArray) (h1 : x1.size ≤ 30) : ∀ (n k : Nat) (x8 : ByteArray) (J : List UInt8), bytesL x8 = headL kind entry l ++ J → (x8.size : Int) ≤ size + 40 → size - x8.size ≤ n →
    flyleaflaw08_ElfBack.l0 (k + 50 + n + 1) x1 true size x8 kind entry l = some true
  | n, k, x8, J, hx, hz, hn => by
    have ho := h.off
    have h4 := h.len
    have hH : (headL kind entry l).length ≤ 288 := by rw [headL_length]; omega
    by_cases c : (x8.size : Int) < size
    · cases n with
      | zero => exact absurd c (by omega)
      | succ n =>
        have e : bytesL (x8 ++ x1 ++ (⟨#[46]⟩ : ByteArray)) = headL kind entry l ++ (J ++ bytesL x1 ++ [46]) := by
          rw [bytesL_app, bytesL_app, hx]
          simp only [List.append_assoc]
          rfl
        have z : (x8 ++ x1 ++ (⟨#[46]⟩ : ByteArray)).size = x8.size + x1.size + 1 := by rw [ByteArray.size_append, ByteArray.size_append]; rfl
        have ih := back_loop h hl x1 h1 n k _ _ e (by rw [z]; omega) (by rw [z]; omega)
        rw [show k + 50 + (n + 1) + 1 = (k + 50 + n + 1) + 1 by omega, flyleaflaw08_ElfBack.l0, if_pos c, if_pos (by omega), if_pos (by rw [ByteArray.size_append]; omega)]
        exact ih
    · have hT : bytesL (x8.extract 0 size.toNat) = headL kind entry l ++ J.take (size.toNat - (headL kind entry l).length) := by
        rw [bytesL_take, hx, List.take_append, List.take_of_length_le (by omega)]
      have zT : (x8.extract 0 size.toNat).size = size.toNat := by rw [ByteArray.size_extract]; omega
      have hT2 : bytesL ((x8.extract 0 size.toNat).extract 0 1000) = headL kind entry l ++ (J.take (size.toNat - (headL kind entry l).length)).take (1000 - (headL kind entry l).length) := by
        rw [bytesL_take, hT, List.take_append, List.take_of_length_le (by omega)]
      have zT2 : ((x8.extract 0 size.toNat).extract 0 1000).size = 1000 := by rw [ByteArray.size_extract, zT]; omega
      have p1 := img_parse h hl hT (by omega) (k + 10 + n)
      have p2 := img_parse h hl hT2 (by omega) (k + 10 + n)
      rw [zT, show ((size.toNat : Nat) : Int) = size by omega, if_pos (img_ok h hl)] at p1
      rw [zT2, if_neg (img_short h hl (by omega))] at p2
      obtain ⟨T, hTt, hT1⟩ := h.total hl (k + 45 + n)
      have hc : elf_Check.f kind entry l size = some 0 := by unfold elf_Check.f; rw [if_pos (by omega), img_ok h hl]
      rw [show k + 50 + n + 1 = (k + 50 + n) + 1 by omega, flyleaflaw08_ElfBack.l0, if_neg c, if_pos (show 0 ≤ size by omega), if_pos (show size ≤ (x8.size : Int) by omega)]
      rw [show k + 10 + n + 40 = k + 50 + n by omega] at p1 p2
      rw [show k + 45 + n + 5 = k + 50 + n by omega] at hTt
      simp only [p1, Option.bind_some, if_pos (show (0 : Int) ≤ 1000 by decide), zT, if_pos (show (1000 : Int) ≤ ((size.toNat : Nat) : Int) by omega), p2, hc, if_true, same_refl kind entry l (by omega), hTt]
      have : (T == 0) = false := by simp; omega
      rw [this]
      rfl
theorem ElfBack (a0 a1 : Int) (qs : List S50) (hb : b24 ⟨a0, a1, qs⟩) (x1 : ByteArray) (hx : x1.size ≤ 140737488351232) : ∃ k, flyleaflaw08_ElfBack.f k a0 a1 qs x1 = some true := by
  obtain ⟨kind, entry, l, size, hl, hi, he⟩ := image_is a0 a1 qs
  have ho := hi.off
  have h4 := hi.len
  refine ⟨3000, ?_⟩
  unfold flyleaflaw08_ElfBack.f
  rw [awake_is 2700, show (3000 : Nat) = 2990 + 10 from rfl, he 2990]
  simp only [Option.bind_some]
  by_cases hn : l = []
  · subst hn
    have hc : elf_Check.f kind entry [] size = some 16 := by
      unfold elf_Check.f checkI
      rw [if_pos (by decide), if_pos]
      unfold badHead
      right; left
      decide
    simp [hc]
  · have hp : 0 < l.length := List.length_pos_iff.2 hn
    have hh : elf_Header.f kind entry l = some ⟨(headL kind entry l).toArray⟩ := by unfold elf_Header.f; rw [if_pos (by omega)]
    have hz : (⟨(headL kind entry l).toArray⟩ : ByteArray).size = 64 + 56 * l.length := by
      show (headL kind entry l).toArray.size = _
      rw [List.size_toArray, headL_length]
    rw [if_neg (show ¬ (l.length : Int) = 0 by omega), hh]
    simp only [Option.bind_some]
    have key : ∀ y : ByteArray, y.size ≤ 30 → flyleaflaw08_ElfBack.j0 3000 y true size ⟨(headL kind entry l).toArray⟩ kind entry l = some true := by
      intro y hy
      rw [show (3000 : Nat) = 2999 + 1 from rfl, flyleaflaw08_ElfBack.j0]
      exact back_loop hi hn y hy 2500 448 _ [] (by rw [bytesL_mk, List.append_nil]) (by rw [hz]; omega) (by rw [hz]; omega)
    by_cases c : (x1.size : Int) > 30
    · rw [if_pos c, if_pos (by decide), if_pos (by omega)]
      exact key _ (by rw [ByteArray.size_extract]; omega)
    · rw [if_neg c]
      exact key _ (by omega)
end Go.Proofs.Ytdlgfjefbjkdaaa.Pure
