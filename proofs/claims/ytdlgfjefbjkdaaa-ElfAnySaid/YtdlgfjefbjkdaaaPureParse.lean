/- A header that was written is parsed as it was written, in plain numbers. -/
import Derived.Test.YtdlgfjefbjkdaaaPureGet
import Derived.Test.YtdlgfjefbjkdaaaCheckDefs
import Derived.Test.YtdlgfjefbjkdaaaAlike
import Derived.Test.YtdlgfjefbjkdaaaBxElfParse
namespace Go.Proofs.Ytdlgfjefbjkdaaa.Pure
open Go.RowKit Go.Proofs.Ytdlgfjefbjkdaaa.A Go.Proofs.Ytdlgfjefbjkdaaa.H Go.Proofs.Flat Go.Proofs.YtdlgfjefbjkdaaaW.PrintWords Go.Proofs.YtdlgfjefbjkdaaaW.PrintLast Go.Proofs.YtdlgfjefbjkdaaaW.PrintMore
set_option linter.unusedVariables false
set_option linter.unusedSimpArgs false
def cl (n : Int) : Int := mx n 0
theorem cl_ge (n : Int) : 0 ≤ cl n := by unfold cl mx; split <;> omega
theorem cl_id {n : Int} (h : 0 ≤ n) : cl n = n := by unfold cl mx; split <;> omega
def clS (s : S32) : S32 := ⟨cl s.f0, cl s.f1, cl s.f2, cl s.f3, cl s.f4, cl s.f5, cl s.f6⟩
/-- What may be written and read again. -/
def fitS (s : S32) : Prop := cl s.f0 < 4294967296 ∧ cl s.f1 < 4294967296 ∧ cl s.f2 ≤ 1099511627776 ∧ cl s.f3 ≤ 1099511627776 ∧ cl s.f4 ≤ 1099511627776 ∧ cl s.f5 ≤ 1099511627776 ∧ cl s.f6 ≤ 1099511627776
structure AtS (s : ByteArray) (o : Int) (x : S32) : Prop where
  a0 : At s o (cl x.f0) 4
  a1 : At s (o + 4) (cl x.f1) 4
  a2 : At s (o + 8) (cl x.f2) 8
  a3 : At s (o + 16) (cl x.f3) 8
  a4 : At s (o + 32) (cl x.f4) 8
  a5 : At s (o + 40) (cl x.f5) 8
  a6 : At s (o + 48) (cl x.f6) 8
structure AtH (s : ByteArray) (kind entry : Int) (l : List S32) : Prop where
  k : At s 16 (cl kind) 2
  e : At s 24 (cl entry) 8
  n : At s 56 l.length 2
  sg : ∀ i : Nat, i < l.length → AtS s (64 + 56 * i) (l.getD i z32)
theorem putL (n : Int) (m : Nat) : (bytesL (putN n m)).length = m := by rw [bytesL_length, putN_size]
theorem at_cl {s : ByteArray} {pre post : List UInt8} {n o : Int} {m : Nat} (h : bytesL s = pre ++ bytesL (putN n m) ++ post) (hn : cl n < 18446744073709551616) (ho : (pre.length : Int) = o) : At s o (cl n) m := by
  have := at_of h
  rw [ho, show mx n 0 = cl n from rfl, wu64 (cl_ge n) hn] at this
  exact this
theorem head_at {s : ByteArray} {kind entry : Int} {l : List S32} {rest : List UInt8} (h : bytesL s = headL kind entry l ++ rest) (hk : cl kind < 65536) (he : cl entry ≤ 1099511627776) (hl : l.length < 65536) (hf : ∀ x ∈ l, fitS x) : AtH s kind entry l := by
  have f12 : bytesL (fillS emptyS 12) = List.replicate 12 0 := fill_empty 12
  have f6 : bytesL (fillS emptyS 6) = List.replicate 6 0 := fill_empty 6
  have m16 : (bytesL magicS).length = 16 := rfl
  unfold headL head1 head2 head3 at h
  simp only [bytesL_app, f12, f6] at h
  refine ⟨?_, ?_, ?_, ?_⟩
  · exact at_cl (pre := bytesL magicS) (by rw [h]; simp only [List.append_assoc]; rfl) (by omega) (by rw [m16]; rfl)
  · refine at_cl (pre := bytesL magicS ++ bytesL (putN kind 2) ++ bytesL (putN 62 2) ++ bytesL (putN 1 4)) (by rw [h]; simp only [List.append_assoc]; rfl) (by omega) (by simp only [List.length_append, m16, putL]; rfl)
  · have e : cl (l.length : Int) = l.length := cl_id (by omega)
    have := at_cl (s := s) (n := (l.length : Int)) (m := 2) (o := 56) (pre := bytesL magicS ++ bytesL (putN kind 2) ++ bytesL (putN 62 2) ++ bytesL (putN 1 4) ++ bytesL (putN entry 8) ++ bytesL (putN 64 8) ++ List.replicate 12 0 ++ bytesL (putN 64 2) ++ bytesL (putN 56 2)) (by rw [h]; simp only [List.append_assoc]; rfl) (by rw [e]; omega) (by simp only [List.length_append, m16, putL, List.length_replicate]; rfl)
    rw [e] at this
    exact this
  · intro i hi
    have hx : l.getD i z32 ∈ l := by rw [List.getD_eq_getElem?_getD, List.getElem?_eq_getElem hi]; exact List.getElem_mem hi
    obtain ⟨h0, h1, h2, h3, h4, h5, h6⟩ := hf _ hx
    have hs : l = l.take i ++ l.getD i z32 :: l.drop (i + 1) := by
      rw [List.getD_eq_getElem?_getD, List.getElem?_eq_getElem hi]
      simp
    generalize l.getD i z32 = x at *
    have ht : (l.take i).length = i := by rw [List.length_take]; omega
    generalize l.take i = p at *
    generalize l.drop (i + 1) = q at *
    have hh : ∀ H : List UInt8, bytesL s = H ++ List.flatMap segL l ++ rest → H.length = 64 → AtS s (64 + 56 * i) x := by
      intro H hb h64
      rw [hs, List.flatMap_append, List.flatMap_cons] at hb
      have hp : (p.flatMap segL).length = 56 * i := by rw [flat_length, ht]
      generalize p.flatMap segL = P at *
      generalize q.flatMap segL = Q at *
      have e6 : segL x = bytesL (putN x.f0 4) ++ bytesL (putN x.f1 4) ++ bytesL (putN x.f2 8) ++ bytesL (putN x.f3 8) ++ bytesL (putN x.f3 8) ++ bytesL (putN x.f4 8) ++ bytesL (putN x.f5 8) ++ bytesL (putN x.f6 8) := by
        unfold segL
        rw [bytesL_app]
        simp [List.range_succ, six]
      rw [e6] at hb
      refine ⟨?_, ?_, ?_, ?_, ?_, ?_, ?_⟩
      · exact at_cl (pre := H ++ P) (by rw [hb]; simp only [List.append_assoc]; rfl) (by omega) (by simp only [List.length_append, h64, hp]; omega)
      · exact at_cl (pre := H ++ P ++ bytesL (putN x.f0 4)) (by rw [hb]; simp only [List.append_assoc]; rfl) (by omega) (by simp only [List.length_append, h64, hp, putL]; omega)
      · exact at_cl (pre := H ++ P ++ bytesL (putN x.f0 4) ++ bytesL (putN x.f1 4)) (by rw [hb]; simp only [List.append_assoc]; rfl) (by omega) (by simp only [List.length_append, h64, hp, putL]; omega)
      · exact at_cl (pre := H ++ P ++ bytesL (putN x.f0 4) ++ bytesL (putN x.f1 4) ++ bytesL (putN x.f2 8)) (by rw [hb]; simp only [List.append_assoc]; rfl) (by omega) (by simp only [List.length_append, h64, hp, putL]; omega)
      · exact at_cl (pre := H ++ P ++ bytesL (putN x.f0 4) ++ bytesL (putN x.f1 4) ++ bytesL (putN x.f2 8) ++ bytesL (putN x.f3 8) ++ bytesL (putN x.f3 8)) (by rw [hb]; simp only [List.append_assoc]; rfl) (by omega) (by simp only [List.length_append, h64, hp, putL]; omega)
      · exact at_cl (pre := H ++ P ++ bytesL (putN x.f0 4) ++ bytesL (putN x.f1 4) ++ bytesL (putN x.f2 8) ++ bytesL (putN x.f3 8) ++ bytesL (putN x.f3 8) ++ bytesL (putN x.f4 8)) (by rw [hb]; simp only [List.append_assoc]; rfl) (by omega) (by simp only [List.length_append, h64, hp, putL]; omega)
      · exact at_cl (pre := H ++ P ++ bytesL (putN x.f0 4) ++ bytesL (putN x.f1 4) ++ bytesL (putN x.f2 8) ++ bytesL (putN x.f3 8) ++ bytesL (putN x.f3 8) ++ bytesL (putN x.f4 8) ++ bytesL (putN x.f5 8)) (by rw [hb]; simp only [List.append_assoc]; rfl) (by omega) (by simp only [List.length_append, h64, hp, putL]; omega)
    exact hh _ h (by simp only [List.length_append, m16, putL, List.length_replicate])
/-- What Parse tells of a text with an image's headers. -/
def parseI (s : ByteArray) (kind entry : Int) (l : List S32) : Int × Int × List S32 × Int :=
  if checkI kind entry l s.size = 0 then (if alikeB s ⟨(headL kind entry l).toArray⟩ = true then (kind, entry, l, 0) else (0, 0, [], 16)) else (0, 0, [], 16)
theorem headL_length (kind entry : Int) (l : List S32) : (headL kind entry l).length = 64 + 56 * l.length := by
  unfold headL head1 head2 head3
  have f12 : bytesL (fillS emptyS 12) = List.replicate 12 0 := fill_empty 12
  have f6 : bytesL (fillS emptyS 6) = List.replicate 6 0 := fill_empty 6
  have m16 : (bytesL magicS).length = 16 := rfl
  simp only [bytesL_app, List.length_append, putL, f12, f6, m16, List.length_replicate, flat_length]
theorem parse_loop {s : ByteArray} {kind entry : Int} {l : List S32} (hs : s.size ≤ 140737488355328) (h : AtH s kind entry l) (hf : ∀ x ∈ l, fitS x) (hl : l.length ≤ 16) : ∀ (n i k : Nat), i + n = l.length →
    elf_Parse.l0 (k + n + 12) s l.length i (cl kind) (cl entry) ((l.map clS).take i) = some (parseI s (cl kind) (cl entry) (l.map clS))
  | 0, i, k, hi => by
    have e : (l.map clS).take i = l.map clS := List.take_of_length_le (by rw [List.length_map]; omega)
    rw [show k + 0 + 12 = k + 11 + 1 by omega, elf_Parse.l0, if_neg (by omega), e]
    unfold elf_Check.f elf_Header.f elf_alike.f parseI
    have hz : (⟨(headL (cl kind) (cl entry) (l.map clS)).toArray⟩ : ByteArray).size ≤ 140737488355328 := by
      show (headL (cl kind) (cl entry) (l.map clS)).toArray.size ≤ _
      rw [List.size_toArray, headL_length, List.length_map]; omega
    simp only [if_pos (show (l.map clS).length ≤ 2147483647 by rw [List.length_map]; omega), Option.bind_some, if_pos (And.intro hz hs)]
    split
    · split <;> rfl
    · rfl
  | n + 1, i, k, hi => by
    have hil : i < l.length := by omega
    have ha := h.sg i hil
    have hx : l.getD i z32 ∈ l := by rw [List.getD_eq_getElem?_getD, List.getElem?_eq_getElem hil]; exact List.getElem_mem hil
    have hd : (l.map clS).take (i + 1) = (l.map clS).take i ++ [clS (l.getD i z32)] := by
      rw [List.take_add_one, List.getElem?_map, List.getElem?_eq_getElem hil, List.getD_eq_getElem?_getD, List.getElem?_eq_getElem hil]
      rfl
    have ih := parse_loop hs h hf hl n (i + 1) k (by omega)
    rw [hd] at ih
    have c1 : (i : Int) < l.length := by omega
    have c2 : ((l.map clS).take i).length < 2513169434916 := by rw [List.length_take, List.length_map]; omega
    obtain ⟨f0, f1, f2, f3, f4, f5, f6⟩ := hf _ hx
    generalize l.getD i z32 = x at *
    have g0 : elf_get.f (k + n + 12) s (64 + 56 * (i : Int)) 4 = some (cl x.f0) := get_at hs (by omega) (by omega) ha.a0 (cl_ge _) (show cl x.f0 < 256 ^ 4 by simp only [Int.reducePow]; omega) (by omega) (k + n + 7)
    have g1 : elf_get.f (k + n + 12) s (64 + 56 * (i : Int) + 4) 4 = some (cl x.f1) := get_at hs (by omega) (by omega) ha.a1 (cl_ge _) (show cl x.f1 < 256 ^ 4 by simp only [Int.reducePow]; omega) (by omega) (k + n + 7)
    have g2 : elf_get.f (k + n + 12) s (64 + 56 * (i : Int) + 8) 8 = some (cl x.f2) := get_at hs (by omega) (by omega) ha.a2 (cl_ge _) (show cl x.f2 < 256 ^ 8 by simp only [Int.reducePow]; omega) f2 (k + n + 3)
    have g3 : elf_get.f (k + n + 12) s (64 + 56 * (i : Int) + 16) 8 = some (cl x.f3) := get_at hs (by omega) (by omega) ha.a3 (cl_ge _) (show cl x.f3 < 256 ^ 8 by simp only [Int.reducePow]; omega) f3 (k + n + 3)
    have g4 : elf_get.f (k + n + 12) s (64 + 56 * (i : Int) + 32) 8 = some (cl x.f4) := get_at hs (by omega) (by omega) ha.a4 (cl_ge _) (show cl x.f4 < 256 ^ 8 by simp only [Int.reducePow]; omega) f4 (k + n + 3)
    have g5 : elf_get.f (k + n + 12) s (64 + 56 * (i : Int) + 40) 8 = some (cl x.f5) := get_at hs (by omega) (by omega) ha.a5 (cl_ge _) (show cl x.f5 < 256 ^ 8 by simp only [Int.reducePow]; omega) f5 (k + n + 3)
    have g6 : elf_get.f (k + n + 12) s (64 + 56 * (i : Int) + 48) 8 = some (cl x.f6) := get_at hs (by omega) (by omega) ha.a6 (cl_ge _) (show cl x.f6 < 256 ^ 8 by simp only [Int.reducePow]; omega) f6 (k + n + 3)
    have w0 : wrap64 (64 + wrap64 (56 * (i : Int))) = 64 + 56 * i := by rw [w64 (x := 56 * (i : Int)) (by omega) (by omega), w64 (by omega) (by omega)]
    have w1 : wrap64 (64 + 56 * (i : Int) + 4) = 64 + 56 * i + 4 := w64 (by omega) (by omega)
    have w2 : wrap64 (64 + 56 * (i : Int) + 8) = 64 + 56 * i + 8 := w64 (by omega) (by omega)
    have w3 : wrap64 (64 + 56 * (i : Int) + 16) = 64 + 56 * i + 16 := w64 (by omega) (by omega)
    have w4 : wrap64 (64 + 56 * (i : Int) + 32) = 64 + 56 * i + 32 := w64 (by omega) (by omega)
    have w5 : wrap64 (64 + 56 * (i : Int) + 40) = 64 + 56 * i + 40 := w64 (by omega) (by omega)
    have w6 : wrap64 (64 + 56 * (i : Int) + 48) = 64 + 56 * i + 48 := w64 (by omega) (by omega)
    have w7 : wrap64 ((i : Int) + 1) = ((i + 1 : Nat) : Int) := by rw [w64 (by omega) (by omega)]; omega
    rw [show k + (n + 1) + 12 = (k + n + 12) + 1 by omega, elf_Parse.l0, if_pos c1]
    simp only [w0, w1, w2, w3, w4, w5, w6, w7, if_pos c2]
    rw [g0, g1, g2, g3, g4, g5, g6]
    exact ih
theorem parse_is {s : ByteArray} {kind entry : Int} {l : List S32} (hs : s.size ≤ 140737488355328) (h : AtH s kind entry l) (hk : cl kind < 65536) (he : cl entry ≤ 1099511627776) (hf : ∀ x ∈ l, fitS x) (h1 : 1 ≤ l.length) (hl : l.length ≤ 16) (k : Nat) :
    elf_Parse.f (k + 40) s = some (parseI s (cl kind) (cl entry) (l.map clS)) := by
  have g0 : elf_get.f (k + 40) s 16 2 = some (cl kind) := get_at hs (by omega) (by omega) h.k (cl_ge _) (show cl kind < 256 ^ 2 by simp only [Int.reducePow]; omega) (by omega) (k + 37)
  have g1 : elf_get.f (k + 40) s 24 8 = some (cl entry) := get_at hs (by omega) (by omega) h.e (cl_ge _) (show cl entry < 256 ^ 8 by simp only [Int.reducePow]; omega) he (k + 31)
  have g2 : elf_get.f (k + 40) s 56 2 = some (l.length : Int) := get_at hs (by omega) (by omega) h.n (by omega) (show (l.length : Int) < 256 ^ 2 by simp only [Int.reducePow]; omega) (by omega) (k + 37)
  unfold elf_Parse.f
  simp only [g0, g1, g2, Option.bind_some, if_neg (show ¬ (l.length : Int) < 1 by omega), decide_eq_false (show ¬ (l.length : Int) > 16 by omega)]
  rw [show k + 40 = (k + 39) + 1 by omega, elf_Parse.j0, if_neg (by simp)]
  have := parse_loop hs h hf hl l.length 0 (k + 27 - l.length) (by omega)
  rw [show k + 27 - l.length + l.length + 12 = k + 39 by omega] at this
  exact this
end Go.Proofs.Ytdlgfjefbjkdaaa.Pure
