/- What all laws of the chapter take: the examples hold; a segment's pages. -/
import Derived.Test.YtdlgfjefbjkdaaaPureImage
import Derived.Test.YtdlgfjefbjkdaaaOpen
import Derived.Test.YtdlgfjefbjkdaaaPureAwake
import Derived.Test.YtdlgfjefbjkdaaaAxElfPages
namespace Go.Proofs.Ytdlgfjefbjkdaaa.Pure
open Go.RowKit Go.Proofs.Ytdlgfjefbjkdaaa.A Go.Proofs.YtdlgfjefbjkdaaaW.PrintWords
set_option linter.unusedVariables false
set_option linter.unusedSimpArgs false
theorem pages_of {s : S32} {pg off p : Int} (h : Seg1 s pg off p) (h0 : 0 ≤ pg) (h1 : pg ≤ 16) : elf_Pages.f s.f0 s.f1 s.f2 s.f3 s.f4 s.f5 s.f6 = some (pg, pg + p) := by
  have := h.in0; have := h.in1; have := h.hi; have := h.lo; have := h.p1; have := h.p0; have := h.mem
  unfold elf_Pages.f
  rw [w64 (x := s.f3 + s.f5) (by omega) (by omega), w64 (x := s.f3 + s.f5 + 64) (by omega) (by omega), w64 (x := s.f3 + s.f5 + 64 - 1) (by omega) (by omega), Int.tdiv_eq_ediv_of_nonneg (by omega), Int.tdiv_eq_ediv_of_nonneg (by omega), w64 (by omega) (by omega), w64 (by omega) (by omega)]
  have e0 : s.f3 / 64 = pg := by omega
  have e1 : (s.f3 + s.f5 + 64 - 1) / 64 = pg + p := by omega
  rw [e0, e1]
theorem rd_app (pre : List S32) (s : S32) (r : List S32) : rd_T32 (pre ++ s :: r) (pre.length : Int) = s := by
  unfold rd_T32
  simp [List.getD_eq_getElem?_getD]
end Go.Proofs.Ytdlgfjefbjkdaaa.Pure
