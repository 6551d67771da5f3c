/- An image that is put together as it should may be; Fill, in plain words. -/
import Derived.Test.YtdlgfjefbjkdaaaPureParse
import Derived.Test.YtdlgfjefbjkdaaaPureBase
import Derived.Test.YtdlgfjefbjkdaaaAxFlyleafref01Fill
namespace Go.Proofs.Ytdlgfjefbjkdaaa.Pure
open Go.RowKit Go.Proofs.Ytdlgfjefbjkdaaa.A Go.Proofs.Ytdlgfjefbjkdaaa.H Go.Proofs.Flat Go.Proofs.YtdlgfjefbjkdaaaW.PrintWords Go.Proofs.YtdlgfjefbjkdaaaW.PrintLast Go.Proofs.YtdlgfjefbjkdaaaW.PrintMore
set_option linter.unusedVariables false
set_option linter.unusedSimpArgs false
theorem seg_ok {s : S32} {pg off p size : Int} (h : Seg1 s pg off p) (h0 : 0 ≤ pg) (h1 : pg + p ≤ 16) (h2 : off = 1024 + 64 * pg) (h3 : off + 64 * p ≤ size) : segOk s size = true := by
  obtain ⟨t, f0, f1, of, i0, i1, z0, z1, m, hi, lo, al, p0, p1⟩ := h
  unfold segOk segB fiveB placedB
  rw [win_t (n := s.f0) (by omega) (by omega), win_t (n := s.f1) f0 (by omega), win_t (n := s.f2) (by omega) (by omega), win_t (n := s.f3) (by omega) (by omega), win_t (n := s.f4) (by omega) (by omega), win_t (n := s.f5) (by omega) (by omega), win_t (n := s.f6) (by omega) (by omega), if_pos t,
    win_t (n := s.f2 + s.f4) (by omega) (by omega), win_t (n := s.f4) z0 z1, win_t (n := s.f3 + s.f5) (by omega) (by omega), decide_eq_true (show 0 < s.f5 by omega), decide_eq_true al, decide_eq_true (show s.f3 % 64 = s.f2 % 64 by omega)]
  rfl
theorem page_of {s : S32} {pg off p : Int} (h : Seg1 s pg off p) (h0 : 0 ≤ pg) (h1 : pg ≤ 16) : pageA s = pg ∧ pageB s = pg + p := by
  have := pages_of h h0 h1
  unfold elf_Pages.f at this
  simpa [pageA, pageB] using this
theorem chk_ch {all : List S32} {size entry : Int} : ∀ {r : List S32} {pg off pg' off' : Int} {loads : Int} {en : Bool}, Ch pg off pg' off' r → 0 ≤ pg → pg' ≤ 16 → off = 1024 + 64 * pg → off' ≤ size → 0 ≤ loads → (r ≠ [] ∨ 0 < loads) → (en = true ∨ ∃ s ∈ r, begB s entry = true) →
    chk all size entry r loads 0 pg en = true
  | [], pg, off, pg', off', loads, en, hc, h0, h1, h2, h3, h4, h5, h6 => by
    unfold chk
    have e : en = true := by simpa using h6
    have hl : ¬ loads = 0 := by have : 0 < loads := by simpa using h5
                                omega
    simp [e, hl]
  | s :: r, pg, off, pg', off', loads, en, hc, h0, h1, h2, h3, h4, h5, h6 => by
    cases hc with
    | @cons _ _ _ _ p _ _ h c =>
    have hle := c.le
    have hp := h.p0
    obtain ⟨ea, eb⟩ := page_of h h0 (by omega)
    unfold chk
    rw [if_neg (by rw [seg_ok h h0 (by omega) h2 (by omega)]; simp), if_pos h.t, ea, eb, if_pos (Int.le_refl _)]
    refine chk_ch c (by omega) h1 (by omega) h3 (by omega) (.inr (by omega)) ?_
    rcases h6 with h6 | ⟨x, hx, hb⟩
    · exact .inl (by rw [h6]; rfl)
    · rcases List.mem_cons.1 hx with rfl | hx
      · exact .inl (by rw [hb]; simp)
      · exact .inr ⟨x, hx, hb⟩
theorem beg_of {s : S32} {pg off p entry : Int} (h : Seg1 s pg off p) (h0 : 0 ≤ pg) (h1 : pg ≤ 16) (hf : s.f1 % 2 = 1) (he : s.f3 ≤ entry) (he' : entry < s.f3 + s.f5) : begB s entry = true := by
  have := h.in0; have := h.in1; have := h.hi; have := h.p1; have := h.mem
  unfold begB elf_begins.f
  rw [if_pos h.t, and1, if_neg (by omega), if_pos (show entry ≥ s.f3 from he), w64 (by omega) (by omega), decide_eq_true he']
  rfl
theorem Img.off {kind entry size : Int} {l : List S32} (h : Img kind entry l size) : 1024 ≤ size ∧ size ≤ 2048 ∧ (l ≠ [] → 1088 ≤ size) := by
  obtain ⟨pg, hc, hp⟩ := h.ch
  have := hc.le
  refine ⟨by omega, by omega, fun hl => ?_⟩
  cases hc with
  | nil => exact absurd rfl hl
  | cons g c => have := c.le; have := g.p0; omega
theorem Img.entry {kind entry size : Int} {l : List S32} (h : Img kind entry l size) : (kind = 2 ∨ kind = 3) ∧ 0 ≤ entry ∧ entry ≤ 1024 := by
  obtain ⟨pg, hc, hp⟩ := h.ch
  rcases h.kd with ⟨hk, he⟩ | ⟨hk, s, r, rfl, hf, h1, h2⟩
  · omega
  · cases hc with
    | cons g c => have := c.le; have := g.in0; have := g.hi; omega
theorem Ch.fits {pg off pg' off' : Int} {l : List S32} (h : Ch pg off pg' off' l) (h0 : 0 ≤ pg) (h1 : pg' ≤ 16) (h2 : off = 1024 + 64 * pg) : ∀ x ∈ l, 0 ≤ x.f0 ∧ 0 ≤ x.f1 ∧ 0 ≤ x.f2 ∧ 0 ≤ x.f3 ∧ 0 ≤ x.f4 ∧ 0 ≤ x.f5 ∧ 0 ≤ x.f6 ∧ x.f0 ≤ 8 ∧ x.f1 ≤ 8 ∧ x.f2 ≤ 2100 ∧ x.f3 ≤ 2100 ∧ x.f4 ≤ 2100 ∧ x.f5 ≤ 2100 ∧ x.f6 ≤ 64 := by
  induction h with
  | nil => intro x hx; cases hx
  | cons h c ih =>
    have hle := c.le
    obtain ⟨t, f0, f1, of, i0, i1, z0, z1, m, hi, lo, al, p0, p1⟩ := h
    intro x hx
    rcases List.mem_cons.1 hx with rfl | hx
    · omega
    · exact ih (by omega) h1 (by omega) x hx
/-- An image that is put together as it should may be. -/
theorem img_ok {kind entry size : Int} {l : List S32} (h : Img kind entry l size) (hl : l ≠ []) : checkI kind entry l size = 0 := by
  have ho := h.off
  have he := h.entry
  have h4 := h.len
  have hp : 0 < l.length := List.length_pos_iff.2 hl
  obtain ⟨pg, hc, hpg⟩ := h.ch
  unfold checkI
  rw [if_neg (by unfold badHead; omega), if_pos]
  refine chk_ch hc (by omega) hpg (by omega) (Int.le_refl _) (by omega) (.inl hl) ?_
  rcases h.kd with ⟨hk, he⟩ | ⟨hk, s, r, rfl, hf, h1, h2⟩
  · exact .inl (by simp [hk, he])
  · cases hc with
    | cons g c => exact .inr ⟨s, List.mem_cons_self, beg_of g (by omega) (by omega) hf h1 h2⟩
theorem clS_id {x : S32} (h : 0 ≤ x.f0 ∧ 0 ≤ x.f1 ∧ 0 ≤ x.f2 ∧ 0 ≤ x.f3 ∧ 0 ≤ x.f4 ∧ 0 ≤ x.f5 ∧ 0 ≤ x.f6) : clS x = x := by
  obtain ⟨h0, h1, h2, h3, h4, h5, h6⟩ := h
  unfold clS
  rw [cl_id h0, cl_id h1, cl_id h2, cl_id h3, cl_id h4, cl_id h5, cl_id h6]
theorem map_clS {l : List S32} (h : ∀ x ∈ l, 0 ≤ x.f0 ∧ 0 ≤ x.f1 ∧ 0 ≤ x.f2 ∧ 0 ≤ x.f3 ∧ 0 ≤ x.f4 ∧ 0 ≤ x.f5 ∧ 0 ≤ x.f6) : l.map clS = l := by
  conv => rhs; rw [← List.map_id l]
  exact List.map_congr_left fun x hx => clS_id (h x hx)
end Go.Proofs.Ytdlgfjefbjkdaaa.Pure
