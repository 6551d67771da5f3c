/- ElfPages, in plain numbers: each segment's pages hold it, and the span ends with the last. -/
import Derived.Test.YtdlgfjefbjkdaaaPureImage
import Derived.Test.YtdlgfjefbjkdaaaOpen
import Derived.Test.YtdlgfjefbjkdaaaBxFlyleaflaw08ElfPages
namespace Go.Proofs.Ytdlgfjefbjkdaaa.Pure
open Go.RowKit Go.Proofs.Ytdlgfjefbjkdaaa.A Go.Proofs.YtdlgfjefbjkdaaaW.PrintWords
set_option linter.unusedVariables false
set_option linter.unusedSimpArgs false
theorem awake_is (k : Nat) : flyleaflaw08_awake.f (k + 300) = some true := by
  have h : flyleaflaw08_awake.f 300 = some true := by kernel_rfl
  induction k with
  | zero => exact h
  | succ k ih => exact (show k + 1 + 300 = (k + 300) + 1 by omega) ▸ flyleaflaw08_awake.mono _ _ ih
theorem pages_of {s : S32} {pg off p : Int} (h : Seg1 s pg off p) (h0 : 0 ≤ pg) (h1 : pg ≤ 16) : elf_Pages.f s.f0 s.f1 s.f2 s.f3 s.f4 s.f5 s.f6 = some (pg, pg + p) := by
  have := h.in0; have := h.in1; have := h.hi; have := h.lo; have := h.p1; have := h.p0; have := h.mem
  unfold elf_Pages.f
  rw [w64 (x := s.f3 + s.f5) (by omega) (by omega), w64 (x := s.f3 + s.f5 + 64) (by omega) (by omega), w64 (x := s.f3 + s.f5 + 64 - 1) (by omega) (by omega), Int.tdiv_eq_ediv_of_nonneg (by omega), Int.tdiv_eq_ediv_of_nonneg (by omega), w64 (by omega) (by omega), w64 (by omega) (by omega)]
  have e0 : s.f3 / 64 = pg := by omega
  have e1 : (s.f3 + s.f5 + 64 - 1) / 64 = pg + p := by omega
  rw [e0, e1]
theorem rd_app (pre : List S32) (s : S32) (r : List S32) : rd_T32 (pre ++ s :: r) (pre.length : Int) = s := by
  unfold rd_T32
  simp [List.getD_eq_getElem?_getD]
theorem span_loop : ∀ (r pre : List S32) (pg off pg' off' : Int) (k : Nat), Ch pg off pg' off' r → 0 ≤ pg → pg' ≤ 16 → r.length < k → pre.length + r.length ≤ 4 →
    elf_Span.l0 k (pg * 64) (pre ++ r) ((pre ++ r).length : Int) (pre.length : Int) = some (pg' * 64)
  | [], pre, pg, off, pg', off', k, hc, h0, h1, hk, hl => by
    cases hc
    obtain ⟨k, rfl⟩ : ∃ j, k = j + 1 := ⟨k - 1, by simp at hk; omega⟩
    rw [elf_Span.l0, if_neg (by simp)]
  | s :: r, pre, pg, off, pg', off', k, hc, h0, h1, hk, hl => by
    cases hc with
    | @cons _ _ _ _ p _ _ h c =>
    have hle := c.le
    have hp := h.p0
    simp only [List.length_cons] at hk hl
    obtain ⟨k, rfl⟩ : ∃ j, k = j + 1 := ⟨k - 1, by omega⟩
    have e := span_loop r (pre ++ [s]) (pg + p) (off + 64 * p) pg' off' k c (by omega) h1 (by omega) (by simp; omega)
    have e2 : pre ++ [s] ++ r = pre ++ s :: r := by simp
    rw [e2] at e
    have e3 : wrap64 ((pre.length : Int) + 1) = ((pre ++ [s]).length : Int) := by rw [w64 (by omega) (by omega)]; simp
    have e4 : wrap64 ((pg + p) * 64) = (pg + p) * 64 := w64 (by omega) (by omega)
    have hlt : (pre.length : Int) < ((pre ++ s :: r).length : Int) := by simp; omega
    rw [elf_Span.l0, if_pos hlt, if_pos (Int.natCast_nonneg _), if_pos hlt]
    simp only [rd_app, h.t, if_true]
    have hpg := pages_of h h0 (by omega)
    rw [h.t] at hpg
    rw [hpg]
    simp only [Option.bind_some, e3, e4]
    exact e
theorem pages_loop {kind entry : Int} : ∀ (r pre : List S32) (pg off pg' off' : Int) (k : Nat), Ch pg off pg' off' r → 0 ≤ pg → pg' ≤ 16 → r.length < k → pre.length + r.length ≤ 4 →
    (∀ k, 5 ≤ k → elf_Span.f k kind entry (pre ++ r) = some (pg' * 64)) →
    flyleaflaw08_ElfPages.l0 (k + 5) true pg (pre.length : Int) kind entry (pre ++ r) = some true
  | [], pre, pg, off, pg', off', k, hc, h0, h1, hk, hl, hs => by
    cases hc
    rw [flyleaflaw08_ElfPages.l0, if_neg (by simp)]
    simp only [if_true, hs (k + 4) (by simp at hk; omega), Option.bind_some]
    rw [w64 (by omega) (by omega)]
    simp
  | s :: r, pre, pg, off, pg', off', k, hc, h0, h1, hk, hl, hs => by
    cases hc with
    | @cons _ _ _ _ p _ _ h c =>
    have hle := c.le
    have hp := h.p0
    have := h.in0; have := h.in1; have := h.hi; have := h.lo; have := h.p1; have := h.mem
    simp only [List.length_cons] at hk hl
    obtain ⟨k, rfl⟩ : ∃ j, k = j + 1 := ⟨k - 1, by omega⟩
    have e2 : pre ++ [s] ++ r = pre ++ s :: r := by simp
    have e := pages_loop (kind := kind) (entry := entry) r (pre ++ [s]) (pg + p) (off + 64 * p) pg' off' k c (by omega) h1 (by omega) (by simp; omega) (by rw [e2]; exact hs)
    rw [e2] at e
    have e3 : wrap64 ((pre.length : Int) + 1) = ((pre ++ [s]).length : Int) := by rw [w64 (by omega) (by omega)]; simp
    have e4 : wrap64 (pg * 64) = pg * 64 := w64 (by omega) (by omega)
    have e5 : wrap64 (wrap64 (pg + 1) * 64) = (pg + 1) * 64 := by rw [w64 (x := pg + 1) (by omega) (by omega), w64 (by omega) (by omega)]
    have e6 : wrap64 ((pg + p) * 64) = (pg + p) * 64 := w64 (by omega) (by omega)
    have e7 : wrap64 (wrap64 (pg + p - 1) * 64) = (pg + p - 1) * 64 := by rw [w64 (x := pg + p - 1) (by omega) (by omega), w64 (by omega) (by omega)]
    have e8 : wrap64 (s.f3 + s.f5) = s.f3 + s.f5 := w64 (by omega) (by omega)
    have hlt : (pre.length : Int) < ((pre ++ s :: r).length : Int) := by simp; omega
    have n1 : ¬ pg * 64 > s.f3 := by omega
    have n2 : ¬ (pg + 1) * 64 ≤ s.f3 := by omega
    have n3 : ¬ (pg + p) * 64 < s.f3 + s.f5 := by omega
    have n4 : ¬ (pg + p - 1) * 64 ≥ s.f3 + s.f5 := by omega
    have n5 : ¬ pg < pg := by omega
    rw [show k + 1 + 5 = (k + 5) + 1 by omega, flyleaflaw08_ElfPages.l0, if_pos hlt, if_pos (Int.natCast_nonneg _)]
    simp only [rd_app]
    rw [pages_of h h0 (by omega)]
    simp only [Option.bind_some, e3, e4, e5, e6, e7, e8, if_neg n1, if_neg n2, if_neg n3, if_neg n4, if_neg n5]
    exact e
theorem ElfPages (a0 a1 : Int) (qs : List S50) (hb : b24 ⟨a0, a1, qs⟩) : ∃ k, flyleaflaw08_ElfPages.f k a0 a1 qs = some true := by
  obtain ⟨kind, entry, l, off, hl, hi, he⟩ := image_is a0 a1 qs
  obtain ⟨pg, hc, hp⟩ := hi.ch
  have hlen := hi.len
  refine ⟨300, ?_⟩
  unfold flyleaflaw08_ElfPages.f
  rw [awake_is 0, show (300 : Nat) = 290 + 10 from rfl, he 290]
  simp only [Option.bind_some]
  refine pages_loop l [] 0 1024 pg off 295 hc (by omega) hp (by omega) (by simp; omega) (fun k hk => ?_)
  exact span_loop l [] 0 1024 pg off k hc (by omega) hp (by omega) (by simp; omega)
end Go.Proofs.Ytdlgfjefbjkdaaa.Pure
