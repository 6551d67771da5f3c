/- What a program by plain numbers is put together to: segments that follow each other, page by page. -/
import Derived.Test.YtdlgfjefbjkdaaaPureArith
import Derived.Test.YtdlgfjefbjkdaaaAxFlyleaflaw08SpecImage
namespace Go.Proofs.Ytdlgfjefbjkdaaa.Pure
open Go.RowKit Go.Proofs.Ytdlgfjefbjkdaaa.A Go.Proofs.YtdlgfjefbjkdaaaW.PrintWords
set_option linter.unusedVariables false
set_option linter.unusedSimpArgs false
/-- A segment at a page and a place in the file: how many pages p it takes. -/
structure Seg1 (s : S32) (pg off p : Int) : Prop where
  t : s.f0 = 1
  fl0 : 0 ≤ s.f1
  fl1 : s.f1 < 8
  off : s.f2 - off = s.f3 - pg * 64
  in0 : pg * 64 ≤ s.f3
  in1 : s.f3 < pg * 64 + 64
  sz0 : 0 ≤ s.f4
  sz1 : s.f4 ≤ s.f5
  mem : 1 ≤ s.f5
  hi : s.f3 + s.f5 ≤ (pg + p) * 64
  lo : (pg + p - 1) * 64 < s.f3 + s.f5
  al : s.f6 = 64
  p0 : 1 ≤ p
  p1 : p ≤ 4
/-- Segments that follow each other. -/
inductive Ch : Int → Int → Int → Int → List S32 → Prop
  | nil (pg off : Int) : Ch pg off pg off []
  | cons {s : S32} {r : List S32} {pg off p pg' off' : Int} (h : Seg1 s pg off p) (c : Ch (pg + p) (off + 64 * p) pg' off' r) : Ch pg off pg' off' (s :: r)
theorem Ch.le {pg off pg' off' : Int} {l : List S32} (h : Ch pg off pg' off' l) : pg ≤ pg' ∧ off' - off = 64 * (pg' - pg) ∧ pg' ≤ pg + 4 * l.length := by
  induction h with
  | nil => simp
  | cons h c ih =>
    have := h.p0; have := h.p1
    simp only [List.length_cons]
    omega
theorem Ch.snoc {pg off pg' off' : Int} {l : List S32} (h : Ch pg off pg' off' l) {s : S32} {p : Int} (hs : Seg1 s pg' off' p) : Ch pg off (pg' + p) (off' + 64 * p) (l ++ [s]) := by
  induction h with
  | nil => exact .cons hs (.nil _ _)
  | cons h c ih => exact .cons h (ih hs)
/-- What an image is. -/
structure Img (kind entry : Int) (l : List S32) (size : Int) : Prop where
  ch : ∃ pg, Ch 0 1024 pg size l ∧ pg ≤ 16
  len : l.length ≤ 4
  kd : kind = 3 ∧ entry = 0 ∨ kind = 2 ∧ ∃ s r, l = s :: r ∧ s.f1 % 2 = 1 ∧ s.f3 ≤ entry ∧ entry < s.f3 + s.f5
theorem Seg1.flags {s : S32} {pg off p : Int} (h : Seg1 s pg off p) (f : Int) (h0 : 0 ≤ f) (h1 : f < 8) : Seg1 ⟨s.f0, f, s.f2, s.f3, s.f4, s.f5, s.f6⟩ pg off p :=
  ⟨h.t, h0, h1, h.off, h.in0, h.in1, h.sz0, h.sz1, h.mem, h.hi, h.lo, h.al, h.p0, h.p1⟩
theorem image_fin {a0 a1 off : Int} {l : List S32} {pg : Int} (hc : Ch 0 1024 pg off l) (hp : pg ≤ 16) (hl : l.length ≤ 4) (k : Nat) (x5 : Int) (x7 : Int) (b0 b1 : Int) (q : List S50) :
    ∃ kind entry l', l'.length = l.length ∧ Img kind entry l' off ∧ ∀ k, flyleaflaw08_Spec_image.j1 (k + 1) x5 off x7 false a0 a1 q 3 0 l = some (kind, entry, l', off) := by
  cases hc with
  | nil =>
    refine ⟨3, 0, [], rfl, ⟨⟨_, .nil _ _, hp⟩, by simp, .inl ⟨rfl, rfl⟩⟩, fun k => ?_⟩
    simp [flyleaflaw08_Spec_image.j1]
  | @cons s r _ _ p _ _ h c =>
    by_cases hk : a0 % 2 = 1
    · have hm := h.mem
      have ht : 0 ≤ wrap64 (Int.tmod a1 s.f5 + s.f5) := by
        have h1 := h.hi; have h2 := h.in0; have h3 := c.le; have h4 := h.p1
        have h5 := Int.lt_tmod_of_pos a1 (show 0 < s.f5 by omega)
        have h6 := Int.tmod_lt_of_pos a1 (show 0 < s.f5 by omega)
        rw [w64 (by omega) (by omega)]
        omega
      have e0 := Int.tmod_nonneg s.f5 ht
      have e1 := Int.tmod_lt_of_pos (wrap64 (Int.tmod a1 s.f5 + s.f5)) (show 0 < s.f5 by omega)
      have hf0 := h.fl0; have hf1 := h.fl1
      have hb : bits .or .i64 s.f1 1 = s.f1 / 2 * 2 + 1 := or1 _ h.fl0 h.fl1
      refine ⟨2, s.f3 + Int.tmod (wrap64 (Int.tmod a1 s.f5 + s.f5)) s.f5, ⟨s.f0, s.f1 / 2 * 2 + 1, s.f2, s.f3, s.f4, s.f5, s.f6⟩ :: r, rfl,
        ⟨⟨_, .cons (h.flags _ (by omega) (by omega)) c, hp⟩, hl, .inr ⟨rfl, _, _, rfl, by show (s.f1 / 2 * 2 + 1) % 2 = 1; omega, by show s.f3 ≤ _; omega, by show _ < s.f3 + s.f5; omega⟩⟩, fun k => ?_⟩
      have hr : rd_T32 (s :: r) 0 = s := rfl
      have hz : ¬ s.f5 = 0 := by omega
      have hi := h.in0; have hi1 := h.hi; have h3 := c.le; have h4 := h.p1
      simp only [flyleaflaw08_Spec_image.j1, hr, and1, hk, hb, if_neg hz, Bool.false_eq_true, if_false, if_true, List.length_cons, if_pos (show ((r.length + 1 : Nat) : Int) > 0 by omega), if_pos (show (0 : Int) < ((r.length + 1 : Nat) : Int) by omega)]
      rw [w64 (x := s.f3 + _) (by omega) (by omega)]
      rfl
    · refine ⟨3, 0, s :: r, rfl, ⟨⟨_, .cons h c, hp⟩, hl, .inl ⟨rfl, rfl⟩⟩, fun k => ?_⟩
      simp only [flyleaflaw08_Spec_image.j1, and1, if_neg hk, Bool.false_eq_true, if_false, List.length_cons, if_pos (show ((r.length + 1 : Nat) : Int) > 0 by omega)]
def seg50 (q : S50) (pg off : Int) : S32 :=
  let m := if (1 + q.f0 % 4) * 64 - q.f1 % 64 - q.f2 % 32 < 1 then 1 else (1 + q.f0 % 4) * 64 - q.f1 % 64 - q.f2 % 32
  ⟨1, q.f3 % 8, off + q.f1 % 64, pg * 64 + q.f1 % 64, if m - q.f3 / 8 % 16 < 0 then 0 else m - q.f3 / 8 % 16, m, 64⟩
theorem seg50_is (q : S50) (pg off : Int) : Seg1 (seg50 q pg off) pg off (1 + q.f0 % 4) := by
  unfold seg50
  constructor <;> (try simp only []) <;> (try split) <;> (try split) <;> omega
theorem image_step {a0 a1 : Int} {qs : List S50} {acc : List S32} (k : Nat) {pg off : Int} (j : Nat) (h0 : 0 ≤ pg) (h1 : pg ≤ 16) (h2 : 0 ≤ off) (h3 : off ≤ 10000) (hj : j < 4) (hq : j < qs.length) (ha : acc.length ≤ 4) :
    flyleaflaw08_Spec_image.l0 (k + 2) pg off j a0 a1 qs 3 0 acc = flyleaflaw08_Spec_image.l0 k (pg + (1 + (rd_T50 qs j).f0 % 4)) (off + 64 * (1 + (rd_T50 qs j).f0 % 4)) (j + 1 : Nat) a0 a1 qs 3 0 (acc ++ [seg50 (rd_T50 qs j) pg off]) := by
  have e4 : decide ((j : Int) < 4) = true := decide_eq_true (by omega)
  have e5 : (j : Int) < (qs.length : Int) := by omega
  have e6 : (0 : Int) ≤ (j : Int) := by omega
  have hl : acc.length < 2513169434916 := by omega
  have w1 : wrap64 (1 + (rd_T50 qs j).f0 % 4) = 1 + (rd_T50 qs j).f0 % 4 := w64 (by omega) (by omega)
  have w2 : wrap64 ((1 + (rd_T50 qs j).f0 % 4) * 64) = (1 + (rd_T50 qs j).f0 % 4) * 64 := w64 (by omega) (by omega)
  have w3 : wrap64 ((1 + (rd_T50 qs j).f0 % 4) * 64 - (rd_T50 qs j).f1 % 64) = (1 + (rd_T50 qs j).f0 % 4) * 64 - (rd_T50 qs j).f1 % 64 := w64 (by omega) (by omega)
  have w4 : wrap64 ((1 + (rd_T50 qs j).f0 % 4) * 64 - (rd_T50 qs j).f1 % 64 - (rd_T50 qs j).f2 % 32) = (1 + (rd_T50 qs j).f0 % 4) * 64 - (rd_T50 qs j).f1 % 64 - (rd_T50 qs j).f2 % 32 := w64 (by omega) (by omega)
  have w5 : wrap64 (1 - (rd_T50 qs j).f3 / 8 % 16) = 1 - (rd_T50 qs j).f3 / 8 % 16 := w64 (by omega) (by omega)
  have w6 : wrap64 ((1 + (rd_T50 qs j).f0 % 4) * 64 - (rd_T50 qs j).f1 % 64 - (rd_T50 qs j).f2 % 32 - (rd_T50 qs j).f3 / 8 % 16) = (1 + (rd_T50 qs j).f0 % 4) * 64 - (rd_T50 qs j).f1 % 64 - (rd_T50 qs j).f2 % 32 - (rd_T50 qs j).f3 / 8 % 16 := w64 (by omega) (by omega)
  have w7 : wrap64 (pg + (1 + (rd_T50 qs j).f0 % 4)) = pg + (1 + (rd_T50 qs j).f0 % 4) := w64 (by omega) (by omega)
  have w8 : wrap64 (off + (1 + (rd_T50 qs j).f0 % 4) * 64) = off + 64 * (1 + (rd_T50 qs j).f0 % 4) := by rw [w64 (by omega) (by omega)]; omega
  have w9 : wrap64 ((j : Int) + 1) = ((j + 1 : Nat) : Int) := by rw [w64 (by omega) (by omega)]; omega
  have w10 : wrap64 (off + (rd_T50 qs j).f1 % 64) = off + (rd_T50 qs j).f1 % 64 := w64 (by omega) (by omega)
  have w11 : wrap64 (pg * 64) = pg * 64 := w64 (by omega) (by omega)
  have w12 : wrap64 (pg * 64 + (rd_T50 qs j).f1 % 64) = pg * 64 + (rd_T50 qs j).f1 % 64 := w64 (by omega) (by omega)
  rw [flyleaflaw08_Spec_image.l0, if_pos e5, e4, flyleaflaw08_Spec_image.j1]
  simp only [and3, and7, and15, and31, and63, w1, w2, w3, w4, w5, w6, w7, w8, w9, w10, w11, w12, if_true, if_pos hl, if_pos e6, if_pos e5]
  clear w1 w2 w3 w4 w5 w6 w7 w8 w9 w10 w11 w12
  unfold seg50
  by_cases h1 : (1 + (rd_T50 qs j).f0 % 4) * 64 - (rd_T50 qs j).f1 % 64 - (rd_T50 qs j).f2 % 32 < 1
  · simp only [if_pos h1]
    by_cases h2 : 1 - (rd_T50 qs j).f3 / 8 % 16 < 0
    · simp only [if_pos h2]
    · simp only [if_neg h2]
  · simp only [if_neg h1]
    by_cases h2 : (1 + (rd_T50 qs j).f0 % 4) * 64 - (rd_T50 qs j).f1 % 64 - (rd_T50 qs j).f2 % 32 - (rd_T50 qs j).f3 / 8 % 16 < 0
    · simp only [if_pos h2]
    · simp only [if_neg h2]
theorem image_loop {a0 a1 : Int} {qs : List S50} : ∀ (n j : Nat) (pg off : Int) (acc : List S32), j + n = min 4 qs.length → acc.length = j → Ch 0 1024 pg off acc → pg ≤ 4 * j →
    ∃ kind entry l off', l.length = min 4 qs.length ∧ Img kind entry l off' ∧ ∀ k, flyleaflaw08_Spec_image.l0 (k + 2 * n + 2) pg off j a0 a1 qs 3 0 acc = some (kind, entry, l, off')
  | 0, j, pg, off, acc, hj, ha, hc, hp => by
    obtain ⟨kind, entry, l', hl, hi, he⟩ := image_fin (a0 := a0) (a1 := a1) hc (by omega) (by omega) 0 pg j 0 0 qs
    refine ⟨kind, entry, l', off, by omega, hi, fun k => ?_⟩
    rw [← he k]
    by_cases h : (j : Int) < (qs.length : Int)
    · rw [flyleaflaw08_Spec_image.l0, if_pos h, decide_eq_false (show ¬ (j : Int) < 4 by omega)]
    · rw [flyleaflaw08_Spec_image.l0, if_neg h]
  | n + 1, j, pg, off, acc, hj, ha, hc, hp => by
    have hle := hc.le
    have hs := seg50_is (rd_T50 qs j) pg off
    obtain ⟨kind, entry, l', off', hl, hi, he⟩ := image_loop (a0 := a0) (a1 := a1) (qs := qs) n (j + 1) (pg + (1 + (rd_T50 qs j).f0 % 4)) (off + 64 * (1 + (rd_T50 qs j).f0 % 4)) (acc ++ [seg50 (rd_T50 qs j) pg off]) (by omega) (by simp [ha]) (hc.snoc hs) (by have := hs.p1; omega)
    refine ⟨kind, entry, l', off', hl, hi, fun k => ?_⟩
    rw [show k + 2 * (n + 1) + 2 = (k + 2 * n + 2) + 2 by omega, image_step _ j (by omega) (by omega) (by omega) (by omega) (by omega) (by omega) (by omega)]
    exact he k
/-- The image of any numbers. -/
theorem image_is (a0 a1 : Int) (qs : List S50) : ∃ kind entry l off, l.length = min 4 qs.length ∧ Img kind entry l off ∧ ∀ k, flyleaflaw08_Spec_image.f (k + 10) a0 a1 qs = some (kind, entry, l, off) := by
  obtain ⟨kind, entry, l, off, hl, hi, he⟩ := image_loop (a0 := a0) (a1 := a1) (qs := qs) (min 4 qs.length) 0 0 1024 [] (by omega) rfl (.nil _ _) (by omega)
  refine ⟨kind, entry, l, off, hl, hi, fun k => ?_⟩
  have := he (k + 8 - 2 * min 4 qs.length)
  rw [show k + 8 - 2 * min 4 qs.length + 2 * min 4 qs.length + 2 = k + 10 by omega] at this
  exact this
end Go.Proofs.Ytdlgfjefbjkdaaa.Pure
