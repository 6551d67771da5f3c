/- ElfBroken, in plain numbers: one thing otherwise, and the image may not be. -/
import Derived.Test.YtdlgfjefbjkdaaaPureCheck
import Derived.Test.YtdlgfjefbjkdaaaBxFlyleaflaw08ElfBroken
namespace Go.Proofs.Ytdlgfjefbjkdaaa.Pure
open Go.RowKit Go.Proofs.Ytdlgfjefbjkdaaa.A Go.Proofs.Ytdlgfjefbjkdaaa.H Go.Proofs.Flat Go.Proofs.YtdlgfjefbjkdaaaW.PrintWords Go.Proofs.YtdlgfjefbjkdaaaW.PrintLast Go.Proofs.YtdlgfjefbjkdaaaW.PrintMore
set_option linter.unusedVariables false
set_option linter.unusedSimpArgs false
/-- What is looked at behind the change: the header is filled up to the size, and parsed. -/
theorem broken_j {kind entry size k11 : Int} {l0 y : List S32} {a b c d e f g : Int} (hs : 1024 ≤ size ∧ size ≤ 2048) (hy : l0.set 0 ⟨a, b, c, d, e, f, g⟩ = y) (h0 : 0 < l0.length) (h5 : l0.length ≤ 5)
    (hk : cl kind < 65536) (he : cl entry ≤ 1099511627776) (hf : ∀ x ∈ y, fitS x) (hbad : checkI kind entry y size = 16)
    (hsame : k11 = 11 ∨ (0 ≤ kind ∧ 0 ≤ entry ∧ ∀ x ∈ y, 0 ≤ x.f0 ∧ 0 ≤ x.f1 ∧ 0 ≤ x.f2 ∧ 0 ≤ x.f3 ∧ 0 ≤ x.f4 ∧ 0 ≤ x.f5 ∧ 0 ≤ x.f6)) (k : Nat) :
    flyleaflaw08_ElfBroken.j0 (k + 41) true size k11 kind entry l0 a b c d e f g = some true := by
  have hyl : y.length = l0.length := by rw [← hy, List.length_set]
  have hh : elf_Header.f kind entry y = some ⟨(headL kind entry y).toArray⟩ := by unfold elf_Header.f; rw [if_pos (by omega)]
  have hz : (⟨(headL kind entry y).toArray⟩ : ByteArray).size = 64 + 56 * y.length := by
    show (headL kind entry y).toArray.size = _
    rw [List.size_toArray, headL_length]
  obtain ⟨t, ht, hb, hn⟩ := fill_is (s := ⟨(headL kind entry y).toArray⟩) (n := size) (by rw [hz]; omega) (by omega)
  rw [bytesL_mk] at hb
  have hp := parse_is (s := t) (by omega) (head_at hb hk he (by omega) hf) hk he hf (by omega) (by omega) k
  have hc : elf_Check.f kind entry y size = some 16 := by unfold elf_Check.f; rw [if_pos (by omega), hbad]
  rw [show k + 41 = (k + 40) + 1 from rfl, flyleaflaw08_ElfBroken.j0, if_pos (show 0 < (l0.length : Int) by omega), show (0 : Int).toNat = 0 from rfl, hy]
  simp only [Option.bind_some, hh, ht, hp, hc, if_true]
  rcases hsame with rfl | ⟨g0, g1, g2⟩
  · split <;> rfl
  · rw [cl_id g0, cl_id g1, map_clS g2]
    have : parseI t kind entry y = (0, 0, [], 16) := by unfold parseI; rw [hn, hbad]; rfl
    rw [this]
    rfl
theorem chk_first {all r : List S32} {s : S32} {size entry l d f : Int} {en : Bool} (h : segOk s size = false) : chk all size entry (s :: r) l d f en = false := by
  unfold chk
  rw [if_pos h]
theorem bad_first {kind entry size : Int} {s : S32} {r : List S32} (h : segOk s size = false) : checkI kind entry (s :: r) size = 16 := by
  unfold checkI
  rw [chk_first h]
  split <;> rfl
theorem chk_entry {all : List S32} {size entry : Int} : ∀ (r : List S32) (l d f : Int), (∀ s ∈ r, begB s entry = false) → chk all size entry r l d f false = false
  | [], l, d, f, h => by unfold chk; simp
  | s :: r, l, d, f, h => by
    have ih := fun l d f => chk_entry (all := all) (size := size) (entry := entry) r l d f (fun x hx => h x (List.mem_cons_of_mem _ hx))
    unfold chk
    rw [h s List.mem_cons_self]
    simp only [Bool.or_false, ih]
    repeat' split
    all_goals rfl
theorem chk_back {all : List S32} {size entry : Int} {t : S32} : ∀ {r : List S32} {pg off pg' off' : Int} (l d : Int) (en : Bool), Ch pg off pg' off' r → 0 ≤ pg → pg' ≤ 16 → t.f0 = 1 → pageA t < pg' → chk all size entry (r ++ [t]) l d pg en = false
  | [], pg, off, pg', off', l, d, en, hc, h0, h1, ht, hp => by
    cases hc
    show chk all size entry [t] l d pg en = false
    unfold chk
    rw [if_pos ht, if_neg (show ¬ pg ≤ pageA t by omega)]
    split <;> rfl
  | s :: r, pg, off, pg', off', l, d, en, hc, h0, h1, ht, hp => by
    cases hc with
    | @cons _ _ _ _ p _ _ g c =>
    have hle := c.le
    have := g.p0
    obtain ⟨ea, eb⟩ := page_of g h0 (by omega)
    show chk all size entry (s :: (r ++ [t])) l d pg en = false
    unfold chk
    rw [if_pos g.t, ea, eb, chk_back (l + 1) d (en || begB s entry) c (by omega) h1 ht hp]
    repeat' split
    all_goals rfl
theorem beg_not {s : S32} {pg off p entry : Int} (h : Seg1 s pg off p) (h0 : 0 ≤ pg) (h1 : pg ≤ 16) (he : 2048 ≤ entry) : begB s entry = false := by
  have := h.in1; have := h.hi; have := h.p1; have := h.in0; have := h.mem
  have w : wrap64 (s.f3 + s.f5) = s.f3 + s.f5 := w64 (by omega) (by omega)
  unfold begB elf_begins.f
  rw [w]
  repeat' split
  all_goals first | rfl | (rw [decide_eq_false (show ¬ entry < s.f3 + s.f5 by omega)]; rfl)
theorem beg_none {pg off pg' off' entry : Int} {l : List S32} (h : Ch pg off pg' off' l) (h0 : 0 ≤ pg) (h1 : pg' ≤ 16) (he : 2048 ≤ entry) : ∀ s ∈ l, begB s entry = false := by
  induction h with
  | nil => intro x hx; cases hx
  | cons g c ih =>
    have := c.le; have := g.p0
    intro x hx
    rcases List.mem_cons.1 hx with rfl | hx
    · exact beg_not g h0 (by omega) he
    · exact ih (by omega) h1 x hx
theorem seg_bad {t fl off addr siz mem al size : Int} (ht : t = 1) (h : ¬ (fl ≤ 7) ∨ ¬ (0 ≤ mem) ∨ ¬ (off + siz ≤ size) ∨ ¬ (siz ≤ mem) ∨ ¬ (addr + mem ≤ 262144) ∨ ¬ (0 < mem) ∨ ¬ (al = 64) ∨ ¬ (addr % 64 = off % 64)) : segB t fl off addr siz mem al size = false := by
  cases hb : segB t fl off addr siz mem al size
  · rfl
  · exfalso
    unfold segB fiveB placedB win at hb
    rw [if_pos ht] at hb
    simp only [Bool.and_eq_true, decide_eq_true_eq] at hb
    omega
theorem ElfBroken (a0 a1 : Int) (qs : List S50) (hb : b24 ⟨a0, a1, qs⟩) (what : Int) (hw : (Lit.int .i64 what).wf = true) : ∃ k, flyleaflaw08_ElfBroken.f k a0 a1 qs what = some true := by
  obtain ⟨kind, entry, l, size, hl, hi, he⟩ := image_is a0 a1 qs
  have ho := hi.off
  have hen := hi.entry
  have h4 := hi.len
  refine ⟨341, ?_⟩
  unfold flyleaflaw08_ElfBroken.f
  rw [awake_is 41, show (341 : Nat) = 331 + 10 from rfl, he 331]
  simp only [Option.bind_some]
  obtain ⟨pg, hc, hp⟩ := hi.ch
  cases hc with
  | nil => rfl
  | @cons s r _ _ p _ _ g c =>
  have hle := c.le
  have hfit := (Ch.cons g c).fits (Int.le_refl _) hp rfl
  have hs := hfit s List.mem_cons_self
  have hr : ∀ x ∈ r, _ := fun x hx => hfit x (List.mem_cons_of_mem _ hx)
  have hsz : 1024 ≤ size ∧ size ≤ 2048 := ⟨ho.1, ho.2.1⟩
  have hfitS : ∀ x : S32, (0 ≤ x.f0 ∧ 0 ≤ x.f1 ∧ 0 ≤ x.f2 ∧ 0 ≤ x.f3 ∧ 0 ≤ x.f4 ∧ 0 ≤ x.f5 ∧ 0 ≤ x.f6 ∧ x.f0 ≤ 8 ∧ x.f1 ≤ 8 ∧ x.f2 ≤ 300000 ∧ x.f3 ≤ 300000 ∧ x.f4 ≤ 300000 ∧ x.f5 ≤ 300000 ∧ x.f6 ≤ 300000) → fitS x := by
    intro x hx
    unfold fitS
    rw [cl_id hx.1, cl_id hx.2.1, cl_id hx.2.2.1, cl_id hx.2.2.2.1, cl_id hx.2.2.2.2.1, cl_id hx.2.2.2.2.2.1, cl_id hx.2.2.2.2.2.2.1]
    omega
  have hfr : ∀ x ∈ r, fitS x := fun x hx => hfitS x (by have := hr x hx; omega)
  have hpr : ∀ x ∈ r, 0 ≤ x.f0 ∧ 0 ≤ x.f1 ∧ 0 ≤ x.f2 ∧ 0 ≤ x.f3 ∧ 0 ≤ x.f4 ∧ 0 ≤ x.f5 ∧ 0 ≤ x.f6 := fun x hx => by have := hr x hx; omega
  have hck : cl kind < 65536 := by rw [cl_id (by omega)]; omega
  have hce : cl entry ≤ 1099511627776 := by rw [cl_id (by omega)]; omega
  simp only [List.length_cons] at h4
  have i0 : ¬ (((s :: r).length : Nat) : Int) = 0 := by simp only [List.length_cons]; omega
  have i1 : 0 < (((s :: r).length : Nat) : Int) := by simp only [List.length_cons]; omega
  have hrd : rd_T32 (s :: r) 0 = s := rfl
  rw [if_neg i0, if_pos i1]
  simp only [hrd]
  have hK0 : 0 ≤ Int.tmod (wrap64 (Int.tmod what 12 + 12)) 12 ∧ Int.tmod (wrap64 (Int.tmod what 12 + 12)) 12 < 12 := by
    have h5 := Int.lt_tmod_of_pos what (show (0 : Int) < 12 by omega)
    have h6 := Int.tmod_lt_of_pos what (show (0 : Int) < 12 by omega)
    rw [w64 (by omega) (by omega)]
    exact ⟨Int.tmod_nonneg 12 (by omega), Int.tmod_lt_of_pos _ (by omega)⟩
  generalize Int.tmod (wrap64 (Int.tmod what 12 + 12)) 12 = K at *
  have gt := g.t; have gf0 := g.fl0; have gf1 := g.fl1; have gof := g.off; have gi0 := g.in0; have gi1 := g.in1; have gz0 := g.sz0; have gz1 := g.sz1; have gm := g.mem; have ghi := g.hi; have glo := g.lo; have gal := g.al; have gp0 := g.p0; have gp1 := g.p1
  -- a segment that is bad by itself
  have one : ∀ (fl of ad sz me al : Int), (0 ≤ fl ∧ 0 ≤ of ∧ 0 ≤ ad ∧ 0 ≤ sz ∧ 0 ≤ me ∧ 0 ≤ al ∧ fl ≤ 8 ∧ of ≤ 300000 ∧ ad ≤ 300000 ∧ sz ≤ 300000 ∧ me ≤ 300000 ∧ al ≤ 300000) → (¬ (fl ≤ 7) ∨ ¬ (0 ≤ me) ∨ ¬ (of + sz ≤ size) ∨ ¬ (sz ≤ me) ∨ ¬ (ad + me ≤ 262144) ∨ ¬ (0 < me) ∨ ¬ (al = 64) ∨ ¬ (ad % 64 = of % 64)) →
      flyleaflaw08_ElfBroken.j0 341 true size K kind entry (s :: r) s.f0 fl of ad sz me al = some true := by
    intro fl of ad sz me al hr1 hb1
    refine broken_j (y := ⟨s.f0, fl, of, ad, sz, me, al⟩ :: r) hsz rfl (by simp) (by simp only [List.length_cons]; omega) hck hce ?_ (bad_first (seg_bad gt hb1)) (.inr ⟨by omega, by omega, ?_⟩) 300
    · intro x hx
      rcases List.mem_cons.1 hx with rfl | hx
      · exact hfitS _ (by show _ ∧ _; simp only []; omega)
      · exact hfr x hx
    · intro x hx
      rcases List.mem_cons.1 hx with rfl | hx
      · simp only []; omega
      · exact hpr x hx
  by_cases c0 : K = 0
  · rw [if_pos c0]
    refine broken_j (y := s :: r) hsz rfl (by simp) (by simp only [List.length_cons]; omega) (by decide) hce ?_ ?_ (.inr ⟨by omega, by omega, ?_⟩) 300
    · intro x hx
      exact hfitS x (by have := hfit x hx; omega)
    · unfold checkI
      rw [if_pos (by unfold badHead; omega)]
    · intro x hx
      have := hfit x hx
      omega
  rw [if_neg c0]
  by_cases c1 : K = 1
  · rw [if_pos c1]
    exact one _ _ _ _ _ _ (by omega) (by omega)
  rw [if_neg c1]
  by_cases c2 : K = 2
  · rw [if_pos c2]
    have t0 := Int.tmod_nonneg 64 hs.2.2.1
    have t1 := Int.tmod_lt_of_pos s.f2 (show (0 : Int) < 64 by omega)
    rw [w64 (x := size + 64) (by omega) (by omega), w64 (x := size + 64 + _) (by omega) (by omega)]
    exact one _ _ _ _ _ _ (by omega) (by omega)
  rw [if_neg c2]
  by_cases c3 : K = 3
  · rw [if_pos c3, w64 (x := s.f5 + 1) (by omega) (by omega)]
    exact one _ _ _ _ _ _ (by omega) (by omega)
  rw [if_neg c3]
  by_cases c4 : K = 4
  · rw [if_pos c4]
    exact one _ _ _ _ _ _ (by omega) (by omega)
  rw [if_neg c4]
  by_cases c5 : K = 5
  · rw [if_pos c5]
    exact one _ _ _ _ _ _ (by omega) (by omega)
  rw [if_neg c5]
  by_cases c6 : K = 6
  · rw [if_pos c6, w64 (x := s.f2 + 1) (by omega) (by omega)]
    exact one _ _ _ _ _ _ (by omega) (by omega)
  rw [if_neg c6]
  by_cases c7 : K = 7
  · rw [if_pos c7]
    exact one _ _ _ _ _ _ (by omega) (by omega)
  rw [if_neg c7]
  by_cases c8 : K = 8
  · rw [if_pos c8, if_pos (by omega)]
    refine broken_j (y := [⟨7, s.f1, s.f2, s.f3, s.f4, s.f5, s.f6⟩]) hsz rfl (by simp) (by simp) hck hce ?_ ?_ (.inr ⟨by omega, by omega, ?_⟩) 300
    · intro x hx
      rw [List.mem_singleton.1 hx]
      exact hfitS _ (by simp only []; omega)
    · unfold checkI chk chk
      rw [if_neg (show ¬ (7 : Int) = 1 by decide), if_neg (show ¬ (7 : Int) = 2 by decide)]
      simp
    · intro x hx
      rw [List.mem_singleton.1 hx]
      simp only []; omega
  rw [if_neg c8]
  by_cases c9 : K = 9
  · rw [if_pos c9, if_pos (by simp only [List.length_cons]; omega)]
    refine broken_j (y := s :: r ++ [s]) hsz rfl (by simp) (by simp; omega) hck hce ?_ ?_ (.inr ⟨by omega, by omega, ?_⟩) 300
    · intro x hx
      rcases List.mem_append.1 hx with hx | hx
      · exact hfitS x (by have := hfit x hx; omega)
      · rw [List.mem_singleton.1 hx]; exact hfitS s (by omega)
    · obtain ⟨ea, eb⟩ := page_of g (Int.le_refl _) (by omega)
      have := chk_back (all := s :: r ++ [s]) (size := size) (entry := entry) (t := s) 0 0 (decide (kind = 3) && decide (entry = 0)) (Ch.cons g c) (Int.le_refl _) hp gt (by omega)
      unfold checkI
      rw [this]
      split <;> rfl
    · intro x hx
      rcases List.mem_append.1 hx with hx | hx
      · have := hfit x hx; omega
      · rw [List.mem_singleton.1 hx]; omega
  rw [if_neg c9]
  by_cases c10 : K = 10
  · rw [if_pos c10]
    refine broken_j (y := s :: r) hsz rfl (by simp) (by simp only [List.length_cons]; omega) hck (by decide) ?_ ?_ (.inr ⟨by omega, by omega, ?_⟩) 300
    · intro x hx
      exact hfitS x (by have := hfit x hx; omega)
    · have := chk_entry (all := s :: r) (size := size) (entry := 524288) (s :: r) 0 0 0 (beg_none (Ch.cons g c) (Int.le_refl _) hp (by omega))
      unfold checkI
      rw [show (decide (kind = 3) && decide ((524288 : Int) = 0)) = false by simp, this]
      split <;> rfl
    · intro x hx
      have := hfit x hx
      omega
  rw [if_neg c10]
  have c11 : K = 11 := by omega
  refine broken_j (y := ⟨s.f0, s.f1, s.f2, s.f3, s.f4, -1, s.f6⟩ :: r) hsz rfl (by simp) (by simp only [List.length_cons]; omega) hck hce ?_ (bad_first (seg_bad (mem := -1) gt (.inr (.inl (by decide))))) (.inl c11) 300
  intro x hx
  rcases List.mem_cons.1 hx with rfl | hx
  · unfold fitS
    simp only []
    rw [cl_id hs.1, cl_id hs.2.1, cl_id hs.2.2.1, cl_id hs.2.2.2.1, cl_id hs.2.2.2.2.1, show cl (-1) = 0 from rfl, cl_id hs.2.2.2.2.2.2.1]
    omega
  · exact hfr x hx
end Go.Proofs.Ytdlgfjefbjkdaaa.Pure
