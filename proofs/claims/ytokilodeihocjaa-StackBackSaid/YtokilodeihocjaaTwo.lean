/- Two strings.Builders of the call's own, apart: what a write to the one, and a reading of it, leaves of the other. -/
import Derived.Test.YtokilodeihocjaaBld
import Derived.Test.YtokilodeihocjaaShelf
import Derived.Test.YtokilodeihocjaaPut
import Derived.Lib.Hide
namespace Go.Proofs.Ytokilodeihocjaa.H
open Go.RowKit Go.Proofs.YtokilodeihocjaaW.PrintWords Go.Proofs.YtokilodeihocjaaW.PrintLast Go.Proofs.YtokilodeihocjaaW.PrintMore Go.Proofs.Ytokilodeihocjaa.A
set_option linter.unusedVariables false
set_option linter.unusedSimpArgs false

def bytesL (s : ByteArray) : List UInt8 := s.data.toList
theorem bytesL_length (s : ByteArray) : (bytesL s).length = s.size := by simp [bytesL]
theorem byteCells_append (a b : List UInt8) : Lib.byteCells (a ++ b) = Lib.byteCells a ++ Lib.byteCells b := by simp [Lib.byteCells]
theorem strCells_eq (s : ByteArray) : Lib.strCells s = Lib.byteCells (bytesL s) := rfl
theorem byteCells_length (a : List UInt8) : (Lib.byteCells a).length = a.length := by simp [Lib.byteCells]

theorem IsB.row {B b k : Nat} {x : List Value} {W : World} (h : IsB B b x W) (e : rowOf W b = some k) : B ≤ k ∧ ∃ c, W.heap[k]? = some (.cells c 5 (0, 0)) := by
  obtain ⟨p, hB, v, hbk, hown, hne⟩ := h.at_
  rw [rowOf_at hbk] at e
  rcases hown.2 with ⟨rfl, _⟩ | ⟨g, cap, cur, rfl, hbg, hg, _⟩
  · simp [Value.ownBlock] at e
  · simp only [Value.ownBlock] at e
    obtain rfl := Option.some.inj e
    exact ⟨hbg, cur, hg⟩
theorem IsB.at_blk {B b : Nat} {x : List Value} {W : World} (h : IsB B b x W) : B ≤ b ∧ ∃ cs, W.heap[b]? = some (.cells cs 60 (0, 0)) := by
  obtain ⟨p, hB, v, hbk, hown, hne⟩ := h.at_
  exact ⟨hB, _, hbk⟩
/-- A builder whose own block and row stand is the builder that it was. -/
theorem IsB.keep {B b : Nat} {x : List Value} {W W' : World} (h : IsB B b x W) (h1 : W'.heap[b]? = W.heap[b]?) (h2 : ∀ k, rowOf W b = some k → W'.heap[k]? = W.heap[k]?) : IsB B b x W' ∧ rowOf W' b = rowOf W b := by
  have key : ∀ p, Lib.BuilderAt 60 5 B b p x W → Lib.BuilderAt 60 5 B b p x W' := by
    rintro p ⟨hB, v, hbk, hown, hne⟩
    refine ⟨hB, v, h1.trans hbk, ⟨hown.1, ?_⟩, hne⟩
    rcases hown.2 with ⟨rfl, hz⟩ | ⟨g, cap, cur, rfl, hbg, hg, hr⟩
    · exact .inl ⟨rfl, hz⟩
    · refine .inr ⟨g, cap, cur, rfl, hbg, (h2 g ?_).trans hg, hr⟩
      rw [rowOf_at hbk]; rfl
  refine ⟨?_, ?_⟩
  · rcases h with h | h
    · exact .inl (key _ h)
    · exact .inr (key _ h)
  · rw [rowOf, rowOf, World.cell?, World.cell?, h1]
theorem IsB.below {B b : Nat} {xs : List Value} {w w1 : World} (h : IsB B b xs w) (hb : Below w.heap.size w w1) : IsB B b xs w1 ∧ rowOf w1 b = rowOf w b := by
  refine h.keep (hb.block b ?_) fun k e => hb.block k ?_
  · obtain ⟨_, cs, hc⟩ := h.at_blk; exact blk_lt hc
  · obtain ⟨_, c, hc⟩ := h.row e; exact blk_lt hc

/-- What a write to builder b leaves of a block of another type. -/
theorem BKept.other {W W' : World} {B b g T : Nat} {x : List Value} {cs : Array Value} {m : Nat × Nat} (hk : BKept W W' b) (h : IsB B b x W) (hg : W.heap[g]? = some (.cells cs T m)) (hT : T ≠ 5) (hne : g ≠ b) : W'.heap[g]? = some (.cells cs T m) := by
  refine (hk.block g (blk_lt hg) hne ?_).trans hg
  intro e
  obtain ⟨_, c, hc⟩ := h.row e.symm
  rw [hg] at hc
  simp at hc
  exact hT hc.2.1

/-- Two builders, apart. -/
structure Two (B b1 b2 : Nat) (x1 x2 : List UInt8) (W : World) : Prop where
  one : IsB B b1 (Lib.byteCells x1) W
  two : IsB B b2 (Lib.byteCells x2) W
  ne : b1 ≠ b2
  apart : ∀ k, rowOf W b1 = some k → rowOf W b2 ≠ some k

theorem Two.swap {B b1 b2 : Nat} {x1 x2 : List UInt8} {W : World} (h : Two B b1 b2 x1 x2 W) : Two B b2 b1 x2 x1 W := ⟨h.two, h.one, fun e => h.ne e.symm, fun k e1 e2 => h.apart k e2 e1⟩
theorem Two.below {B b1 b2 : Nat} {x1 x2 : List UInt8} {W W' : World} (h : Two B b1 b2 x1 x2 W) (hb : Below W.heap.size W W') : Two B b1 b2 x1 x2 W' := by
  obtain ⟨h1, e1⟩ := h.one.below hb
  obtain ⟨h2, e2⟩ := h.two.below hb
  exact ⟨h1, h2, h.ne, fun k k1 k2 => h.apart k (e1 ▸ k1) (e2 ▸ k2)⟩
theorem Two.drew {B b1 b2 : Nat} {x1 x2 : List UInt8} {W : World} (h : Two B b1 b2 x1 x2 W) : Two B b1 b2 x1 x2 W.drew := h.below (below_drew (Below.refl _ _))
/-- What keeps all but the one builder keeps the other. -/
theorem Two.keeps {B b1 b2 : Nat} {x1 x2 : List UInt8} {W W' : World} (h : Two B b1 b2 x1 x2 W) (hk : BKept W W' b1) : IsB B b2 (Lib.byteCells x2) W' ∧ rowOf W' b2 = rowOf W b2 := by
  obtain ⟨_, cs, hc⟩ := h.two.at_blk
  refine h.two.keep ((hk.other h.one hc (by decide) h.ne.symm).trans hc.symm) fun k e => ?_
  obtain ⟨_, c, hck⟩ := h.two.row e
  obtain ⟨_, cs1, hc1⟩ := h.one.at_blk
  refine hk.block k (blk_lt hck) ?_ ?_
  · rintro rfl
    rw [hck] at hc1
    simp at hc1
  · intro e1
    exact h.apart k e1.symm e
theorem Two.write {B b1 b2 : Nat} {x1 y1 x2 : List UInt8} {W W' : World} (h : Two B b1 b2 x1 x2 W) (h1 : IsB B b1 (Lib.byteCells y1) W') (hk : BKept W W' b1) : Two B b1 b2 y1 x2 W' := by
  obtain ⟨h2, e2⟩ := h.keeps hk
  refine ⟨h1, h2, h.ne, fun k k1 k2 => ?_⟩
  rw [e2] at k2
  rcases hk.row with e | ⟨k', e, hlt⟩
  · exact h.apart k (e ▸ k1) k2
  · rw [e] at k1
    obtain rfl := Option.some.inj k1
    obtain ⟨_, c, hc⟩ := h.two.row k2
    have := blk_lt hc
    omega

theorem BKept.refl (W : World) (b : Nat) : BKept W W b := ⟨Nat.le_refl _, fun _ _ _ _ => rfl, .inl rfl⟩
theorem BKept.after {w w1 w2 : World} {b : Nat} (h : BKept w1 w2 b) (hs : w.heap.size ≤ w1.heap.size) (hb : ∀ i, i < w.heap.size → w1.heap[i]? = w.heap[i]?) (hr : rowOf w1 b = rowOf w b) : BKept w w2 b := by
  refine ⟨Nat.le_trans hs h.size, fun i hi hne hrow => (h.block i (Nat.lt_of_lt_of_le hi hs) hne (by rw [hr]; exact hrow)).trans (hb i hi), ?_⟩
  rcases h.row with e | ⟨k, e, hk⟩
  · exact .inl (e.trans hr)
  · exact .inr ⟨k, e, Nat.le_trans hs hk⟩

theorem freeze_other (w : World) (p : Addr) (n i : Nat) (h : i ≠ p.block) : (w.freeze p n).heap[i]? = w.heap[i]? := by
  unfold World.freeze
  split
  · rfl
  · simp only [Array.getElem?_modify]
    rw [if_neg (fun e => h e.symm)]
theorem freeze_size (w : World) (p : Addr) (n : Nat) : (w.freeze p n).heap.size = w.heap.size := by
  unfold World.freeze
  split <;> simp

set_option maxHeartbeats 2000000 in
set_option maxRecDepth 100000 in
/-- (*strings.Builder).String, with its frame. -/
theorem String_calls (B b : Nat) (l : List UInt8) (w : World) (h : IsB B b (Lib.byteCells l) w) (h0 : l ≠ []) :
    Calls Try.prog 28 #[.pointer (some ⟨b, 0, none⟩)] w fun e w' => e = .returned (.string ⟨l.toArray⟩) ∧ (Below B w w' ∧ BKept w w' b) := by
  obtain ⟨p, hB, v, hbk, hown, hne⟩ := h.at_
  have hl0 : l.length ≠ 0 := by simpa using h0
  rw [byteCells_length] at hown
  obtain ⟨g, cap, cur, rfl, hbg, hg, hnc, hcm, hcs, htake⟩ : ∃ g cap cur, v = .slice (some ⟨g, 0, none⟩) l.length cap ∧ B ≤ g ∧ w.heap[g]? = some (.cells cur 5 (0, 0)) ∧ l.length ≤ cap ∧ cap ≤ maxLen ∧ cur.size = cap * 1 ∧ cur.toList.take (l.length * 1) = Lib.byteCells l := by
    rcases hown.2 with ⟨_, hz⟩ | ⟨g, cap, cur, hv, r⟩
    · exact absurd hz hl0
    · exact ⟨g, cap, cur, hv, r⟩
  have hgb : b ≠ g := by
    rintro rfl
    exact hne (by simp [Value.ownBlock])
  have c1 : w.drew.cell? ⟨b, 1, none⟩ = some (.slice (some ⟨g, 0, none⟩) l.length cap) := by
    have : w.drew.heap[b]? = some (.cells #[p, .slice (some ⟨g, 0, none⟩) l.length cap] 60 (0, 0)) := hbk
    rw [Lib.cell_of_heap this]; rfl
  have hrow : rowOf w b = some g := by rw [rowOf_at hbk]; rfl
  have hSD : (Builtin.unsafeSliceData_ #[37] 83 #[.slice (some ⟨g, 0, none⟩) l.length cap]).run Try.prog w.drew = .ok (.pointer (some ⟨g, 0, none⟩)) w.drew :=
    Lib.run_unsafeSliceData_row _ _ _ _ _ _ (by omega)
  have hUS : (Builtin.unsafeString_ #[83, 3] 9 #[.pointer (some ⟨g, 0, none⟩), .int .i64 l.length]).run Try.prog w.drew = .ok (.string ⟨l.toArray⟩) (w.drew.freeze ⟨g, 0, none⟩ l.length) := by
    refine Lib.run_unsafeString_row w.drew 83 3 9 5 Try.underlying83 (by kernel_rfl) g cur.size (by have hg' : w.drew.heap[g]? = some (.cells cur 5 (0, 0)) := hg; simp [World.shape?, hg']) l h0 (by omega) (by unfold maxLen at hcm; omega) ?_
    intro j x hx
    have := hown.cells (g := g) rfl j (.int .u8 x.toNat) (by simp [Lib.byteCells, hx])
    exact this
  have hpost : Below B w (w.drew.freeze ⟨g, 0, none⟩ l.length) ∧ BKept w (w.drew.freeze ⟨g, 0, none⟩ l.length) b := by
    refine ⟨Lib.below_freeze (Below.drew (Below.refl B w)) (p := ⟨g, 0, none⟩) hbg _, by rw [freeze_size]; exact Nat.le_refl _, fun i hi hib hir => ?_, .inl ?_⟩
    · rw [hrow] at hir
      exact freeze_other w.drew ⟨g, 0, none⟩ _ i (fun e => hir (by rw [e]))
    · rw [rowOf, rowOf, World.cell?, World.cell?, freeze_other w.drew ⟨g, 0, none⟩ _ b hgb]
      rfl
  have mixed : Try.prog.follows Departure.mixedOrders = true := by kernel_rfl
  have HP := Lib.hid hpost
  clear hpost hrow hg hbk hown htake hcs hcm hnc
  go_enter Try.func28, Try.ntmps28
  go_wp2
  go_region_o
  all_goals (go_wp2; go_ret; exact ⟨rfl, HP.out⟩)

/-- A write to the first of two builders. -/
theorem write1_calls {B b1 b2 : Nat} {x1 x2 : List UInt8} {W : World} (h : Two B b1 b2 x1 x2 W) (s : ByteArray) (hlen : x1.length + s.size ≤ 140737488355328) (hBw : B ≤ W.heap.size) :
    Calls Try.prog 23 #[.pointer (some ⟨b1, 0, none⟩), .string s] W fun e w' => e = .returned (.tuple #[.int .i64 s.size, .nilIface]) ∧ (Two B b1 b2 (x1 ++ bytesL s) x2 w' ∧ Below B W w' ∧ BKept W w' b1) := by
  refine (WriteString_calls _ _ _ s W h.one (by rw [byteCells_length]; exact hlen) hBw).mono ?_
  rintro e w' ⟨rfl, h1, h2, h3⟩
  rw [strCells_eq, ← byteCells_append] at h1
  exact ⟨rfl, h.write h1 h3, h2, h3⟩
end Go.Proofs.Ytokilodeihocjaa.H
