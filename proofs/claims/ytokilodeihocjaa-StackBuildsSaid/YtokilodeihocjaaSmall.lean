/- (flyleaflaw17.Begin).small, read: at most ten texts, of forty bytes at most, and ten pairs. -/
import Derived.Test.YtokilodeihocjaaBuildDefs
import Derived.Test.YtokilodeihocjaaAxFlyleaflaw17Few
import Derived.WalkKit
import Derived.Lib.Hide
import Derived.WalkSpells
namespace Go.Proofs.Ytokilodeihocjaa.H
open Go.RowKit Go.Proofs.Ytokilodeihocjaa.A Go.Proofs.Flat Go.Proofs.YtokilodeihocjaaW.PrintWords Go.Proofs.YtokilodeihocjaaW.PrintLast Go.Proofs.YtokilodeihocjaaW.PrintMore
attribute [local go_sem] max2_int min2_int
set_option linter.unusedVariables false
set_option linter.unusedSimpArgs false
def cut40 (s : ByteArray) : ByteArray := if 40 < s.size then s.extract 0 40 else s
def fewL (l : List ByteArray) : List ByteArray := (l.take 10).map cut40
theorem few_loop (l : List ByteArray) (d : Nat) : ∀ k i : Nat, i + d = 10 → 2 * d + 2 < k → flyleaflaw17_few.l0 k l ((l.take i).map cut40) i = some (fewL l) := by
  induction d with
  | zero =>
    intro k i hi hk
    obtain ⟨k, rfl⟩ : ∃ m, k = m + 2 := ⟨k - 2, by omega⟩
    obtain rfl : i = 10 := by omega
    simp only [flyleaflaw17_few.l0]
    rw [show decide (((10 : Nat) : Int) < 10) = false from by decide]
    simp only [flyleaflaw17_few.j1]
    simp [fewL]
  | succ d ih =>
    intro k i hi hk
    obtain ⟨k, rfl⟩ : ∃ m, k = m + 2 := ⟨k - 2, by omega⟩
    have hx := ih k (i + 1) (by omega) (by omega)
    have e1 : wrap64 ((i : Int) + 1) = ((i + 1 : Nat) : Int) := by rw [wid (by omega) (by omega)]; omega
    have c8 : decide ((i : Int) < 10) = true := decide_eq_true (by clear e1; omega)
    by_cases hil : i < l.length
    · have ht : (l.take (i + 1)).map cut40 = (l.take i).map cut40 ++ [cut40 (l.getD i ByteArray.empty)] := by
        rw [List.take_succ_eq_append_getElem hil, List.map_append, List.getD_eq_getElem?_getD, List.getElem?_eq_getElem hil]
        rfl
      have hlt : ((l.take i).map cut40).length < 8796093022208 := by rw [List.length_map, List.length_take]; clear e1; omega
      have c1 : (i : Int) < (l.length : Int) := by clear e1; omega
      have c0 : 0 ≤ (i : Int) := by clear e1; omega
      rw [ht] at hx
      simp only [flyleaflaw17_few.l0]
      rw [if_pos c1, c8]
      simp only [flyleaflaw17_few.j1]
      rw [if_pos trivial, if_pos c0, if_pos c1, rdOf, Int.toNat_natCast, e1]
      generalize l.getD i ByteArray.empty = x at *
      by_cases hs : 40 < x.size
      · rw [if_pos (by clear e1; omega), if_pos (by decide), if_pos (by clear e1; omega), if_pos hlt]
        rw [cut40, if_pos hs] at hx
        exact hx
      · rw [if_neg (by clear e1; omega), if_pos hlt]
        rw [cut40, if_neg hs] at hx
        exact hx
    · simp only [flyleaflaw17_few.l0]
      rw [if_neg (by clear e1; omega)]
      simp only [flyleaflaw17_few.j1]
      rw [if_neg (by simp), fewL, List.take_of_length_le (show l.length ≤ i by clear e1; omega), List.take_of_length_le (show l.length ≤ 10 by clear e1; omega)]
theorem few_told (l : List ByteArray) : flyleaflaw17_few.f 30 l = some (fewL l) := few_loop l 10 30 0 (by omega) (by omega)

/-- What is known of a row of texts that the call has made. -/
def TextsAt (W : World) (B : Option Addr) (d : Nat) (l : List ByteArray) : Prop := ∃ base, Kd.R Kd.string 9 W base (fun _ => True) (.slice B l.length d) l
theorem TextsAt.c {W : World} {B : Option Addr} {d : Nat} {l : List ByteArray} (h : TextsAt W B d l) : Kd.C Kd.string W B l.length l := by obtain ⟨_, h⟩ := h; exact (Kd.R_reads' h).2.2
theorem TextsAt.d {W : World} {B : Option Addr} {d : Nat} {l : List ByteArray} (h : TextsAt W B d l) : l.length ≤ d := by obtain ⟨_, h⟩ := h; exact (Kd.R_reads' h).2.1
theorem TextsAt.below {W W1 : World} {B : Option Addr} {d : Nat} {l : List ByteArray} (h : TextsAt W B d l) (hb : Below W.heap.size W W1) : TextsAt W1 B d l := by obtain ⟨b, h⟩ := h; exact ⟨b, Kd.R_below h hb⟩
def SmallPost (l0 l1 : List ByteArray) (A2 : Option Addr) (c2 : Nat) (l2 : List Pr) (w : World) (e : Ending) (w' : World) : Prop :=
  ∃ B0 d0 B1 d1, e = .returned (.agg #[.slice B0 (fewL l0).length d0, .slice B1 (fewL l1).length d1, .slice A2 (l2.take 10).length c2]) ∧ TextsAt w' B0 d0 (fewL l0) ∧ TextsAt w' B1 d1 (fewL l1) ∧ Below w.heap.size w w'
theorem str_ne (q : Nat) (h : q ∈ 9 :: Kd.string.E) : q ≠ 25 := by
  simp [Kd.string, Kd.scalar] at h
  subst h
  decide

/-- The two boxes, the two rows, all the while. -/
structure SI (w : World) (g : Nat) (base0 base1 : Nat) (v0 v1 : Value) (l0 l1 : List ByteArray) (x y : Array Value) (W : World) : Prop where
  G : W.heap[g]? = some (.cells x 25 (0, 0))
  H : W.heap[g + 1]? = some (.cells y 25 (0, 0))
  R0 : Kd.R Kd.string 9 W base0 (fun _ => True) v0 l0
  R1 : Kd.R Kd.string 9 W base1 (fun _ => True) v1 l1
  bel : Below g w W
theorem SI.setG {w : World} {g base0 base1 : Nat} {v0 v1 : Value} {l0 l1 : List ByteArray} {x y : Array Value} {W : World} (h : SI w g base0 base1 v0 v1 l0 l1 x y W) (i : Nat) (v : Value) : SI w g base0 base1 v0 v1 l0 l1 (x.setIfInBounds i v) y (W.setCell ⟨g, i, none⟩ v) :=
  ⟨blk_set h.G i v, blk_far h.H (p := ⟨g, i, none⟩) (by show g + 1 ≠ g; omega) v, Kd.R_set h.R0 h.G str_ne i v, Kd.R_set h.R1 h.G str_ne i v, h.bel.setCell (p := ⟨g, i, none⟩) (Nat.le_refl _) v⟩
theorem SI.setH {w : World} {g base0 base1 : Nat} {v0 v1 : Value} {l0 l1 : List ByteArray} {x y : Array Value} {W : World} (h : SI w g base0 base1 v0 v1 l0 l1 x y W) (i : Nat) (v : Value) : SI w g base0 base1 v0 v1 l0 l1 x (y.setIfInBounds i v) (W.setCell ⟨g + 1, i, none⟩ v) :=
  ⟨blk_far h.G (p := ⟨g + 1, i, none⟩) (by show g ≠ g + 1; omega) v, blk_set h.H i v, Kd.R_set h.R0 h.H str_ne i v, Kd.R_set h.R1 h.H str_ne i v, h.bel.setCell (p := ⟨g + 1, i, none⟩) (by show g ≤ g + 1; omega) v⟩
theorem SI.texts {w : World} {g base0 base1 : Nat} {A0 A1 : Option Addr} {c0 c1 : Nat} {l0 l1 : List ByteArray} {x y : Array Value} {W : World} (h : SI w g base0 base1 (.slice A0 l0.length c0) (.slice A1 l1.length c1) l0 l1 x y W) : TextsAt W A0 c0 l0 ∧ TextsAt W A1 c1 l1 :=
  ⟨⟨_, h.R0⟩, ⟨_, h.R1⟩⟩
theorem TextsAt.set {W : World} {B : Option Addr} {d : Nat} {l : List ByteArray} (h : TextsAt W B d l) {g : Nat} {x : Array Value} (hg : W.heap[g]? = some (.cells x 25 (0, 0))) (i : Nat) (v : Value) : TextsAt (W.setCell ⟨g, i, none⟩ v) B d l := by
  obtain ⟨b, h⟩ := h
  exact ⟨b, Kd.R_set h hg str_ne i v⟩
set_option maxHeartbeats 4000000 in
set_option maxRecDepth 100000 in
theorem small_calls (A0 : Option Addr) (c0 : Nat) (l0 : List ByteArray) (A1 : Option Addr) (c1 : Nat) (l1 : List ByteArray) (A2 : Option Addr) (c2 : Nat) (l2 : List Pr) (w : World)
    (hr0 : Kd.C Kd.string w A0 l0.length l0) (hc0 : l0.length ≤ c0) (hr1 : Kd.C Kd.string w A1 l1.length l1) (hc1 : l1.length ≤ c1) (hr2 : Kd.C kPr w A2 l2.length l2) (hc2 : l2.length ≤ c2) :
    Calls Try.prog 9 #[.agg #[.slice A0 l0.length c0, .slice A1 l1.length c1, .slice A2 l2.length c2]] w (SmallPost l0 l1 A2 c2 l2 w) := by
  have hu := Try.underlying25
  have HF0 := Lib.hid (few_told l0); have HF1 := Lib.hid (few_told l1)
  have HR0 := Lib.hid hr0; have HR1 := Lib.hid hr1; have HR2 := Lib.hid hr2
  clear hr0 hr1 hr2
  go_enter Try.func9, Try.ntmps9
  go_wp2_with fail
  have hbw : Below w.heap.size w ((w.alloc (.cells #[.slice A0 l0.length c0, .slice A1 l1.length c1, .slice A2 l2.length c2] 25)).alloc (.cells #[.slice none 0 0, .slice none 0 0, .slice none 0 0] 25)) := ((Below.refl _ _).alloc (Nat.le_refl _) _).alloc (by simp) _
  have HG : ((w.alloc (.cells #[.slice A0 l0.length c0, .slice A1 l1.length c1, .slice A2 l2.length c2] 25)).alloc (.cells #[.slice none 0 0, .slice none 0 0, .slice none 0 0] 25)).heap[w.heap.size]? = some (.cells #[.slice A0 l0.length c0, .slice A1 l1.length c1, .slice A2 l2.length c2] 25 (0, 0)) := blk_alloc (blk_new w _) _
  have HH : ((w.alloc (.cells #[.slice A0 l0.length c0, .slice A1 l1.length c1, .slice A2 l2.length c2] 25)).alloc (.cells #[.slice none 0 0, .slice none 0 0, .slice none 0 0] 25)).heap[w.heap.size + 1]? = some (.cells #[.slice none 0 0, .slice none 0 0, .slice none 0 0] 25 (0, 0)) := by
    have := blk_new (w.alloc (.cells #[.slice A0 l0.length c0, .slice A1 l1.length c1, .slice A2 l2.length c2] 25)) (.cells #[.slice none 0 0, .slice none 0 0, .slice none 0 0] 25)
    simpa using this
  generalize ((w.alloc (.cells #[.slice A0 l0.length c0, .slice A1 l1.length c1, .slice A2 l2.length c2] 25)).alloc (.cells #[.slice none 0 0, .slice none 0 0, .slice none 0 0] 25)) = W0 at *
  generalize hg : w.heap.size = g at *
  have HGS := Lib.hid hg
  have hgg : g ≤ w.heap.size := Nat.le_of_eq hg.symm
  clear hg
  refine (flyleaflaw17_few.calls 30 A0 c0 l0 (fewL l0) _ (Kd.C_below HR0.out (HGS.out ▸ hbw)) hc0 HF0.out).mono ?_
  rintro e w1 ⟨v0, rfl, hR0, hb1⟩
  obtain ⟨B0, d0, rfl, hd0, _⟩ := Kd.R_reads hR0
  have HG1 := blk_below HG hb1
  have HH1 := blk_below HH hb1
  have hbw1 : Below g w w1 := hbw.trans (hb1.mono (by have := blk_lt HG; omega))
  clear hbw hb1 HG HH
  have k0 : w1.cell? ⟨g, 0, none⟩ = some (.slice A0 l0.length c0) := (blk_cell HG1 0).trans rfl
  have k1 : w1.cell? ⟨g, 1, none⟩ = some (.slice A1 l1.length c1) := (blk_cell HG1 1).trans rfl
  have f0 : w1.frozen? ⟨g, 0, none⟩ = false := blk_frozen HG1 0
  go_wp2_with fail
  clear k0 k1 f0
  have HG2 : (w1.setCell ⟨g, 0, none⟩ (.slice B0 (fewL l0).length d0)).heap[g]? = some (.cells #[.slice B0 (fewL l0).length d0, .slice A1 l1.length c1, .slice A2 l2.length c2] 25 (0, 0)) := blk_put HG1 0 _ rfl
  have HH2 := blk_far HH1 (p := ⟨g, 0, none⟩) (by show g + 1 ≠ g; omega) (.slice B0 (fewL l0).length d0)
  have hR02 := Kd.R_set hR0 HG1 str_ne 0 (.slice B0 (fewL l0).length d0)
  have hbw2 : Below g w (w1.setCell ⟨g, 0, none⟩ (.slice B0 (fewL l0).length d0)) := hbw1.setCell (p := ⟨g, 0, none⟩) (Nat.le_refl _) _
  clear HG1 HH1 hR0 hbw1
  generalize (w1.setCell ⟨g, 0, none⟩ (.slice B0 (fewL l0).length d0)) = w2 at *
  refine (flyleaflaw17_few.calls 30 A1 c1 l1 (fewL l1) _ (Kd.C_below HR1.out (HGS.out ▸ hbw2)) hc1 HF1.out).mono ?_
  rintro e w3 ⟨v1, rfl, hR1, hb3⟩
  obtain ⟨B1, d1, rfl, hd1, _⟩ := Kd.R_reads hR1
  have HG3 := blk_below HG2 hb3
  have HH3 := blk_below HH2 hb3
  have hR03 := Kd.R_below hR02 hb3
  have hbw3 : Below g w w3 := hbw2.trans (hb3.mono (by have := blk_lt HG2; omega))
  clear hbw2 hb3 HG2 HH2 hR02
  have k0 : w3.cell? ⟨g, 1, none⟩ = some (.slice A1 l1.length c1) := (blk_cell HG3 1).trans rfl
  have k2 : w3.cell? ⟨g, 2, none⟩ = some (.slice A2 l2.length c2) := (blk_cell HG3 2).trans rfl
  have f0 : w3.frozen? ⟨g, 1, none⟩ = false := blk_frozen HG3 1
  have k3 : w3.cell? ⟨g, 0, none⟩ = some (.slice B0 (fewL l0).length d0) := (blk_cell HG3 0).trans rfl
  have f1 : w3.frozen? ⟨g, 0, none⟩ = false := blk_frozen HG3 0
  have f2 : w3.frozen? ⟨g, 2, none⟩ = false := blk_frozen HG3 2
  have m0 : w3.cell? ⟨g + 1, 0, none⟩ = some (.slice none 0 0) := (blk_cell HH3 0).trans rfl
  have m1 : w3.cell? ⟨g + 1, 1, none⟩ = some (.slice none 0 0) := (blk_cell HH3 1).trans rfl
  have m2 : w3.cell? ⟨g + 1, 2, none⟩ = some (.slice none 0 0) := (blk_cell HH3 2).trans rfl
  have n0 : w3.frozen? ⟨g + 1, 0, none⟩ = false := blk_frozen HH3 0
  have n1 : w3.frozen? ⟨g + 1, 1, none⟩ = false := blk_frozen HH3 1
  have n2 : w3.frozen? ⟨g + 1, 2, none⟩ = false := blk_frozen HH3 2
  have HSI := SI.mk HG3 HH3 hR03 hR1 hbw3
  have HSIH := Lib.hid HSI
  clear HSI
  clear HG3 HH3 hR1 hR03 hbw3
  by_cases h10 : 10 < l2.length
  · have hd : decide ((l2.length : Int) > 10) = true := decide_eq_true (by omega)
    have h11 : (10 : Int) ≤ (c2 : Int) := by omega
    go_wp2
    have H9 := ((((HSIH.out.setG 1 (.slice B1 (fewL l1).length d1)).setG 2 (.slice A2 10 c2)).setH 0 (.slice B0 (fewL l0).length d0)).setH 1 (.slice B1 (fewL l1).length d1)).setH 2 (.slice A2 10 c2)
    refine bodyPost_ret (results_cell_row rfl _ _ (g + 1) 25 #[.slice B0 (fewL l0).length d0, .slice B1 (fewL l1).length d1, .slice A2 10 c2] (0, 0) _ rfl H9.H hu rfl (by kernel_rfl)) rfl ?_
    refine ⟨B0, d0, B1, d1, ?_, H9.texts.1, H9.texts.2, HGS.out.symm ▸ H9.bel⟩
    rw [List.length_take, show min 10 l2.length = 10 from by omega]
  · have hd : decide ((l2.length : Int) > 10) = false := decide_eq_false (by omega)
    go_wp2
    have H9 := (((HSIH.out.setG 1 (.slice B1 (fewL l1).length d1)).setH 0 (.slice B0 (fewL l0).length d0)).setH 1 (.slice B1 (fewL l1).length d1)).setH 2 (.slice A2 l2.length c2)
    refine bodyPost_ret (results_cell_row rfl _ _ (g + 1) 25 #[.slice B0 (fewL l0).length d0, .slice B1 (fewL l1).length d1, .slice A2 l2.length c2] (0, 0) _ rfl H9.H hu rfl (by kernel_rfl)) rfl ?_
    refine ⟨B0, d0, B1, d1, ?_, H9.texts.1, H9.texts.2, HGS.out.symm ▸ H9.bel⟩
    rw [List.length_take, show min 10 l2.length = l2.length from by omega]
end Go.Proofs.Ytokilodeihocjaa.H
