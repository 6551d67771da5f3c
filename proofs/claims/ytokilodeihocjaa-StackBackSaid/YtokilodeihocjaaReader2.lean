/- The stack's reader: pairs, and Read itself, where it does not panic. -/
import Derived.Test.YtokilodeihocjaaReader
import Derived.Defers
import Derived.Recover
import Derived.RegionTactic
import Derived.ChangeAlike
namespace Go.Proofs.Ytokilodeihocjaa.H
open Go.RowKit Go.Proofs.Ytokilodeihocjaa.A Go.Proofs.Flat Go.Proofs.YtokilodeihocjaaW.PrintWords Go.Proofs.YtokilodeihocjaaW.PrintLast Go.Proofs.YtokilodeihocjaaW.PrintMore
set_option linter.unusedVariables false
set_option linter.unusedSimpArgs false
/-- A list of pairs can be read from place a on. -/
structure PRd (v : ByteArray) (f a : Int) (l : List Pr) : Prop where
  len : l.length ≤ 128
  f0 : 0 ≤ f
  fa : f ≤ a
  ab : a ≤ 1099511630000
  num : ∀ i : Nat, i < l.length → octet_Get.f 9 v (a + 16 * (i : Int) - f) 8 = some ((l.getD i zPr).f0, true) ∧ octet_Get.f 9 v (a + 16 * (i : Int) + 8 - f) 8 = some ((l.getD i zPr).f1, true) ∧ 0 < (l.getD i zPr).f0 ∧ (l.getD i zPr).f0 ≤ 1099511627776 ∧ 0 ≤ (l.getD i zPr).f1 ∧ (l.getD i zPr).f1 ≤ 1099511627776
  fin : octet_Get.f 9 v (a + 16 * (l.length : Int) - f) 8 = some (0, true)
  wit : octet_Within.f (a + 16 * (l.length : Int) + 8 - f) 8 v.size = some true
def PairsPost (g : Nat) (l : List Pr) (W : World) (e : Ending) (w' : World) : Prop :=
  ∃ x, e = .returned x ∧ Kd.R kPr 48 w' W.heap.size (fun k => k ≠ g) x l ∧ But g W w'

set_option maxHeartbeats 4000000 in
set_option maxRecDepth 100000 in
theorem pairs_calls (g : Nat) (v : ByteArray) (f a : Int) (l : List Pr) (W : World) (h : RD g v f a W) (hl : PRd v f a l) :
    Calls Try.prog 37 #[.pointer (some ⟨g, 0, none⟩)] W (PairsPost g l W) := by
  have HL := Lib.hid hl
  have h0 := hl.f0; have h1 := hl.fa; have h2 := hl.ab; have h3 := hl.len
  have hgW : g < W.heap.size := h.lt
  have HRD := Lib.hid h
  clear hl h
  go_enter Try.func37, Try.ntmps37
  go_wp2_with fail
  go_loopg [3] l.length (fun (k : Nat) x wr => ∃ i : Nat, i + k = l.length ∧ RD g v f (a + 16 * (i : Int)) wr ∧ Kd.R kPr 48 wr W.heap.size (fun k => k ≠ g) x (l.take i) ∧ But g W wr)
  case atStart => exact ⟨0, Nat.zero_add _, by simpa using HRD.out, Kd.R_nil .., But.refl _ _⟩
  case round =>
    obtain ⟨i, hik, hRD, hR, hbut⟩ := hrel
    by_cases hlt : i < l.length
    · obtain ⟨hN, hM, hN0, hN1, hM0, hM1⟩ := HL.out.num i hlt
      generalize hX : l.getD i zPr = x at *
      have HN := Lib.hid hN; have HM := Lib.hid hM
      have HX := Lib.hid hX
      have HR := Lib.hid hR
      clear hN hM hX hR
      have hnz : (x.f0 == 0) = false := beq_eq_false_iff_ne.2 (by omega)
      go_wp2_with fail
      refine (number_calls g v f (a + 16 * (i : Int)) x.f0 9 _ hRD h0 (by omega) (by omega) HN.out (by omega) hN1).mono ?_
      rintro e w1 ⟨rfl, hRD1, hb1⟩
      have HR1 := Lib.hid (Kd.R_keep HR.out hb1.1 (fun _ hk => hk))
      have hbut1 := hbut.trans hb1
      clear hRD hbut hb1 HR
      go_wp2_with fail
      refine (number_calls g v f (a + 16 * (i : Int) + 8) x.f1 9 _ hRD1 h0 (by omega) (by omega) HM.out hM0 hM1).mono ?_
      rintro e w2 ⟨rfl, hRD2, hb2⟩
      have HR2 := Kd.R_keep HR1.out hb2.1 (fun _ hk => hk)
      have hbut2 := hbut1.trans hb2
      clear hRD1 hbut1 hb2 HR1
      have hW2 : W.heap.size ≤ w2.heap.size := hbut2.1.1
      go_wp2_with (at_builtin; refine Kd.R_append kPr (w0 := w2) W.heap.size rfl (.tmp 26) (.tmp 31) 23 48 (.agg #[.int .i64 0, .int .i64 0]) 16 rfl Try.underlying23 info48 rfl (by decide) (by omega) _ (l.take i) x [.int .i64 x.f0, .int .i64 x.f1] (fun k => k ≠ g) (fun _ => False) rfl rfl (k48_mkM _ _ _ _) (fun _ h => h.elim) (fun k hk => by omega) HR2 (Below.refl _ _) hW2 ?aL ?_)
      case aL => rw [List.length_take]; omega
      intro v1 w3 HR3 hb3 hg3 hat3
      clear hg3 hat3 HR2
      have hRD3 := hRD2.under hgW hb3
      have hbut3 := hbut2.grow (Nat.le_of_lt hgW) hb3
      clear hRD2 hbut2 hb3 hW2
      have hte : l.take i ++ [x] = l.take (i + 1) := by
        rw [List.take_succ_eq_append_getElem hlt, ← HX.out, List.getD_eq_getElem?_getD, List.getElem?_eq_getElem hlt]
        rfl
      rw [hte] at HR3
      have hLn : (l.take (i + 1)).length ≤ 128 := by rw [List.length_take]; omega
      generalize hLL : l.take (i + 1) = L' at *
      have HLL := Lib.hid hLL
      clear hte hLL
      obtain ⟨A', c', rfl, hcl, _⟩ := Kd.R_reads HR3
      have HR4 := Lib.hid HR3
      have d8 : decide ((L'.length : Int) ≤ 128) = true := decide_eq_true (by omega)
      have d9 : decide (L'.length ≤ 128) = true := decide_eq_true hLn
      clear HR3
      go_wp2_with fail
      refine (must_calls _).mono ?_
      rintro e w4 ⟨rfl, rfl⟩
      go_wp2_with fail
      go_roundg (gk - 1)
      case measure => omega
      case rel => exact ⟨i + 1, by omega, by rw [show a + 16 * ((i + 1 : Nat) : Int) = a + 16 * (i : Int) + 8 + 8 from by omega]; exact hRD3, by rw [HLL.out]; exact HR4.out, hbut3⟩
    · obtain rfl : i = l.length := by omega
      rw [List.take_length] at hR
      have HR := Lib.hid hR
      clear hR
      have HN := Lib.hid HL.out.fin
      have HW := Lib.hid HL.out.wit
      go_wp2_with fail
      refine (number_calls g v f (a + 16 * (l.length : Int)) 0 9 _ hRD h0 (by omega) (by omega) HN.out (by omega) (by omega)).mono ?_
      rintro e w1 ⟨rfl, hRD1, hb1⟩
      have HR1 := Lib.hid (Kd.R_keep HR.out hb1.1 (fun _ hk => hk))
      have hbut1 := hbut.trans hb1
      clear hRD hbut hb1 HR
      have k0 := hRD1.c0; have k1 := hRD1.c1; have k2 := hRD1.c2
      have P1 : ∀ m, Calls Try.prog 45 #[.int .i64 (a + 16 * (l.length : Int) + 8 - f), .int .i64 8, .int .i64 v.size] (w1.drewN m) fun e w' => e = .returned (.bool true) ∧ ∃ j, w' = (w1.drewN m).drewN j := fun m =>
        (octet_Within.calls _ _ _ true _ HW.out).mono fun _ _ ⟨he, hd⟩ => ⟨he, hd.out⟩
      have P2 : ∀ m, Calls Try.prog 38 #[.bool true] (w1.drewN m) fun e w' => e = .returned (.tuple #[]) ∧ w' = w1.drewN m := fun m =>
        (must_calls _).mono fun _ _ ⟨he, hw⟩ => ⟨he, hw.symm⟩
      have HP1 := Lib.hid P1; have HP2 := Lib.hid P2
      clear P1 P2
      go_wp2_with fail
      go_quiet ((first | (go_at_call 45; exact Calls.quiet_of (HP1.out _)) | (go_at_call 38; exact Calls.quiet_of_same (HP2.out _))))
      clear k0 k1 k2
      go_wp2_with fail
      go_ret
      exact ⟨_, rfl, Kd.R_drewN HR1.out nq, hbut1.drewN nq⟩

/-- The deferred closure, behind a call that returned: nothing turns. -/
theorem read1_idle (b0 b1 b2 b3 : Nat) (w : World) :
    CallsD Try.prog 34 #[.pointer (some ⟨b0, 0, none⟩), .pointer (some ⟨b1, 0, none⟩), .pointer (some ⟨b2, 0, none⟩), .pointer (some ⟨b3, 0, none⟩)] .returning w fun e u' w' => e = .returned (.tuple #[]) ∧ u' = .returning ∧ w' = w := by
  refine callsD_of_wpS Try.func34 rfl fun c₀ cs hu => ?_
  apply wpS_seq
  apply wpS_region
  simp [wpOpsS, go_sem, recoverD, hu, Try.ntmps34, Exit.thenS]
  refine wpS_cond (t := false) (by simp [Act.eval, Array.replicate]) ?_
  simp only [Bool.false_eq_true, if_false]
  refine wpS_of_wp (wp_skip ?_)
  cases c₀
  simp_all [bodyPostS, results, Try.results34]

/-! ### Read -/
/-- The four results' boxes. -/
structure BX (b0 b1 b2 b3 : Nat) (v0 v1 v2 v3 : Value) (W : World) : Prop where
  o1 : b0 < b1
  o2 : b1 < b2
  o3 : b2 < b3
  h0 : W.heap[b0]? = some (.cells #[v0] 22 (0, 0))
  h1 : W.heap[b1]? = some (.cells #[v1] 22 (0, 0))
  h2 : W.heap[b2]? = some (.cells #[v2] 23 (0, 0))
  h3 : W.heap[b3]? = some (.cells #[v3] 4 (0, 0))
theorem BX.but {b0 b1 b2 b3 g : Nat} {v0 v1 v2 v3 : Value} {W W' : World} (h : BX b0 b1 b2 b3 v0 v1 v2 v3 W) (hb : But g W W') (hg : b3 < g) : BX b0 b1 b2 b3 v0 v1 v2 v3 W' :=
  ⟨h.o1, h.o2, h.o3, (hb.1.2 _ (blk_lt h.h0) (by have := h.o1; have := h.o2; have := h.o3; omega) (by simp)).trans h.h0, (hb.1.2 _ (blk_lt h.h1) (by have := h.o2; have := h.o3; omega) (by simp)).trans h.h1, (hb.1.2 _ (blk_lt h.h2) (by have := h.o3; omega) (by simp)).trans h.h2, (hb.1.2 _ (blk_lt h.h3) (by omega) (by simp)).trans h.h3⟩
theorem BX.drewN {b0 b1 b2 b3 : Nat} {v0 v1 v2 v3 : Value} {W : World} (h : BX b0 b1 b2 b3 v0 v1 v2 v3 W) (n : Nat) : BX b0 b1 b2 b3 v0 v1 v2 v3 (W.drewN n) := ⟨h.o1, h.o2, h.o3, h.h0, h.h1, h.h2, h.h3⟩
theorem BX.set0 {b0 b1 b2 b3 : Nat} {v0 v1 v2 v3 : Value} {W : World} (h : BX b0 b1 b2 b3 v0 v1 v2 v3 W) (x : Value) : BX b0 b1 b2 b3 x v1 v2 v3 (W.setCell ⟨b0, 0, none⟩ x) :=
  ⟨h.o1, h.o2, h.o3, blk_put h.h0 0 x rfl, blk_far h.h1 (p := ⟨b0, 0, none⟩) (by have := h.o1; have := h.o2; have := h.o3; show b1 ≠ b0; omega) x, blk_far h.h2 (p := ⟨b0, 0, none⟩) (by have := h.o1; have := h.o2; have := h.o3; show b2 ≠ b0; omega) x, blk_far h.h3 (p := ⟨b0, 0, none⟩) (by have := h.o1; have := h.o2; have := h.o3; show b3 ≠ b0; omega) x⟩
theorem BX.set1 {b0 b1 b2 b3 : Nat} {v0 v1 v2 v3 : Value} {W : World} (h : BX b0 b1 b2 b3 v0 v1 v2 v3 W) (x : Value) : BX b0 b1 b2 b3 v0 x v2 v3 (W.setCell ⟨b1, 0, none⟩ x) :=
  ⟨h.o1, h.o2, h.o3, blk_far h.h0 (p := ⟨b1, 0, none⟩) (by have := h.o1; have := h.o2; have := h.o3; show b0 ≠ b1; omega) x, blk_put h.h1 0 x rfl, blk_far h.h2 (p := ⟨b1, 0, none⟩) (by have := h.o1; have := h.o2; have := h.o3; show b2 ≠ b1; omega) x, blk_far h.h3 (p := ⟨b1, 0, none⟩) (by have := h.o1; have := h.o2; have := h.o3; show b3 ≠ b1; omega) x⟩
theorem BX.set2 {b0 b1 b2 b3 : Nat} {v0 v1 v2 v3 : Value} {W : World} (h : BX b0 b1 b2 b3 v0 v1 v2 v3 W) (x : Value) : BX b0 b1 b2 b3 v0 v1 x v3 (W.setCell ⟨b2, 0, none⟩ x) :=
  ⟨h.o1, h.o2, h.o3, blk_far h.h0 (p := ⟨b2, 0, none⟩) (by have := h.o1; have := h.o2; have := h.o3; show b0 ≠ b2; omega) x, blk_far h.h1 (p := ⟨b2, 0, none⟩) (by have := h.o1; have := h.o2; have := h.o3; show b1 ≠ b2; omega) x, blk_put h.h2 0 x rfl, blk_far h.h3 (p := ⟨b2, 0, none⟩) (by have := h.o1; have := h.o2; have := h.o3; show b3 ≠ b2; omega) x⟩
theorem BX.set3 {b0 b1 b2 b3 : Nat} {v0 v1 v2 v3 : Value} {W : World} (h : BX b0 b1 b2 b3 v0 v1 v2 v3 W) (x : Value) : BX b0 b1 b2 b3 v0 v1 v2 x (W.setCell ⟨b3, 0, none⟩ x) :=
  ⟨h.o1, h.o2, h.o3, blk_far h.h0 (p := ⟨b3, 0, none⟩) (by have := h.o1; have := h.o2; have := h.o3; show b0 ≠ b3; omega) x, blk_far h.h1 (p := ⟨b3, 0, none⟩) (by have := h.o1; have := h.o2; have := h.o3; show b1 ≠ b3; omega) x, blk_far h.h2 (p := ⟨b3, 0, none⟩) (by have := h.o1; have := h.o2; have := h.o3; show b2 ≠ b3; omega) x, blk_put h.h3 0 x rfl⟩
theorem BX.c0 {b0 b1 b2 b3 : Nat} {v0 v1 v2 v3 : Value} {W : World} (h : BX b0 b1 b2 b3 v0 v1 v2 v3 W) : W.cell? ⟨b0, 0, none⟩ = some v0 := (blk_cell h.h0 0).trans rfl
theorem BX.f0 {b0 b1 b2 b3 : Nat} {v0 v1 v2 v3 : Value} {W : World} (h : BX b0 b1 b2 b3 v0 v1 v2 v3 W) : W.frozen? ⟨b0, 0, none⟩ = false := blk_frozen h.h0 0
theorem BX.c1 {b0 b1 b2 b3 : Nat} {v0 v1 v2 v3 : Value} {W : World} (h : BX b0 b1 b2 b3 v0 v1 v2 v3 W) : W.cell? ⟨b1, 0, none⟩ = some v1 := (blk_cell h.h1 0).trans rfl
theorem BX.f1 {b0 b1 b2 b3 : Nat} {v0 v1 v2 v3 : Value} {W : World} (h : BX b0 b1 b2 b3 v0 v1 v2 v3 W) : W.frozen? ⟨b1, 0, none⟩ = false := blk_frozen h.h1 0
theorem BX.c2 {b0 b1 b2 b3 : Nat} {v0 v1 v2 v3 : Value} {W : World} (h : BX b0 b1 b2 b3 v0 v1 v2 v3 W) : W.cell? ⟨b2, 0, none⟩ = some v2 := (blk_cell h.h2 0).trans rfl
theorem BX.f2 {b0 b1 b2 b3 : Nat} {v0 v1 v2 v3 : Value} {W : World} (h : BX b0 b1 b2 b3 v0 v1 v2 v3 W) : W.frozen? ⟨b2, 0, none⟩ = false := blk_frozen h.h2 0
theorem BX.c3 {b0 b1 b2 b3 : Nat} {v0 v1 v2 v3 : Value} {W : World} (h : BX b0 b1 b2 b3 v0 v1 v2 v3 W) : W.cell? ⟨b3, 0, none⟩ = some v3 := (blk_cell h.h3 0).trans rfl
theorem BX.f3 {b0 b1 b2 b3 : Nat} {v0 v1 v2 v3 : Value} {W : World} (h : BX b0 b1 b2 b3 v0 v1 v2 v3 W) : W.frozen? ⟨b3, 0, none⟩ = false := blk_frozen h.h3 0
theorem str_ne2 (q t : Nat) (ht : t = 22 ∨ t = 23 ∨ t = 4) (h : q ∈ 9 :: Kd.string.E) : q ≠ t := by
  simp [Kd.string, Kd.scalar] at h
  subst h
  rcases ht with rfl | rfl | rfl <;> decide
theorem pair_ne2 (q t : Nat) (ht : t = 22 ∨ t = 23 ∨ t = 4) (h : q ∈ 48 :: kPr.E) : q ≠ t := by
  simp [kPr, k48, Kd.iso, Kd.pair, Kd.int, Kd.scalar] at h
  subst h
  rcases ht with rfl | rfl | rfl <;> decide
theorem RD.far {g : Nat} {v : ByteArray} {f a : Int} {W : World} (h : RD g v f a W) {b : Nat} (hb : b < g) (x : Value) : RD g v f a (W.setCell ⟨b, 0, none⟩ x) := ⟨blk_far h.blk (p := ⟨b, 0, none⟩) (by show g ≠ b; omega) x⟩
/-- What a stack's bytes must have, that it can be read. -/
structure Readable (v : ByteArray) (f sp : Int) (l0 l1 : List ByteArray) (l2 : List Pr) : Prop where
  f0 : 0 ≤ f
  fs : f ≤ sp
  sb : sp ≤ 1099511000000
  n : octet_Get.f 9 v (sp - f) 8 = some ((l0.length : Int), true)
  a : LR v f (sp + 8) l0
  e : LR v f (sp + 8 + 8 * (l0.length + 1 : Int)) l1
  x : PRd v f (sp + 8 + 8 * (l0.length + 1 : Int) + 8 * (l1.length + 1 : Int)) l2
def ReadPost (l0 l1 : List ByteArray) (l2 : List Pr) (w : World) (e : Ending) (w' : World) : Prop :=
  ∃ x0 x1 x2, e = .returned (.tuple #[x0, x1, x2, .bool true]) ∧ (∃ m, w.heap.size ≤ m ∧ Kd.R Kd.string 9 w' w.heap.size (fun k => k < m) x0 l0 ∧ Kd.R Kd.string 9 w' m (fun _ => True) x1 l1) ∧ Kd.R kPr 48 w' w.heap.size (fun _ => True) x2 l2 ∧ Below w.heap.size w w'

set_option maxHeartbeats 4000000 in
set_option maxRecDepth 100000 in
theorem Read_calls (v : ByteArray) (f sp : Int) (l0 l1 : List ByteArray) (l2 : List Pr) (w : World) (h : Readable v f sp l0 l1 l2) :
    Calls Try.prog 16 #[.string v, .int .i64 f, .int .i64 sp] w (ReadPost l0 l1 l2 w) := by
  have HH := Lib.hid h
  have h0 := h.f0; have h1 := h.fs; have h2 := h.sb
  have d1 : decide (f < 0) = false := decide_eq_false (by omega)
  have d2 : decide (1099511627776 < f) = false := decide_eq_false (by omega)
  have d3 : decide (sp < f) = false := decide_eq_false (by omega)
  have d4 : decide (1099511627776 < sp) = false := decide_eq_false (by omega)
  have n0 := h.a.len
  clear h
  have hmf : ∀ (fn : Fn) (first cap : Array Value) (w : World), (Instr.makeFunc fn first cap).run Try.prog w = .ok (.func fn first cap) w := fun _ _ _ _ => rfl
  go_enter_defers Try.func16, Try.ntmps16
  go_wp2_with fail
  have HBX : ∃ b1 b2 b3 g, w.heap.size + 1 = b1 ∧ b1 + 1 = b2 ∧ b2 + 1 = b3 ∧ b3 + 1 = g ∧ BX w.heap.size b1 b2 b3 (.slice none 0 0) (.slice none 0 0) (.slice none 0 0) (.bool false) (((((w.alloc (.cells #[.slice none 0 0] 22)).alloc (.cells #[.slice none 0 0] 22)).alloc (.cells #[.slice none 0 0] 23)).alloc (.cells #[.bool false] 4)).alloc (.cells #[.string v, .int .i64 f, .int .i64 sp] 77)) ∧
      RD g v f sp (((((w.alloc (.cells #[.slice none 0 0] 22)).alloc (.cells #[.slice none 0 0] 22)).alloc (.cells #[.slice none 0 0] 23)).alloc (.cells #[.bool false] 4)).alloc (.cells #[.string v, .int .i64 f, .int .i64 sp] 77)) ∧
      Below w.heap.size w (((((w.alloc (.cells #[.slice none 0 0] 22)).alloc (.cells #[.slice none 0 0] 22)).alloc (.cells #[.slice none 0 0] 23)).alloc (.cells #[.bool false] 4)).alloc (.cells #[.string v, .int .i64 f, .int .i64 sp] 77)) := by
    refine ⟨_, _, _, _, rfl, rfl, rfl, rfl, ⟨by omega, by omega, by omega, ?_, ?_, ?_, ?_⟩, ⟨?_⟩, ?_⟩
    · exact blk_alloc (blk_alloc (blk_alloc (blk_alloc (blk_new w _) _) _) _) _
    · refine blk_alloc (blk_alloc (blk_alloc (g := w.heap.size + 1) ?_ _) _) _
      have := blk_new (w.alloc (.cells #[.slice none 0 0] 22)) (.cells #[.slice none 0 0] 22)
      simpa using this
    · refine blk_alloc (blk_alloc (g := w.heap.size + 1 + 1) ?_ _) _
      have := blk_new ((w.alloc (.cells #[.slice none 0 0] 22)).alloc (.cells #[.slice none 0 0] 22)) (.cells #[.slice none 0 0] 23)
      simpa using this
    · refine blk_alloc (g := w.heap.size + 1 + 1 + 1) ?_ _
      have := blk_new (((w.alloc (.cells #[.slice none 0 0] 22)).alloc (.cells #[.slice none 0 0] 22)).alloc (.cells #[.slice none 0 0] 23)) (.cells #[.bool false] 4)
      simpa using this
    · have := blk_new ((((w.alloc (.cells #[.slice none 0 0] 22)).alloc (.cells #[.slice none 0 0] 22)).alloc (.cells #[.slice none 0 0] 23)).alloc (.cells #[.bool false] 4)) (.cells #[.string v, .int .i64 f, .int .i64 sp] 77)
      simpa using this
    · exact (((((Below.refl _ _).alloc (Nat.le_refl _) _).alloc (by simp) _).alloc (by simp; omega) _).alloc (by simp; omega) _).alloc (by simp; omega) _
  obtain ⟨b1, b2, b3, g, hb1, hb2, hb3, hg, HBX, HRD, hbw⟩ := HBX
  generalize (((((w.alloc (.cells #[.slice none 0 0] 22)).alloc (.cells #[.slice none 0 0] 22)).alloc (.cells #[.slice none 0 0] 23)).alloc (.cells #[.bool false] 4)).alloc (.cells #[.string v, .int .i64 f, .int .i64 sp] 77)) = W0 at *
  rw [hb1, hb2, hb3, hg]
  have hbg : b3 < g := by omega
  have hwg : w.heap.size ≤ g := by omega
  have hw0 : w.heap.size ≤ w.heap.size := Nat.le_refl _
  have hw1 : w.heap.size ≤ b1 := by omega
  have hw2 : w.heap.size ≤ b2 := by omega
  have hw3 : w.heap.size ≤ b3 := by omega
  generalize hb0 : w.heap.size = b0 at *
  have HB0 := Lib.hid hb0
  clear hb0 hb1 hb2 hb3 hg
  refine (number_calls g v f sp (l0.length : Int) 9 _ HRD h0 h1 (by omega) HH.out.n (by omega) (by omega)).mono ?_
  rintro e w1 ⟨rfl, HRD1, hB1⟩
  have HBX1 := HBX.but hB1 hbg
  have hbw1 := hbw.trans (hB1.2 _ hwg)
  have hbw1s := hbw1.size
  clear HRD HBX hbw hB1
  go_wp2_with fail
  refine (list_calls g v f (sp + 8) l0 w1 HRD1 HH.out.a).mono ?_
  rintro e w2 ⟨x0, rfl, hR0, HRD2, hB2⟩
  have HBX2 := HBX1.but hB2 hbg
  have hbw2 := hbw1.trans (hB2.2 _ hwg)
  clear HRD1 HBX1 hbw1 hB2
  obtain ⟨A0, c0, rfl⟩ := Kd.R_slice hR0
  have k0 := HBX2.c0; have k1 := HBX2.f0
  have hR0' := Kd.R_set hR0 HBX2.h0 (fun q hq => str_ne2 q _ (.inl rfl) hq) 0 (.slice A0 l0.length c0)
  have HBX3 := HBX2.set0 (.slice A0 l0.length c0)
  have HRD3 := HRD2.far (show b0 < g by have := HBX2.o1; have := HBX2.o2; have := HBX2.o3; omega) (.slice A0 l0.length c0)
  have hbw3 := hbw2.setCell (p := ⟨b0, 0, none⟩) hw0 (.slice A0 l0.length c0)
  have HR0 := Lib.hid (Kd.R_mono (ok' := fun k => k ≠ g ∧ k < (w2.setCell ⟨b0, 0, none⟩ (.slice A0 l0.length c0)).heap.size) (Kd.R_bound hR0') (fun k hk => ⟨hk.1, hk.2.2.1⟩))
  have s1 : b0 ≤ w1.heap.size := HB0.out ▸ hbw1s
  have s3 : b0 ≤ (w2.setCell ⟨b0, 0, none⟩ (.slice A0 l0.length c0)).heap.size := by have := hbw3.size; rw [HB0.out] at this; exact this
  clear hR0 hR0' HBX2 HRD2 hbw2
  go_wp2_with fail
  clear k0 k1
  generalize w2.setCell ⟨b0, 0, none⟩ (.slice A0 l0.length c0) = w3 at *
  refine (list_calls g v f (sp + 8 + 8 * (l0.length + 1 : Int)) l1 w3 HRD3 HH.out.e).mono ?_
  rintro e w4 ⟨x1, rfl, hR1, HRD4, hB4⟩
  have HBX4 := HBX3.but hB4 hbg
  have hbw4 := hbw3.trans (hB4.2 _ hwg)
  have HR0b := Lib.hid (Kd.R_keep HR0.out hB4.1 (fun _ hk => hk.1))
  clear HRD3 HBX3 hbw3 hB4 HR0
  obtain ⟨A1, c1, rfl⟩ := Kd.R_slice hR1
  have k0 := HBX4.c1; have k1 := HBX4.f1
  have hR1' := Kd.R_set hR1 HBX4.h1 (fun q hq => str_ne2 q _ (.inl rfl) hq) 0 (.slice A1 l1.length c1)
  have hR0' := Kd.R_set HR0b.out HBX4.h1 (fun q hq => str_ne2 q _ (.inl rfl) hq) 0 (.slice A1 l1.length c1)
  have HBX5 := HBX4.set1 (.slice A1 l1.length c1)
  have HRD5 := HRD4.far (show b1 < g by have := HBX4.o2; have := HBX4.o3; omega) (.slice A1 l1.length c1)
  have hbw5 := hbw4.setCell (p := ⟨b1, 0, none⟩) hw1 (.slice A1 l1.length c1)
  have HR1 := Lib.hid hR1'; have HR0 := Lib.hid hR0'
  have s5 : b0 ≤ (w4.setCell ⟨b1, 0, none⟩ (.slice A1 l1.length c1)).heap.size := by have := hbw5.size; rw [HB0.out] at this; exact this
  clear hR1 hR1' hR0' HR0b HBX4 HRD4 hbw4
  go_wp2_with fail
  clear k0 k1
  generalize w4.setCell ⟨b1, 0, none⟩ (.slice A1 l1.length c1) = w5 at *
  refine (pairs_calls g v f (sp + 8 + 8 * (l0.length + 1 : Int) + 8 * (l1.length + 1 : Int)) l2 w5 HRD5 HH.out.x).mono ?_
  rintro e w6 ⟨x2, rfl, hR2, hB6⟩
  have HBX6 := HBX5.but hB6 hbg
  have hbw6 := hbw5.trans (hB6.2 _ hwg)
  have HR0b := Lib.hid (Kd.R_keep HR0.out hB6.1 (fun _ hk => hk.1))
  have HR1b := Lib.hid (Kd.R_keep HR1.out hB6.1 (fun _ hk => hk))
  clear HRD5 HBX5 hbw5 hB6 HR0 HR1
  obtain ⟨A2, c2, rfl⟩ := Kd.R_slice hR2
  have k0 := HBX6.c2; have k1 := HBX6.f2; have k2 := HBX6.c0
  have hR2' := Kd.R_set hR2 HBX6.h2 (fun q hq => pair_ne2 q _ (.inr (.inl rfl)) hq) 0 (.slice A2 l2.length c2)
  have hR1' := Kd.R_set HR1b.out HBX6.h2 (fun q hq => str_ne2 q _ (.inr (.inl rfl)) hq) 0 (.slice A2 l2.length c2)
  have hR0' := Kd.R_set HR0b.out HBX6.h2 (fun q hq => str_ne2 q _ (.inr (.inl rfl)) hq) 0 (.slice A2 l2.length c2)
  have HBX7 := HBX6.set2 (.slice A2 l2.length c2)
  have hbw7 := hbw6.setCell (p := ⟨b2, 0, none⟩) hw2 (.slice A2 l2.length c2)
  have HR0 := Lib.hid hR0'; have HR1 := Lib.hid hR1'; have HR2 := Lib.hid hR2'
  have e1 : ((l0.length : Int) == (l0.length : Int)) = true := by simp
  have e2 : (l0.length == l0.length) = true := by simp
  have m0 := HBX7.c0
  clear hR2 hR2' hR1' hR0' HR0b HR1b HBX6 hbw6
  go_wp2_with fail
  clear k0 k1 k2 m0
  generalize w6.setCell ⟨b2, 0, none⟩ (.slice A2 l2.length c2) = w7 at *
  refine (must_calls _).mono ?_
  rintro e w8 ⟨rfl, rfl⟩
  have k0 := HBX7.c0; have k1 := HBX7.c1; have k2 := HBX7.c2; have k3 := HBX7.c3
  have q0 := HBX7.f0; have q1 := HBX7.f1; have q2 := HBX7.f2; have q3 := HBX7.f3
  have u1 : ¬ b0 = b1 := by have := HBX7.o1; omega
  have u2 : ¬ b0 = b2 := by have := HBX7.o1; have := HBX7.o2; omega
  have u3 : ¬ b0 = b3 := by have := HBX7.o1; have := HBX7.o2; have := HBX7.o3; omega
  have u4 : ¬ b1 = b2 := by have := HBX7.o2; omega
  have u5 : ¬ b1 = b3 := by have := HBX7.o2; have := HBX7.o3; omega
  have u6 : ¬ b2 = b3 := by have := HBX7.o3; omega
  have u7 : ¬ b1 = b0 := fun e => u1 e.symm
  have u8 : ¬ b2 = b0 := fun e => u2 e.symm
  have u9 : ¬ b3 = b0 := fun e => u3 e.symm
  have u10 : ¬ b2 = b1 := fun e => u4 e.symm
  have u11 : ¬ b3 = b1 := fun e => u5 e.symm
  have u12 : ¬ b3 = b2 := fun e => u6 e.symm
  have HB7 := Lib.hid HBX7
  clear HBX7 hmf
  go_wp2_with fail
  go_region
  go_wp2_with fail
  clear k0 k1 k2 k3 q0 q1 q2 q3
  have HB9 := ((((HB7.out.set0 (.slice A0 l0.length c0)).set1 (.slice A1 l1.length c1)).set2 (.slice A2 l2.length c2)).set3 (.bool true)).drewN 1
  have S0 := HB7.out
  have S1 := S0.set0 (.slice A0 l0.length c0)
  have S2 := S1.set1 (.slice A1 l1.length c1)
  have S3 := S2.set2 (.slice A2 l2.length c2)
  have T0 := Kd.R_drewN (Kd.R_set (Kd.R_set (Kd.R_set (Kd.R_set HR0.out S0.h0 (fun q hq => str_ne2 q _ (.inl rfl) hq) 0 (.slice A0 l0.length c0)) S1.h1 (fun q hq => str_ne2 q _ (.inl rfl) hq) 0 (.slice A1 l1.length c1)) S2.h2 (fun q hq => str_ne2 q _ (.inr (.inl rfl)) hq) 0 (.slice A2 l2.length c2)) S3.h3 (fun q hq => str_ne2 q _ (.inr (.inr rfl)) hq) 0 (.bool true)) 1
  have T1 := Kd.R_drewN (Kd.R_set (Kd.R_set (Kd.R_set (Kd.R_set HR1.out S0.h0 (fun q hq => str_ne2 q _ (.inl rfl) hq) 0 (.slice A0 l0.length c0)) S1.h1 (fun q hq => str_ne2 q _ (.inl rfl) hq) 0 (.slice A1 l1.length c1)) S2.h2 (fun q hq => str_ne2 q _ (.inr (.inl rfl)) hq) 0 (.slice A2 l2.length c2)) S3.h3 (fun q hq => str_ne2 q _ (.inr (.inr rfl)) hq) 0 (.bool true)) 1
  have T2 := Kd.R_drewN (Kd.R_set (Kd.R_set (Kd.R_set (Kd.R_set HR2.out S0.h0 (fun q hq => pair_ne2 q _ (.inl rfl) hq) 0 (.slice A0 l0.length c0)) S1.h1 (fun q hq => pair_ne2 q _ (.inl rfl) hq) 0 (.slice A1 l1.length c1)) S2.h2 (fun q hq => pair_ne2 q _ (.inr (.inl rfl)) hq) 0 (.slice A2 l2.length c2)) S3.h3 (fun q hq => pair_ne2 q _ (.inr (.inr rfl)) hq) 0 (.bool true)) 1
  have hbw9 := pw_below_drewN ((((hbw7.setCell (p := ⟨b0, 0, none⟩) hw0 (.slice A0 l0.length c0)).setCell (p := ⟨b1, 0, none⟩) hw1 (.slice A1 l1.length c1)).setCell (p := ⟨b2, 0, none⟩) hw2 (.slice A2 l2.length c2)).setCell (p := ⟨b3, 0, none⟩) hw3 (.bool true)) 1
  clear S0 S1 S2 S3 HB7 HR0 HR1 HR2 hbw7
  have hdrew : ∀ X : World, X.drewN 1 = X.drew := fun _ => rfl
  rw [hdrew] at HB9 T0 T1 T2 hbw9
  clear hdrew
  generalize ((((w7.setCell ⟨b0, 0, none⟩ (.slice A0 l0.length c0)).setCell ⟨b1, 0, none⟩ (.slice A1 l1.length c1)).setCell ⟨b2, 0, none⟩ (.slice A2 l2.length c2)).setCell ⟨b3, 0, none⟩ (.bool true)).drew = w9 at *
  have hpost : ReadPost l0 l1 l2 w (.returned (.tuple #[.slice A0 l0.length c0, .slice A1 l1.length c1, .slice A2 l2.length c2, .bool true])) w9 := ⟨_, _, _, rfl, ⟨w3.heap.size, by rw [HB0.out]; exact s3, by rw [HB0.out]; exact Kd.R_mono (Kd.R_lower T0 s1) (fun _ hk => hk.2), Kd.R_mono T1 (fun _ _ => trivial)⟩, by rw [HB0.out]; exact Kd.R_mono (Kd.R_lower T2 s5) (fun _ _ => trivial), by rw [HB0.out]; exact hbw9⟩
  have HPO := Lib.hid hpost
  have k0 := HB9.c0; have k1 := HB9.c1; have k2 := HB9.c2; have k3 := HB9.c3
  clear T0 T1 T2 hbw9 hpost HB9
  refine leaves_cons (f := 34) (args := #[.pointer (some ⟨b0, 0, none⟩), .pointer (some ⟨b1, 0, none⟩), .pointer (some ⟨b2, 0, none⟩), .pointer (some ⟨b3, 0, none⟩)]) (by simp) (by simp [go_sem]) ?_
  refine (read1_idle b0 b1 b2 b3 _).mono ?_
  rintro e u' w'' ⟨rfl, rfl, rfl⟩
  simp [Leaves, settle, results, Try.results16, go_sem]
  refine ⟨_, ?_, HPO.out⟩
  simp only [k0, k1, k2, k3, Result.andThen]
end Go.Proofs.Ytokilodeihocjaa.H
