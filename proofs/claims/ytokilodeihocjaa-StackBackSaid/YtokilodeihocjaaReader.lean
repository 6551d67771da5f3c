/- The stack's reader: must and number, where they do not panic. -/
import Derived.Test.YtokilodeihocjaaBuild
import Derived.Test.YtokilodeihocjaaPureNum
import Derived.Test.YtokilodeihocjaaAxOctetGet
import Derived.Test.YtokilodeihocjaaAxOctetWithin
import Derived.WalkKit
import Derived.Lib.Hide
import Derived.WalkSpells
import Derived.Deep.QuietTactic
import Derived.BigQuiet
import Derived.WalkMore
import Derived.Deep.LoopGhost
import Derived.Outline
namespace Go.Proofs.Ytokilodeihocjaa.H
open Go.RowKit Go.Proofs.Ytokilodeihocjaa.A Go.Proofs.Flat Go.Proofs.YtokilodeihocjaaW.PrintWords Go.Proofs.YtokilodeihocjaaW.PrintLast Go.Proofs.YtokilodeihocjaaW.PrintMore
set_option linter.unusedVariables false
set_option linter.unusedSimpArgs false
theorem must_calls (w : World) : Calls Try.prog 38 #[.bool true] w fun e w' => e = .returned (.tuple #[]) ∧ w = w' := by
  go_enter Try.func38, Try.ntmps38
  go_wp2
  go_end0
  exact ⟨rfl, rfl⟩
/-- A reader in memory. -/
structure RD (g : Nat) (v : ByteArray) (f a : Int) (W : World) : Prop where
  blk : W.heap[g]? = some (.cells #[.string v, .int .i64 f, .int .i64 a] 77 (0, 0))
theorem RD.c0 {g : Nat} {v : ByteArray} {f a : Int} {W : World} (h : RD g v f a W) : W.cell? ⟨g, 0, none⟩ = some (.string v) := (blk_cell h.blk 0).trans rfl
theorem RD.c1 {g : Nat} {v : ByteArray} {f a : Int} {W : World} (h : RD g v f a W) : W.cell? ⟨g, 1, none⟩ = some (.int .i64 f) := (blk_cell h.blk 1).trans rfl
theorem RD.c2 {g : Nat} {v : ByteArray} {f a : Int} {W : World} (h : RD g v f a W) : W.cell? ⟨g, 2, none⟩ = some (.int .i64 a) := (blk_cell h.blk 2).trans rfl
theorem RD.f2 {g : Nat} {v : ByteArray} {f a : Int} {W : World} (h : RD g v f a W) : W.frozen? ⟨g, 2, none⟩ = false := blk_frozen h.blk 2
theorem RD.drewN {g : Nat} {v : ByteArray} {f a : Int} {W : World} (h : RD g v f a W) (n : Nat) : RD g v f a (W.drewN n) := ⟨h.blk⟩
theorem RD.below {g : Nat} {v : ByteArray} {f a : Int} {W W1 : World} (h : RD g v f a W) (hb : Below W.heap.size W W1) : RD g v f a W1 := ⟨blk_below h.blk hb⟩
/-- All but the reader's block stands. -/
def But (g : Nat) (W W' : World) : Prop := KeepBut W W' g none ∧ ∀ B, B ≤ g → Below B W W'
theorem But.refl (g : Nat) (W : World) : But g W W := ⟨⟨Nat.le_refl _, fun _ _ _ _ => rfl⟩, fun _ _ => Below.refl _ _⟩
theorem But.trans {g : Nat} {a b c : World} (h : But g a b) (k : But g b c) : But g a c :=
  ⟨⟨Nat.le_trans h.1.1 k.1.1, fun i hi hg hr => (k.1.2 i (Nat.lt_of_lt_of_le hi h.1.1) hg hr).trans (h.1.2 i hi hg hr)⟩, fun B hB => (h.2 B hB).trans (k.2 B hB)⟩
theorem But.below {g : Nat} {W W' : World} (hb : Below W.heap.size W W') (hg : g ≤ W.heap.size) : But g W W' :=
  ⟨⟨hb.size, fun i hi _ _ => hb.block i hi⟩, fun B hB => hb.mono (Nat.le_trans hB hg)⟩
theorem But.set {g : Nat} {W : World} (i : Nat) (v : Value) : But g W (W.setCell ⟨g, i, none⟩ v) :=
  ⟨⟨by simp [World.setCell], fun j _ hg _ => Below.heap_setCell W ⟨g, i, none⟩ v j hg⟩, fun B hB => (Below.refl B W).setCell (p := ⟨g, i, none⟩) hB v⟩
theorem But.drewN {g : Nat} {W W' : World} (h : But g W W') (n : Nat) : But g W (W'.drewN n) := ⟨h.1, fun B hB => pw_below_drewN (h.2 B hB) n⟩

set_option maxHeartbeats 2000000 in
set_option maxRecDepth 100000 in
/-- number, of a number that is there. -/
theorem number_calls (g : Nat) (v : ByteArray) (f a N : Int) (k : Nat) (W : World) (h : RD g v f a W) (h0 : 0 ≤ f) (h1 : f ≤ a) (h2 : a ≤ 1099511640000) (hg : octet_Get.f k v (a - f) 8 = some (N, true)) (hN0 : 0 ≤ N) (hN : N ≤ 1099511627776) :
    Calls Try.prog 35 #[.pointer (some ⟨g, 0, none⟩)] W fun e w' => e = .returned (.int .i64 N) ∧ (RD g v f (a + 8) w' ∧ But g W w') := by
  have HGE := Lib.hid hg
  have HRD := Lib.hid h
  clear hg
  have k0 := h.c0; have k1 := h.c1; have k2 := h.c2; have k3 := h.f2
  clear h
  have d1 : decide (N ≤ 1099511627776) = true := decide_eq_true hN
  have d2 : decide (0 ≤ a - f) = true := decide_eq_true (by omega)
  have P1 : ∀ m, Calls Try.prog 43 #[.string v, .int .i64 (a - f), .int .i64 8] (W.drewN m) fun e w' => e = .returned (.tuple #[.int .u64 N, .bool true]) ∧ ∃ j, w' = (W.drewN m).drewN j := fun m =>
    (octet_Get.calls k v (a - f) 8 N true _ HGE.out).mono fun _ _ ⟨he, hd⟩ => ⟨he, hd.out⟩
  have HP1 := Lib.hid P1
  clear P1
  go_enter Try.func35, Try.ntmps35
  go_wp2_with fail
  go_quiet ((go_at_call 43; exact Calls.quiet_of (HP1.out _)))
  go_wp2_with fail
  refine (must_calls _).mono ?_
  rintro e w1 ⟨rfl, rfl⟩
  go_wp2_with fail
  go_ret
  exact ⟨rfl, ⟨blk_put (HRD.out.drewN nq).blk 2 _ rfl⟩, ((But.refl g W).drewN nq).trans (But.set 2 _)⟩

theorem text_bt (v : ByteArray) (pre t post : List UInt8) (hv : bytesL v = pre ++ t ++ 0 :: post) (hn : (0 : UInt8) ∉ t) (n : Nat) (h : n ≤ t.length) : (bt v ((pre.length : Int) + (n : Int)) == 0) = decide (n = t.length) := by
  rw [show (pre.length : Int) + (n : Int) = ((pre.length + n : Nat) : Int) from by omega, Pure.bt_list, hv, List.getD_eq_getElem?_getD, List.append_assoc, List.getElem?_append_right (by omega), show pre.length + n - pre.length = n from by omega]
  by_cases e : n = t.length
  · subst e
    rw [List.getElem?_append_right (Nat.le_refl _), Nat.sub_self]
    simp
  · rw [List.getElem?_append_left (by omega), List.getElem?_eq_getElem (by omega), Option.getD_some, decide_eq_false e, beq_eq_false_iff_ne]
    intro h0
    have e' : t[n] = 0 := UInt8.toNat_inj.1 (show t[n].toNat = 0 by omega)
    exact hn (e' ▸ List.getElem_mem _)
set_option maxHeartbeats 2000000 in
set_option maxRecDepth 100000 in
/-- octet.Text, of a text that is there. -/
theorem Text_calls (v : ByteArray) (pre t post : List UInt8) (hv : bytesL v = pre ++ t ++ 0 :: post) (hn : (0 : UInt8) ∉ t) (hs : v.size ≤ 140737488355328) (most : Int) (hm : (t.length : Int) ≤ most) (hm2 : most ≤ 1048576) (W : World) :
    Calls Try.prog 44 #[.string v, .int .i64 pre.length, .int .i64 most] W fun e w' => e = .returned (.tuple #[.string ⟨t.toArray⟩, .bool true]) ∧ W = w' := by
  have hl : v.size = pre.length + t.length + 1 + post.length := by rw [← bytesL_length, hv]; simp; omega
  have HV := Lib.hid hv
  have HL := Lib.hid hl
  have b0 : pre.length < v.size := by omega
  have b1 : pre.length + t.length < v.size := by omega
  clear hv hl
  have d1 : decide (v.size ≤ pre.length) = false := decide_eq_false (by omega)
  have d3 : decide ((pre.length : Int) < 0) = false := decide_eq_false (by omega)
  have d2 : decide (most < 0) = false := decide_eq_false (by omega)
  go_enter Try.func44, Try.ntmps44
  go_wp2
  go_step3
  go_wp2
  go_step3
  go_wp2
  go_loop [8, 9] (fun x y => ∃ n : Nat, n ≤ t.length ∧ x = .int .i64 n ∧ y = .bool false) (fun x _ => t.length - (intOf x).toNat)
  case atStart => exact ⟨0, Nat.zero_le _, rfl, rfl⟩
  case round =>
    obtain ⟨n, hnt, rfl, rfl⟩ := hrel
    have d4 : decide (pre.length + n < v.size) = true := decide_eq_true (by omega)
    have d5 : decide ((pre.length : Int) + (n : Int) < (v.size : Int)) = true := decide_eq_true (by omega)
    have d6 : decide ((n : Int) ≤ most) = true := decide_eq_true (by omega)
    have d7 : (pre.length : Int) + (n : Int) < (v.size : Int) := by omega
    have hb := text_bt v pre t post HV.out hn n hnt
    by_cases hlt : n < t.length
    · have hb0 : ((bt v ((pre.length : Int) + (n : Int))) == 0) = false := by rw [hb]; exact decide_eq_false (by omega)
      have hx10 := bt_at v ((pre.length : Int) + (n : Int))
      clear hb
      go_wp2
      go_round
      case rel => exact ⟨n + 1, by omega, by go_num, rfl⟩
      case measure => simp [intOf]; omega
    · have hb0 : ((bt v ((pre.length : Int) + (n : Int))) == 0) = true := by rw [hb]; exact decide_eq_true (by omega)
      have hx10 := bt_at v ((pre.length : Int) + (n : Int))
      obtain rfl : n = t.length := by omega
      have hex : v.extract pre.length (pre.length + t.length) = ⟨t.toArray⟩ := by
        refine Pure.bytesL_inj ?_
        rw [Pure.bytesL_extract, HV.out, Pure.bytesL_mk, List.append_assoc, List.take_append, List.drop_append]
        simp
      have HEX := Lib.hid hex
      clear hb hex
      go_wp2
      go_ret2
      refine ⟨?_, rfl⟩
      rw [← HEX.out]
      rfl

/-! ### list -/
theorem But.grow {g : Nat} {W wr w1 : World} (h : But g W wr) (hg : g ≤ W.heap.size) (hb : Below W.heap.size wr w1) : But g W w1 :=
  ⟨⟨Nat.le_trans h.1.1 hb.size, fun i hi hne hr => (hb.block i hi).trans (h.1.2 i hi hne hr)⟩, fun B hB => (h.2 B hB).trans (hb.mono (Nat.le_trans hB hg))⟩
theorem RD.lt {g : Nat} {v : ByteArray} {f a : Int} {W : World} (h : RD g v f a W) : g < W.heap.size := blk_lt h.blk
theorem RD.under {g : Nat} {v : ByteArray} {f a : Int} {B : Nat} {W W1 : World} (h : RD g v f a W) (hg : g < B) (hb : Below B W W1) : RD g v f a W1 := ⟨(hb.block g hg).trans h.blk⟩
/-- A list of texts can be read from place a on. -/
structure LR (v : ByteArray) (f a : Int) (l : List ByteArray) : Prop where
  len : l.length ≤ 128
  f0 : 0 ≤ f
  fa : f ≤ a
  ab : a ≤ 1099511627776
  size : v.size ≤ 140737488355328
  num : ∀ i : Nat, i < l.length → ∃ N : Int, octet_Get.f 9 v (a + 8 * (i : Int) - f) 8 = some (N, true) ∧ 0 < N ∧ N ≤ 1099511627776 ∧ ∃ pre post, bytesL v = pre ++ bytesL (l.getD i ByteArray.empty) ++ 0 :: post ∧ N = f + pre.length ∧ (0 : UInt8) ∉ bytesL (l.getD i ByteArray.empty) ∧ (l.getD i ByteArray.empty).size ≤ 1024
  fin : octet_Get.f 9 v (a + 8 * (l.length : Int) - f) 8 = some (0, true)
def ListPost (g : Nat) (v : ByteArray) (f a : Int) (l : List ByteArray) (W : World) (e : Ending) (w' : World) : Prop :=
  ∃ x, e = .returned x ∧ Kd.R Kd.string 9 w' W.heap.size (fun k => k ≠ g) x l ∧ RD g v f (a + 8 * (l.length + 1 : Int)) w' ∧ But g W w'

set_option maxHeartbeats 4000000 in
set_option maxRecDepth 100000 in
theorem list_calls (g : Nat) (v : ByteArray) (f a : Int) (l : List ByteArray) (W : World) (h : RD g v f a W) (hl : LR v f a l) :
    Calls Try.prog 36 #[.pointer (some ⟨g, 0, none⟩)] W (ListPost g v f a l W) := by
  have HL := Lib.hid hl
  have h0 := hl.f0; have h1 := hl.fa; have h2 := hl.ab; have h3 := hl.len
  have hgW : g < W.heap.size := h.lt
  have HRD := Lib.hid h
  clear hl h
  go_enter Try.func36, Try.ntmps36
  go_wp2_with fail
  go_step3
  go_wp2_with fail
  go_step3
  go_wp2_with fail
  go_loopg [3] l.length (fun (k : Nat) x wr => ∃ i : Nat, i + k = l.length ∧ RD g v f (a + 8 * (i : Int)) wr ∧ Kd.R Kd.string 9 wr W.heap.size (fun k => k ≠ g) x (l.take i) ∧ But g W wr)
  case atStart => exact ⟨0, Nat.zero_add _, by simpa using HRD.out, Kd.R_nil .., But.refl _ _⟩
  case round =>
    obtain ⟨i, hik, hRD, hR, hbut⟩ := hrel
    by_cases hlt : i < l.length
    · obtain ⟨N, hN, hN0, hN1, pre, post, hv, hNp, hn0, hsz⟩ := HL.out.num i hlt
      have HN := Lib.hid hN; have HVV := Lib.hid hv; have HNP := Lib.hid hNp
      generalize hX : l.getD i ByteArray.empty = x at *
      have HX := Lib.hid hX
      have HR := Lib.hid hR
      clear hN hv hNp hX hR
      have hnz : (N == 0) = false := beq_eq_false_iff_ne.2 (by omega)
      go_wp2_with fail
      refine (number_calls g v f (a + 8 * (i : Int)) N 9 _ hRD h0 (by omega) (by omega) HN.out (by omega) hN1).mono ?_
      rintro e w1 ⟨rfl, hRD1, hb1⟩
      have HR1 := Lib.hid (Kd.R_keep HR.out hb1.1 (fun _ hk => hk))
      have hbut1 := hbut.trans hb1
      clear hRD hbut hb1 HR
      have k0 := hRD1.c0; have k1 := hRD1.c1
      have P1 : ∀ m, Calls Try.prog 44 #[.string v, .int .i64 (N - f), .int .i64 1024] (w1.drewN m) fun e w' => e = .returned (.tuple #[.string x, .bool true]) ∧ w' = w1.drewN m := fun m => by
        rw [HNP.out, show f + (pre.length : Int) - f = (pre.length : Int) from by omega]
        exact (Text_calls v pre (bytesL x) post HVV.out hn0 HL.out.size 1024 (by rw [bytesL_length]; omega) (by omega) _).mono fun _ _ ⟨he, hw⟩ => ⟨he, hw.symm⟩
      have HP1 := Lib.hid P1
      clear P1
      go_wp2_with fail
      go_quiet ((go_at_call 44; exact Calls.quiet_of_same (HP1.out _)))
      clear k0 k1
      have hRD2 := hRD1.drewN nq
      have HR2 := Kd.R_drewN HR1.out nq
      have hbut2 := hbut1.drewN nq
      clear hRD1 HR1 hbut1 HP1
      generalize w1.drewN nq = w2 at *
      have hW2 : W.heap.size ≤ w2.heap.size := hbut2.1.1
      go_wp2_with (at_builtin; refine Kd.R_append Kd.string (w0 := w2) W.heap.size rfl (.tmp 25) (.tmp 27) 22 9 (.string ⟨#[]⟩) 16 rfl Try.underlying22 info9 rfl (by decide) (by omega) _ (l.take i) x [.string x] (fun k => k ≠ g) (fun _ => False) rfl rfl (show Kd.M Kd.string _ _ _ x [.string x] from rfl) (fun _ h => h.elim) (fun k hk => by omega) HR2 (Below.refl _ _) hW2 ?aL ?_)
      case aL => rw [List.length_take]; omega
      intro v1 w3 HR3 hb3 hg3 hat3
      clear hg3 hat3 HR2
      have hRD3 := hRD2.under hgW hb3
      have hbut3 := hbut2.grow (Nat.le_of_lt hgW) hb3
      clear hRD2 hbut2 hb3 hW2
      have hte : l.take i ++ [x] = l.take (i + 1) := by
        rw [List.take_succ_eq_append_getElem hlt, ← HX.out, List.getD_eq_getElem?_getD, List.getElem?_eq_getElem hlt]
        rfl
      rw [hte] at HR3
      have hLn : (l.take (i + 1)).length ≤ 128 := by rw [List.length_take]; omega
      generalize hLL : l.take (i + 1) = L' at *
      have HLL := Lib.hid hLL
      clear hte hLL
      obtain ⟨A', c', rfl, hcl, _⟩ := Kd.R_reads HR3
      have HR4 := Lib.hid HR3
      have d8 : decide ((L'.length : Int) ≤ 128) = true := decide_eq_true (by omega)
      have d9 : decide (L'.length ≤ 128) = true := decide_eq_true hLn
      clear HR3
      go_wp2_with fail
      refine (must_calls _).mono ?_
      rintro e w4 ⟨rfl, rfl⟩
      go_wp2_with fail
      go_roundg (gk - 1)
      case measure => omega
      case rel => exact ⟨i + 1, by omega, by rw [show a + 8 * ((i + 1 : Nat) : Int) = a + 8 * (i : Int) + 8 from by omega]; exact hRD3, by rw [HLL.out]; exact HR4.out, hbut3⟩
    · obtain rfl : i = l.length := by omega
      rw [List.take_length] at hR
      have HR := Lib.hid hR
      clear hR
      have HN := Lib.hid HL.out.fin
      go_wp2_with fail
      refine (number_calls g v f (a + 8 * (l.length : Int)) 0 9 _ hRD h0 (by omega) (by omega) HN.out (by omega) (by omega)).mono ?_
      rintro e w1 ⟨rfl, hRD1, hb1⟩
      have HR1 := Lib.hid (Kd.R_keep HR.out hb1.1 (fun _ hk => hk))
      have hbut1 := hbut.trans hb1
      clear hRD hbut hb1 HR
      go_wp2_with fail
      try rw [Exit.noGoto_ret]
      go_ret
      exact ⟨_, rfl, HR1.out, by rw [show a + 8 * (l.length + 1 : Int) = a + 8 * (l.length : Int) + 8 from by omega]; exact hRD1, hbut1⟩
end Go.Proofs.Ytokilodeihocjaa.H
