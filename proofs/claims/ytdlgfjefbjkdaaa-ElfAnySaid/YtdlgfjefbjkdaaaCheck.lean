/- elf.Check tells whether an image may be: the contract of the Go function, for all images of at most 2^31 segments and all sizes. -/
import Derived.Test.YtdlgfjefbjkdaaaCheckBad
import Derived.WalkKit
import Derived.Lib.Hide
import Derived.WalkSpells
namespace Go.Proofs.Ytdlgfjefbjkdaaa.H
open Go.RowKit Go.Proofs.YtdlgfjefbjkdaaaW.PrintWords Go.Proofs.YtdlgfjefbjkdaaaW.PrintLast Go.Proofs.YtdlgfjefbjkdaaaW.PrintMore Go.Proofs.Ytdlgfjefbjkdaaa.A
set_option linter.unusedVariables false
set_option linter.unusedSimpArgs false


theorem seg_cells {W : World} {g : Nat} {s : Seg} (h : W.heap[g]? = some (segO s)) :
    W.cell? ⟨g, 0, none⟩ = some (.int .i64 s.f0) ∧ W.cell? ⟨g, 1, none⟩ = some (.int .i64 s.f1) ∧ W.cell? ⟨g, 2, none⟩ = some (.int .i64 s.f2) ∧ W.cell? ⟨g, 3, none⟩ = some (.int .i64 s.f3) ∧
    W.cell? ⟨g, 4, none⟩ = some (.int .i64 s.f4) ∧ W.cell? ⟨g, 5, none⟩ = some (.int .i64 s.f5) ∧ W.cell? ⟨g, 6, none⟩ = some (.int .i64 s.f6) :=
  ⟨(blk_cell h 0).trans rfl, (blk_cell h 1).trans rfl, (blk_cell h 2).trans rfl, (blk_cell h 3).trans rfl, (blk_cell h 4).trans rfl, (blk_cell h 5).trans rfl, (blk_cell h 6).trans rfl⟩
abbrev imgO (kind entry : Int) (A : Option Addr) (c : Nat) (l : List Seg) : Obj := .cells #[.int .i64 kind, .int .i64 entry, .slice A l.length c] 28 (0, 0)
/-- What holds all the while: below the call's own blocks nothing turns, and the image's box stands. -/
structure CI (w : World) (kind entry : Int) (A : Option Addr) (c : Nat) (l : List Seg) (W : World) : Prop where
  bel : Below w.heap.size w W
  box : W.heap[w.heap.size]? = some (imgO kind entry A c l)
variable {w : World} {kind entry : Int} {A : Option Addr} {c : Nat} {l : List Seg} {W : World}
theorem CI.c0 (h : CI w kind entry A c l W) : W.cell? ⟨w.heap.size, 0, none⟩ = some (.int .i64 kind) := (blk_cell h.box 0).trans rfl
theorem CI.c1 (h : CI w kind entry A c l W) : W.cell? ⟨w.heap.size, 1, none⟩ = some (.int .i64 entry) := (blk_cell h.box 1).trans rfl
theorem CI.c2 (h : CI w kind entry A c l W) : W.cell? ⟨w.heap.size, 2, none⟩ = some (.slice A l.length c) := (blk_cell h.box 2).trans rfl
theorem CI.step (h : CI w kind entry A c l W) {w1 : World} (hb : Below W.heap.size W w1) : CI w kind entry A c l w1 :=
  ⟨below_then h.bel h.bel.size hb, (hb.block _ (blk_lt h.box)).trans h.box⟩
theorem CI.start (w : World) (kind entry : Int) (A : Option Addr) (c : Nat) (l : List Seg) : CI w kind entry A c l (w.alloc (imgO kind entry A c l)) :=
  ⟨(Below.refl _ _).alloc (Nat.le_refl _) _, blk_new w _⟩
/-- The relation at a round's head. -/
def CK (w : World) (kind entry : Int) (A : Option Addr) (c : Nat) (l : List Seg) (size : Int) (r0 : Bool) (v6 v7 v8 v9 v10 v62 : Value) (W : World) : Prop :=
  ∃ (k : Nat) (loads dyns fin : Int) (en : Bool), k ≤ l.length ∧ v6 = .int .i64 loads ∧ v7 = .int .i64 dyns ∧ v8 = .int .i64 fin ∧ v9 = .bool true ∧ v10 = .bool en ∧ v62 = .int .i64 k ∧
    0 ≤ loads ∧ loads ≤ k ∧ 0 ≤ dyns ∧ dyns ≤ k ∧ chk l size entry (l.drop k) loads dyns fin en = r0 ∧ CI w kind entry A c l W
theorem drop_at (l : List Seg) (k : Nat) (hk : k < l.length) : l.drop k = l.getD k zSeg :: l.drop (k + 1) := by
  rw [List.drop_eq_getElem_cons hk]
  simp [List.getD_eq_getElem?_getD, List.getElem?_eq_getElem hk]

set_option maxHeartbeats 16000000 in
set_option maxRecDepth 100000 in
theorem check_good (kind entry : Int) (A : Option Addr) (c : Nat) (l : List Seg) (size : Int) (w : World) (e0 : Bool) (hr : Kd.C kSeg w A l.length l) (hc : l.length ≤ c)
    (hk : kind = 2 ∧ e0 = false ∨ kind = 3 ∧ entry = 0 ∧ e0 = true ∨ kind = 3 ∧ entry ≠ 0 ∧ e0 = false) (h1 : 1 ≤ (l.length : Int)) (h2 : (l.length : Int) ≤ 16) (h3 : 64 + 56 * (l.length : Int) ≤ size) (h4 : 0 ≤ entry) (h5 : entry ≤ 1099511627776) :
    Calls Try.prog 13 #[imgV kind entry A c l, .int .i64 size] w fun e w' => e = .returned (.int .i64 (if chk l size entry l 0 0 0 e0 = true then 0 else 16)) ∧ Below w.heap.size w w' := by
  have hu := Try.underlying28
  have hu2 := Try.underlying32
  have HR := Lib.hid hr; clear hr
  have hmf : ∀ (fn : Fn) (first cap : Array Value) (w : World), (Instr.makeFunc fn first cap).run Try.prog w = .ok (.func fn first cap) w := fun _ _ _ _ => rfl
  obtain ⟨r0, hr0⟩ : ∃ r0, chk l size entry l 0 0 0 e0 = r0 := ⟨_, rfl⟩
  rw [hr0]
  have HR0 := Lib.hid hr0; clear hr0
  rcases hk with ⟨rfl, rfl⟩ | ⟨rfl, rfl, rfl⟩ | ⟨rfl, hne, rfl⟩
  · go_enter Try.func13, Try.ntmps13
    go_wp2
    go_step3
    go_wp2
    go_step3
    go_wp2
    go_loopw [6, 7, 8, 9, 10, 62] (fun v6 v7 v8 v9 v10 v62 W => CK w 2 entry A c l size r0 v6 v7 v8 v9 v10 v62 W) (fun _ _ _ _ _ i _ => l.length - (intOf i).toNat)
    case atStart => exact ⟨0, 0, 0, 0, false, Nat.zero_le _, rfl, rfl, rfl, rfl, rfl, rfl, by omega, by omega, by omega, by omega, HR0.out, CI.start ..⟩
    case round =>
      obtain ⟨k, loads, dyns, fin, en, hk, rfl, rfl, rfl, rfl, rfl, rfl, hl0, hl1, hd0, hd1, hch, HC⟩ := hrel
      have HCH := Lib.hid hch; clear hch
      by_cases hlt : k < l.length
      · have hk0 : (k : Int) < (l.length : Int) := by omega
        obtain ⟨ad0, rfl, hx0, hx1, hx2, hx3, hx4, hx5, hx6⟩ := at_T32 (Kd.C_below HR.out HC.bel) k (by omega) hk0
        have e0 : rd_T32 l (k : Int) = l.getD k zSeg := by simp [rd_T32]
        rw [e0] at hx0 hx1 hx2 hx3 hx4 hx5 hx6
        rw [Int.toNat_natCast] at hx0 hx1 hx2 hx3 hx4 hx5 hx6
        clear e0
        replace HCH := Lib.hid ((congrArg (fun z => chk l size entry z loads dyns fin en) (drop_at l k hlt)).symm.trans HCH.out)
        generalize hX : l.getD k zSeg = x at *
        have HX := Lib.hid hX; clear hX
        go_wp2_with fail
        clear hx0 hx1 hx2 hx3 hx4 hx5 hx6
        have HG : (wr.alloc (segO x)).heap[wr.heap.size]? = some (segO x) := blk_new wr _
        replace HC := HC.step ((Below.refl _ _).alloc (Nat.le_refl _) (segO x))
        have hgw : wr.heap.size < (wr.alloc (segO x)).heap.size := by simp
        go_wp2_with fail
        refine (elf_segment.calls x.f0 x.f1 x.f2 x.f3 x.f4 x.f5 x.f6 size (segOk x size) _ rfl).mono ?_
        rintro e w1 ⟨rfl, hb1⟩
        replace HG := blk_below HG hb1
        replace HC := HC.step hb1
        clear hb1 hgw
        generalize wr.heap.size = g at *
        cases hv : segOk x size with
        | false =>
          have hz : r0 = false := by rw [← HCH.out]; simp [chk, hv]
          subst hz
          clear hv
          go_wp2_with fail
          try rw [Exit.noGoto_ret]
          go_ret
          exact ⟨rfl, HC.bel⟩
        | true =>
          have HV := Lib.hid hv; clear hv
          obtain ⟨hx0, hx1, hx2, hx3, hx4, hx5, hx6⟩ := seg_cells HG
          go_wp2_with fail
          refine (elf_Pages.calls x.f0 x.f1 x.f2 x.f3 x.f4 x.f5 x.f6 (pageA x) (pageB x) _ rfl).mono ?_
          rintro e w2 ⟨rfl, hb2⟩
          clear hx0 hx1 hx2 hx3 hx4 hx5 hx6
          replace HG := blk_below HG hb2
          replace HC := HC.step hb2
          clear hb2
          obtain ⟨hx0, hx1, hx2, hx3, hx4, hx5, hx6⟩ := seg_cells HG
          by_cases t1 : x.f0 = 1
          · have d1 : (x.f0 == 1) = true := by simp [t1]
            by_cases hp : fin ≤ pageA x
            · have dp : decide (fin ≤ pageA x) = true := decide_eq_true hp
              have hch2 : chk l size entry (x :: l.drop (k + 1)) loads dyns fin en = chk l size entry (l.drop (k + 1)) (loads + 1) dyns (pageB x) (en || begB x entry) := by simp [chk, HV.out, t1, hp]
              replace HCH := Lib.hid (hch2.symm.trans HCH.out)
              clear hch2 t1 hp
              cases en with
              | true =>
                go_wp2_with fail
                go_roundw
                case measure => simp [intOf]; omega
                case rel => exact ⟨k + 1, loads + 1, dyns, pageB x, true, by omega, rfl, rfl, rfl, rfl, rfl, by go_num, by omega, by omega, by omega, by omega, HCH.out, HC⟩
              | false =>
                have hc1 := HC.c1
                go_wp2_with fail
                refine (elf_begins.calls x.f0 x.f1 x.f2 x.f3 x.f4 x.f5 x.f6 entry (begB x entry) _ (begB_some x entry)).mono ?_
                rintro e w3 ⟨rfl, hb3⟩
                clear hx0 hx1 hx2 hx3 hx4 hx5 hx6 hc1
                replace HC := HC.step hb3
                clear hb3 HG
                go_wp2_with fail
                go_roundw
                case measure => simp [intOf]; omega
                case rel => exact ⟨k + 1, loads + 1, dyns, pageB x, begB x entry, by omega, rfl, rfl, rfl, rfl, rfl, by go_num, by omega, by omega, by omega, by omega, HCH.out, HC⟩
            · have dp : decide (fin ≤ pageA x) = false := decide_eq_false hp
              have hz : r0 = false := by rw [← HCH.out]; simp [chk, HV.out, t1, hp]
              subst hz
              clear t1 hp
              cases en with
              | true =>
                go_wp2_with fail
                try rw [Exit.noGoto_ret]
                go_ret
                exact ⟨rfl, HC.bel⟩
              | false =>
                have hc1 := HC.c1
                go_wp2_with fail
                refine (elf_begins.calls x.f0 x.f1 x.f2 x.f3 x.f4 x.f5 x.f6 entry (begB x entry) _ (begB_some x entry)).mono ?_
                rintro e w3 ⟨rfl, hb3⟩
                clear hx0 hx1 hx2 hx3 hx4 hx5 hx6 hc1
                replace HC := HC.step hb3
                clear hb3 HG
                go_wp2_with fail
                try rw [Exit.noGoto_ret]
                go_ret
                exact ⟨rfl, HC.bel⟩
          · have d1 : (x.f0 == 1) = false := by simp [t1]
            by_cases t2 : x.f0 = 2
            · have d2 : (x.f0 == 2) = true := by simp [t2]
              have hc2 := HC.c2
              go_wp2_with fail
              refine (ContainsFunc_calls (some ad0) c l x g _ (Kd.C_below HR.out HC.bel) hc (by omega) HG).mono ?_
              rintro e w3 ⟨rfl, hb3⟩
              clear hx0 hx1 hx2 hx3 hx4 hx5 hx6 hc2
              replace HC := HC.step hb3
              clear hb3 HG
              cases ha : l.any fun y => holdB y x with
              | true =>
                have hch2 : chk l size entry (x :: l.drop (k + 1)) loads dyns fin en = chk l size entry (l.drop (k + 1)) loads (dyns + 1) fin en := by simp [chk, HV.out, t2, ha]
                replace HCH := Lib.hid (hch2.symm.trans HCH.out)
                clear hch2 t1 t2 ha
                go_wp2_with fail
                go_roundw
                case measure => simp [intOf]; omega
                case rel => exact ⟨k + 1, loads, dyns + 1, fin, en, by omega, rfl, rfl, rfl, rfl, rfl, by go_num, by omega, by omega, by omega, by omega, HCH.out, HC⟩
              | false =>
                have hz : r0 = false := by rw [← HCH.out]; simp [chk, HV.out, t2, ha]
                subst hz
                clear t1 t2 ha
                go_wp2_with fail
                try rw [Exit.noGoto_ret]
                go_ret
                exact ⟨rfl, HC.bel⟩
            · have d2 : (x.f0 == 2) = false := by simp [t2]
              have hch2 : chk l size entry (x :: l.drop (k + 1)) loads dyns fin en = chk l size entry (l.drop (k + 1)) loads dyns fin en := by simp [chk, HV.out, t1, t2]
              replace HCH := Lib.hid (hch2.symm.trans HCH.out)
              clear hch2 t1 t2
              go_wp2_with fail
              go_roundw
              case measure => simp [intOf]; omega
              case rel => exact ⟨k + 1, loads, dyns, fin, en, by omega, rfl, rfl, rfl, rfl, rfl, by go_num, by omega, by omega, by omega, by omega, HCH.out, HC⟩
      · obtain rfl : k = l.length := by omega
        have hch2 : (!decide (loads = 0) && !decide (1 < dyns) && en) = r0 := by
          rw [← HCH.out, List.drop_length]
          rfl
        have HZ := Lib.hid hch2
        clear hch2 HCH
        by_cases z1 : loads = 0
        · have dz : (loads == 0) = true := by simp [z1]
          have hz : r0 = false := by rw [← HZ.out]; simp [z1]
          subst hz
          clear z1
          go_wp2_with fail
          try rw [Exit.noGoto_ret]
          go_ret
          exact ⟨rfl, HC.bel⟩
        · have dz : (loads == 0) = false := by simp [z1]
          by_cases z2 : 1 < dyns
          · have hz : r0 = false := by rw [← HZ.out]; simp [z2]
            subst hz
            clear z1
            go_wp2_with fail
            try rw [Exit.noGoto_ret]
            go_ret
            exact ⟨rfl, HC.bel⟩
          · cases en with
            | true =>
              have hz : r0 = true := by rw [← HZ.out]; simp [z1, z2]
              subst hz
              clear z1
              go_wp2_with fail
              try rw [Exit.noGoto_ret]
              go_ret
              exact ⟨rfl, HC.bel⟩
            | false =>
              have hz : r0 = false := by rw [← HZ.out]; simp
              subst hz
              clear z1
              go_wp2_with fail
              try rw [Exit.noGoto_ret]
              go_ret
              exact ⟨rfl, HC.bel⟩
  · go_enter Try.func13, Try.ntmps13
    go_wp2
    go_step3
    go_wp2
    go_step3
    go_wp2
    go_loopw [6, 7, 8, 9, 10, 62] (fun v6 v7 v8 v9 v10 v62 W => CK w 3 0 A c l size r0 v6 v7 v8 v9 v10 v62 W) (fun _ _ _ _ _ i _ => l.length - (intOf i).toNat)
    case atStart => exact ⟨0, 0, 0, 0, true, Nat.zero_le _, rfl, rfl, rfl, rfl, rfl, rfl, by omega, by omega, by omega, by omega, HR0.out, CI.start ..⟩
    case round =>
      obtain ⟨k, loads, dyns, fin, en, hk, rfl, rfl, rfl, rfl, rfl, rfl, hl0, hl1, hd0, hd1, hch, HC⟩ := hrel
      have HCH := Lib.hid hch; clear hch
      by_cases hlt : k < l.length
      · have hk0 : (k : Int) < (l.length : Int) := by omega
        obtain ⟨ad0, rfl, hx0, hx1, hx2, hx3, hx4, hx5, hx6⟩ := at_T32 (Kd.C_below HR.out HC.bel) k (by omega) hk0
        have e0 : rd_T32 l (k : Int) = l.getD k zSeg := by simp [rd_T32]
        rw [e0] at hx0 hx1 hx2 hx3 hx4 hx5 hx6
        rw [Int.toNat_natCast] at hx0 hx1 hx2 hx3 hx4 hx5 hx6
        clear e0
        replace HCH := Lib.hid ((congrArg (fun z => chk l size 0 z loads dyns fin en) (drop_at l k hlt)).symm.trans HCH.out)
        generalize hX : l.getD k zSeg = x at *
        have HX := Lib.hid hX; clear hX
        go_wp2_with fail
        clear hx0 hx1 hx2 hx3 hx4 hx5 hx6
        have HG : (wr.alloc (segO x)).heap[wr.heap.size]? = some (segO x) := blk_new wr _
        replace HC := HC.step ((Below.refl _ _).alloc (Nat.le_refl _) (segO x))
        have hgw : wr.heap.size < (wr.alloc (segO x)).heap.size := by simp
        go_wp2_with fail
        refine (elf_segment.calls x.f0 x.f1 x.f2 x.f3 x.f4 x.f5 x.f6 size (segOk x size) _ rfl).mono ?_
        rintro e w1 ⟨rfl, hb1⟩
        replace HG := blk_below HG hb1
        replace HC := HC.step hb1
        clear hb1 hgw
        generalize wr.heap.size = g at *
        cases hv : segOk x size with
        | false =>
          have hz : r0 = false := by rw [← HCH.out]; simp [chk, hv]
          subst hz
          clear hv
          go_wp2_with fail
          try rw [Exit.noGoto_ret]
          go_ret
          exact ⟨rfl, HC.bel⟩
        | true =>
          have HV := Lib.hid hv; clear hv
          obtain ⟨hx0, hx1, hx2, hx3, hx4, hx5, hx6⟩ := seg_cells HG
          go_wp2_with fail
          refine (elf_Pages.calls x.f0 x.f1 x.f2 x.f3 x.f4 x.f5 x.f6 (pageA x) (pageB x) _ rfl).mono ?_
          rintro e w2 ⟨rfl, hb2⟩
          clear hx0 hx1 hx2 hx3 hx4 hx5 hx6
          replace HG := blk_below HG hb2
          replace HC := HC.step hb2
          clear hb2
          obtain ⟨hx0, hx1, hx2, hx3, hx4, hx5, hx6⟩ := seg_cells HG
          by_cases t1 : x.f0 = 1
          · have d1 : (x.f0 == 1) = true := by simp [t1]
            by_cases hp : fin ≤ pageA x
            · have dp : decide (fin ≤ pageA x) = true := decide_eq_true hp
              have hch2 : chk l size 0 (x :: l.drop (k + 1)) loads dyns fin en = chk l size 0 (l.drop (k + 1)) (loads + 1) dyns (pageB x) (en || begB x 0) := by simp [chk, HV.out, t1, hp]
              replace HCH := Lib.hid (hch2.symm.trans HCH.out)
              clear hch2 t1 hp
              cases en with
              | true =>
                go_wp2_with fail
                go_roundw
                case measure => simp [intOf]; omega
                case rel => exact ⟨k + 1, loads + 1, dyns, pageB x, true, by omega, rfl, rfl, rfl, rfl, rfl, by go_num, by omega, by omega, by omega, by omega, HCH.out, HC⟩
              | false =>
                have hc1 := HC.c1
                go_wp2_with fail
                refine (elf_begins.calls x.f0 x.f1 x.f2 x.f3 x.f4 x.f5 x.f6 0 (begB x 0) _ (begB_some x 0)).mono ?_
                rintro e w3 ⟨rfl, hb3⟩
                clear hx0 hx1 hx2 hx3 hx4 hx5 hx6 hc1
                replace HC := HC.step hb3
                clear hb3 HG
                go_wp2_with fail
                go_roundw
                case measure => simp [intOf]; omega
                case rel => exact ⟨k + 1, loads + 1, dyns, pageB x, begB x 0, by omega, rfl, rfl, rfl, rfl, rfl, by go_num, by omega, by omega, by omega, by omega, HCH.out, HC⟩
            · have dp : decide (fin ≤ pageA x) = false := decide_eq_false hp
              have hz : r0 = false := by rw [← HCH.out]; simp [chk, HV.out, t1, hp]
              subst hz
              clear t1 hp
              cases en with
              | true =>
                go_wp2_with fail
                try rw [Exit.noGoto_ret]
                go_ret
                exact ⟨rfl, HC.bel⟩
              | false =>
                have hc1 := HC.c1
                go_wp2_with fail
                refine (elf_begins.calls x.f0 x.f1 x.f2 x.f3 x.f4 x.f5 x.f6 0 (begB x 0) _ (begB_some x 0)).mono ?_
                rintro e w3 ⟨rfl, hb3⟩
                clear hx0 hx1 hx2 hx3 hx4 hx5 hx6 hc1
                replace HC := HC.step hb3
                clear hb3 HG
                go_wp2_with fail
                try rw [Exit.noGoto_ret]
                go_ret
                exact ⟨rfl, HC.bel⟩
          · have d1 : (x.f0 == 1) = false := by simp [t1]
            by_cases t2 : x.f0 = 2
            · have d2 : (x.f0 == 2) = true := by simp [t2]
              have hc2 := HC.c2
              go_wp2_with fail
              refine (ContainsFunc_calls (some ad0) c l x g _ (Kd.C_below HR.out HC.bel) hc (by omega) HG).mono ?_
              rintro e w3 ⟨rfl, hb3⟩
              clear hx0 hx1 hx2 hx3 hx4 hx5 hx6 hc2
              replace HC := HC.step hb3
              clear hb3 HG
              cases ha : l.any fun y => holdB y x with
              | true =>
                have hch2 : chk l size 0 (x :: l.drop (k + 1)) loads dyns fin en = chk l size 0 (l.drop (k + 1)) loads (dyns + 1) fin en := by simp [chk, HV.out, t2, ha]
                replace HCH := Lib.hid (hch2.symm.trans HCH.out)
                clear hch2 t1 t2 ha
                go_wp2_with fail
                go_roundw
                case measure => simp [intOf]; omega
                case rel => exact ⟨k + 1, loads, dyns + 1, fin, en, by omega, rfl, rfl, rfl, rfl, rfl, by go_num, by omega, by omega, by omega, by omega, HCH.out, HC⟩
              | false =>
                have hz : r0 = false := by rw [← HCH.out]; simp [chk, HV.out, t2, ha]
                subst hz
                clear t1 t2 ha
                go_wp2_with fail
                try rw [Exit.noGoto_ret]
                go_ret
                exact ⟨rfl, HC.bel⟩
            · have d2 : (x.f0 == 2) = false := by simp [t2]
              have hch2 : chk l size 0 (x :: l.drop (k + 1)) loads dyns fin en = chk l size 0 (l.drop (k + 1)) loads dyns fin en := by simp [chk, HV.out, t1, t2]
              replace HCH := Lib.hid (hch2.symm.trans HCH.out)
              clear hch2 t1 t2
              go_wp2_with fail
              go_roundw
              case measure => simp [intOf]; omega
              case rel => exact ⟨k + 1, loads, dyns, fin, en, by omega, rfl, rfl, rfl, rfl, rfl, by go_num, by omega, by omega, by omega, by omega, HCH.out, HC⟩
      · obtain rfl : k = l.length := by omega
        have hch2 : (!decide (loads = 0) && !decide (1 < dyns) && en) = r0 := by
          rw [← HCH.out, List.drop_length]
          rfl
        have HZ := Lib.hid hch2
        clear hch2 HCH
        by_cases z1 : loads = 0
        · have dz : (loads == 0) = true := by simp [z1]
          have hz : r0 = false := by rw [← HZ.out]; simp [z1]
          subst hz
          clear z1
          go_wp2_with fail
          try rw [Exit.noGoto_ret]
          go_ret
          exact ⟨rfl, HC.bel⟩
        · have dz : (loads == 0) = false := by simp [z1]
          by_cases z2 : 1 < dyns
          · have hz : r0 = false := by rw [← HZ.out]; simp [z2]
            subst hz
            clear z1
            go_wp2_with fail
            try rw [Exit.noGoto_ret]
            go_ret
            exact ⟨rfl, HC.bel⟩
          · cases en with
            | true =>
              have hz : r0 = true := by rw [← HZ.out]; simp [z1, z2]
              subst hz
              clear z1
              go_wp2_with fail
              try rw [Exit.noGoto_ret]
              go_ret
              exact ⟨rfl, HC.bel⟩
            | false =>
              have hz : r0 = false := by rw [← HZ.out]; simp
              subst hz
              clear z1
              go_wp2_with fail
              try rw [Exit.noGoto_ret]
              go_ret
              exact ⟨rfl, HC.bel⟩
  · have dne : (entry == 0) = false := by simp [hne]
    clear hne
    go_enter Try.func13, Try.ntmps13
    go_wp2
    go_step3
    go_wp2
    go_step3
    go_wp2
    go_loopw [6, 7, 8, 9, 10, 62] (fun v6 v7 v8 v9 v10 v62 W => CK w 3 entry A c l size r0 v6 v7 v8 v9 v10 v62 W) (fun _ _ _ _ _ i _ => l.length - (intOf i).toNat)
    case atStart => exact ⟨0, 0, 0, 0, false, Nat.zero_le _, rfl, rfl, rfl, rfl, rfl, rfl, by omega, by omega, by omega, by omega, HR0.out, CI.start ..⟩
    case round =>
      obtain ⟨k, loads, dyns, fin, en, hk, rfl, rfl, rfl, rfl, rfl, rfl, hl0, hl1, hd0, hd1, hch, HC⟩ := hrel
      have HCH := Lib.hid hch; clear hch
      by_cases hlt : k < l.length
      · have hk0 : (k : Int) < (l.length : Int) := by omega
        obtain ⟨ad0, rfl, hx0, hx1, hx2, hx3, hx4, hx5, hx6⟩ := at_T32 (Kd.C_below HR.out HC.bel) k (by omega) hk0
        have e0 : rd_T32 l (k : Int) = l.getD k zSeg := by simp [rd_T32]
        rw [e0] at hx0 hx1 hx2 hx3 hx4 hx5 hx6
        rw [Int.toNat_natCast] at hx0 hx1 hx2 hx3 hx4 hx5 hx6
        clear e0
        replace HCH := Lib.hid ((congrArg (fun z => chk l size entry z loads dyns fin en) (drop_at l k hlt)).symm.trans HCH.out)
        generalize hX : l.getD k zSeg = x at *
        have HX := Lib.hid hX; clear hX
        go_wp2_with fail
        clear hx0 hx1 hx2 hx3 hx4 hx5 hx6
        have HG : (wr.alloc (segO x)).heap[wr.heap.size]? = some (segO x) := blk_new wr _
        replace HC := HC.step ((Below.refl _ _).alloc (Nat.le_refl _) (segO x))
        have hgw : wr.heap.size < (wr.alloc (segO x)).heap.size := by simp
        go_wp2_with fail
        refine (elf_segment.calls x.f0 x.f1 x.f2 x.f3 x.f4 x.f5 x.f6 size (segOk x size) _ rfl).mono ?_
        rintro e w1 ⟨rfl, hb1⟩
        replace HG := blk_below HG hb1
        replace HC := HC.step hb1
        clear hb1 hgw
        generalize wr.heap.size = g at *
        cases hv : segOk x size with
        | false =>
          have hz : r0 = false := by rw [← HCH.out]; simp [chk, hv]
          subst hz
          clear hv
          go_wp2_with fail
          try rw [Exit.noGoto_ret]
          go_ret
          exact ⟨rfl, HC.bel⟩
        | true =>
          have HV := Lib.hid hv; clear hv
          obtain ⟨hx0, hx1, hx2, hx3, hx4, hx5, hx6⟩ := seg_cells HG
          go_wp2_with fail
          refine (elf_Pages.calls x.f0 x.f1 x.f2 x.f3 x.f4 x.f5 x.f6 (pageA x) (pageB x) _ rfl).mono ?_
          rintro e w2 ⟨rfl, hb2⟩
          clear hx0 hx1 hx2 hx3 hx4 hx5 hx6
          replace HG := blk_below HG hb2
          replace HC := HC.step hb2
          clear hb2
          obtain ⟨hx0, hx1, hx2, hx3, hx4, hx5, hx6⟩ := seg_cells HG
          by_cases t1 : x.f0 = 1
          · have d1 : (x.f0 == 1) = true := by simp [t1]
            by_cases hp : fin ≤ pageA x
            · have dp : decide (fin ≤ pageA x) = true := decide_eq_true hp
              have hch2 : chk l size entry (x :: l.drop (k + 1)) loads dyns fin en = chk l size entry (l.drop (k + 1)) (loads + 1) dyns (pageB x) (en || begB x entry) := by simp [chk, HV.out, t1, hp]
              replace HCH := Lib.hid (hch2.symm.trans HCH.out)
              clear hch2 t1 hp
              cases en with
              | true =>
                go_wp2_with fail
                go_roundw
                case measure => simp [intOf]; omega
                case rel => exact ⟨k + 1, loads + 1, dyns, pageB x, true, by omega, rfl, rfl, rfl, rfl, rfl, by go_num, by omega, by omega, by omega, by omega, HCH.out, HC⟩
              | false =>
                have hc1 := HC.c1
                go_wp2_with fail
                refine (elf_begins.calls x.f0 x.f1 x.f2 x.f3 x.f4 x.f5 x.f6 entry (begB x entry) _ (begB_some x entry)).mono ?_
                rintro e w3 ⟨rfl, hb3⟩
                clear hx0 hx1 hx2 hx3 hx4 hx5 hx6 hc1
                replace HC := HC.step hb3
                clear hb3 HG
                go_wp2_with fail
                go_roundw
                case measure => simp [intOf]; omega
                case rel => exact ⟨k + 1, loads + 1, dyns, pageB x, begB x entry, by omega, rfl, rfl, rfl, rfl, rfl, by go_num, by omega, by omega, by omega, by omega, HCH.out, HC⟩
            · have dp : decide (fin ≤ pageA x) = false := decide_eq_false hp
              have hz : r0 = false := by rw [← HCH.out]; simp [chk, HV.out, t1, hp]
              subst hz
              clear t1 hp
              cases en with
              | true =>
                go_wp2_with fail
                try rw [Exit.noGoto_ret]
                go_ret
                exact ⟨rfl, HC.bel⟩
              | false =>
                have hc1 := HC.c1
                go_wp2_with fail
                refine (elf_begins.calls x.f0 x.f1 x.f2 x.f3 x.f4 x.f5 x.f6 entry (begB x entry) _ (begB_some x entry)).mono ?_
                rintro e w3 ⟨rfl, hb3⟩
                clear hx0 hx1 hx2 hx3 hx4 hx5 hx6 hc1
                replace HC := HC.step hb3
                clear hb3 HG
                go_wp2_with fail
                try rw [Exit.noGoto_ret]
                go_ret
                exact ⟨rfl, HC.bel⟩
          · have d1 : (x.f0 == 1) = false := by simp [t1]
            by_cases t2 : x.f0 = 2
            · have d2 : (x.f0 == 2) = true := by simp [t2]
              have hc2 := HC.c2
              go_wp2_with fail
              refine (ContainsFunc_calls (some ad0) c l x g _ (Kd.C_below HR.out HC.bel) hc (by omega) HG).mono ?_
              rintro e w3 ⟨rfl, hb3⟩
              clear hx0 hx1 hx2 hx3 hx4 hx5 hx6 hc2
              replace HC := HC.step hb3
              clear hb3 HG
              cases ha : l.any fun y => holdB y x with
              | true =>
                have hch2 : chk l size entry (x :: l.drop (k + 1)) loads dyns fin en = chk l size entry (l.drop (k + 1)) loads (dyns + 1) fin en := by simp [chk, HV.out, t2, ha]
                replace HCH := Lib.hid (hch2.symm.trans HCH.out)
                clear hch2 t1 t2 ha
                go_wp2_with fail
                go_roundw
                case measure => simp [intOf]; omega
                case rel => exact ⟨k + 1, loads, dyns + 1, fin, en, by omega, rfl, rfl, rfl, rfl, rfl, by go_num, by omega, by omega, by omega, by omega, HCH.out, HC⟩
              | false =>
                have hz : r0 = false := by rw [← HCH.out]; simp [chk, HV.out, t2, ha]
                subst hz
                clear t1 t2 ha
                go_wp2_with fail
                try rw [Exit.noGoto_ret]
                go_ret
                exact ⟨rfl, HC.bel⟩
            · have d2 : (x.f0 == 2) = false := by simp [t2]
              have hch2 : chk l size entry (x :: l.drop (k + 1)) loads dyns fin en = chk l size entry (l.drop (k + 1)) loads dyns fin en := by simp [chk, HV.out, t1, t2]
              replace HCH := Lib.hid (hch2.symm.trans HCH.out)
              clear hch2 t1 t2
              go_wp2_with fail
              go_roundw
              case measure => simp [intOf]; omega
              case rel => exact ⟨k + 1, loads, dyns, fin, en, by omega, rfl, rfl, rfl, rfl, rfl, by go_num, by omega, by omega, by omega, by omega, HCH.out, HC⟩
      · obtain rfl : k = l.length := by omega
        have hch2 : (!decide (loads = 0) && !decide (1 < dyns) && en) = r0 := by
          rw [← HCH.out, List.drop_length]
          rfl
        have HZ := Lib.hid hch2
        clear hch2 HCH
        by_cases z1 : loads = 0
        · have dz : (loads == 0) = true := by simp [z1]
          have hz : r0 = false := by rw [← HZ.out]; simp [z1]
          subst hz
          clear z1
          go_wp2_with fail
          try rw [Exit.noGoto_ret]
          go_ret
          exact ⟨rfl, HC.bel⟩
        · have dz : (loads == 0) = false := by simp [z1]
          by_cases z2 : 1 < dyns
          · have hz : r0 = false := by rw [← HZ.out]; simp [z2]
            subst hz
            clear z1
            go_wp2_with fail
            try rw [Exit.noGoto_ret]
            go_ret
            exact ⟨rfl, HC.bel⟩
          · cases en with
            | true =>
              have hz : r0 = true := by rw [← HZ.out]; simp [z1, z2]
              subst hz
              clear z1
              go_wp2_with fail
              try rw [Exit.noGoto_ret]
              go_ret
              exact ⟨rfl, HC.bel⟩
            | false =>
              have hz : r0 = false := by rw [← HZ.out]; simp
              subst hz
              clear z1
              go_wp2_with fail
              try rw [Exit.noGoto_ret]
              go_ret
              exact ⟨rfl, HC.bel⟩

theorem elf_Check.calls (a0_0 a0_1 : Int) (A0_2 : Option Addr) (c0_2 : Nat) (l0_2 : List Seg) (a1 r : Int) (w : World)
    (hr0_2 : Kd.C kSeg w A0_2 l0_2.length l0_2) (hc0_2 : l0_2.length ≤ c0_2) (h : elf_Check.f a0_0 a0_1 l0_2 a1 = some r) :
    Calls Try.prog 13 #[.agg #[.int .i64 a0_0, .int .i64 a0_1, .slice A0_2 l0_2.length c0_2], .int .i64 a1] w fun e w' => e = .returned (.int .i64 r) ∧ Below w.heap.size w w' := by
  unfold elf_Check.f at h
  by_cases hb : l0_2.length ≤ 2147483647
  · rw [if_pos hb] at h
    obtain rfl := Option.some.inj h
    unfold checkI
    by_cases hbad : badHead a0_0 a0_1 l0_2.length a1
    · rw [if_pos hbad]
      exact check_bad a0_0 a0_1 A0_2 c0_2 l0_2 a1 w hb hbad
    · rw [if_neg hbad]
      unfold badHead at hbad
      refine check_good a0_0 a0_1 A0_2 c0_2 l0_2 a1 w _ hr0_2 hc0_2 ?_ (by omega) (by omega) (by omega) (by omega) (by omega)
      by_cases h2 : a0_0 = 2
      · exact .inl ⟨h2, by simp [h2]⟩
      · have h3 : a0_0 = 3 := by omega
        by_cases h0 : a0_1 = 0
        · exact .inr (.inl ⟨h3, h0, by simp [h3, h0]⟩)
        · exact .inr (.inr ⟨h3, h0, by simp [h0]⟩)
  · rw [if_neg hb] at h
    cases h
end Go.Proofs.Ytdlgfjefbjkdaaa.H
