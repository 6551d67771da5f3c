/- elf.Header writes an image's headers: the contract of the Go function, up to 2^31 segments. -/
import Derived.Test.YtdlgfjefbjkdaaaPut
import Derived.Test.YtdlgfjefbjkdaaaFill
import Derived.Test.YtdlgfjefbjkdaaaBld
import Derived.Test.YtdlgfjefbjkdaaaSame
import Derived.Test.YtdlgfjefbjkdaaaWTab
import Derived.WalkKit
import Derived.Lib.Hide
import Derived.WalkSpells
namespace Go.Proofs.Ytdlgfjefbjkdaaa.H
open Go.RowKit Go.Proofs.YtdlgfjefbjkdaaaW.PrintWords Go.Proofs.YtdlgfjefbjkdaaaW.PrintLast Go.Proofs.YtdlgfjefbjkdaaaW.PrintMore Go.Proofs.Ytdlgfjefbjkdaaa.A Go.Proofs.Flat
set_option linter.unusedVariables false
set_option linter.unusedSimpArgs false

def magicS : ByteArray := ⟨#[127, 69, 76, 70, 2, 1, 1, 0, 0, 0, 0, 0, 0, 0, 0, 0]⟩
def emptyS : ByteArray := ⟨#[]⟩
/-- The first 64 bytes, in the three parts in which they are written. -/
def head1 (kind entry : Int) : ByteArray := magicS ++ putN kind 2 ++ putN 62 2 ++ putN 1 4 ++ putN entry 8 ++ putN 64 8 ++ fillS emptyS 12
def head2 (n : Int) : ByteArray := putN 64 2 ++ putN 56 2 ++ putN n 2
def head3 : ByteArray := fillS emptyS 6
def bytesL (s : ByteArray) : List UInt8 := s.data.toList
theorem bytesL_length (s : ByteArray) : (bytesL s).length = s.size := data_length s
def six (s : Seg) (k : Nat) : Int := match k with | 0 => s.f2 | 1 => s.f3 | 2 => s.f3 | 3 => s.f4 | 4 => s.f5 | _ => s.f6
/-- A segment's 56 bytes. -/
def segL (s : Seg) : List UInt8 := bytesL (putN s.f0 4 ++ putN s.f1 4) ++ (List.range 6).flatMap fun k => bytesL (putN (six s k) 8)
theorem segL_length (s : Seg) : (segL s).length = 56 := by
  simp [segL, bytesL_length, putN_size, List.range_succ, List.flatMap_append, List.flatMap_cons]
theorem flat_length (l : List Seg) : (l.flatMap segL).length = 56 * l.length := by
  induction l with
  | nil => rfl
  | cons x l ih => rw [List.flatMap_cons, List.length_append, segL_length, ih, List.length_cons]; omega
theorem take_seg (l : List Seg) (k : Nat) (hk : k < l.length) : (l.take (k + 1)).flatMap segL = (l.take k).flatMap segL ++ segL (l.getD k zSeg) := by
  rw [List.take_succ_eq_append_getElem hk, List.flatMap_append]
  simp [List.getD_eq_getElem?_getD, List.getElem?_eq_getElem hk]
def sixL (x : Seg) (j : Nat) : List UInt8 := (List.range j).flatMap fun k => bytesL (putN (six x k) 8)
theorem sixL_succ (x : Seg) (j : Nat) : sixL x (j + 1) = sixL x j ++ bytesL (putN (six x j) 8) := by
  simp [sixL, List.range_succ, List.flatMap_append]
theorem sixL_length (x : Seg) (j : Nat) : (sixL x j).length = 8 * j := by
  induction j with
  | zero => rfl
  | succ j ih => rw [sixL_succ, List.length_append, ih, bytesL_length, putN_size]; omega
theorem six_0 (a b c d e f : Int) (W : World) : (Instr.index 62 (.agg #[.int .i64 a, .int .i64 b, .int .i64 c, .int .i64 d, .int .i64 e, .int .i64 f]) (.int .i64 0)).run Try.prog W = .ok (.int .i64 a) W := by kernel_rfl
theorem six_1 (a b c d e f : Int) (W : World) : (Instr.index 62 (.agg #[.int .i64 a, .int .i64 b, .int .i64 c, .int .i64 d, .int .i64 e, .int .i64 f]) (.int .i64 1)).run Try.prog W = .ok (.int .i64 b) W := by kernel_rfl
theorem six_2 (a b c d e f : Int) (W : World) : (Instr.index 62 (.agg #[.int .i64 a, .int .i64 b, .int .i64 c, .int .i64 d, .int .i64 e, .int .i64 f]) (.int .i64 2)).run Try.prog W = .ok (.int .i64 c) W := by kernel_rfl
theorem six_3 (a b c d e f : Int) (W : World) : (Instr.index 62 (.agg #[.int .i64 a, .int .i64 b, .int .i64 c, .int .i64 d, .int .i64 e, .int .i64 f]) (.int .i64 3)).run Try.prog W = .ok (.int .i64 d) W := by kernel_rfl
theorem six_4 (a b c d e f : Int) (W : World) : (Instr.index 62 (.agg #[.int .i64 a, .int .i64 b, .int .i64 c, .int .i64 d, .int .i64 e, .int .i64 f]) (.int .i64 4)).run Try.prog W = .ok (.int .i64 e) W := by kernel_rfl
theorem six_5 (a b c d e f : Int) (W : World) : (Instr.index 62 (.agg #[.int .i64 a, .int .i64 b, .int .i64 c, .int .i64 d, .int .i64 e, .int .i64 f]) (.int .i64 5)).run Try.prog W = .ok (.int .i64 f) W := by kernel_rfl
theorem six_at (x : Seg) (k : Nat) (W : World) (hk : k < 6) : (Instr.index 62 (.agg #[.int .i64 x.f2, .int .i64 x.f3, .int .i64 x.f3, .int .i64 x.f4, .int .i64 x.f5, .int .i64 x.f6]) (.int .i64 (k : Int))).run Try.prog W = .ok (.int .i64 (six x k)) W := by
  match k, hk with
  | 0, _ => exact six_0 ..
  | 1, _ => exact six_1 ..
  | 2, _ => exact six_2 ..
  | 3, _ => exact six_3 ..
  | 4, _ => exact six_4 ..
  | 5, _ => exact six_5 ..
def headL (kind entry : Int) (l : List Seg) : List UInt8 := bytesL (head1 kind entry) ++ bytesL (head2 l.length) ++ bytesL head3 ++ l.flatMap segL
def elf_Header.f (a0_0 a0_1 : Int) (l0_2 : List Seg) : Option ByteArray := if l0_2.length ≤ 2147483647 then some ⟨(headL a0_0 a0_1 l0_2).toArray⟩ else none

/-- What holds all the while: the image's box, and the builder with what has been written. -/
structure HI (w : World) (kind entry : Int) (A : Option Addr) (c : Nat) (l : List Seg) (bs : List UInt8) (W : World) : Prop where
  bel : Below w.heap.size w W
  box : W.heap[w.heap.size]? = some (.cells #[.int .i64 kind, .int .i64 entry, .slice A l.length c] 28 (0, 0))
  bld : IsB (w.heap.size + 1) (w.heap.size + 1) (Lib.byteCells bs) W
variable {w : World} {kind entry : Int} {A : Option Addr} {c : Nat} {l : List Seg} {bs : List UInt8} {W : World}
theorem HI.c0 (h : HI w kind entry A c l bs W) : W.cell? ⟨w.heap.size, 0, none⟩ = some (.int .i64 kind) := (blk_cell h.box 0).trans rfl
theorem HI.c1 (h : HI w kind entry A c l bs W) : W.cell? ⟨w.heap.size, 1, none⟩ = some (.int .i64 entry) := (blk_cell h.box 1).trans rfl
theorem HI.c2 (h : HI w kind entry A c l bs W) : W.cell? ⟨w.heap.size, 2, none⟩ = some (.slice A l.length c) := (blk_cell h.box 2).trans rfl
theorem IsB.of {B b : Nat} {xs : List Value} {w : World} (h : Lib.IsBuilder 56 5 B b xs w) : IsB B b xs w := h
theorem IsB.below {B b : Nat} {xs : List Value} {w w1 : World} (h : IsB B b xs w) (hb : Below w.heap.size w w1) : IsB B b xs w1 := by
  rcases h with h | h
  · obtain ⟨h1, v, h2, h3, h4⟩ := h
    exact .inl ⟨h1, v, (hb.block b (blk_lt h2)).trans h2, pw_own_below h3 hb, h4⟩
  · obtain ⟨h1, v, h2, h3, h4⟩ := h
    exact .inr ⟨h1, v, (hb.block b (blk_lt h2)).trans h2, pw_own_below h3 hb, h4⟩
theorem HI.step (h : HI w kind entry A c l bs W) {w1 : World} (hb : Below W.heap.size W w1) : HI w kind entry A c l bs w1 :=
  ⟨below_then h.bel h.bel.size hb, (hb.block _ (blk_lt h.box)).trans h.box, h.bld.below hb⟩
theorem HI.drew (h : HI w kind entry A c l bs W) : HI w kind entry A c l bs W.drew := ⟨below_drew h.bel, h.box, h.bld⟩
theorem HI.room (h : HI w kind entry A c l bs W) : w.heap.size + 1 ≤ W.heap.size := by have := blk_lt h.box; omega

theorem byteCells_append (a b : List UInt8) : Lib.byteCells (a ++ b) = Lib.byteCells a ++ Lib.byteCells b := by simp [Lib.byteCells]
theorem strCells_eq (s : ByteArray) : Lib.strCells s = Lib.byteCells (bytesL s) := rfl
theorem byteCells_length (a : List UInt8) : (Lib.byteCells a).length = a.length := by simp [Lib.byteCells]
/-- A write to the builder b leaves every other block that is no row of bytes. -/
def KeepsT (b : Nat) (w w' : World) : Prop := ∀ g cs T, w.heap[g]? = some (.cells cs T (0, 0)) → T ≠ 5 → g ≠ b → w'.heap[g]? = some (.cells cs T (0, 0))
theorem write_calls (h : HI w kind entry A c l bs W) (s : ByteArray) (hlen : bs.length + s.size ≤ 140737488355328) :
    Calls Try.prog 24 #[.pointer (some ⟨w.heap.size + 1, 0, none⟩), .string s] W fun e w' => ∃ n : Int, e = .returned (.tuple #[.int .i64 n, .nilIface]) ∧ HI w kind entry A c l (bs ++ bytesL s) w' ∧ KeepsT (w.heap.size + 1) W w' := by
  refine (WriteString_calls _ _ _ s W h.bld (by rw [byteCells_length]; exact hlen) h.room).mono ?_
  rintro e w' ⟨rfl, h1, h2, h3⟩
  refine ⟨_, rfl, ⟨h.bel.trans (h2.mono (by omega)), ?_, ?_⟩, ?_⟩
  · rw [h2.block _ (by omega)]; exact h.box
  · rw [byteCells_append, ← strCells_eq]; exact h1
  · intro g cs T hg hT hne
    obtain ⟨p, hB, v, hbk, hown, _⟩ := h.bld.at_
    rw [h3.block g (blk_lt hg) hne (by rw [rowOf_at hbk]; exact own_ne hown hg (fun e => hT e.symm)), hg]

theorem start_HI (w : World) (kind entry : Int) (A : Option Addr) (c : Nat) (l : List Seg) :
    HI w kind entry A c l [] ((w.alloc (.cells #[.int .i64 kind, .int .i64 entry, .slice A l.length c] 28)).alloc (.cells #[.pointer none, .slice none 0 0] 56)) := by
  refine ⟨((Below.refl _ _).alloc (Nat.le_refl _) _).alloc (by simp) _, ?_, ?_⟩
  · rw [Below.heap_alloc _ _ _ (by simp)]
    exact blk_new w _
  · have h := Lib.fresh_isBuilder 56 5 (w.alloc (.cells #[.int .i64 kind, .int .i64 entry, .slice A l.length c] 28))
    exact IsB.of (show Lib.IsBuilder _ _ _ _ [] _ from by simpa using h)

set_option maxHeartbeats 8000000 in
set_option maxRecDepth 100000 in
theorem elf_Header.calls (a0_0 a0_1 : Int) (A0_2 : Option Addr) (c0_2 : Nat) (l0_2 : List Seg) (r : ByteArray) (w : World)
    (hr0_2 : Kd.C kSeg w A0_2 l0_2.length l0_2) (hc0_2 : l0_2.length ≤ c0_2) (h : elf_Header.f a0_0 a0_1 l0_2 = some r) :
    Calls Try.prog 12 #[.agg #[.int .i64 a0_0, .int .i64 a0_1, .slice A0_2 l0_2.length c0_2]] w fun e w' => e = .returned (.string r) ∧ Below w.heap.size w w' := by
  unfold elf_Header.f at h
  by_cases hb : l0_2.length ≤ 2147483647
  · rw [if_pos hb] at h
    have hfin := Option.some.inj h
    have HFIN := Lib.hid hfin
    clear h hfin
    have hu := Try.underlying28
    have hu2 := Try.underlying32
    have HR := Lib.hid hr0_2; clear hr0_2
    have hps := putN_size
    have hfs : (fillS emptyS 12).size = 12 := rfl
    go_enter Try.func12, Try.ntmps12
    go_wp2_with fail
    have HI0 : HI w a0_0 a0_1 A0_2 c0_2 l0_2 [] ((w.alloc (.cells #[.int .i64 a0_0, .int .i64 a0_1, .slice A0_2 l0_2.length c0_2] 28)).alloc (.cells #[.pointer none, .slice none 0 0] 56)) := start_HI ..
    generalize ((w.alloc (.cells #[.int .i64 a0_0, .int .i64 a0_1, .slice A0_2 l0_2.length c0_2] 28)).alloc (.cells #[.pointer none, .slice none 0 0] 56)) = W0 at *
    replace HI0 := HI0.drew
    refine start_ (n := 17) (S := fun w' => w'.cell? ⟨w.heap.size, 0, none⟩ = some (.int .i64 a0_0) ∧ w'.cell? ⟨w.heap.size, 1, none⟩ = some (.int .i64 a0_1) ∧ w'.cell? ⟨w.heap.size, 2, none⟩ = some (.slice A0_2 l0_2.length c0_2)) (ds := [16]) #[false, false, false, false, false, false, false, false, false, false, false, false, false, false, false, false, false] (by kernel_rfl) rfl rfl ⟨HI0.c0, HI0.c1, HI0.c2⟩ (fun hHeld => ?_)
    refine pure_ (i := 0) (N := some 8) (v := ?_) (a' := ?_) #[true, false, false, false, false, false, false, false, false, false, false, false, false, false, false, false, false] rfl rfl (by kernel_rfl) (fun _ _ _ h => h) (Or.inl ⟨by rfl, ?_⟩) ?_ ?_
    rotate_left
    · intro w'
      go_simp
      with_reducible rfl
    rotate_left
    · simp only [Act.put, List.setIfInBounds_toArray, List.set_cons_zero, List.set_cons_succ, i64_w, i32_w]
      rfl
    refine pure_ (i := 8) (N := some 16) (v := ?_) (a' := ?_) #[true, false, false, false, false, false, false, false, true, false, false, false, false, false, false, false, false] rfl rfl (by kernel_rfl) (fun _ _ _ h => h) (Or.inl ⟨by rfl, ?_⟩) ?_ ?_
    rotate_left
    · intro w'
      go_simp
      with_reducible rfl
    rotate_left
    · simp only [Act.put, List.setIfInBounds_toArray, List.set_cons_zero, List.set_cons_succ, i64_w, i32_w]
      rfl
    refine take_ (i := 1) (N := some 9) (v := ?_) (a' := ?_) #[true, true, false, false, false, false, false, false, true, false, false, false, false, false, false, false, false] rfl rfl (by kernel_rfl) (fun _ _ _ h => h) (Or.inl ⟨by rfl, ?_⟩) hHeld ?_ ?_
    rotate_left
    · rintro w' ⟨s0, s1, s2⟩
      go_simp
      with_reducible rfl
    rotate_left
    · simp only [Act.put, List.setIfInBounds_toArray, List.set_cons_zero, List.set_cons_succ, i64_w, i32_w]
      rfl
    refine take_ (i := 9) (N := some 17) (v := ?_) (a' := ?_) #[true, true, false, false, false, false, false, false, true, true, false, false, false, false, false, false, false] rfl rfl (by kernel_rfl) (fun _ _ _ h => h) (Or.inl ⟨by rfl, ?_⟩) hHeld ?_ ?_
    rotate_left
    · rintro w' ⟨s0, s1, s2⟩
      go_simp
      with_reducible rfl
    rotate_left
    · simp only [Act.put, List.setIfInBounds_toArray, List.set_cons_zero, List.set_cons_succ, i64_w, i32_w]
      rfl
    refine one_ (i := 2) (N := some 10) #[true, true, true, false, false, false, false, false, true, true, false, false, false, false, false, false, false] rfl rfl (by kernel_rfl) (by decide) (fun K hK => ?_)
    refine goes_ Try.func25 (by kernel_rfl) rfl #[.int .i64 a0_0, .int .i64 2] (by rfl) rfl rfl (by simp only [List.map_toArray, List.map_cons, List.map_nil]; rfl) ?_
    with_reducible refine (elf_put_calls a0_0 2 2 _ (by omega) rfl).mono ?_
    rintro e w1 ⟨rfl, hb1⟩
    refine ⟨_, rfl, ?_⟩
    replace HI0 := HI0.step hb1
    refine hK.out _ _ ⟨HI0.c0, HI0.c1, HI0.c2⟩ (fun hHeld => ?_)
    clear hK K
    refine norm_ (a' := ?_) ?_ ?_
    rotate_left
    · show Act.put _ (some 10) _ = _
      simp only [Act.put, List.setIfInBounds_toArray, List.set_cons_zero, List.set_cons_succ, i64_w, i32_w]
      rfl
    refine pure_ (i := 3) (N := some 11) (v := ?_) (a' := ?_) #[true, true, true, true, false, false, false, false, true, true, false, false, false, false, false, false, false] rfl rfl (by kernel_rfl) (fun _ _ _ h => h) (Or.inl ⟨by rfl, ?_⟩) ?_ ?_
    rotate_left
    · intro w'
      go_simp
      with_reducible rfl
    rotate_left
    · simp only [Act.put, List.setIfInBounds_toArray, List.set_cons_zero, List.set_cons_succ, i64_w, i32_w]
      rfl
    refine one_ (i := 4) (N := some 12) #[true, true, true, true, true, false, false, false, true, true, false, false, false, false, false, false, false] rfl rfl (by kernel_rfl) (by decide) (fun K hK => ?_)
    refine goes_ Try.func25 (by kernel_rfl) rfl #[.int .i64 62, .int .i64 2] (by rfl) rfl rfl (by simp only [List.map_toArray, List.map_cons, List.map_nil]; rfl) ?_
    with_reducible refine (elf_put_calls 62 2 2 _ (by omega) rfl).mono ?_
    rintro e w1 ⟨rfl, hb1⟩
    refine ⟨_, rfl, ?_⟩
    replace HI0 := HI0.step hb1
    refine hK.out _ _ ⟨HI0.c0, HI0.c1, HI0.c2⟩ (fun hHeld => ?_)
    clear hK K
    refine norm_ (a' := ?_) ?_ ?_
    rotate_left
    · show Act.put _ (some 12) _ = _
      simp only [Act.put, List.setIfInBounds_toArray, List.set_cons_zero, List.set_cons_succ, i64_w, i32_w]
      rfl
    refine pure_ (i := 5) (N := some 13) (v := ?_) (a' := ?_) #[true, true, true, true, true, true, false, false, true, true, false, false, false, false, false, false, false] rfl rfl (by kernel_rfl) (fun _ _ _ h => h) (Or.inl ⟨by rfl, ?_⟩) ?_ ?_
    rotate_left
    · intro w'
      go_simp
      with_reducible rfl
    rotate_left
    · simp only [Act.put, List.setIfInBounds_toArray, List.set_cons_zero, List.set_cons_succ, i64_w, i32_w]
      rfl
    refine one_ (i := 6) (N := some 14) #[true, true, true, true, true, true, true, false, true, true, false, false, false, false, false, false, false] rfl rfl (by kernel_rfl) (by decide) (fun K hK => ?_)
    refine goes_ Try.func25 (by kernel_rfl) rfl #[.int .i64 1, .int .i64 4] (by rfl) rfl rfl (by simp only [List.map_toArray, List.map_cons, List.map_nil]; rfl) ?_
    with_reducible refine (elf_put_calls 1 4 4 _ (by omega) rfl).mono ?_
    rintro e w1 ⟨rfl, hb1⟩
    refine ⟨_, rfl, ?_⟩
    replace HI0 := HI0.step hb1
    refine hK.out _ _ ⟨HI0.c0, HI0.c1, HI0.c2⟩ (fun hHeld => ?_)
    clear hK K
    refine norm_ (a' := ?_) ?_ ?_
    rotate_left
    · show Act.put _ (some 14) _ = _
      simp only [Act.put, List.setIfInBounds_toArray, List.set_cons_zero, List.set_cons_succ, i64_w, i32_w]
      rfl
    refine pure_ (i := 7) (N := some 15) (v := ?_) (a' := ?_) #[true, true, true, true, true, true, true, true, true, true, false, false, false, false, false, false, false] rfl rfl (by kernel_rfl) (fun _ _ _ h => h) (Or.inl ⟨by rfl, ?_⟩) ?_ ?_
    rotate_left
    · intro w'
      go_simp
      with_reducible rfl
    rotate_left
    · simp only [Act.put, List.setIfInBounds_toArray, List.set_cons_zero, List.set_cons_succ, i64_w, i32_w]
      rfl
    refine one_ (i := 10) (N := some 18) #[true, true, true, true, true, true, true, true, true, true, true, false, false, false, false, false, false] rfl rfl (by kernel_rfl) (by decide) (fun K hK => ?_)
    refine goes_ Try.func25 (by kernel_rfl) rfl #[.int .i64 a0_1, .int .i64 8] (by rfl) rfl rfl (by simp only [List.map_toArray, List.map_cons, List.map_nil]; rfl) ?_
    with_reducible refine (elf_put_calls a0_1 8 8 _ (by omega) rfl).mono ?_
    rintro e w1 ⟨rfl, hb1⟩
    refine ⟨_, rfl, ?_⟩
    replace HI0 := HI0.step hb1
    refine hK.out _ _ ⟨HI0.c0, HI0.c1, HI0.c2⟩ (fun hHeld => ?_)
    clear hK K
    refine norm_ (a' := ?_) ?_ ?_
    rotate_left
    · show Act.put _ (some 18) _ = _
      simp only [Act.put, List.setIfInBounds_toArray, List.set_cons_zero, List.set_cons_succ, i64_w, i32_w]
      rfl
    refine pure_ (i := 11) (N := some 19) (v := ?_) (a' := ?_) #[true, true, true, true, true, true, true, true, true, true, true, true, false, false, false, false, false] rfl rfl (by kernel_rfl) (fun _ _ _ h => h) (Or.inl ⟨by rfl, ?_⟩) ?_ ?_
    rotate_left
    · intro w'
      go_simp
      with_reducible rfl
    rotate_left
    · simp only [Act.put, List.setIfInBounds_toArray, List.set_cons_zero, List.set_cons_succ, i64_w, i32_w]
      rfl
    refine one_ (i := 12) (N := some 20) #[true, true, true, true, true, true, true, true, true, true, true, true, true, false, false, false, false] rfl rfl (by kernel_rfl) (by decide) (fun K hK => ?_)
    refine goes_ Try.func25 (by kernel_rfl) rfl #[.int .i64 64, .int .i64 8] (by rfl) rfl rfl (by simp only [List.map_toArray, List.map_cons, List.map_nil]; rfl) ?_
    with_reducible refine (elf_put_calls 64 8 8 _ (by omega) rfl).mono ?_
    rintro e w1 ⟨rfl, hb1⟩
    refine ⟨_, rfl, ?_⟩
    replace HI0 := HI0.step hb1
    refine hK.out _ _ ⟨HI0.c0, HI0.c1, HI0.c2⟩ (fun hHeld => ?_)
    clear hK K
    refine norm_ (a' := ?_) ?_ ?_
    rotate_left
    · show Act.put _ (some 20) _ = _
      simp only [Act.put, List.setIfInBounds_toArray, List.set_cons_zero, List.set_cons_succ, i64_w, i32_w]
      rfl
    refine pure_ (i := 13) (N := some 21) (v := ?_) (a' := ?_) #[true, true, true, true, true, true, true, true, true, true, true, true, true, true, false, false, false] rfl rfl (by kernel_rfl) (fun _ _ _ h => h) (Or.inl ⟨by rfl, ?_⟩) ?_ ?_
    rotate_left
    · intro w'
      go_simp
      with_reducible rfl
    rotate_left
    · simp only [Act.put, List.setIfInBounds_toArray, List.set_cons_zero, List.set_cons_succ, i64_w, i32_w]
      rfl
    refine one_ (i := 14) (N := some 22) #[true, true, true, true, true, true, true, true, true, true, true, true, true, true, true, false, false] rfl rfl (by kernel_rfl) (by decide) (fun K hK => ?_)
    refine goes_ Try.func26 (by kernel_rfl) rfl #[.string emptyS, .int .i64 12] (by rfl) rfl rfl (by simp only [List.map_toArray, List.map_cons, List.map_nil]; rfl) ?_
    with_reducible refine (octet_Fill.calls emptyS 12 (fillS emptyS 12) _ rfl).mono ?_
    rintro e w1 ⟨rfl, hb1⟩
    refine ⟨_, rfl, ?_⟩
    replace HI0 := HI0.step hb1
    refine hK.out _ _ ⟨HI0.c0, HI0.c1, HI0.c2⟩ (fun hHeld => ?_)
    clear hK K
    refine norm_ (a' := ?_) ?_ ?_
    rotate_left
    · show Act.put _ (some 22) _ = _
      simp only [Act.put, List.setIfInBounds_toArray, List.set_cons_zero, List.set_cons_succ, i64_w, i32_w]
      rfl
    refine pure_ (i := 15) (N := some 23) (v := ?_) (a' := ?_) #[true, true, true, true, true, true, true, true, true, true, true, true, true, true, true, true, false] rfl rfl (by kernel_rfl) (fun _ _ _ h => h) (Or.inl ⟨by rfl, ?_⟩) ?_ ?_
    rotate_left
    · intro w'
      go_simp
      with_reducible rfl
    rotate_left
    · simp only [Act.put, List.setIfInBounds_toArray, List.set_cons_zero, List.set_cons_succ, i64_w, i32_w]
      rfl
    refine last_ (i := 16) (N := some 24) #[true, true, true, true, true, true, true, true, true, true, true, true, true, true, true, true, true] rfl rfl (by kernel_rfl) (by decide) (fun K hK => ?_)
    refine goes_ Try.func24 (by kernel_rfl) rfl #[.pointer (some ⟨w.heap.size + 1, 0, none⟩), .string (head1 a0_0 a0_1)] (by rfl) rfl rfl (by simp only [List.map_toArray, List.map_cons, List.map_nil]; rfl) ?_
    with_reducible refine (write_calls HI0 (head1 a0_0 a0_1) (by simp [head1, magicS, putN_size]; decide)).mono ?_
    rintro e w1 ⟨n1, rfl, hb1, _⟩
    refine ⟨_, rfl, ?_⟩
    replace HI0 := hb1
    refine hK.out _ _ ?_
    clear hK K
    refine norm_ (a' := ?_) ?_ ?_
    rotate_left
    · show Act.put _ (some 24) _ = _
      simp only [Act.put, List.setIfInBounds_toArray, List.set_cons_zero, List.set_cons_succ, i64_w, i32_w]
      rfl
    refine done_ (by kernel_rfl) ?_
    go_wp2_with fail
    replace HI0 := HI0.drew
    refine start_ (n := 9) (S := fun w' => w'.cell? ⟨w.heap.size, 0, none⟩ = some (.int .i64 a0_0) ∧ w'.cell? ⟨w.heap.size, 1, none⟩ = some (.int .i64 a0_1) ∧ w'.cell? ⟨w.heap.size, 2, none⟩ = some (.slice A0_2 l0_2.length c0_2)) (ds := [8]) #[false, false, false, false, false, false, false, false, false] (by kernel_rfl) rfl rfl ⟨HI0.c0, HI0.c1, HI0.c2⟩ (fun hHeld => ?_)
    refine pure_ (i := 3) (N := some 28) (v := ?_) (a' := ?_) #[false, false, false, true, false, false, false, false, false] rfl rfl (by kernel_rfl) (fun _ _ _ h => h) (Or.inl ⟨by rfl, ?_⟩) ?_ ?_
    rotate_left
    · intro w'
      go_simp
      with_reducible rfl
    rotate_left
    · simp only [Act.put, List.setIfInBounds_toArray, List.set_cons_zero, List.set_cons_succ, i64_w, i32_w]
      rfl
    refine take_ (i := 4) (N := some 29) (v := ?_) (a' := ?_) #[false, false, false, true, true, false, false, false, false] rfl rfl (by kernel_rfl) (fun _ _ _ h => h) (Or.inl ⟨by rfl, ?_⟩) hHeld ?_ ?_
    rotate_left
    · rintro w' ⟨s0, s1, s2⟩
      go_simp
      with_reducible rfl
    rotate_left
    · simp only [Act.put, List.setIfInBounds_toArray, List.set_cons_zero, List.set_cons_succ, i64_w, i32_w]
      rfl
    refine pure_ (i := 5) (N := some 30) (v := ?_) (a' := ?_) #[false, false, false, true, true, true, false, false, false] rfl rfl (by kernel_rfl) (fun _ _ _ h => h) (Or.inl ⟨by rfl, ?_⟩) ?_ ?_
    rotate_left
    · intro w'
      go_simp
      with_reducible rfl
    rotate_left
    · simp only [Act.put, List.setIfInBounds_toArray, List.set_cons_zero, List.set_cons_succ, i64_w, i32_w]
      rfl
    refine one_ (i := 0) (N := some 25) #[true, false, false, true, true, true, false, false, false] rfl rfl (by kernel_rfl) (by decide) (fun K hK => ?_)
    refine goes_ Try.func25 (by kernel_rfl) rfl #[.int .i64 64, .int .i64 2] (by rfl) rfl rfl (by simp only [List.map_toArray, List.map_cons, List.map_nil]; rfl) ?_
    with_reducible refine (elf_put_calls 64 2 2 _ (by omega) rfl).mono ?_
    rintro e w1 ⟨rfl, hb1⟩
    refine ⟨_, rfl, ?_⟩
    replace HI0 := HI0.step hb1
    refine hK.out _ _ ⟨HI0.c0, HI0.c1, HI0.c2⟩ (fun hHeld => ?_)
    clear hK K
    refine norm_ (a' := ?_) ?_ ?_
    rotate_left
    · show Act.put _ (some 25) _ = _
      simp only [Act.put, List.setIfInBounds_toArray, List.set_cons_zero, List.set_cons_succ, i64_w, i32_w]
      rfl
    refine one_ (i := 1) (N := some 26) #[true, true, false, true, true, true, false, false, false] rfl rfl (by kernel_rfl) (by decide) (fun K hK => ?_)
    refine goes_ Try.func25 (by kernel_rfl) rfl #[.int .i64 56, .int .i64 2] (by rfl) rfl rfl (by simp only [List.map_toArray, List.map_cons, List.map_nil]; rfl) ?_
    with_reducible refine (elf_put_calls 56 2 2 _ (by omega) rfl).mono ?_
    rintro e w1 ⟨rfl, hb1⟩
    refine ⟨_, rfl, ?_⟩
    replace HI0 := HI0.step hb1
    refine hK.out _ _ ⟨HI0.c0, HI0.c1, HI0.c2⟩ (fun hHeld => ?_)
    clear hK K
    refine norm_ (a' := ?_) ?_ ?_
    rotate_left
    · show Act.put _ (some 26) _ = _
      simp only [Act.put, List.setIfInBounds_toArray, List.set_cons_zero, List.set_cons_succ, i64_w, i32_w]
      rfl
    refine pure_ (i := 2) (N := some 27) (v := ?_) (a' := ?_) #[true, true, true, true, true, true, false, false, false] rfl rfl (by kernel_rfl) (fun _ _ _ h => h) (Or.inl ⟨by rfl, ?_⟩) ?_ ?_
    rotate_left
    · intro w'
      go_simp
      with_reducible rfl
    rotate_left
    · simp only [Act.put, List.setIfInBounds_toArray, List.set_cons_zero, List.set_cons_succ, i64_w, i32_w]
      rfl
    refine one_ (i := 6) (N := some 31) #[true, true, true, true, true, true, true, false, false] rfl rfl (by kernel_rfl) (by decide) (fun K hK => ?_)
    refine goes_ Try.func25 (by kernel_rfl) rfl #[.int .i64 l0_2.length, .int .i64 2] (by rfl) rfl rfl (by simp only [List.map_toArray, List.map_cons, List.map_nil]; rfl) ?_
    with_reducible refine (elf_put_calls l0_2.length 2 2 _ (by omega) rfl).mono ?_
    rintro e w1 ⟨rfl, hb1⟩
    refine ⟨_, rfl, ?_⟩
    replace HI0 := HI0.step hb1
    refine hK.out _ _ ⟨HI0.c0, HI0.c1, HI0.c2⟩ (fun hHeld => ?_)
    clear hK K
    refine norm_ (a' := ?_) ?_ ?_
    rotate_left
    · show Act.put _ (some 31) _ = _
      simp only [Act.put, List.setIfInBounds_toArray, List.set_cons_zero, List.set_cons_succ, i64_w, i32_w]
      rfl
    refine pure_ (i := 7) (N := some 32) (v := ?_) (a' := ?_) #[true, true, true, true, true, true, true, true, false] rfl rfl (by kernel_rfl) (fun _ _ _ h => h) (Or.inl ⟨by rfl, ?_⟩) ?_ ?_
    rotate_left
    · intro w'
      go_simp
      with_reducible rfl
    rotate_left
    · simp only [Act.put, List.setIfInBounds_toArray, List.set_cons_zero, List.set_cons_succ, i64_w, i32_w]
      rfl
    refine last_ (i := 8) (N := some 33) #[true, true, true, true, true, true, true, true, true] rfl rfl (by kernel_rfl) (by decide) (fun K hK => ?_)
    refine goes_ Try.func24 (by kernel_rfl) rfl #[.pointer (some ⟨w.heap.size + 1, 0, none⟩), .string (head2 l0_2.length)] (by rfl) rfl rfl (by simp only [List.map_toArray, List.map_cons, List.map_nil]; rfl) ?_
    with_reducible refine (write_calls HI0 (head2 l0_2.length) (by simp [head1, head2, magicS, putN_size, bytesL_length]; decide)).mono ?_
    rintro e w1 ⟨n1, rfl, hb1, _⟩
    refine ⟨_, rfl, ?_⟩
    replace HI0 := hb1
    refine hK.out _ _ ?_
    clear hK K
    refine norm_ (a' := ?_) ?_ ?_
    rotate_left
    · show Act.put _ (some 33) _ = _
      simp only [Act.put, List.setIfInBounds_toArray, List.set_cons_zero, List.set_cons_succ, i64_w, i32_w]
      rfl
    refine done_ (by kernel_rfl) ?_
    go_wp2_with fail
    refine (octet_Fill.calls emptyS 6 (fillS emptyS 6) _ rfl).mono ?_
    rintro e w2 ⟨rfl, hb2⟩
    replace HI0 := HI0.step hb2
    clear hb2
    go_wp2_with fail
    refine (write_calls HI0 (fillS emptyS 6) (by simp [head1, head2, magicS, putN_size, bytesL_length]; decide)).mono ?_
    rintro e w3 ⟨n3, rfl, hb3, _⟩
    replace HI0 := hb3
    clear hb3
    have hx2 := HI0.c2
    go_wp2_with fail
    clear hx2
    obtain ⟨pre, hpre⟩ : ∃ pre, pre = ([] : List UInt8) ++ bytesL (head1 a0_0 a0_1) ++ bytesL (head2 l0_2.length) ++ bytesL (fillS emptyS 6) := ⟨_, rfl⟩
    rw [← hpre] at HI0
    have hpl : pre.length = 64 := by rw [hpre]; simp [head1, head2, magicS, putN_size, bytesL_length]; decide
    have HPRE := Lib.hid hpre; have HPL := Lib.hid hpl; clear hpre hpl
    go_loopw [39] (fun i wr => ∃ k : Nat, k ≤ l0_2.length ∧ i = .int .i64 k ∧ HI w a0_0 a0_1 A0_2 c0_2 l0_2 (pre ++ (l0_2.take k).flatMap segL) wr) (fun i _ => l0_2.length - (intOf i).toNat)
    case atStart => exact ⟨0, Nat.zero_le _, rfl, by simpa using HI0⟩
    case round =>
      obtain ⟨k, hk, rfl, HI1⟩ := hrel
      clear HI0
      by_cases hlt : k < l0_2.length
      · have hk0 : (k : Int) < (l0_2.length : Int) := by omega
        obtain ⟨ad0, rfl, hx0, hx1, hx2, hx3, hx4, hx5, hx6⟩ := at_T32 (Kd.C_below HR.out HI1.bel) k (by omega) hk0
        have e0 : rd_T32 l0_2 (k : Int) = l0_2.getD k zSeg := by simp [rd_T32]
        rw [e0] at hx0 hx1 hx2 hx3 hx4 hx5 hx6
        rw [Int.toNat_natCast] at hx0 hx1 hx2 hx3 hx4 hx5 hx6
        clear e0
        generalize hX : l0_2.getD k zSeg = x at *
        have HX := Lib.hid hX; clear hX
        obtain ⟨acc, hacc⟩ : ∃ acc, acc = pre ++ (l0_2.take k).flatMap segL := ⟨_, rfl⟩
        rw [← hacc] at HI1
        have hal : acc.length ≤ 120259084352 := by
          rw [hacc, List.length_append, HPL.out, flat_length, List.length_take]
          omega
        have HACC := Lib.hid hacc; clear hacc
        go_wp2_with fail
        clear hx0 hx1 hx2 hx3 hx4 hx5 hx6
        have HG : (wr.alloc (.cells #[.int .i64 x.f0, .int .i64 x.f1, .int .i64 x.f2, .int .i64 x.f3, .int .i64 x.f4, .int .i64 x.f5, .int .i64 x.f6] 32)).heap[wr.heap.size]? = some (.cells #[.int .i64 x.f0, .int .i64 x.f1, .int .i64 x.f2, .int .i64 x.f3, .int .i64 x.f4, .int .i64 x.f5, .int .i64 x.f6] 32 (0, 0)) := blk_new wr _
        have HI2 := HI1.step ((Below.refl _ _).alloc (Nat.le_refl _) (.cells #[.int .i64 x.f0, .int .i64 x.f1, .int .i64 x.f2, .int .i64 x.f3, .int .i64 x.f4, .int .i64 x.f5, .int .i64 x.f6] 32))
        have hgb : wr.heap.size ≠ w.heap.size + 1 := by
          obtain ⟨p, _, v, hbk, _, _⟩ := HI1.bld.at_
          have := blk_lt hbk
          omega
        generalize (wr.alloc (.cells #[.int .i64 x.f0, .int .i64 x.f1, .int .i64 x.f2, .int .i64 x.f3, .int .i64 x.f4, .int .i64 x.f5, .int .i64 x.f6] 32)) = W1 at *
        clear HI1
        generalize wr.heap.size = g at *
        replace HI2 := HI2.drew
        have HG2 : W1.drew.heap[g]? = _ := HG
        replace HG := HG2
        clear HG2
        refine start_ (n := 8) (S := fun w' => w'.cell? ⟨g, 0, none⟩ = some (.int .i64 x.f0) ∧ w'.cell? ⟨g, 1, none⟩ = some (.int .i64 x.f1)) (ds := [7]) #[false, false, false, false, false, false, false, false] (by kernel_rfl) rfl rfl ⟨(blk_cell HG 0).trans rfl, (blk_cell HG 1).trans rfl⟩ (fun hHeld => ?_)
        refine pure_ (i := 0) (N := some 43) (v := ?_) (a' := ?_) #[true, false, false, false, false, false, false, false] rfl rfl (by kernel_rfl) (fun _ _ _ h => h) (Or.inl ⟨by rfl, ?_⟩) ?_ ?_
        rotate_left
        · intro w'
          go_simp
          with_reducible rfl
        rotate_left
        · simp only [Act.put, List.setIfInBounds_toArray, List.set_cons_zero, List.set_cons_succ, i64_w, i32_w]
          rfl
        refine pure_ (i := 3) (N := some 46) (v := ?_) (a' := ?_) #[true, false, false, true, false, false, false, false] rfl rfl (by kernel_rfl) (fun _ _ _ h => h) (Or.inl ⟨by rfl, ?_⟩) ?_ ?_
        rotate_left
        · intro w'
          go_simp
          with_reducible rfl
        rotate_left
        · simp only [Act.put, List.setIfInBounds_toArray, List.set_cons_zero, List.set_cons_succ, i64_w, i32_w]
          rfl
        refine take_ (i := 1) (N := some 44) (v := ?_) (a' := ?_) #[true, true, false, true, false, false, false, false] rfl rfl (by kernel_rfl) (fun _ _ _ h => h) (Or.inl ⟨by rfl, ?_⟩) hHeld ?_ ?_
        rotate_left
        · rintro w' ⟨s0, s1⟩
          go_simp
          with_reducible rfl
        rotate_left
        · simp only [Act.put, List.setIfInBounds_toArray, List.set_cons_zero, List.set_cons_succ, i64_w, i32_w]
          rfl
        refine take_ (i := 4) (N := some 47) (v := ?_) (a' := ?_) #[true, true, false, true, true, false, false, false] rfl rfl (by kernel_rfl) (fun _ _ _ h => h) (Or.inl ⟨by rfl, ?_⟩) hHeld ?_ ?_
        rotate_left
        · rintro w' ⟨s0, s1⟩
          go_simp
          with_reducible rfl
        rotate_left
        · simp only [Act.put, List.setIfInBounds_toArray, List.set_cons_zero, List.set_cons_succ, i64_w, i32_w]
          rfl
        refine one_ (i := 2) (N := some 45) #[true, true, true, true, true, false, false, false] rfl rfl (by kernel_rfl) (by decide) (fun K hK => ?_)
        refine goes_ Try.func25 (by kernel_rfl) rfl #[.int .i64 x.f0, .int .i64 4] (by rfl) rfl rfl (by simp only [List.map_toArray, List.map_cons, List.map_nil]; rfl) ?_
        with_reducible refine (elf_put_calls x.f0 4 4 _ (by omega) rfl).mono ?_
        rintro e w1 ⟨rfl, hb1⟩
        refine ⟨_, rfl, ?_⟩
        replace HI2 := HI2.step hb1
        replace HG := blk_below HG hb1
        refine hK.out _ _ ⟨(blk_cell HG 0).trans rfl, (blk_cell HG 1).trans rfl⟩ (fun hHeld => ?_)
        clear hK K
        refine norm_ (a' := ?_) ?_ ?_
        rotate_left
        · show Act.put _ (some 45) _ = _
          simp only [Act.put, List.setIfInBounds_toArray, List.set_cons_zero, List.set_cons_succ, i64_w, i32_w]
          rfl
        refine one_ (i := 5) (N := some 48) #[true, true, true, true, true, true, false, false] rfl rfl (by kernel_rfl) (by decide) (fun K hK => ?_)
        refine goes_ Try.func25 (by kernel_rfl) rfl #[.int .i64 x.f1, .int .i64 4] (by rfl) rfl rfl (by simp only [List.map_toArray, List.map_cons, List.map_nil]; rfl) ?_
        with_reducible refine (elf_put_calls x.f1 4 4 _ (by omega) rfl).mono ?_
        rintro e w1 ⟨rfl, hb1⟩
        refine ⟨_, rfl, ?_⟩
        replace HI2 := HI2.step hb1
        replace HG := blk_below HG hb1
        refine hK.out _ _ ⟨(blk_cell HG 0).trans rfl, (blk_cell HG 1).trans rfl⟩ (fun hHeld => ?_)
        clear hK K
        refine norm_ (a' := ?_) ?_ ?_
        rotate_left
        · show Act.put _ (some 48) _ = _
          simp only [Act.put, List.setIfInBounds_toArray, List.set_cons_zero, List.set_cons_succ, i64_w, i32_w]
          rfl
        refine pure_ (i := 6) (N := some 49) (v := ?_) (a' := ?_) #[true, true, true, true, true, true, true, false] rfl rfl (by kernel_rfl) (fun _ _ _ h => h) (Or.inl ⟨by rfl, ?_⟩) ?_ ?_
        rotate_left
        · intro w'
          go_simp
          with_reducible rfl
        rotate_left
        · simp only [Act.put, List.setIfInBounds_toArray, List.set_cons_zero, List.set_cons_succ, i64_w, i32_w]
          rfl
        refine last_ (i := 7) (N := some 50) #[true, true, true, true, true, true, true, true] rfl rfl (by kernel_rfl) (by decide) (fun K hK => ?_)
        refine goes_ Try.func24 (by kernel_rfl) rfl #[.pointer (some ⟨w.heap.size + 1, 0, none⟩), .string (putN x.f0 4 ++ putN x.f1 4)] (by rfl) rfl rfl (by simp only [List.map_toArray, List.map_cons, List.map_nil]; rfl) ?_
        with_reducible refine (write_calls HI2 (putN x.f0 4 ++ putN x.f1 4) (by rw [ByteArray.size_append, putN_size, putN_size]; omega)).mono ?_
        rintro e w1 ⟨n1, rfl, hb1, hk1⟩
        refine ⟨_, rfl, ?_⟩
        replace HI2 := hb1
        replace HG := hk1 _ _ _ HG (by decide) hgb
        refine hK.out _ _ ?_
        clear hK K
        refine norm_ (a' := ?_) ?_ ?_
        rotate_left
        · show Act.put _ (some 50) _ = _
          simp only [Act.put, List.setIfInBounds_toArray, List.set_cons_zero, List.set_cons_succ, i64_w, i32_w]
          rfl
        refine done_ (by kernel_rfl) ?_
        have hy2 : w1.cell? ⟨g, 2, none⟩ = some (.int .i64 x.f2) := (blk_cell HG 2).trans rfl
        have hy3 : w1.cell? ⟨g, 3, none⟩ = some (.int .i64 x.f3) := (blk_cell HG 3).trans rfl
        have hy4 : w1.cell? ⟨g, 4, none⟩ = some (.int .i64 x.f4) := (blk_cell HG 4).trans rfl
        have hy5 : w1.cell? ⟨g, 5, none⟩ = some (.int .i64 x.f5) := (blk_cell HG 5).trans rfl
        have hy6 : w1.cell? ⟨g, 6, none⟩ = some (.int .i64 x.f6) := (blk_cell HG 6).trans rfl
        clear HG
        go_wp2_with fail
        clear hy2 hy3 hy4 hy5 hy6 hps hfs
        obtain ⟨acc2, hacc2⟩ : ∃ acc2, acc2 = acc ++ bytesL (putN x.f0 4 ++ putN x.f1 4) := ⟨_, rfl⟩
        rw [← hacc2] at HI2
        have hal2 : acc2.length ≤ 120259084360 := by
          rw [hacc2, List.length_append, bytesL_length, ByteArray.size_append, putN_size, putN_size]
          omega
        have HACC2 := Lib.hid hacc2; clear hacc2
        obtain ⟨wo, rfl⟩ : ∃ wo : World, wo = w1 := ⟨_, rfl⟩
        go_loopw [64] (fun i wr => ∃ j : Nat, j ≤ 6 ∧ i = .int .i64 j ∧ HI w a0_0 a0_1 (some ad0) c0_2 l0_2 (acc2 ++ sixL x j) wr) (fun i _ => 6 - (intOf i).toNat)
        case atStart => exact ⟨0, Nat.zero_le _, rfl, by simpa [sixL] using HI2⟩
        case round =>
          obtain ⟨j, hj, rfl, HI3⟩ := hrel
          clear HI2
          by_cases hlj : j < 6
          · have hx := fun W => six_at x j W hlj
            go_wp2_with fail
            refine (elf_put_calls (six x j) 8 8 _ (by omega) rfl).mono ?_
            rintro e w4 ⟨rfl, hb4⟩
            replace HI3 := HI3.step hb4
            clear hx hb4
            go_wp2_with fail
            refine (write_calls HI3 (putN (six x j) 8) (by rw [List.length_append, sixL_length, putN_size]; omega)).mono ?_
            rintro e w5 ⟨n5, rfl, hb5, _⟩
            go_wp2_with fail
            go_roundw
            case measure => simp [intOf]; omega
            case rel => exact ⟨j + 1, by omega, by go_num, by rw [sixL_succ, ← List.append_assoc]; exact hb5⟩
          · obtain rfl : j = 6 := by omega
            have HN : HI w a0_0 a0_1 (some ad0) c0_2 l0_2 (pre ++ (l0_2.take (k + 1)).flatMap segL) wr := by
              rw [take_seg l0_2 k hlt, HX.out, ← List.append_assoc, ← HACC.out, show segL x = bytesL (putN x.f0 4 ++ putN x.f1 4) ++ sixL x 6 from rfl, ← List.append_assoc, ← HACC2.out]
              exact HI3
            clear HI3
            go_wp2_with fail
            go_roundw
            case measure => simp [intOf]; omega
            case rel => exact ⟨k + 1, by omega, by go_num, HN⟩
      · obtain rfl : k = l0_2.length := by omega
        have HE : HI w a0_0 a0_1 A0_2 c0_2 l0_2 (headL a0_0 a0_1 l0_2) wr := by
          rw [List.take_length, HPRE.out, List.nil_append] at HI1
          exact HI1
        clear HI1
        go_wp2_with fail
        refine (Try.Builder_String_any _ _ _ _ HE.bld HE.room).mono ?_
        rintro e w6 ⟨rfl, hb6⟩
        go_wp2_with fail
        go_ret
        refine ⟨?_, HE.bel.trans (hb6.mono (by omega))⟩
        rw [← HFIN.out]
        rfl
  · rw [if_neg hb] at h
    cases h
end Go.Proofs.Ytdlgfjefbjkdaaa.H
