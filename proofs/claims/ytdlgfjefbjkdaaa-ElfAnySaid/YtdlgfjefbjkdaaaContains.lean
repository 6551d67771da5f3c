/- slices.ContainsFunc at elf.Check's closure: is the segment within one that is loaded. -/
import Derived.Test.YtdlgfjefbjkdaaaAxElfHolds
import Derived.Test.YtdlgfjefbjkdaaaSame
import Derived.WalkKit
import Derived.Lib.Hide
import Derived.WalkSpells
namespace Go.Proofs.Ytdlgfjefbjkdaaa.H
open Go.RowKit Go.Proofs.YtdlgfjefbjkdaaaW.PrintWords Go.Proofs.YtdlgfjefbjkdaaaW.PrintLast Go.Proofs.YtdlgfjefbjkdaaaW.PrintMore Go.Proofs.Ytdlgfjefbjkdaaa.A
set_option linter.unusedVariables false
set_option linter.unusedSimpArgs false

def holdB (l s : Seg) : Bool := (elf_holds.f l.f0 l.f1 l.f2 l.f3 l.f4 l.f5 l.f6 s.f0 s.f1 s.f2 s.f3 s.f4 s.f5 s.f6).getD false
theorem holdB_some (l s : Seg) : elf_holds.f l.f0 l.f1 l.f2 l.f3 l.f4 l.f5 l.f6 s.f0 s.f1 s.f2 s.f3 s.f4 s.f5 s.f6 = some (holdB l s) := by
  unfold holdB elf_holds.f
  repeat' split
  all_goals rfl
abbrev segV (s : Seg) : Value := .agg #[.int .i64 s.f0, .int .i64 s.f1, .int .i64 s.f2, .int .i64 s.f3, .int .i64 s.f4, .int .i64 s.f5, .int .i64 s.f6]
abbrev segO (s : Seg) : Obj := .cells #[.int .i64 s.f0, .int .i64 s.f1, .int .i64 s.f2, .int .i64 s.f3, .int .i64 s.f4, .int .i64 s.f5, .int .i64 s.f6] 32 (0, 0)

set_option maxRecDepth 100000 in
theorem check1_calls (l s : Seg) (g : Nat) (w : World) (hg : w.heap[g]? = some (segO s)) :
    Calls Try.prog 31 #[segV l, .pointer (some ⟨g, 0, none⟩)] w fun e w' => e = .returned (.bool (holdB l s)) ∧ Below w.heap.size w w' := by
  have hu := Try.underlying32
  have later : ∀ o, (w.alloc o).heap[g]? = some (segO s) := fun o => (Below.heap_alloc w o g (blk_lt hg)).trans hg
  have h0 : ∀ o, (w.alloc o).cell? ⟨g, 0, none⟩ = some (.int .i64 s.f0) := fun o => (blk_cell (later o) 0).trans rfl
  have h1 : ∀ o, (w.alloc o).cell? ⟨g, 1, none⟩ = some (.int .i64 s.f1) := fun o => (blk_cell (later o) 1).trans rfl
  have h2 : ∀ o, (w.alloc o).cell? ⟨g, 2, none⟩ = some (.int .i64 s.f2) := fun o => (blk_cell (later o) 2).trans rfl
  have h3 : ∀ o, (w.alloc o).cell? ⟨g, 3, none⟩ = some (.int .i64 s.f3) := fun o => (blk_cell (later o) 3).trans rfl
  have h4 : ∀ o, (w.alloc o).cell? ⟨g, 4, none⟩ = some (.int .i64 s.f4) := fun o => (blk_cell (later o) 4).trans rfl
  have h5 : ∀ o, (w.alloc o).cell? ⟨g, 5, none⟩ = some (.int .i64 s.f5) := fun o => (blk_cell (later o) 5).trans rfl
  have h6 : ∀ o, (w.alloc o).cell? ⟨g, 6, none⟩ = some (.int .i64 s.f6) := fun o => (blk_cell (later o) 6).trans rfl
  have HH := Lib.hid (holdB_some l s)
  clear later hg
  go_enter Try.func31, Try.ntmps31
  go_wp2_with fail
  refine (elf_holds.calls _ _ _ _ _ _ _ _ _ _ _ _ _ _ _ _ HH.out).mono ?_
  rintro e w1 ⟨rfl, hb⟩
  clear h0 h1 h2 h3 h4 h5 h6
  go_wp2_with fail
  go_ret
  exact ⟨rfl, below_then ((Below.refl _ _).alloc (Nat.le_refl _) _) (by simp) hb⟩

/-- The first one that holds, or -1. -/
def firstI (l : List Seg) (s : Seg) (n : Int) : Prop := (∃ k, k < l.length ∧ n = (k : Int) ∧ holdB (l.getD k zSeg) s = true) ∨ (n = -1 ∧ ∀ k, k < l.length → holdB (l.getD k zSeg) s = false)
def FirstSome (l : List Seg) (s : Seg) (w : World) (e : Ending) (w' : World) : Prop := ∃ n : Int, firstI l s n ∧ e = .returned (.int .i64 n) ∧ Below w.heap.size w w'

set_option maxHeartbeats 4000000 in
set_option maxRecDepth 100000 in
theorem IndexFunc_calls (A0 : Option Addr) (c0 : Nat) (l : List Seg) (s : Seg) (g : Nat) (w : World) (hr0 : Kd.C kSeg w A0 l.length l) (hc0 : l.length ≤ c0) (hb : l.length ≤ 140737488355328) (hg : w.heap[g]? = some (segO s)) :
    Calls Try.prog 46 #[.slice A0 l.length c0, .func (.func 31) #[] #[.pointer (some ⟨g, 0, none⟩)]] w (FirstSome l s w) := by
  have hu := Try.underlying32
  have HR := Lib.hid hr0; have HG := Lib.hid hg; clear hr0 hg
  go_enter Try.func46, Try.ntmps46
  go_wp2
  go_loopw [8] (fun i wr => ∃ k : Nat, k ≤ l.length ∧ i = .int .i64 k ∧ Hid (∀ j, j < k → holdB (l.getD j zSeg) s = false) ∧ Below w.heap.size w wr) (fun i _ => l.length - (intOf i).toNat)
  case atStart => exact ⟨0, Nat.zero_le _, rfl, fun j hj => absurd hj (Nat.not_lt_zero _), Below.refl _ _⟩
  case round =>
    obtain ⟨k, hk, rfl, HK, hbl⟩ := hrel
    by_cases hlt : k < l.length
    · have hk0 : (k : Int) < (l.length : Int) := by omega
      obtain ⟨ad0, rfl, hx0, hx1, hx2, hx3, hx4, hx5, hx6⟩ := at_T32 (Kd.C_below HR.out hbl) k (by omega) hk0
      have e0 : rd_T32 l (k : Int) = l.getD k zSeg := by simp [rd_T32]
      rw [e0] at hx0 hx1 hx2 hx3 hx4 hx5 hx6
      rw [Int.toNat_natCast] at hx0 hx1 hx2 hx3 hx4 hx5 hx6
      clear e0
      generalize hX : l.getD k zSeg = x at *
      have HX := Lib.hid hX; clear hX
      go_wp2_with fail
      refine (check1_calls x s g _ ((hbl.block g (blk_lt HG.out)).trans HG.out)).mono ?_
      rintro e w1 ⟨rfl, hb1⟩
      have hbl1 := below_then hbl hbl.size hb1
      clear hb1 hbl hx0 hx1 hx2 hx3 hx4 hx5 hx6
      cases hv : holdB x s with
      | true =>
        have hfin : firstI l s (k : Int) := .inl ⟨k, hlt, rfl, by rw [HX.out]; exact hv⟩
        have HF := Lib.hid hfin; clear hfin hv
        go_wp2_with fail
        go_ret
        exact ⟨_, HF.out, rfl, hbl1⟩
      | false =>
        have HV := Lib.hid hv; clear hv
        go_wp2_with fail
        go_roundw
        case measure => simp [intOf]; omega
        case rel => exact ⟨k + 1, by omega, by go_num, fun j hj => by
          by_cases e : j = k
          · subst e; rw [HX.out]; exact HV.out
          · exact HK.out j (by omega), hbl1⟩
    · have hfin : firstI l s (-1) := .inr ⟨rfl, fun j hj => HK.out j (by omega)⟩
      have HF := Lib.hid hfin; clear hfin
      go_wp2_with fail
      go_ret
      exact ⟨_, HF.out, rfl, hbl⟩

theorem any_of_first {l : List Seg} {s : Seg} {n : Int} (h : firstI l s n) : decide (0 ≤ n) = l.any fun x => holdB x s := by
  rcases h with ⟨k, hk, rfl, hv⟩ | ⟨rfl, hv⟩
  · rw [decide_eq_true (by omega)]
    symm
    rw [List.any_eq_true]
    refine ⟨l.getD k zSeg, ?_, hv⟩
    rw [List.getD_eq_getElem?_getD, List.getElem?_eq_getElem hk]
    exact List.getElem_mem hk
  · symm
    show l.any _ = false
    rw [List.any_eq_false]
    intro x hx
    obtain ⟨k, hk, rfl⟩ := List.getElem_of_mem hx
    have := hv k hk
    rw [List.getD_eq_getElem?_getD, List.getElem?_eq_getElem hk] at this
    simpa using this

set_option maxRecDepth 100000 in
theorem ContainsFunc_calls (A0 : Option Addr) (c0 : Nat) (l : List Seg) (s : Seg) (g : Nat) (w : World) (hr0 : Kd.C kSeg w A0 l.length l) (hc0 : l.length ≤ c0) (hb : l.length ≤ 140737488355328) (hg : w.heap[g]? = some (segO s)) :
    Calls Try.prog 30 #[.slice A0 l.length c0, .func (.func 31) #[] #[.pointer (some ⟨g, 0, none⟩)]] w fun e w' => e = .returned (.bool (l.any fun x => holdB x s)) ∧ Below w.heap.size w w' := by
  have HI := Lib.hid (IndexFunc_calls A0 c0 l s g w hr0 hc0 hb hg)
  clear hr0 hg
  go_enter Try.func30, Try.ntmps30
  go_wp2_with fail
  refine HI.out.mono ?_
  rintro e w1 ⟨n, hn, rfl, hbl⟩
  have HN := Lib.hid (any_of_first hn)
  clear hn
  go_wp2_with fail
  go_ret
  refine ⟨?_, hbl⟩
  rw [← HN.out]
  rfl
end Go.Proofs.Ytdlgfjefbjkdaaa.H
