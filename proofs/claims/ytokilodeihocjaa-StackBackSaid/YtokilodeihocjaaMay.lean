/- stack.may: no text has a byte 0, and each pair's numbers are within their bounds: the contract of the Go function, with strings.Join at the empty separator. -/
import Derived.Test.YtokilodeihocjaaHas0
import Derived.Test.YtokilodeihocjaaTwo
import Derived.WalkKit
import Derived.Lib.Hide
import Derived.WalkSpells
namespace Go.Proofs.Ytokilodeihocjaa.H
open Go.RowKit Go.Proofs.YtokilodeihocjaaW.PrintWords Go.Proofs.YtokilodeihocjaaW.PrintLast Go.Proofs.YtokilodeihocjaaW.PrintMore Go.Proofs.Ytokilodeihocjaa.A
set_option linter.unusedVariables false
set_option linter.unusedSimpArgs false

abbrev Pr := S48
abbrev kPr := k48
abbrev zPr := z48
/-- All texts, one behind the other. -/
def joinB (l : List ByteArray) : List UInt8 := l.flatMap bytesL
def joinS (l : List ByteArray) : ByteArray := ⟨(joinB l).toArray⟩
theorem join_empty (l : List ByteArray) : Lib.join (l.map (·.data.toList)) [] = joinB l := by
  cases l with
  | nil => rfl
  | cons x r =>
    rw [List.map_cons, Lib.join_cons, joinB, List.flatMap_cons, Lib.joinTail]
    congr 1
    simp [List.flatMap]
    rfl
theorem has0_join (l : List ByteArray) : has0 (joinS l) = l.any has0 := by
  unfold has0 joinS joinB
  induction l with
  | nil => rfl
  | cons x r ih =>
    rw [List.any_cons, ← ih]
    simp [List.flatMap_cons, bytesL, List.contains_eq_any_beq, List.any_append]
def pairOk (x : Pr) : Bool := decide (1 ≤ x.f0) && decide (x.f0 ≤ 1099511627776) && decide (0 ≤ x.f1) && decide (x.f1 ≤ 1099511627776)
def okTo (l0 l1 : List ByteArray) (k : Nat) : Bool := (decide (k < 1) || !(l0.any has0)) && (decide (k < 2) || !(l1.any has0))
def mayB (l0 l1 : List ByteArray) (l2 : List Pr) : Bool := okTo l0 l1 2 && l2.all pairOk
/-- Lists that no sum of which is large. -/
def lowL (l : List ByteArray) : Prop := l.length ≤ 140737488355328 ∧ (joinB l).length ≤ 140737488355328
instance (l : List ByteArray) : Decidable (lowL l) := by unfold lowL; infer_instance
def stack_may.f (l0 l1 : List ByteArray) (l2 : List Pr) : Option Bool :=
  if lowL l0 ∧ lowL l1 ∧ l2.length ≤ 140737488355328 then some (mayB l0 l1 l2) else none

theorem Join_calls (A : Option Addr) (c : Nat) (l : List ByteArray) (w : World) (hr : Kd.C Kd.string w A l.length l) (hc : l.length ≤ c) (hl : lowL l) :
    Calls Try.prog 40 #[.slice A l.length c, .string ⟨#[]⟩] w fun e w' => e = .returned (.string (joinS l)) ∧ Below w.heap.size w w' := by
  by_cases h0 : l.length = 0
  · obtain rfl := List.eq_nil_of_length_eq_zero h0
    refine (Try.strings_Join_none A c ⟨#[]⟩ w).mono ?_
    rintro e w' ⟨rfl, rfl⟩
    exact ⟨rfl, Below.refl _ _⟩
  · obtain ⟨_, _, h⟩ := Kd.reads_of_C (d := ByteArray.empty) hr
    obtain ⟨⟨b, o, s⟩, rfl, hcell⟩ := h (by omega)
    have hs : s = none := by
      have := hcell 0 (by omega)
      rw [World.cell?] at this
      split at this
      · cases s with
        | none => rfl
        | some _ => simp [Addr.add] at this
      · cases this
    subst hs
    have hc0 := hcell 0 (by omega)
    have hlt : b < w.heap.size := World.block_lt_of_cell? w _ hc0
    refine (Try.strings_Join b o c l ⟨#[]⟩ w (fun j x hj => ?_) hlt hl.1 hc (by rw [show (⟨#[]⟩ : ByteArray).data.toList = [] from rfl, join_empty]; exact hl.2)).mono ?_
    · have hjl : j < l.length := (List.getElem?_eq_some_iff.1 hj).1
      have := hcell j hjl
      rw [List.getD_eq_getElem?_getD, hj, Option.getD_some, show (⟨b, o, none⟩ : Addr).add j = ⟨b, o + j, none⟩ from by simp [Addr.add]] at this
      exact this
    · rintro e w' ⟨rfl, hb⟩
      refine ⟨?_, hb⟩
      rw [show (⟨#[]⟩ : ByteArray).data.toList = [] from rfl, join_empty]
      rfl

theorem two_0 (a b : Value) (W : World) (A1 A2 : Option Addr) (n1 n2 c1 c2 : Nat) : (Instr.index 68 (.agg #[.slice A1 n1 c1, .slice A2 n2 c2]) (.int .i64 0)).run Try.prog W = .ok (.slice A1 n1 c1) W := by kernel_rfl
theorem two_1 (a b : Value) (W : World) (A1 A2 : Option Addr) (n1 n2 c1 c2 : Nat) : (Instr.index 68 (.agg #[.slice A1 n1 c1, .slice A2 n2 c2]) (.int .i64 1)).run Try.prog W = .ok (.slice A2 n2 c2) W := by kernel_rfl
def pick2 (l0 l1 : List ByteArray) (k : Nat) : List ByteArray := if k = 0 then l0 else l1
theorem okTo_succ (l0 l1 : List ByteArray) (k : Nat) (hk : k < 2) : okTo l0 l1 (k + 1) = (okTo l0 l1 k && !((pick2 l0 l1 k).any has0)) := by
  match k, hk with
  | 0, _ => simp [okTo, pick2]
  | 1, _ => simp [okTo, pick2]
theorem okTo_bad (l0 l1 : List ByteArray) (k : Nat) (hk : k < 2) (h : (pick2 l0 l1 k).any has0 = true) : okTo l0 l1 2 = false := by
  match k, hk with
  | 0, _ => have h' : l0.any has0 = true := h; simp [okTo, h']
  | 1, _ => have h' : l1.any has0 = true := h; simp [okTo, h']

set_option maxHeartbeats 4000000 in
set_option maxRecDepth 100000 in
theorem stack_may.calls (A0 : Option Addr) (c0 : Nat) (l0 : List ByteArray) (A1 : Option Addr) (c1 : Nat) (l1 : List ByteArray) (A2 : Option Addr) (c2 : Nat) (l2 : List Pr) (r : Bool) (w : World)
    (hr0 : Kd.C Kd.string w A0 l0.length l0) (hc0 : l0.length ≤ c0) (hr1 : Kd.C Kd.string w A1 l1.length l1) (hc1 : l1.length ≤ c1) (hr2 : Kd.C kPr w A2 l2.length l2) (hc2 : l2.length ≤ c2) (h : stack_may.f l0 l1 l2 = some r) :
    Calls Try.prog 21 #[.slice A0 l0.length c0, .slice A1 l1.length c1, .slice A2 l2.length c2] w fun e w' => e = .returned (.bool r) ∧ Below w.heap.size w w' := by
  unfold stack_may.f at h
  by_cases hb : lowL l0 ∧ lowL l1 ∧ l2.length ≤ 140737488355328
  · rw [if_pos hb] at h
    obtain ⟨hb0, hb1, hb2⟩ := hb
    have HFIN := Lib.hid (Option.some.inj h)
    clear h
    have hu := Try.underlying48
    have IDX : ∀ k : Nat, k < 2 → ∃ A c l, (∀ W, (Instr.index 68 (.agg #[.slice A0 l0.length c0, .slice A1 l1.length c1]) (.int .i64 (k : Int))).run Try.prog W = .ok (.slice A l.length c) W) ∧ Kd.C Kd.string w A l.length l ∧ l.length ≤ c ∧ lowL l ∧ l = pick2 l0 l1 k := by
      intro k hk
      match k, hk with
      | 0, _ => exact ⟨A0, c0, l0, fun W => two_0 undef undef W .., hr0, hc0, hb0, rfl⟩
      | 1, _ => exact ⟨A1, c1, l1, fun W => two_1 undef undef W .., hr1, hc1, hb1, rfl⟩
    have HIDX := Lib.hid IDX
    have HR2 := Lib.hid hr2
    clear IDX hr0 hr1 hr2 hb0 hb1 hc0 hc1
    go_enter Try.func21, Try.ntmps21
    go_wp2_with fail
    go_loopw [14] (fun i wr => ∃ k : Nat, k ≤ 2 ∧ i = .int .i64 k ∧ Hid (okTo l0 l1 k = true) ∧ Below w.heap.size w wr) (fun i _ => 2 - (intOf i).toNat)
    case atStart => exact ⟨0, by omega, rfl, Lib.hid rfl, Below.refl _ _⟩
    case round =>
      obtain ⟨k, hk, rfl, HG, hbl⟩ := hrel
      by_cases hlt : k < 2
      · obtain ⟨A, c, l, hix, hrl, hcl, hll, hle⟩ := HIDX.out k hlt
        have HIX := Lib.hid hix
        have HRL := Lib.hid hrl
        have HLL := Lib.hid hll
        have HLE := Lib.hid hle
        clear hrl hll hle hix
        have hix := HIX.out
        go_wp2_with fail
        clear hix
        refine (Join_calls A c l _ (Kd.C_below HRL.out hbl) hcl HLL.out).mono ?_
        rintro e w1 ⟨rfl, hb1⟩
        have hbl1 := below_then hbl hbl.size hb1
        clear hb1 hbl
        go_wp2_with fail
        refine (Contains0_calls (joinS l) _).mono ?_
        rintro e w2 ⟨rfl, rfl⟩
        cases hv : has0 (joinS l) with
        | true =>
          have hfin : mayB l0 l1 l2 = false := by
            rw [has0_join, HLE.out] at hv
            rw [mayB, okTo_bad l0 l1 k hlt hv]
            rfl
          have HF := Lib.hid hfin
          clear hfin hv
          go_wp2_with fail
          go_ret
          refine ⟨?_, hbl1⟩
          rw [← HFIN.out, HF.out]
          rfl
        | false =>
          have hnx : okTo l0 l1 (k + 1) = true := by
            rw [has0_join, HLE.out] at hv
            rw [okTo_succ l0 l1 k hlt, HG.out, hv]
            rfl
          have HN := Lib.hid hnx
          clear hnx hv
          go_wp2_with fail
          go_roundw
          case measure => simp [intOf]; omega
          case rel => exact ⟨k + 1, by omega, by go_num, HN, hbl1⟩
      · obtain rfl : k = 2 := by omega
        go_wp2_with fail
        obtain ⟨wo, rfl⟩ : ∃ wo : World, wo = wr := ⟨_, rfl⟩
        go_loopw [23] (fun i wr => ∃ j : Nat, j ≤ l2.length ∧ i = .int .i64 j ∧ Hid (∀ q, q < j → pairOk (l2.getD q zPr) = true) ∧ Below w.heap.size w wr) (fun i _ => l2.length - (intOf i).toNat)
        case atStart => exact ⟨0, Nat.zero_le _, rfl, Lib.hid fun q hq => absurd hq (Nat.not_lt_zero _), hbl⟩
        case round =>
          obtain ⟨j, hj, rfl, HQ, hbl2⟩ := hrel
          clear hbl
          by_cases hlj : j < l2.length
          · have hk0 : (j : Int) < (l2.length : Int) := by omega
            obtain ⟨ad0, rfl, hx0, hx1⟩ := at_T48 (Kd.C_below HR2.out hbl2) j (by omega) hk0
            have e0 : rd_T48 l2 (j : Int) = l2.getD j zPr := by simp [rd_T48]
            rw [e0] at hx0 hx1
            rw [Int.toNat_natCast] at hx0 hx1
            clear e0
            generalize hX : l2.getD j zPr = x at *
            have HX := Lib.hid hX; clear hX
            have hbad : pairOk x = false → mayB l0 l1 l2 = false := fun hp => by
              rw [mayB, show l2.all pairOk = false from ?_, Bool.and_false]
              rw [List.all_eq_false]
              refine ⟨l2.getD j zPr, ?_, by rw [HX.out]; simpa using hp⟩
              rw [List.getD_eq_getElem?_getD, List.getElem?_eq_getElem hlj]
              exact List.getElem_mem hlj
            have HB := Lib.hid hbad
            clear hbad
            have hbl3 : ∀ u, Below w.heap.size w ((wr.alloc u)) := fun u => hbl2.alloc hbl2.size u
            have HBL := Lib.hid hbl3
            clear hbl3
            by_cases p1 : x.f0 < 1
            · have d1 : decide (x.f0 < 1) = true := decide_eq_true p1
              have hp : pairOk x = false := by simp [pairOk]; omega
              have HP := Lib.hid (HB.out hp)
              clear hp p1
              go_wp2_with fail
              go_ret
              refine ⟨?_, HBL.out _⟩
              rw [← HFIN.out, HP.out]
              rfl
            · have d1 : decide (x.f0 < 1) = false := decide_eq_false p1
              by_cases p2 : 1099511627776 < x.f0
              · have d2 : decide (1099511627776 < x.f0) = true := decide_eq_true p2
                have hp : pairOk x = false := by simp [pairOk]; omega
                have HP := Lib.hid (HB.out hp)
                clear hp p1 p2
                go_wp2_with fail
                go_ret
                refine ⟨?_, HBL.out _⟩
                rw [← HFIN.out, HP.out]
                rfl
              · have d2 : decide (1099511627776 < x.f0) = false := decide_eq_false p2
                by_cases p3 : x.f1 < 0
                · have d3 : decide (x.f1 < 0) = true := decide_eq_true p3
                  have hp : pairOk x = false := by simp [pairOk]; omega
                  have HP := Lib.hid (HB.out hp)
                  clear hp p1 p2 p3
                  go_wp2_with fail
                  go_ret
                  refine ⟨?_, HBL.out _⟩
                  rw [← HFIN.out, HP.out]
                  rfl
                · have d3 : decide (x.f1 < 0) = false := decide_eq_false p3
                  by_cases p4 : 1099511627776 < x.f1
                  · have d4 : decide (1099511627776 < x.f1) = true := decide_eq_true p4
                    have hp : pairOk x = false := by simp [pairOk]; omega
                    have HP := Lib.hid (HB.out hp)
                    clear hp p1 p2 p3 p4
                    go_wp2_with fail
                    go_ret
                    refine ⟨?_, HBL.out _⟩
                    rw [← HFIN.out, HP.out]
                    rfl
                  · have d4 : decide (1099511627776 < x.f1) = false := decide_eq_false p4
                    have hp : pairOk x = true := by simp [pairOk]; omega
                    have HP := Lib.hid hp
                    clear hp p1 p2 p3 p4
                    go_wp2_with fail
                    go_roundw
                    case measure => simp [intOf]; omega
                    case rel =>
                      refine ⟨j + 1, by omega, by go_num, Lib.hid fun q hq => ?_, HBL.out _⟩
                      by_cases e : q = j
                      · subst e; rw [HX.out]; exact HP.out
                      · exact HQ.out q (by omega)
          · obtain rfl : j = l2.length := by omega
            have hfin : mayB l0 l1 l2 = true := by
              rw [mayB, HG.out, Bool.true_and, List.all_eq_true]
              intro x hx
              obtain ⟨q, hq, rfl⟩ := List.getElem_of_mem hx
              have := HQ.out q hq
              rw [List.getD_eq_getElem?_getD, List.getElem?_eq_getElem hq] at this
              exact this
            have HF := Lib.hid hfin
            clear hfin
            go_wp2_with fail
            go_ret
            refine ⟨?_, hbl2⟩
            rw [← HFIN.out, HF.out]
            rfl
  · rw [if_neg hb] at h
    cases h
end Go.Proofs.Ytokilodeihocjaa.H
