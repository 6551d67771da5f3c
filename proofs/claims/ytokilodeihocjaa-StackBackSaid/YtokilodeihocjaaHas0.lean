/- strings.Contains and strings.Index of one byte, the byte 0: walked down to the model's own look for a byte; no package variable is read. -/
import Derived.Test.YtokilodeihocjaaProg
import Derived.WalkKit
import Derived.WalkSpells
import Derived.Lib.Hide
import Derived.Lib.Bytealg
import Derived.Lib.IndexLaws
import Derived.Laws.Externs
namespace Go.Proofs.Ytokilodeihocjaa.H
open Go.RowKit
set_option linter.unusedVariables false
set_option linter.unusedSimpArgs false

def zeroS : ByteArray := ⟨#[0]⟩
/-- Is there a byte 0? -/
def has0 (s : ByteArray) : Bool := s.data.toList.contains 0
theorem has0_index (s : ByteArray) : decide (0 ≤ Lib.indexByte s.data.toList 0) = has0 s := by
  unfold has0
  by_cases h : Lib.indexByte s.data.toList 0 = -1
  · rw [h]
    have hn := Lib.indexByte_none h
    have : (0 : UInt8) ∉ s.data.toList := fun hm => by
      obtain ⟨k, hk, e⟩ := List.getElem_of_mem hm
      exact hn k (by rw [List.getElem?_eq_getElem hk, e])
    rw [show s.data.toList.contains 0 = false from by simpa using this]
    rfl
  · have h0 := Lib.indexByte_ge s.data.toList 0
    obtain ⟨o, ho⟩ : ∃ o : Nat, Lib.indexByte s.data.toList 0 = o := ⟨(Lib.indexByte s.data.toList 0).toNat, by omega⟩
    have hs := (Lib.indexByte_some ho).1
    have : (0 : UInt8) ∈ s.data.toList := List.mem_of_getElem? hs
    rw [show s.data.toList.contains 0 = true from by simpa using this]
    exact decide_eq_true (by omega)

theorem IndexByte_calls (s : ByteArray) (c : Int) (w : World) :
    Calls Try.prog 57 #[.string s, .int .u8 c] w fun e w' => e = .returned (.int .i64 (Lib.indexByte s.data.toList c.toNat.toUInt8)) ∧ w' = w := by
  go_enter Try.func57, Try.ntmps57
  go_wp2
  rw [run_callFunc_extern Try.func62 (by kernel_rfl) (by kernel_rfl) (by kernel_rfl) (e := Extern.BytealgIndexByte.indexByte) (by kernel_rfl), Lib.run_indexByteString]
  simp only [Result.andThen]
  rw [Oper.upon_value]
  go_wp2
  go_ret
  exact ⟨rfl, rfl⟩

set_option maxRecDepth 100000 in
theorem Index0_lite (s : ByteArray) (w : World) :
    Calls Try.prog 52 #[.string s, .string zeroS] w fun e w' => e = .returned (.int .i64 (Lib.indexByte s.data.toList 0)) ∧ w' = w := by
  unfold zeroS
  cases hd : ([0] == s.toList) with
  | true =>
    have hs : s.data.toList = [0] := by
      have := eq_of_beq hd
      rw [ByteArray.toList_eq] at this
      exact this.symm
    have hf : Lib.indexByte s.data.toList 0 = 0 := by rw [hs]; rfl
    have HF := Lib.hid hf
    clear hf hs
    go_enter Try.func52, Try.ntmps52
    go_wp2_with fail
    go_ret
    refine ⟨?_, rfl⟩
    rw [HF.out]
    rfl
  | false =>
    go_enter Try.func52, Try.ntmps52
    go_wp2_with fail
    refine (IndexByte_calls s 0 _).mono ?_
    rintro e w' ⟨rfl, rfl⟩
    go_wp2_with fail
    go_ret
    exact ⟨rfl, rfl⟩

theorem Index0_calls (s : ByteArray) (w : World) :
    Calls Try.prog 46 #[.string s, .string zeroS] w fun e w' => e = .returned (.int .i64 (Lib.indexByte s.data.toList 0)) ∧ w' = w := by
  go_enter Try.func46, Try.ntmps46
  go_wp2_with fail
  refine (Index0_lite s _).mono ?_
  rintro e w' ⟨rfl, rfl⟩
  go_wp2_with fail
  go_ret
  exact ⟨rfl, rfl⟩

/-- strings.Contains(s, "\x00"). -/
theorem Contains0_calls (s : ByteArray) (w : World) :
    Calls Try.prog 39 #[.string s, .string zeroS] w fun e w' => e = .returned (.bool (has0 s)) ∧ w' = w := by
  have hx := Lib.hid (has0_index s)
  obtain ⟨n, hn⟩ : ∃ n, Lib.indexByte s.data.toList 0 = n := ⟨_, rfl⟩
  have HN := Lib.hid hn
  clear hn
  go_enter Try.func39, Try.ntmps39
  go_wp2_with fail
  refine (Index0_calls s _).mono ?_
  rintro e w' ⟨rfl, rfl⟩
  rw [HN.out]
  go_wp2_with fail
  go_ret
  refine ⟨?_, rfl⟩
  rw [← hx.out, HN.out]
  rfl
end Go.Proofs.Ytokilodeihocjaa.H
