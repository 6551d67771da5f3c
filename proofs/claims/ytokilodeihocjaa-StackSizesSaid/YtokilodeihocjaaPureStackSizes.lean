/- StackSizes in plain numbers: a stack of so many texts of so many letters has the size that the statement says, for every input. -/
import Derived.Test.YtokilodeihocjaaBxFlyleaflaw17StackSizes
import Derived.Test.YtokilodeihocjaaPureAwake17
import Derived.OpenShut
namespace Go.Proofs.Ytokilodeihocjaa.Pure
open Go.ChangeShapes Go.RowKit Go.Proofs.Ytokilodeihocjaa.A Go.Proofs.Ytokilodeihocjaa.H Go.Proofs.Flat Go.Proofs.YtokilodeihocjaaW.PrintWords Go.Proofs.YtokilodeihocjaaW.PrintLast Go.Proofs.YtokilodeihocjaaW.PrintMore
set_option linter.unusedVariables false
set_option linter.unusedSimpArgs false
theorem rest_of {a m : Int} (ha : -9223372036854775808 ≤ a) (hb : a ≤ 9223372036854775807) (hm : 0 < m) (hm2 : m ≤ 1000) : ∃ n : Nat, (n : Int) < m ∧ Int.tmod (wrap64 (Int.tmod a m + m)) m = n := by
  have h1 : -m < Int.tmod a m := by
    have := Int.lt_tmod_of_pos a hm
    omega
  have h2 : Int.tmod a m < m := Int.tmod_lt_of_pos a hm
  rw [wid (by omega) (by omega), Int.tmod_eq_emod_of_nonneg (by omega)]
  have h3 := Int.emod_nonneg (Int.tmod a m + m) (show m ≠ 0 by omega)
  have h4 := Int.emod_lt_of_pos (Int.tmod a m + m) hm
  exact ⟨((Int.tmod a m + m) % m).toNat, by omega, by omega⟩
theorem sizes_arith (m q : Nat) (hm : m < 10) (hq : q ≤ 189) (S : Nat) (hS : S = (8 * (5 + m) + q + 15) / 16 * 16) : S ≤ 1024 ∧ (S : Int) ≤ 2048 ∧ Int.tmod (S : Int) 16 = 0 ∧ (S : Int) ≥ 40 + (8 * (m : Int) + (q : Int)) ∧ (S : Int) < 40 + (8 * (m : Int) + (q : Int)) + 16 := by
  refine ⟨by omega, by omega, ?_, by omega, by omega⟩
  rw [Int.tmod_eq_emod_of_nonneg (by omega)]
  omega
theorem sizes_wraps (m q : Nat) (hm : m < 10) (hq : q ≤ 189) : wrap64 (8 * (m : Int) + (q : Int)) = 8 * (m : Int) + (q : Int) ∧ wrap64 (40 + (8 * (m : Int) + (q : Int))) = 40 + (8 * (m : Int) + (q : Int)) ∧ wrap64 (40 + (8 * (m : Int) + (q : Int)) + 16) = 40 + (8 * (m : Int) + (q : Int)) + 16 :=
  ⟨wid (by omega) (by omega), wid (by omega) (by omega), wid (by omega) (by omega)⟩
theorem sizes_end (m K : Nat) (hm : m < 10) (hK : K < 21) (k : Nat) (hk : 40 < k) : flyleaflaw17_StackSizes.l1 k true m K (repS 115 K) (List.replicate m (repS 115 K)) m = some true := by
  obtain ⟨k, rfl⟩ : ∃ q, k = q + 1 := ⟨k - 1, by omega⟩
  have hq : m * (K + 1) ≤ 9 * 21 := Nat.mul_le_mul (by omega) (by omega)
  have ht : textsN (List.replicate m (repS 115 K)) = m * (K + 1) := by rw [textsN_rep, repS_size]
  have hl : lowL (List.replicate m (repS 115 K)) := lowL_of (by omega)
  have hl0 : lowL [] := lowL_of (by decide)
  have hs : sizeN (List.replicate m (repS 115 K)) [] [] = (8 * (5 + m) + m * (K + 1) + 15) / 16 * 16 := by
    rw [sizeN, ht, List.length_replicate]
    simp [textsN_nil]
  have hmay : mayB (List.replicate m (repS 115 K)) [] [] = true := mayB_of _ _ _ (fun s hs => by rw [List.eq_of_mem_replicate hs]; exact repS_has0 _ _ (by decide)) (by simp) (by simp)
  have hsz := Size_told (List.replicate m (repS 115 K)) [] [] hl hl0 (by decide) k (by rw [List.length_replicate]; omega) (by simp; omega)
  have hex : (m : Int) * (8 + (K : Int) + 1) = 8 * m + ((m * (K + 1) : Nat) : Int) := by
    rw [Int.natCast_mul, show (8 + (K : Int) + 1) = 8 + ((K + 1 : Nat) : Int) from by omega, Int.mul_add]
    omega
  have e1 : wrap64 (8 + (K : Int)) = 8 + K := wid (by omega) (by omega)
  have e2 : wrap64 (8 + (K : Int) + 1) = 8 + K + 1 := wid (by omega) (by omega)
  generalize m * (K + 1) = q at *
  obtain ⟨e3', e4, e5⟩ := sizes_wraps m q hm hq
  have e3 : wrap64 ((m : Int) * (8 + (K : Int) + 1)) = 8 * (m : Int) + (q : Int) := by rw [hex]; exact e3'
  obtain ⟨s1, s2, s3, s4, s5⟩ := sizes_arith m q hm hq _ hs
  have hb := Build_ok (top := 2048) hl hl0 (show ([] : List Pr).length ≤ 8796093022208 by decide) (by decide) (by decide) (by decide) hmay s1 s2
  have e6 : wrap64 (2048 - (sizeN (List.replicate m (repS 115 K)) [] [] : Int)) = 2048 - (sizeN (List.replicate m (repS 115 K)) [] [] : Int) := by clear hs hsz hb e1 e2 e3 e4 e5 hex e3' s3 s4 s5 ht hq; exact wid (by omega) (by omega)
  simp only [flyleaflaw17_StackSizes.l1]
  rw [if_neg (Int.lt_irrefl _), hsz, Option.bind_some, hb]
  have eb : ((builtS 2048 (List.replicate m (repS 115 K)) [] []).size : Int) = (sizeN (List.replicate m (repS 115 K)) [] [] : Int) := by rw [builtS_size]
  simp only [Option.bind_some]
  rw [e1, e2, e3, e4, e5, eb, e6]
  generalize (sizeN (List.replicate m (repS 115 K)) [] [] : Int) = S at *
  clear hb hsz hs eb
  rw [if_pos rfl, if_pos s3, if_pos s4, if_pos s5]
  simp
theorem sizes_l1 (m K : Nat) (hm : m < 10) (hK : K < 21) (d : Nat) : ∀ k j : Nat, j + d = m → d + 40 < k → flyleaflaw17_StackSizes.l1 k true m K (repS 115 K) (List.replicate j (repS 115 K)) j = some true := by
  induction d with
  | zero =>
    intro k j hj hk
    obtain rfl : j = m := by omega
    exact sizes_end j K hm hK k (by omega)
  | succ d ih =>
    intro k j hj hk
    obtain ⟨k, rfl⟩ : ∃ q, k = q + 1 := ⟨k - 1, by omega⟩
    simp only [flyleaflaw17_StackSizes.l1]
    have e1 : wrap64 ((j : Int) + 1) = ((j + 1 : Nat) : Int) := by unfold wrap64; omega
    rw [if_pos (by omega), if_pos (by rw [List.length_replicate]; omega), e1, ← List.replicate_succ']
    exact ih k (j + 1) (by omega) (by omega)
theorem sizes_l0 (m K : Nat) (hm : m < 10) (hK : K < 21) (d : Nat) : ∀ k i : Nat, i + d = K → d + 60 < k → flyleaflaw17_StackSizes.l0 k true m K (repS 115 i) i = some true := by
  induction d with
  | zero =>
    intro k i hi hk
    obtain rfl : i = K := by omega
    obtain ⟨k, rfl⟩ : ∃ q, k = q + 1 := ⟨k - 1, by omega⟩
    simp only [flyleaflaw17_StackSizes.l0]
    rw [if_neg (by omega)]
    exact sizes_l1 m i hm hK m k 0 (by omega) (by omega)
  | succ d ih =>
    intro k i hi hk
    obtain ⟨k, rfl⟩ : ∃ q, k = q + 1 := ⟨k - 1, by omega⟩
    simp only [flyleaflaw17_StackSizes.l0]
    have e1 : wrap64 ((i : Int) + 1) = ((i + 1 : Nat) : Int) := by unfold wrap64; omega
    rw [if_pos (by omega), if_pos (by rw [repS_size]; omega), e1, repS_succ]
    exact ih k (i + 1) (by omega) (by omega)
theorem StackSizes : flyleaflaw17_StackSizes.Pure := by
  intro a0 a1 h0 h1
  have g0 := bounds_i64 h0
  have g1 := bounds_i64 h1
  obtain ⟨m, hm, em⟩ := rest_of g0.1 g0.2 (show (0 : Int) < 10 by decide) (by decide)
  obtain ⟨K, hK, eK⟩ := rest_of g1.1 g1.2 (show (0 : Int) < 21 by decide) (by decide)
  refine ⟨200, ?_⟩
  unfold flyleaflaw17_StackSizes.f
  rw [awake_told, em, eK]
  exact sizes_l0 m K (by omega) (by omega) K 200 0 (by omega) (by omega)
end Go.Proofs.Ytokilodeihocjaa.Pure
