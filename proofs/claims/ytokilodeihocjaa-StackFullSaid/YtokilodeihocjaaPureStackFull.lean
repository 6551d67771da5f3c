/- StackFull in plain numbers: a stack of one long text is built, or not, as the statement says, for every input. -/
import Derived.Test.YtokilodeihocjaaBxFlyleaflaw17StackFull
import Derived.Test.YtokilodeihocjaaPureRest
namespace Go.Proofs.Ytokilodeihocjaa.Pure
open Go.ChangeShapes Go.RowKit Go.Proofs.Ytokilodeihocjaa.A Go.Proofs.Ytokilodeihocjaa.H Go.Proofs.Flat Go.Proofs.YtokilodeihocjaaW.PrintWords Go.Proofs.YtokilodeihocjaaW.PrintLast Go.Proofs.YtokilodeihocjaaW.PrintMore
set_option linter.unusedVariables false
set_option linter.unusedSimpArgs false
theorem strOf_rep (n : Nat) : strOfNums (List.replicate n 116) = repS 116 n := by
  unfold strOfNums repS
  rw [List.map_replicate]
  rfl
theorem full_arith (n : Nat) (hn : 880 ≤ n) (hm : n < 1080) (S : Nat) (hS : S = (8 * 6 + (n + 1) + 0 + 15) / 16 * 16) : 880 < S ∧ S ≤ 1200 := by omega
theorem full_end (n : Nat) (hn : 880 ≤ n) (hm : n < 1080) (a1 : Int) (k : Nat) (hk : 10 < k) : flyleaflaw17_StackFull.l0 k a1 true n (List.replicate n 116) n = some true := by
  obtain ⟨k, rfl⟩ : ∃ q, k = q + 1 := ⟨k - 1, by omega⟩
  have ht : textsN [repS 116 n] = n + 1 := by rw [textsN_cons, repS_size]; rfl
  have hl : lowL [repS 116 n] := lowL_of (by omega)
  have hl0 : lowL [] := lowL_of (by decide)
  have hs : sizeN [repS 116 n] [] [] = (8 * 6 + (n + 1) + 0 + 15) / 16 * 16 := by
    rw [sizeN, ht]
    rfl
  have hmay : mayB [repS 116 n] [] [] = true := mayB_of _ _ _ (fun s hs => by rw [List.mem_singleton.1 hs]; exact repS_has0 _ _ (by decide)) (by simp) (by simp)
  have hsz := Size_told [repS 116 n] [] [] hl hl0 (by decide) k (by show 1 < k; omega) (by show 0 < k; omega)
  have e7 : wrap64 (16 * bits .and .i64 a1 7) = 16 * (a1 % 8) := by rw [and7]; exact wid (by omega) (by omega)
  have e8 : wrap64 (1024 + 16 * (a1 % 8)) = 1024 + 16 * (a1 % 8) := wid (by omega) (by omega)
  obtain ⟨s1, s2⟩ := full_arith n hn hm _ hs
  have hb2 := Build_bad (top := 512) hl hl0 (show ([] : List Pr).length ≤ 8796093022208 by decide) (by decide) (by decide) (by decide) hmay (.inr (by omega))
  simp only [flyleaflaw17_StackFull.l0]
  rw [if_neg (Int.lt_irrefl _), strOf_rep, hsz, Option.bind_some, e7, e8, hb2]
  generalize hS : sizeN [repS 116 n] [] [] = S at *
  clear hsz hb2 ht hs e7 e8
  by_cases hc : 1024 < S
  · have hb := Build_bad (top := 1024 + 16 * (a1 % 8)) hl hl0 (show ([] : List Pr).length ≤ 8796093022208 by decide) (by omega) (by omega) (by omega) hmay (.inl (by omega))
    rw [hb]
    simp only [Option.bind_some]
    rw [if_pos (by omega)]
    simp
  · have hb := Build_ok (top := 1024 + 16 * (a1 % 8)) hl hl0 (show ([] : List Pr).length ≤ 8796093022208 by decide) (by omega) (by omega) (by omega) hmay (by omega) (by omega)
    have eb : ((builtS (1024 + 16 * (a1 % 8)) [repS 116 n] [] []).size : Int) = (S : Int) := by rw [builtS_size, hS]
    rw [hb]
    simp only [Option.bind_some]
    rw [eb, if_neg (by omega)]
    simp
theorem full_l0 (n : Nat) (hn : 880 ≤ n) (hm : n < 1080) (a1 : Int) (d : Nat) : ∀ k i : Nat, i + d = n → d + 20 < k → flyleaflaw17_StackFull.l0 k a1 true n (List.replicate i 116 ++ List.replicate d 0) i = some true := by
  induction d with
  | zero =>
    intro k i hi hk
    obtain rfl : i = n := by omega
    rw [List.replicate_zero, List.append_nil]
    exact full_end i hn hm a1 k (by omega)
  | succ d ih =>
    intro k i hi hk
    obtain ⟨k, rfl⟩ : ∃ q, k = q + 1 := ⟨k - 1, by omega⟩
    simp only [flyleaflaw17_StackFull.l0]
    have e1 : wrap64 ((i : Int) + 1) = ((i + 1 : Nat) : Int) := by unfold wrap64; omega
    have e2 : (List.replicate i (116 : Int) ++ List.replicate (d + 1) 0).set ((i : Int).toNat) 116 = List.replicate (i + 1) 116 ++ List.replicate d 0 := by
      rw [Int.toNat_natCast, List.replicate_succ (n := d), List.set_append_right _ _ (by simp), List.length_replicate, Nat.sub_self, List.set_cons_zero, List.replicate_succ', List.append_assoc]
      rfl
    rw [if_pos (by omega), if_pos (by omega), if_pos (by simp; omega), e1, e2]
    exact ih k (i + 1) (by omega) (by omega)
theorem StackFull : flyleaflaw17_StackFull.Pure := by
  intro a0 a1 h0 h1
  have g0 := bounds_i64 h0
  obtain ⟨m, hm, em⟩ := rest_of g0.1 g0.2 (show (0 : Int) < 200 by decide) (by decide)
  refine ⟨2000, ?_⟩
  have e1 : wrap64 (880 + (m : Int)) = ((880 + m : Nat) : Int) := by unfold wrap64; omega
  unfold flyleaflaw17_StackFull.f
  rw [awake_told, em, e1]
  simp only [Option.bind_some]
  rw [if_pos (by omega), if_pos (by omega), Int.toNat_natCast]
  exact full_l0 (880 + m) (by omega) (by omega) a1 (880 + m) 2000 0 (by omega) (by omega)
end Go.Proofs.Ytokilodeihocjaa.Pure
