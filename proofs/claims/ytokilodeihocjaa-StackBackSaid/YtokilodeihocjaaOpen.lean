/- What the reading of an argument says of its cells, kind by kind. -/
import Derived.Test.YtokilodeihocjaaBx0
import Derived.OpenShut
import Derived.Deep.Slices
import Derived.ChangeArms
namespace Go.Proofs.Ytokilodeihocjaa.A
open Go.RowKit Go.Proofs.YtokilodeihocjaaW.PrintWords Go.Proofs.YtokilodeihocjaaW.PrintLast Go.Proofs.YtokilodeihocjaaW.PrintMore
set_option linter.unusedVariables false
set_option linter.unusedSimpArgs false
/-- What a reading of a type says: the cells by its kind, and what else is known. -/
def Opens {α : Type} (t : TypeId) (kd : Kd α) (B : α → Prop) : Prop :=
  ∀ {H : Type} (enc : TypeId × Value → H) (w : World) (base : Nat) (spare : Nat → Bool) (held : Bool) (fuel : Nat) (cs : List Value) (x : DataW H × List MemPlace),
    DataW.trod enc Try.prog w base spare held fuel t cs = some x → ∃ a, kd.K w a cs ∧ B a
theorem opens_int {t : TypeId} {k : IntKind} (ht : Try.prog.underlying t = some (.int k)) : Opens t (Kd.int k) (fun n => (Lit.int k n).wf = true) := by
  intro H enc w base spare held fuel cs x hx
  obtain ⟨n, rfl, _, hw⟩ := DataW.trod_int ht hx
  exact ⟨n, rfl, hw⟩
theorem opens_bool {t : TypeId} (ht : Try.prog.underlying t = some .bool) : Opens t Kd.bool (fun _ => True) := by
  intro H enc w base spare held fuel cs x hx
  obtain ⟨b, rfl, _⟩ := DataW.trod_bool ht hx
  exact ⟨b, rfl, trivial⟩
theorem opens_string {t : TypeId} (ht : Try.prog.underlying t = some .string) : Opens t Kd.string (fun s : ByteArray => s.size ≤ maxLen) := by
  intro H enc w base spare held fuel cs x hx
  obtain ⟨s, rfl, _, hs⟩ := DataW.trod_string ht hx
  exact ⟨s, rfl, hs⟩
theorem rows_of {α : Type} {w : World} {kd : Kd α} {B : α → Prop} {a : Addr} (n : Nat)
    (h : ∀ i, i < n → ∃ y c, kd.K w y c ∧ B y ∧ ∀ j u, c[j]? = some u → w.cell? (a.add (i * kd.sz + j)) = some u) :
    ∃ ys : List α, ys.length = n ∧ (∀ y ∈ ys, B y) ∧ ∀ j p, ys[j]? = some p → ∃ c, c.length = kd.sz ∧ kd.K w p c ∧ ∀ i u, c[i]? = some u → w.cell? (a.add (j * kd.sz + i)) = some u := by
  induction n with
  | zero => exact ⟨[], rfl, by simp, by simp⟩
  | succ n ih =>
    obtain ⟨ys, hl, hb, hy⟩ := ih (fun i hi => h i (by omega))
    obtain ⟨y, c, hK, hB, hc⟩ := h n (by omega)
    refine ⟨ys ++ [y], by simp [hl], ?_, ?_⟩
    · intro z hz
      rcases List.mem_append.1 hz with hz | hz
      · exact hb z hz
      · rw [List.mem_singleton.1 hz]; exact hB
    · intro j p hj
      by_cases hjn : j < ys.length
      · rw [List.getElem?_append_left hjn] at hj
        exact hy j p hj
      · rw [List.getElem?_append_right (by omega)] at hj
        have hj0 : j - ys.length = 0 := by
          by_cases h0 : j - ys.length = 0
          · exact h0
          · rw [List.getElem?_eq_none (by simp; omega)] at hj; cases hj
        rw [hj0] at hj
        have hp : y = p := by simpa using hj
        have : j = n := by omega
        subst hp this
        exact ⟨c, kd.K_len hK, hK, hc⟩
theorem opens_slice {α : Type} {t e : TypeId} {kd : Kd α} {B : α → Prop} (ht : Try.prog.underlying t = some (.slice e)) (hc : Try.prog.cellsOf e = kd.sz) (h : Opens e kd B) :
    Opens t (Kd.slice e kd) (fun xs => xs.length ≤ maxLen ∧ ∀ x ∈ xs, B x) := by
  intro H enc w base spare held fuel cs x hx
  rcases Go.Deep.open_slice ht hx with ⟨rfl, _⟩ | ⟨a, len, cap, m, n, D, Pl, rfl, hb, hl, hm, hmm, rfl, hi⟩
  · exact ⟨[], ⟨none, 0, rfl, Nat.le_refl _, ⟨rfl, Nat.zero_le _, fun h => absurd h (Nat.lt_irrefl 0)⟩⟩, Nat.zero_le _, by simp⟩
  · have hlm : len ≤ m := by rw [hmm]; split <;> omega
    obtain ⟨ys, h1, h2, h3⟩ := rows_of (kd := kd) (B := B) (w := w) (a := a) len (by
      intro i hil
      obtain ⟨cs', g1, g2⟩ := hi i (by omega)
      obtain ⟨y, hK, hB⟩ := h enc w base spare held n cs' _ g2
      obtain ⟨_, g3, g4⟩ := World.cells?_some g1
      refine ⟨y, cs', hK, hB, fun j u hj => ?_⟩
      have hjl : j < cs'.length := by
        by_cases hh : j < cs'.length
        · exact hh
        · rw [List.getElem?_eq_none (by omega)] at hj; cases hj
      have := g4 j (by omega)
      rw [Addr.add_add, hc, hj] at this
      exact this)
    refine ⟨ys, ⟨some a, cap, by rw [h1], by omega, ⟨rfl, ?_, fun _ => ⟨a, rfl, h3⟩⟩⟩, by omega, h2⟩
    have : maxLen ≤ 9223372036854775807 := by decide
    omega
def b48 (x : S48) : Prop := (fun n => (Lit.int .i64 n).wf = true) x.f0 ∧ (fun n => (Lit.int .i64 n).wf = true) x.f1
theorem opens48 : Opens 48 k48 b48 := by
  intro H enc w base spare held fuel cs x hx
  obtain ⟨xs, m, rfl, rfl, hc, hl, hi⟩ := DataW.trod_struct Try.underlying48 hx
  have hc' : cs.length = 2 := hc.trans (by kernel_rfl)
  have hl' : xs.length = 2 := hl
  obtain ⟨c0, c1, rfl⟩ : ∃ c0 c1, cs = [c0, c1] := by
    match cs, hc' with
    | [c0, c1], _ => exact ⟨c0, c1, rfl⟩
  obtain ⟨x0, x1, rfl⟩ : ∃ x0 x1, xs = [x0, x1] := by
    match xs, hl' with
    | [x0, x1], _ => exact ⟨x0, x1, rfl⟩
  have z0 : Try.prog.cellsOf 3 = 1 := by kernel_rfl
  have h0 : DataW.trod enc Try.prog w base spare held m 3 (([c0, c1].drop 0).take (Try.prog.cellsOf 3)) = [x0, x1][0]? := hi 0 _ rfl
  rw [z0] at h0
  obtain ⟨a0, K0, B0⟩ := (opens_int (k := .i64) Try.underlying3) enc w base spare held m [c0] x0 h0
  have z1 : Try.prog.cellsOf 3 = 1 := by kernel_rfl
  have h1 : DataW.trod enc Try.prog w base spare held m 3 (([c0, c1].drop 1).take (Try.prog.cellsOf 3)) = [x0, x1][1]? := hi 1 _ rfl
  rw [z1] at h1
  obtain ⟨a1, K1, B1⟩ := (opens_int (k := .i64) Try.underlying3) enc w base spare held m [c1] x1 h1
  exact ⟨⟨a0, a1⟩, ⟨[c0], [c1], rfl, K0, K1⟩, ⟨B0, B1⟩⟩
def b25 (x : S25) : Prop := (fun xs => xs.length ≤ maxLen ∧ ∀ x ∈ xs, (fun s : ByteArray => s.size ≤ maxLen) x) x.f0 ∧ (fun xs => xs.length ≤ maxLen ∧ ∀ x ∈ xs, (fun s : ByteArray => s.size ≤ maxLen) x) x.f1 ∧ (fun xs => xs.length ≤ maxLen ∧ ∀ x ∈ xs, b48 x) x.f2
theorem opens25 : Opens 25 k25 b25 := by
  intro H enc w base spare held fuel cs x hx
  obtain ⟨xs, m, rfl, rfl, hc, hl, hi⟩ := DataW.trod_struct Try.underlying25 hx
  have hc' : cs.length = 3 := hc.trans (by kernel_rfl)
  have hl' : xs.length = 3 := hl
  obtain ⟨c0, c1, c2, rfl⟩ : ∃ c0 c1 c2, cs = [c0, c1, c2] := by
    match cs, hc' with
    | [c0, c1, c2], _ => exact ⟨c0, c1, c2, rfl⟩
  obtain ⟨x0, x1, x2, rfl⟩ : ∃ x0 x1 x2, xs = [x0, x1, x2] := by
    match xs, hl' with
    | [x0, x1, x2], _ => exact ⟨x0, x1, x2, rfl⟩
  have z0 : Try.prog.cellsOf 22 = 1 := by kernel_rfl
  have h0 : DataW.trod enc Try.prog w base spare held m 22 (([c0, c1, c2].drop 0).take (Try.prog.cellsOf 22)) = [x0, x1, x2][0]? := hi 0 _ rfl
  rw [z0] at h0
  obtain ⟨a0, K0, B0⟩ := (opens_slice Try.underlying22 (by kernel_rfl) (opens_string Try.underlying9)) enc w base spare held m [c0] x0 h0
  have z1 : Try.prog.cellsOf 22 = 1 := by kernel_rfl
  have h1 : DataW.trod enc Try.prog w base spare held m 22 (([c0, c1, c2].drop 1).take (Try.prog.cellsOf 22)) = [x0, x1, x2][1]? := hi 1 _ rfl
  rw [z1] at h1
  obtain ⟨a1, K1, B1⟩ := (opens_slice Try.underlying22 (by kernel_rfl) (opens_string Try.underlying9)) enc w base spare held m [c1] x1 h1
  have z2 : Try.prog.cellsOf 23 = 1 := by kernel_rfl
  have h2 : DataW.trod enc Try.prog w base spare held m 23 (([c0, c1, c2].drop 2).take (Try.prog.cellsOf 23)) = [x0, x1, x2][2]? := hi 2 _ rfl
  rw [z2] at h2
  obtain ⟨a2, K2, B2⟩ := (opens_slice Try.underlying23 (by kernel_rfl) opens48) enc w base spare held m [c2] x2 h2
  exact ⟨⟨a0, a1, a2⟩, ⟨[c0], [c1, c2], rfl, K0, ⟨[c1], [c2], rfl, K1, K2⟩⟩, ⟨B0, B1, B2⟩⟩
def b46 (x : S46) : Prop := (fun n => (Lit.int .i64 n).wf = true) x.f0 ∧ (fun n => (Lit.int .i64 n).wf = true) x.f1
theorem opens46 : Opens 46 k46 b46 := by
  intro H enc w base spare held fuel cs x hx
  obtain ⟨xs, m, rfl, rfl, hc, hl, hi⟩ := DataW.trod_array Try.underlying46 hx
  have hc' : cs.length = 2 := hc.trans (by kernel_rfl)
  have hl' : xs.length = 2 := hl
  obtain ⟨c0, c1, rfl⟩ : ∃ c0 c1, cs = [c0, c1] := by
    match cs, hc' with
    | [c0, c1], _ => exact ⟨c0, c1, rfl⟩
  obtain ⟨x0, x1, rfl⟩ : ∃ x0 x1, xs = [x0, x1] := by
    match xs, hl' with
    | [x0, x1], _ => exact ⟨x0, x1, rfl⟩
  have z0 : Try.prog.cellsOf 3 = 1 := by kernel_rfl
  have h0 := hi 0 (by decide)
  rw [z0] at h0
  obtain ⟨a0, K0, B0⟩ := (opens_int (k := .i64) Try.underlying3) enc w base spare held m [c0] x0 h0
  have z1 : Try.prog.cellsOf 3 = 1 := by kernel_rfl
  have h1 := hi 1 (by decide)
  rw [z1] at h1
  obtain ⟨a1, K1, B1⟩ := (opens_int (k := .i64) Try.underlying3) enc w base spare held m [c1] x1 h1
  exact ⟨⟨a0, a1⟩, ⟨[c0], [c1], rfl, K0, K1⟩, ⟨B0, B1⟩⟩
end Go.Proofs.Ytokilodeihocjaa.A
