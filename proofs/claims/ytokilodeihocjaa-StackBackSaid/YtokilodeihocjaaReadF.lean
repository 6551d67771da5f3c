/- stack.Read as a function of the bytes, where it does not panic: its contract. -/
import Derived.Test.YtokilodeihocjaaReader2
namespace Go.Proofs.Ytokilodeihocjaa.H
open Go.RowKit Go.Proofs.Ytokilodeihocjaa.A Go.Proofs.Flat Go.Proofs.YtokilodeihocjaaW.PrintWords Go.Proofs.YtokilodeihocjaaW.PrintLast Go.Proofs.YtokilodeihocjaaW.PrintMore
set_option linter.unusedVariables false
set_option linter.unusedSimpArgs false
/-- The bytes up to a byte 0, of the bytes from p on. -/
def upTo0 : List UInt8 → Option (List UInt8)
  | [] => none
  | b :: l => if b = 0 then some [] else (upTo0 l).map (b :: ·)
theorem upTo0_some : ∀ {l t : List UInt8}, upTo0 l = some t → ∃ post, l = t ++ 0 :: post ∧ (0 : UInt8) ∉ t := by
  intro l
  induction l with
  | nil => intro t h; simp [upTo0] at h
  | cons b l ih =>
    intro t h
    unfold upTo0 at h
    by_cases hb : b = 0
    · rw [if_pos hb] at h
      obtain rfl := Option.some.inj h
      exact ⟨l, by rw [hb]; rfl, by simp⟩
    · rw [if_neg hb] at h
      obtain ⟨s, hs, rfl⟩ := Option.map_eq_some_iff.1 h
      obtain ⟨post, e, hn⟩ := ih hs
      refine ⟨post, by rw [e]; rfl, ?_⟩
      intro hm
      rcases List.mem_cons.1 hm with hm | hm
      · exact hb hm.symm
      · exact hn hm
theorem upTo0_of (t post : List UInt8) (h : (0 : UInt8) ∉ t) : upTo0 (t ++ 0 :: post) = some t := by
  induction t with
  | nil => simp [upTo0]
  | cons b t ih =>
    have hb : b ≠ 0 := fun e => h (by rw [e]; exact List.mem_cons_self)
    rw [List.cons_append, upTo0, if_neg hb, ih (fun hm => h (List.mem_cons_of_mem _ hm))]
    rfl
def rdText (v : ByteArray) (p : Int) : Option ByteArray :=
  if 0 ≤ p ∧ p.toNat ≤ v.size then (upTo0 ((bytesL v).drop p.toNat)).bind fun t => if t.length ≤ 1024 then some ⟨t.toArray⟩ else none else none
def rdList (v : ByteArray) (f : Int) : Nat → Int → Option (List ByteArray)
  | 0, _ => none
  | k + 1, a => (octet_Get.f 9 v (a - f) 8).bind fun r => if r.2 = true then (if r.1 = 0 then some [] else if 0 < r.1 ∧ r.1 ≤ 1099511627776 then (rdText v (r.1 - f)).bind fun x => (rdList v f k (a + 8)).map (x :: ·) else none) else none
def rdPairs (v : ByteArray) (f : Int) : Nat → Int → Option (List Pr)
  | 0, _ => none
  | k + 1, a => (octet_Get.f 9 v (a - f) 8).bind fun r => if r.2 = true then (if r.1 = 0 then some [] else if 0 < r.1 ∧ r.1 ≤ 1099511627776 then (octet_Get.f 9 v (a + 8 - f) 8).bind fun q => if q.2 = true ∧ 0 ≤ q.1 ∧ q.1 ≤ 1099511627776 then (rdPairs v f k (a + 16)).map (⟨r.1, q.1⟩ :: ·) else none else none) else none

/-- What a list's place must have. -/
def OneT (v : ByteArray) (f a : Int) (x : ByteArray) : Prop := ∃ N : Int, octet_Get.f 9 v (a - f) 8 = some (N, true) ∧ 0 < N ∧ N ≤ 1099511627776 ∧ ∃ pre post, bytesL v = pre ++ bytesL x ++ 0 :: post ∧ N = f + pre.length ∧ (0 : UInt8) ∉ bytesL x ∧ x.size ≤ 1024
theorem rdText_some {v : ByteArray} {p : Int} {x : ByteArray} (h : rdText v p = some x) : ∃ pre post, bytesL v = pre ++ bytesL x ++ 0 :: post ∧ p = pre.length ∧ (0 : UInt8) ∉ bytesL x ∧ x.size ≤ 1024 := by
  unfold rdText at h
  by_cases hp : 0 ≤ p ∧ p.toNat ≤ v.size
  · rw [if_pos hp] at h
    obtain ⟨t, ht, h2⟩ := Option.bind_eq_some_iff.1 h
    by_cases hs : t.length ≤ 1024
    · rw [if_pos hs] at h2
      obtain rfl := Option.some.inj h2
      obtain ⟨post, e, hn⟩ := upTo0_some ht
      refine ⟨(bytesL v).take p.toNat, post, ?_, ?_, hn, ?_⟩
      · rw [List.append_assoc, show bytesL ⟨t.toArray⟩ = t from rfl, ← e, List.take_append_drop]
      · rw [List.length_take, bytesL_length]; omega
      · rw [← bytesL_length]; exact hs
    · rw [if_neg hs] at h2
      cases h2
  · rw [if_neg hp] at h
    cases h
theorem rdText_of {v x : ByteArray} {pre post : List UInt8} (hv : bytesL v = pre ++ bytesL x ++ 0 :: post) (hn : (0 : UInt8) ∉ bytesL x) (hs : x.size ≤ 1024) : rdText v pre.length = some x := by
  have hl : v.size = pre.length + x.size + 1 + post.length := by rw [← bytesL_length, hv, ← bytesL_length]; simp; omega
  unfold rdText
  rw [if_pos (by omega), Int.toNat_natCast, hv, List.append_assoc, List.drop_left, upTo0_of _ _ hn]
  simp only [Option.bind_some]
  rw [if_pos (by rw [bytesL_length]; exact hs)]
  rfl
theorem rdList_some {v : ByteArray} {f : Int} : ∀ {k : Nat} {a : Int} {l : List ByteArray}, rdList v f k a = some l → l.length < k ∧ (∀ i : Nat, i < l.length → OneT v f (a + 8 * (i : Int)) (l.getD i ByteArray.empty)) ∧ octet_Get.f 9 v (a + 8 * (l.length : Int) - f) 8 = some (0, true) := by
  intro k
  induction k with
  | zero => intro a l h; simp [rdList] at h
  | succ k ih =>
    intro a l h
    unfold rdList at h
    obtain ⟨⟨N, b⟩, hg, h2⟩ := Option.bind_eq_some_iff.1 h
    cases b with
    | false => simp at h2
    | true =>
      simp only [if_true] at h2
      by_cases h0 : N = 0
      · rw [if_pos h0] at h2
        obtain rfl := Option.some.inj h2
        refine ⟨by simp, fun i hi => absurd hi (by simp), ?_⟩
        rw [show a + 8 * (([] : List ByteArray).length : Int) - f = a - f from by simp, hg, h0]
      · rw [if_neg h0] at h2
        by_cases hN : 0 < N ∧ N ≤ 1099511627776
        · rw [if_pos hN] at h2
          obtain ⟨x, hx, h3⟩ := Option.bind_eq_some_iff.1 h2
          obtain ⟨l', hl', rfl⟩ := Option.map_eq_some_iff.1 h3
          obtain ⟨q1, q2, q3⟩ := ih hl'
          obtain ⟨pre, post, e1, e2, e3, e4⟩ := rdText_some hx
          refine ⟨by simp; omega, fun i hi => ?_, ?_⟩
          · cases i with
            | zero => exact ⟨N, by rw [show a + 8 * ((0 : Nat) : Int) - f = a - f from by omega]; exact hg, hN.1, hN.2, pre, post, e1, by omega, e3, e4⟩
            | succ i =>
              have := q2 i (by simpa using hi)
              rw [show a + 8 * ((i + 1 : Nat) : Int) = a + 8 + 8 * (i : Int) from by omega]
              exact this
          · rw [show a + 8 * ((x :: l').length : Int) - f = a + 8 + 8 * (l'.length : Int) - f from by simp; omega]
            exact q3
        · rw [if_neg hN] at h2
          cases h2
theorem rdList_of {v : ByteArray} {f : Int} : ∀ {l : List ByteArray} {k : Nat} {a : Int}, l.length < k → (∀ i : Nat, i < l.length → OneT v f (a + 8 * (i : Int)) (l.getD i ByteArray.empty)) → octet_Get.f 9 v (a + 8 * (l.length : Int) - f) 8 = some (0, true) → rdList v f k a = some l := by
  intro l
  induction l with
  | nil =>
    intro k a hk _ hf
    obtain ⟨k, rfl⟩ : ∃ q, k = q + 1 := ⟨k - 1, by simp at hk; omega⟩
    rw [show a + 8 * (([] : List ByteArray).length : Int) - f = a - f from by simp] at hf
    rw [rdList, hf]
    rfl
  | cons x l ih =>
    intro k a hk hn hf
    obtain ⟨k, rfl⟩ : ∃ q, k = q + 1 := ⟨k - 1, by simp at hk; omega⟩
    obtain ⟨N, hg, h0, h1, pre, post, e1, e2, e3, e4⟩ := hn 0 (by simp)
    rw [show a + 8 * ((0 : Nat) : Int) - f = a - f from by omega] at hg
    have hr := ih (k := k) (a := a + 8) (by simpa using hk) (fun i hi => by
      have := hn (i + 1) (by simpa using hi)
      rw [show a + 8 * ((i + 1 : Nat) : Int) = a + 8 + 8 * (i : Int) from by omega] at this
      exact this) (by rw [← hf]; congr 1; simp; omega)
    rw [rdList, hg]
    simp only [Option.bind_some, if_true]
    rw [if_neg (by omega), if_pos ⟨h0, h1⟩, show N - f = (pre.length : Int) from by omega, rdText_of (x := x) e1 e3 e4]
    simp only [Option.bind_some]
    rw [hr]
    rfl
def OneP (v : ByteArray) (f a : Int) (x : Pr) : Prop := octet_Get.f 9 v (a - f) 8 = some (x.f0, true) ∧ octet_Get.f 9 v (a + 8 - f) 8 = some (x.f1, true) ∧ 0 < x.f0 ∧ x.f0 ≤ 1099511627776 ∧ 0 ≤ x.f1 ∧ x.f1 ≤ 1099511627776
theorem rdPairs_some {v : ByteArray} {f : Int} : ∀ {k : Nat} {a : Int} {l : List Pr}, rdPairs v f k a = some l → l.length < k ∧ (∀ i : Nat, i < l.length → OneP v f (a + 16 * (i : Int)) (l.getD i zPr)) ∧ octet_Get.f 9 v (a + 16 * (l.length : Int) - f) 8 = some (0, true) := by
  intro k
  induction k with
  | zero => intro a l h; simp [rdPairs] at h
  | succ k ih =>
    intro a l h
    unfold rdPairs at h
    obtain ⟨⟨N, b⟩, hg, h2⟩ := Option.bind_eq_some_iff.1 h
    cases b with
    | false => simp at h2
    | true =>
      simp only [if_true] at h2
      by_cases h0 : N = 0
      · rw [if_pos h0] at h2
        obtain rfl := Option.some.inj h2
        refine ⟨by simp, fun i hi => absurd hi (by simp), ?_⟩
        rw [show a + 16 * (([] : List Pr).length : Int) - f = a - f from by simp, hg, h0]
      · rw [if_neg h0] at h2
        by_cases hN : 0 < N ∧ N ≤ 1099511627776
        · rw [if_pos hN] at h2
          obtain ⟨⟨M, c⟩, hm, h3⟩ := Option.bind_eq_some_iff.1 h2
          by_cases hM : c = true ∧ 0 ≤ M ∧ M ≤ 1099511627776
          · rw [if_pos hM] at h3
            obtain ⟨l', hl', rfl⟩ := Option.map_eq_some_iff.1 h3
            obtain ⟨rfl, m0, m1⟩ := hM
            obtain ⟨q1, q2, q3⟩ := ih hl'
            refine ⟨by simp; omega, fun i hi => ?_, ?_⟩
            · cases i with
              | zero => exact ⟨by rw [show a + 16 * ((0 : Nat) : Int) - f = a - f from by omega]; exact hg, by rw [show a + 16 * ((0 : Nat) : Int) + 8 - f = a + 8 - f from by omega]; exact hm, hN.1, hN.2, m0, m1⟩
              | succ i =>
                have := q2 i (by simpa using hi)
                rw [show a + 16 * ((i + 1 : Nat) : Int) = a + 16 + 16 * (i : Int) from by omega]
                exact this
            · rw [← q3]; congr 1; simp; omega
          · rw [if_neg hM] at h3
            cases h3
        · rw [if_neg hN] at h2
          cases h2
theorem rdPairs_of {v : ByteArray} {f : Int} : ∀ {l : List Pr} {k : Nat} {a : Int}, l.length < k → (∀ i : Nat, i < l.length → OneP v f (a + 16 * (i : Int)) (l.getD i zPr)) → octet_Get.f 9 v (a + 16 * (l.length : Int) - f) 8 = some (0, true) → rdPairs v f k a = some l := by
  intro l
  induction l with
  | nil =>
    intro k a hk _ hf
    obtain ⟨k, rfl⟩ : ∃ q, k = q + 1 := ⟨k - 1, by simp at hk; omega⟩
    rw [show a + 16 * (([] : List Pr).length : Int) - f = a - f from by simp] at hf
    rw [rdPairs, hf]
    rfl
  | cons x l ih =>
    intro k a hk hn hf
    obtain ⟨k, rfl⟩ : ∃ q, k = q + 1 := ⟨k - 1, by simp at hk; omega⟩
    obtain ⟨hg, hm, h0, h1, m0, m1⟩ := hn 0 (by simp)
    rw [show a + 16 * ((0 : Nat) : Int) - f = a - f from by omega] at hg
    rw [show a + 16 * ((0 : Nat) : Int) + 8 - f = a + 8 - f from by omega] at hm
    have hr := ih (k := k) (a := a + 16) (by simpa using hk) (fun i hi => by
      have := hn (i + 1) (by simpa using hi)
      rw [show a + 16 * ((i + 1 : Nat) : Int) = a + 16 + 16 * (i : Int) from by omega] at this
      exact this) (by rw [← hf]; congr 1; simp; omega)
    rw [rdPairs, hg]
    simp only [Option.bind_some, if_true]
    rw [show (x :: l).getD 0 zPr = x from rfl] at h0 h1 m0 m1 hm
    rw [show (x :: l).getD 0 zPr = x from rfl, if_neg (by omega), if_pos ⟨h0, h1⟩, hm]
    simp only [Option.bind_some]
    rw [if_pos ⟨trivial, m0, m1⟩, hr]
    rfl
def stack_Read.f (v : ByteArray) (f sp : Int) : Option (List ByteArray × List ByteArray × List Pr × Bool) :=
  if 0 ≤ f ∧ f ≤ sp ∧ sp ≤ 1099511000000 ∧ v.size ≤ 140737488355328 then
    (rdList v f 129 (sp + 8)).bind fun l0 => (rdList v f 129 (sp + 8 + 8 * (l0.length + 1 : Int))).bind fun l1 => (rdPairs v f 129 (sp + 8 + 8 * (l0.length + 1 : Int) + 8 * (l1.length + 1 : Int))).bind fun l2 =>
      if octet_Get.f 9 v (sp - f) 8 = some ((l0.length : Int), true) ∧ octet_Within.f (sp + 8 + 8 * (l0.length + 1 : Int) + 8 * (l1.length + 1 : Int) + 16 * (l2.length : Int) + 8 - f) 8 v.size = some true then some (l0, l1, l2, true) else none
  else none
theorem stack_Read.sound {v : ByteArray} {f sp : Int} {r1 r2 : List ByteArray} {r3 : List Pr} {r4 : Bool} (h : stack_Read.f v f sp = some (r1, r2, r3, r4)) : Readable v f sp r1 r2 r3 ∧ r4 = true := by
  unfold stack_Read.f at h
  by_cases hb : 0 ≤ f ∧ f ≤ sp ∧ sp ≤ 1099511000000 ∧ v.size ≤ 140737488355328
  · rw [if_pos hb] at h
    obtain ⟨l0, h0, h⟩ := Option.bind_eq_some_iff.1 h
    obtain ⟨l1, h1, h⟩ := Option.bind_eq_some_iff.1 h
    obtain ⟨l2, h2, h⟩ := Option.bind_eq_some_iff.1 h
    by_cases hc : octet_Get.f 9 v (sp - f) 8 = some ((l0.length : Int), true) ∧ octet_Within.f (sp + 8 + 8 * (l0.length + 1 : Int) + 8 * (l1.length + 1 : Int) + 16 * (l2.length : Int) + 8 - f) 8 v.size = some true
    · rw [if_pos hc] at h
      obtain ⟨rfl, rfl, rfl, rfl⟩ : l0 = r1 ∧ l1 = r2 ∧ l2 = r3 ∧ true = r4 := by simpa using h
      obtain ⟨a1, a2, a3⟩ := rdList_some h0
      obtain ⟨b1, b2, b3⟩ := rdList_some h1
      obtain ⟨c1, c2, c3⟩ := rdPairs_some h2
      obtain ⟨x1, x2, x3, x4⟩ := hb
      exact ⟨⟨x1, x2, x3, hc.1, ⟨by omega, x1, by omega, by omega, x4, a2, a3⟩, ⟨by omega, x1, by omega, by omega, x4, b2, b3⟩, ⟨by omega, x1, by omega, by omega, c2, c3, hc.2⟩⟩, rfl⟩
    · rw [if_neg hc] at h
      cases h
  · rw [if_neg hb] at h
    cases h
theorem stack_Read.told {v : ByteArray} {f sp : Int} {l0 l1 : List ByteArray} {l2 : List Pr} (h : Readable v f sp l0 l1 l2) : stack_Read.f v f sp = some (l0, l1, l2, true) := by
  unfold stack_Read.f
  have a := h.a.len; have b := h.e.len; have c := h.x.len
  rw [if_pos ⟨h.f0, h.fs, h.sb, h.a.size⟩, rdList_of (l := l0) (by omega) h.a.num h.a.fin]
  simp only [Option.bind_some]
  rw [rdList_of (l := l1) (by omega) h.e.num h.e.fin]
  simp only [Option.bind_some]
  rw [rdPairs_of (l := l2) (by omega) h.x.num h.x.fin]
  simp only [Option.bind_some]
  rw [if_pos ⟨h.n, h.x.wit⟩]
theorem stack_Read.calls (a0 : ByteArray) (a1 a2 : Int) (r1 r2 : List ByteArray) (r3 : List Pr) (r4 : Bool) (w : World) (h : stack_Read.f a0 a1 a2 = some (r1, r2, r3, r4)) :
    Calls Try.prog 16 #[.string a0, .int .i64 a1, .int .i64 a2] w fun e w' => ∃ v0_ v1_ v2_ : Value, e = .returned (.tuple #[v0_, v1_, v2_, .bool r4]) ∧ Kd.R Kd.string 9 w' w.heap.size (fun k_ => True ∧ some k_ ≠ (v1_ : Value).ownBlock) v0_ r1 ∧ Kd.R Kd.string 9 w' w.heap.size (fun k_ => True ∧ some k_ ≠ (v0_ : Value).ownBlock) v1_ r2 ∧ Kd.R kPr 48 w' w.heap.size (fun _ => True) v2_ r3 ∧ Below w.heap.size w w' := by
  obtain ⟨hr, rfl⟩ := stack_Read.sound h
  refine (Read_calls a0 a1 a2 r1 r2 r3 w hr).mono ?_
  rintro e w' ⟨x0, x1, x2, rfl, ⟨m, hm, h0, h1⟩, h2, hb⟩
  have hx1 := Kd.R_base h1
  refine ⟨x0, x1, x2, rfl, ?_, ?_, h2, hb⟩
  · refine Kd.R_mono h0 fun k hk => ⟨trivial, fun e => ?_⟩
    have := hx1 k e.symm
    omega
  · refine Kd.R_lower (Kd.R_mono (Kd.R_bound h1) fun k hk => ⟨trivial, fun e => ?_⟩) hm
    have := h0.1 k e.symm
    have := hk.2.1
    omega
end Go.Proofs.Ytokilodeihocjaa.H
