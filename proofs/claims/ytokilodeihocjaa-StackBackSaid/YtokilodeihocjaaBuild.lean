/- stack.Build: a stack of texts and pairs of numbers, built in two builders: the contract of the Go function. -/
import Derived.Test.YtokilodeihocjaaBuildDefs
namespace Go.Proofs.Ytokilodeihocjaa.H
open Go.RowKit Go.Proofs.Flat Go.Proofs.YtokilodeihocjaaW.PrintWords Go.Proofs.YtokilodeihocjaaW.PrintLast Go.Proofs.YtokilodeihocjaaW.PrintMore Go.Proofs.Ytokilodeihocjaa.A
set_option linter.unusedVariables false
set_option linter.unusedSimpArgs false

theorem IsB.fresh {B b : Nat} {W : World} (hB : B ≤ b) (hbk : W.heap[b]? = some (.cells #[.pointer none, .slice none 0 0] 60 (0, 0))) : IsB B b (Lib.byteCells []) W :=
  .inl ⟨hB, .slice none 0 0, hbk, World.ownsRow_nil _ _ _ _, by simp [Value.ownBlock]⟩
/-- What holds all the while. -/
structure BI (w : World) (b1 b2 : Nat) (xs : List Int) (es : List UInt8) (W : World) : Prop where
  bel : Below w.heap.size w W
  two : Two w.heap.size b1 b2 (numB xs) es W
variable {w : World} {b1 b2 : Nat} {xs : List Int} {es : List UInt8} {W : World}
theorem BI.start (w w2 : World) (hb : Below w.heap.size w w2) : BI w w2.heap.size (w2.heap.size + 1) [] [] ((w2.alloc (.cells #[.pointer none, .slice none 0 0] 60)).alloc (.cells #[.pointer none, .slice none 0 0] 60)) := by
  have h1 : ((w2.alloc (.cells #[.pointer none, .slice none 0 0] 60)).alloc (.cells #[.pointer none, .slice none 0 0] 60)).heap[w2.heap.size]? = some (.cells #[.pointer none, .slice none 0 0] 60 (0, 0)) := blk_alloc (blk_new w2 _) _
  have h2 : ((w2.alloc (.cells #[.pointer none, .slice none 0 0] 60)).alloc (.cells #[.pointer none, .slice none 0 0] 60)).heap[w2.heap.size + 1]? = some (.cells #[.pointer none, .slice none 0 0] 60 (0, 0)) := by
    have := blk_new (w2.alloc (.cells #[.pointer none, .slice none 0 0] 60)) (.cells #[.pointer none, .slice none 0 0] 60)
    simpa using this
  refine ⟨(hb.alloc hb.size _).alloc (by have := hb.size; simp; omega) _, IsB.fresh hb.size h1, IsB.fresh (by have := hb.size; omega) h2, by omega, fun k e => ?_⟩
  rw [rowOf_at h1] at e
  simp [Value.ownBlock] at e
theorem BI.step (h : BI w b1 b2 xs es W) {W' : World} (hb : Below W.heap.size W W') : BI w b1 b2 xs es W' := ⟨below_then h.bel h.bel.size hb, h.two.below hb⟩
theorem BI.drawn (h : BI w b1 b2 xs es W) {W' : World} (hd : Drawn0 W W') : BI w b1 b2 xs es W' := by
  obtain ⟨n, rfl⟩ := hd.out
  exact h.step (pw_below_drewN (Below.refl _ _) n)

theorem BI.Len (h : BI w b1 b2 xs es W) : Calls Try.prog 26 #[.pointer (some ⟨b2, 0, none⟩)] W fun e w' => e = .returned (.int .i64 es.length) ∧ W = w' := by
  refine (Try.Builder_Len _ _ _ _ h.two.two).mono ?_
  rintro e w' ⟨rfl, rfl⟩
  exact ⟨by rw [byteCells_length], rfl⟩
theorem BI.put (h : BI w b1 b2 xs es W) (n : Int) (hlen : xs.length ≤ 8796093022208) : Calls Try.prog 22 #[.int .i64 n, .pointer (some ⟨b1, 0, none⟩)] W fun e w' => e = .returned (.tuple #[]) ∧ (BI w b1 b2 (xs ++ [n]) es w' ∧ BKept W w' b1) := by
  refine (put_calls h.two n hlen h.bel.size).mono ?_
  rintro e w' ⟨rfl, h1, h2, h3⟩
  exact ⟨rfl, ⟨h.bel.trans h2, h1⟩, h3⟩
theorem BI.write (h : BI w b1 b2 xs es W) (s : ByteArray) (hlen : es.length + s.size ≤ 140737488355328) : Calls Try.prog 23 #[.pointer (some ⟨b2, 0, none⟩), .string s] W fun e w' => ∃ n : Int, e = .returned (.tuple #[.int .i64 n, .nilIface]) ∧ BI w b1 b2 xs (es ++ bytesL s) w' := by
  refine (write1_calls h.two.swap s hlen h.bel.size).mono ?_
  rintro e w' ⟨rfl, h1, h2, h3⟩
  exact ⟨_, rfl, h.bel.trans h2, h1.swap⟩
theorem fillS_size (s : ByteArray) (n : Int) : (fillS s n).size = n.toNat := by
  unfold fillS
  split
  · rw [ByteArray.size_extract]; omega
  · rw [ByteArray.size_append]
    show s.size + (List.replicate _ (0 : UInt8)).toArray.size = _
    simp
    omega
/-- A row of pairs under a write to the first builder. -/
theorem pairs_keep {base : Nat} {ok : Nat → Prop} {v : Value} {l : List Pr} {W W' : World} (hr : Kd.R kPr 48 W base ok v l) (hk : BKept W W' b1) (h : BI w b1 b2 xs es W) (hb : b1 < base) : Kd.R kPr 48 W' base (fun _ => True) v l := by
  refine Kd.R_mono (ok := fun k => ok k ∧ base ≤ k ∧ k < W.heap.size ∧ ∃ q, q ∈ 48 :: kPr.E ∧ ∃ cells, W.heap[k]? = some (.cells cells q (0, 0))) (Kd.R_step (Kd.R_bound hr) ?_) fun _ _ => trivial
  rintro k ⟨_, h1, h2, q, hq, cells, hc⟩ _
  refine (hk.other h.two.one hc ?_ (by omega)).trans hc.symm
  have : ∀ q, q ∈ 48 :: kPr.E → q ≠ 5 := by
    intro q hq
    simp [kPr, k48, Kd.iso, Kd.pair, Kd.int, Kd.scalar] at hq
    subst hq
    decide
  exact this q hq

set_option maxHeartbeats 4000000 in
set_option maxRecDepth 100000 in
theorem stack_Build.calls (a0 : Int) (A1 : Option Addr) (c1 : Nat) (l1 : List ByteArray) (A2 : Option Addr) (c2 : Nat) (l2 : List ByteArray) (A3 : Option Addr) (c3 : Nat) (l3 : List Pr) (r1 : Int) (r2 : ByteArray) (r3 : Int) (w : World)
    (hr1 : Kd.C Kd.string w A1 l1.length l1) (hc1 : l1.length ≤ c1) (hr2 : Kd.C Kd.string w A2 l2.length l2) (hc2 : l2.length ≤ c2) (hr3 : Kd.C kPr w A3 l3.length l3) (hc3 : l3.length ≤ c3) (h : stack_Build.f a0 l1 l2 l3 = some (r1, r2, r3)) :
    Calls Try.prog 10 #[.int .i64 a0, .slice A1 l1.length c1, .slice A2 l2.length c2, .slice A3 l3.length c3] w fun e w' => e = .returned (.tuple #[.int .i64 r1, .string r2, .int .i64 r3]) ∧ Below w.heap.size w w' := by
  unfold stack_Build.f at h
  by_cases hb : lowL l1 ∧ lowL l2 ∧ l3.length ≤ 8796093022208
  · rw [if_pos hb] at h
    obtain ⟨hb1, hb2, hb3⟩ := hb
    have hfin := Option.some.inj h
    clear h
    have bad : a0 < 0 ∨ 262144 < a0 ∨ a0 % 16 ≠ 0 ∨ mayB l1 l2 l3 = false → 0 = r1 ∧ ⟨#[]⟩ = r2 ∧ 1 = r3 := fun hc => by
      rw [buildR, if_pos hc] at hfin
      simpa using hfin
    have BAD := Lib.hid bad; clear bad
    by_cases p1 : a0 < 0
    · have d1 : decide (a0 < 0) = true := decide_eq_true p1
      obtain ⟨rfl, rfl, rfl⟩ := BAD.out (.inl p1)
      clear hfin BAD p1
      go_enter Try.func10, Try.ntmps10
      go_wp2_with fail
      go_ret3
      exact ⟨rfl, Below.refl _ _⟩
    · have d1 : decide (a0 < 0) = false := decide_eq_false p1
      by_cases p2 : 262144 < a0
      · have d2 : decide (262144 < a0) = true := decide_eq_true p2
        obtain ⟨rfl, rfl, rfl⟩ := BAD.out (.inr (.inl p2))
        clear hfin BAD
        go_enter Try.func10, Try.ntmps10
        go_wp2_with fail
        go_ret3
        exact ⟨rfl, Below.refl _ _⟩
      · have d2 : decide (262144 < a0) = false := decide_eq_false p2
        have g0 : 0 ≤ a0 := by omega
        have g1 : a0 ≤ 262144 := by omega
        by_cases p3 : a0 % 16 = 0
        · have d3 : (a0 % 16 != 0) = false := by simp [p3]
          have HP3 := Lib.hid p3
          clear p1 p2 p3
          have HMAY := Lib.hid (show stack_may.f l1 l2 l3 = some (mayB l1 l2 l3) from by rw [stack_may.f, if_pos ⟨hb1, hb2, by omega⟩])
          have HR1 := Lib.hid hr1; have HR2 := Lib.hid hr2; have HR3 := Lib.hid hr3
          have HB1 := Lib.hid hb1; have HB2 := Lib.hid hb2
          clear hr1 hr2 hr3 hb1 hb2
          have HFIN := Lib.hid hfin
          clear hfin
          cases hmv : mayB l1 l2 l3 with
          | false =>
            obtain ⟨rfl, rfl, rfl⟩ := BAD.out (.inr (.inr (.inr hmv)))
            rw [hmv] at HMAY
            clear BAD hmv HFIN
            go_enter Try.func10, Try.ntmps10
            go_wp2_with fail
            refine (stack_may.calls A1 c1 l1 A2 c2 l2 A3 c3 l3 false _ HR1.out hc1 HR2.out hc2 HR3.out hc3 HMAY.out).mono ?_
            rintro e w1 ⟨rfl, hbl⟩
            go_wp2_with fail
            go_ret3
            exact ⟨rfl, hbl⟩
          | true =>
            rw [hmv] at HMAY
            have HMV := Lib.hid hmv
            clear hmv
            have HSZ := Lib.hid (Size_told l1 l2 l3 HB1.out HB2.out hb3 (l1.length + l2.length + 1) (by omega) (by omega))
            have hnz := HFIN.out
            rw [buildR, if_neg (by rw [HMV.out, HP3.out]; simp; omega)] at hnz
            have HN := Lib.hid hnz
            clear hnz HFIN BAD
            have ht1 := textsN_eq l1
            have ht2 := textsN_eq l2
            have hs0 : textsN l1 + textsN l2 + 8 * (l1.length + l2.length) + 16 * l3.length + 40 ≤ sizeN l1 l2 l3 := by unfold sizeN; omega
            generalize hSN : sizeN l1 l2 l3 = n at *
            have hj1 : l1.length ≤ textsN l1 := by omega
            have hj2 : l2.length ≤ textsN l2 := by omega
            have HSN := Lib.hid hSN
            clear hSN ht1 ht2
            by_cases p4 : 1024 < (n : Int)
            · have d4 : decide (1024 < (n : Int)) = true := decide_eq_true p4
              obtain ⟨rfl, rfl, rfl⟩ : 0 = r1 ∧ ⟨#[]⟩ = r2 ∧ 11 = r3 := by
                have := HN.out
                rw [if_pos (.inl p4)] at this
                simpa using this
              clear p4 HN
              go_enter Try.func10, Try.ntmps10
              go_wp2_with fail
              refine (stack_may.calls A1 c1 l1 A2 c2 l2 A3 c3 l3 true _ HR1.out hc1 HR2.out hc2 HR3.out hc3 HMAY.out).mono ?_
              rintro e w1 ⟨rfl, hbl⟩
              go_wp2_with fail
              refine (stack_Size.calls (l1.length + l2.length + 1) A1 c1 l1 A2 c2 l2 A3 c3 l3 (n : Int) _ (Kd.C_below HR1.out hbl) hc1 (Kd.C_below HR2.out hbl) hc2 (Kd.C_below HR3.out hbl) hc3 HSZ.out).mono ?_
              rintro e w2 ⟨rfl, hd⟩
              have hbl2 : Below w.heap.size w w2 := by obtain ⟨m, rfl⟩ := hd.out; exact pw_below_drewN hbl m
              clear hd hbl
              go_wp2_with fail
              go_ret3
              exact ⟨rfl, hbl2⟩
            · have d4 : decide (1024 < (n : Int)) = false := decide_eq_false p4
              by_cases p5 : a0 < (n : Int)
              · have d5 : decide (a0 < (n : Int)) = true := decide_eq_true p5
                obtain ⟨rfl, rfl, rfl⟩ : 0 = r1 ∧ ⟨#[]⟩ = r2 ∧ 11 = r3 := by
                  have := HN.out
                  rw [if_pos (.inr p5)] at this
                  simpa using this
                clear p4 p5 HN
                go_enter Try.func10, Try.ntmps10
                go_wp2_with fail
                refine (stack_may.calls A1 c1 l1 A2 c2 l2 A3 c3 l3 true _ HR1.out hc1 HR2.out hc2 HR3.out hc3 HMAY.out).mono ?_
                rintro e w1 ⟨rfl, hbl⟩
                go_wp2_with fail
                refine (stack_Size.calls (l1.length + l2.length + 1) A1 c1 l1 A2 c2 l2 A3 c3 l3 (n : Int) _ (Kd.C_below HR1.out hbl) hc1 (Kd.C_below HR2.out hbl) hc2 (Kd.C_below HR3.out hbl) hc3 HSZ.out).mono ?_
                rintro e w2 ⟨rfl, hd⟩
                have hbl2 : Below w.heap.size w w2 := by obtain ⟨m, rfl⟩ := hd.out; exact pw_below_drewN hbl m
                clear hd hbl
                go_wp2_with fail
                go_ret3
                exact ⟨rfl, hbl2⟩
              · have d5 : decide (a0 < (n : Int)) = false := decide_eq_false p5
                obtain ⟨rfl, rfl, rfl⟩ : a0 - (n : Int) = r1 ∧ builtS a0 l1 l2 l3 = r2 ∧ 0 = r3 := by
                  have := HN.out
                  rw [if_neg (by omega)] at this
                  simpa using this
                have g2 : n ≤ 1024 := by omega
                have g3 : (n : Int) ≤ a0 := by omega
                clear p4 p5 HN
                have HT1 := Lib.hid (texts_told l1 HB1.out (l1.length + l2.length + 1) (by omega))
                have HT2 := Lib.hid (texts_told l2 HB2.out (l1.length + l2.length + 1) (by omega))
                have hmf : ∀ (fn : Fn) (first cap : Array Value) (w : World), (Instr.makeFunc fn first cap).run Try.prog w = .ok (.func fn first cap) w := fun _ _ _ _ => rfl
                have IDX : ∀ k : Nat, k < 2 → ∃ A c l, (∀ W, (Instr.index 68 (.agg #[.slice A1 l1.length c1, .slice A2 l2.length c2]) (.int .i64 (k : Int))).run Try.prog W = .ok (.slice A l.length c) W) ∧ Kd.C Kd.string w A l.length l ∧ l.length ≤ c ∧ l = pick2 l1 l2 k := by
                  intro k hk
                  match k, hk with
                  | 0, _ => exact ⟨A1, c1, l1, fun W => two_0 undef undef W .., HR1.out, hc1, rfl⟩
                  | 1, _ => exact ⟨A2, c2, l2, fun W => two_1 undef undef W .., HR2.out, hc2, rfl⟩
                have HIDX := Lib.hid IDX
                clear IDX
                have hu := Try.underlying48
                generalize hTN1 : textsN l1 = t1 at *
                generalize hTN2 : textsN l2 = t2 at *
                have HTN1 := Lib.hid hTN1; have HTN2 := Lib.hid hTN2
                clear hTN1 hTN2
                go_enter Try.func10, Try.ntmps10
                go_wp2_with fail
                refine (stack_may.calls A1 c1 l1 A2 c2 l2 A3 c3 l3 true _ HR1.out hc1 HR2.out hc2 HR3.out hc3 HMAY.out).mono ?_
                rintro e w1 ⟨rfl, hbl⟩
                go_wp2_with fail
                refine (stack_Size.calls (l1.length + l2.length + 1) A1 c1 l1 A2 c2 l2 A3 c3 l3 (n : Int) _ (Kd.C_below HR1.out hbl) hc1 (Kd.C_below HR2.out hbl) hc2 (Kd.C_below HR3.out hbl) hc3 HSZ.out).mono ?_
                rintro e w2 ⟨rfl, hd⟩
                have hbl2 : Below w.heap.size w w2 := by obtain ⟨m, rfl⟩ := hd.out; exact pw_below_drewN hbl m
                clear hd hbl
                go_wp2_with fail
                have HI0 := BI.start w w2 hbl2
                generalize ((w2.alloc (.cells #[.pointer none, .slice none 0 0] 60)).alloc (.cells #[.pointer none, .slice none 0 0] 60)) = W0 at *
                have hb1 : w2.heap.size < W0.heap.size := by
                  obtain ⟨_, cs, hc⟩ := HI0.two.one.at_blk
                  exact blk_lt hc
                refine (stack_texts.calls (l1.length + l2.length + 1) A1 c1 l1 (t1 : Int) _ (Kd.C_below HR1.out HI0.bel) hc1 HT1.out).mono ?_
                rintro e w3 ⟨rfl, hd⟩
                have HI1 := HI0.drawn hd
                have hb3' : w2.heap.size < w3.heap.size := by obtain ⟨m, rfl⟩ := hd.out; exact hb1
                clear hd HI0 hb1
                go_wp2_with fail
                refine (stack_texts.calls (l1.length + l2.length + 1) A2 c2 l2 (t2 : Int) _ (Kd.C_below HR2.out HI1.bel) hc2 HT2.out).mono ?_
                rintro e w4 ⟨rfl, hd⟩
                have HI2 := HI1.drawn hd
                clear hd HI1 hb3'
                go_wp2_with fail
                refine (HI2.put _ (by simp)).mono ?_
                rintro e w5 ⟨rfl, HI3, _⟩
                clear HI2
                have HI4 : BI w w2.heap.size (w2.heap.size + 1) (numsTo a0 l1 l2 0) (endTo l1 l2 0) w5 := by simpa [numsTo, endTo] using HI3
                clear HI3
                generalize w2.heap.size = b at *
                go_wp2_with fail
                go_loopw [66] (fun i wr => ∃ k : Nat, k ≤ 2 ∧ i = .int .i64 k ∧ BI w b (b + 1) (numsTo a0 l1 l2 k) (endTo l1 l2 k) wr) (fun i _ => 2 - (intOf i).toNat)
                case atStart => exact ⟨0, by omega, rfl, HI4⟩
                case round =>
                  obtain ⟨k, hk, rfl, HI⟩ := hrel
                  clear HI4
                  have hnl := numsTo_length a0 l1 l2 k
                  by_cases hlt : k < 2
                  · obtain ⟨A, c, l, hix, hrl, hcl, hle⟩ := HIDX.out k hlt
                    have hel : (endTo l1 l2 k).length + textsN l ≤ 1024 := by
                      have := endTo_le l1 l2 k hlt
                      rw [← hle, HTN1.out, HTN2.out] at this
                      omega
                    have hlen : l.length ≤ 1024 := by have := textsN_eq l; omega
                    have hel2 : (endTo l1 l2 k).length + textsN l ≤ t1 + t2 := by
                      have := endTo_le l1 l2 k hlt
                      rw [← hle, HTN1.out, HTN2.out] at this
                      exact this
                    have HIX := Lib.hid hix
                    have HRL := Lib.hid hrl
                    have HLE := Lib.hid hle
                    clear hrl hle hix
                    have hix := HIX.out
                    have hdk : decide ((k : Int) < 2) = true := decide_eq_true (by omega)
                    generalize hNK : numsTo a0 l1 l2 k = nk at *
                    generalize hEK : endTo l1 l2 k = ek at *
                    have HNK := Lib.hid hNK; have HEK := Lib.hid hEK
                    clear hNK hEK
                    go_wp2_with fail
                    clear hix
                    obtain ⟨wo, rfl⟩ : ∃ wo : World, wo = wr := ⟨_, rfl⟩
                    go_loopw [71] (fun i wr => ∃ j : Nat, j ≤ l.length ∧ i = .int .i64 j ∧ BI w b (b + 1) (nk ++ places (at0 a0 l1 l2 + ek.length) (l.take j)) (ek ++ endL (l.take j)) wr) (fun i _ => l.length - (intOf i).toNat)
                    case atStart => exact ⟨0, Nat.zero_le _, rfl, by simpa [places, endL] using HI⟩
                    case round =>
                      obtain ⟨j, hj, rfl, HJ⟩ := hrel
                      clear HI
                      by_cases hlj : j < l.length
                      · have hk0 : (j : Int) < (l.length : Int) := by omega
                        obtain ⟨ad0, rfl, hx0⟩ := (Kd.reads_of_C (d := ByteArray.empty) (Kd.C_below HRL.out HJ.bel)).at_ j (by omega) hk0
                        rw [rdOf, Int.toNat_natCast] at hx0
                        have hpt := places_take l j hlj (at0 a0 l1 l2 + ek.length)
                        have het := endL_take l j hlj
                        have hle1 := endTake_le l j
                        have hle2 := endTake_le l (j + 1)
                        have hle3 : (endL (l.take j)).length + ((l.getD j ByteArray.empty).size + 1) = (endL (l.take (j + 1))).length := by rw [het]; simp [bytesL_length]
                        have hpl : (places (at0 a0 l1 l2 + ek.length) (l.take j)).length ≤ 1024 := by rw [places_length, List.length_take]; omega
                        generalize hX : l.getD j ByteArray.empty = x at *
                        have hxs : x.size + 1 ≤ 1024 := by omega
                        have hxs2 : x.size + 1 ≤ 9223372036854775807 := by omega
                        have hES : (endL (l.take j)).length ≤ textsN l := by omega
                        have hES2 : (endL (l.take j)).length + (x.size + 1) ≤ textsN l := by omega
                        generalize hPJ : places (at0 a0 l1 l2 + ek.length) (l.take j) = pj at *
                        generalize hEJ : endL (l.take j) = ej at *
                        have HX := Lib.hid hX; have HPT := Lib.hid hpt; have HET := Lib.hid het; have HPJ := Lib.hid hPJ; have HEJ := Lib.hid hEJ
                        clear hX hpt het hPJ hEJ hle3
                        have hnk : (nk ++ pj).length ≤ 2048 := by rw [List.length_append]; omega
                        have hek : (ek ++ ej).length ≤ t1 + t2 := by rw [List.length_append]; omega
                        have HSZ1 : Hid ((ek ++ ej).length + (x ++ (⟨#[0]⟩ : ByteArray)).size ≤ 140737488355328) := Lib.hid (by
                          rw [ByteArray.size_append, show (⟨#[0]⟩ : ByteArray).size = 1 from rfl]
                          omega)
                        go_wp2_with fail
                        refine HJ.Len.mono ?_
                        rintro e w6 ⟨rfl, rfl⟩
                        go_wp2_with fail
                        clear hx0
                        refine (HJ.put _ (by omega)).mono ?_
                        rintro e w7 ⟨rfl, HJ1, _⟩
                        clear HJ
                        go_wp2_with fail
                        refine (HJ1.write _ ?hsz).mono ?_
                        case hsz => exact HSZ1.out
                        rintro e w8 ⟨n8, rfl, HJ2⟩
                        clear HJ1
                        have hnx : nk ++ places (at0 a0 l1 l2 + ek.length) (l.take (j + 1)) = nk ++ pj ++ [a0 - (t1 : Int) - (t2 : Int) + ((ek.length : Int) + (ej.length : Int))] := by
                          rw [HPT.out, List.append_assoc]
                          congr 3
                          rw [at0, HTN1.out, HTN2.out]
                          omega
                        have hex : ek ++ endL (l.take (j + 1)) = ek ++ ej ++ bytesL (x ++ (⟨#[0]⟩ : ByteArray)) := by
                          rw [HET.out, List.append_assoc]
                          congr 2
                        rw [← hnx, ← hex] at HJ2
                        clear hnx hex
                        go_wp2_with fail
                        go_roundw
                        case measure => simp [intOf]; omega
                        case rel => first | exact ⟨j + 1, by omega, by go_num, HJ2⟩ | ((repeat apply Exists.intro); exact ⟨⟨j + 1, by omega, by go_num, HJ2⟩, rfl⟩)
                      · obtain rfl : j = l.length := by omega
                        rw [List.take_length] at HJ
                        have hpl : (places (at0 a0 l1 l2 + ek.length) l).length = l.length := places_length l _
                        have HPL := Lib.hid hpl
                        clear hpl
                        go_wp2_with fail
                        refine (HJ.put _ (by rw [List.length_append, HPL.out]; omega)).mono ?_
                        rintro e w6 ⟨rfl, HJ1, _⟩
                        have HN2 : BI w b (b + 1) (numsTo a0 l1 l2 (k + 1)) (endTo l1 l2 (k + 1)) w6 := by
                          rw [numsTo_succ a0 l1 l2 k hlt, endTo_succ l1 l2 k hlt, HNK.out, HEK.out, ← HLE.out, ← List.append_assoc]
                          exact HJ1
                        clear HJ HJ1
                        go_wp2_with fail
                        go_roundw
                        case measure => simp [intOf]; omega
                        case rel => first | exact ⟨k + 1, by omega, by go_num, HN2⟩ | ((repeat apply Exists.intro); exact ⟨⟨k + 1, by omega, by go_num, HN2⟩, rfl⟩)
                  · obtain rfl : k = 2 := by omega
                    have hl3 : l3.length ≤ 64 := by omega
                    have hel : (endTo l1 l2 2).length = t1 + t2 := by
                      rw [← HTN1.out, ← HTN2.out]
                      simp [endTo, textsN]
                    have hbw : b < wr.heap.size := by
                      obtain ⟨_, cs, hc⟩ := HI.two.one.at_blk
                      exact blk_lt hc
                    generalize hNK : numsTo a0 l1 l2 2 = nk at *
                    generalize hEK : endTo l1 l2 2 = ek at *
                    have hnk1 : 1 ≤ nk.length := by rw [← hNK, numsTo]; simp
                    have HNK := Lib.hid hNK; have HEK := Lib.hid hEK; have HEL := Lib.hid hel
                    clear hNK hEK hel
                    go_wp2_with (at_builtin; refine Kd.R_append_rows kPr (Rr := kPr.K wr) (w0 := wr) wr.heap.size rfl (.const (.slice none 0 0)) (.tmp 87) 23 48 (.agg #[.int .i64 0, .int .i64 0]) 16 rfl Try.underlying23 info48 rfl (by decide) (by omega) (.slice none 0 0) ([] : List Pr) l3 A3 l3.length c3 (fun _ => True) (fun _ => False) rfl rfl (Kd.R_nil ..) ?aR ?aK (fun _ h => h.elim) (fun _ _ => trivial) (Below.refl _ _) (Nat.le_refl _) ?aL ?_)
                    case aR => exact Kd.C_below HR3.out HI.bel
                    case aK => intro x cs hx; rw [k48_open hx]; exact k48_mkM _ _ _ _
                    case aL => simp; omega
                    intro v1 w6 HO1 hb6 hg6 hat6
                    clear hg6 hat6
                    have hsz6 : wr.heap.size ≤ w6.heap.size := hb6.size
                    go_wp2_with (at_builtin; refine Kd.R_append kPr (w0 := wr) wr.heap.size rfl (.tmp 88) (.tmp 90) 23 48 (.agg #[.int .i64 0, .int .i64 0]) 16 rfl Try.underlying23 info48 rfl (by decide) (by omega) v1 ([] ++ l3) zPr [.int .i64 0, .int .i64 0] (fun _ => True) (fun _ => False) rfl rfl (k48_mkM _ _ _ _) (fun _ h => h.elim) (fun _ _ => trivial) HO1 hb6 hsz6 ?aL ?_)
                    case aL => simp; omega
                    intro v2 w7 HO2 hb7 hg7 hat7
                    clear hg7 hat7 HO1 hb6 hsz6
                    have HI6 := HI.step hb7
                    have hbs : b < wr.heap.size := hbw
                    clear hb7 HI hbw
                    have HO3 : Kd.R kPr 48 w7 wr.heap.size (fun _ => True) v2 (l3 ++ [zPr]) := by simpa using HO2
                    clear HO2
                    have hLl : (l3 ++ [zPr]).length ≤ 65 := by simp; omega
                    have hnk2 : nk.length ≤ 2048 := by omega
                    generalize hL : l3 ++ [zPr] = L at *
                    have HL := Lib.hid hL
                    clear hL
                    obtain ⟨A, c, rfl, hcL, hCL⟩ := Kd.R_reads HO3
                    have HCL := Lib.hid hcL
                    clear hCL hcL
                    generalize wr.heap.size = base at *
                    go_wp2_with fail
                    obtain ⟨wo, rfl⟩ : ∃ wo : World, wo = w7 := ⟨_, rfl⟩
                    go_loopw [93] (fun i wr => ∃ j : Nat, j ≤ L.length ∧ i = .int .i64 j ∧ BI w b (b + 1) (nk ++ pairL (L.take j)) ek wr ∧ Kd.R kPr 48 wr base (fun _ => True) (.slice A L.length c) L) (fun i _ => L.length - (intOf i).toNat)
                    case atStart => exact ⟨0, Nat.zero_le _, rfl, by simpa [pairL] using HI6, HO3⟩
                    case round =>
                      obtain ⟨j, hj, rfl, HJ, HR⟩ := hrel
                      clear HI6 HO3
                      by_cases hlj : j < L.length
                      · have hk0 : (j : Int) < (L.length : Int) := by omega
                        have hCj : Kd.C kPr wr A L.length L := (Kd.R_reads' HR).2.2
                        obtain ⟨ad0, rfl, hx0, hx1⟩ := at_T48 hCj j (by omega) hk0
                        clear hCj
                        have e0 : rd_T48 L (j : Int) = L.getD j zPr := by simp [rd_T48]
                        rw [e0, Int.toNat_natCast] at hx0 hx1
                        clear e0
                        have hpt := pairL_take L j hlj
                        have hpl : (pairL (L.take j)).length ≤ 130 := by rw [pairL_length, List.length_take]; omega
                        generalize hX : L.getD j zPr = x at *
                        generalize hPJ : pairL (L.take j) = pj at *
                        have HX := Lib.hid hX; have HPT := Lib.hid hpt; have HPJ := Lib.hid hPJ
                        clear hX hpt hPJ
                        have hnk : (nk ++ pj).length ≤ 4096 := by rw [List.length_append]; omega
                        go_wp2_with fail
                        clear hx0 hx1
                        have HG : (wr.alloc (.cells #[.int .i64 x.f0, .int .i64 x.f1] 48)).heap[wr.heap.size]? = some (.cells #[.int .i64 x.f0, .int .i64 x.f1] 48 (0, 0)) := blk_new wr _
                        have HJ0 := HJ.step ((Below.refl _ _).alloc (Nat.le_refl _) (.cells #[.int .i64 x.f0, .int .i64 x.f1] 48))
                        have HR0 := Kd.R_alloc HR (.cells #[.int .i64 x.f0, .int .i64 x.f1] 48)
                        have hgb : wr.heap.size ≠ b := by
                          obtain ⟨_, cs, hc⟩ := HJ.two.one.at_blk
                          have := blk_lt hc
                          omega
                        clear HJ HR
                        generalize (wr.alloc (.cells #[.int .i64 x.f0, .int .i64 x.f1] 48)) = W1 at *
                        generalize wr.heap.size = g at *
                        refine (HJ0.put _ (by omega)).mono ?_
                        rintro e w8 ⟨rfl, HJ1, hk8⟩
                        have HR1 := pairs_keep HR0 hk8 HJ0 hbs
                        have HG1 := hk8.other HJ0.two.one HG (by decide) hgb
                        clear HR0 HG hk8 HJ0
                        have hy1 : w8.cell? ⟨g, 1, none⟩ = some (.int .i64 x.f1) := (blk_cell HG1 1).trans rfl
                        go_wp2_with fail
                        clear hy1
                        refine (HJ1.put _ (by rw [List.length_append]; simp; omega)).mono ?_
                        rintro e w9 ⟨rfl, HJ2, hk9⟩
                        have HR2 := pairs_keep HR1 hk9 HJ1 hbs
                        clear HR1 HG1 hk9 HJ1
                        have hnx : nk ++ pairL (L.take (j + 1)) = nk ++ pj ++ [x.f0] ++ [x.f1] := by
                          rw [HPT.out]
                          simp only [List.append_assoc]
                        rw [← hnx] at HJ2
                        clear hnx
                        go_wp2_with fail
                        go_roundw
                        case measure => simp [intOf]; omega
                        case rel => exact ⟨j + 1, by omega, by go_num, HJ2, HR2⟩
                      · obtain rfl : j = L.length := by omega
                        rw [List.take_length] at HJ
                        have hne : numB (nk ++ pairL L) ≠ [] := by
                          intro e
                          have := congrArg List.length e
                          rw [numB_length, List.length_append] at this
                          simp at this
                          omega
                        have hnl : (numB (nk ++ pairL L)).length ≤ 40000 := by rw [numB_length, List.length_append, pairL_length]; omega
                        have hbu : builtS a0 l1 l2 l3 = fillS ⟨(numB (nk ++ pairL L)).toArray⟩ ((n : Int) - (ek.length : Int)) ++ ⟨ek.toArray⟩ := by
                          rw [builtS, numsOf, HNK.out, HEK.out, HL.out, HSN.out]
                        have HBU := Lib.hid hbu
                        clear hbu
                        generalize hNB : numB (nk ++ pairL L) = nb at *
                        have HNE := Lib.hid hne
                        have hek : ek.length ≤ n := by have := HEL.out; omega
                        have hJ1 : IsB w.heap.size b (Lib.byteCells nb) wr := by rw [← hNB]; exact HJ.two.one
                        have hnb0 : (⟨nb.toArray⟩ : ByteArray).size ≤ 140737488355328 := by show nb.toArray.size ≤ _; simp; omega
                        have HNB := Lib.hid hNB; have HNB0 := Lib.hid hnb0
                        clear hne hNB hnb0 HR
                        go_wp2_with fail
                        refine (String_calls _ _ _ _ hJ1 HNE.out).mono ?_
                        rintro e w8 ⟨rfl, hb8, hk8⟩
                        have hT := (HJ.two.keeps hk8).1
                        have hB8 := HJ.bel.trans hb8
                        clear hk8 hb8 hJ1 HJ
                        go_wp2_with fail
                        refine (Try.Builder_Len _ _ _ _ hT).mono ?_
                        rintro e w9 ⟨rfl, rfl⟩
                        rw [byteCells_length]
                        go_wp2_with fail
                        refine (octet_Fill.calls ⟨nb.toArray⟩ ((n : Int) - (ek.length : Int)) (fillS ⟨nb.toArray⟩ ((n : Int) - (ek.length : Int))) _ (by rw [octet_Fill.f, if_pos ⟨by omega, HNB0.out⟩])).mono ?_
                        rintro e w10 ⟨rfl, hb10⟩
                        have hT2 := (hT.below hb10).1
                        have hB10 := below_then hB8 hB8.size hb10
                        have hfs := fillS_size ⟨nb.toArray⟩ ((n : Int) - (ek.length : Int))
                        clear hb10 hT hB8
                        generalize hFS : fillS ⟨nb.toArray⟩ ((n : Int) - (ek.length : Int)) = fs at *
                        have hes : (⟨ek.toArray⟩ : ByteArray).size = ek.length := by show ek.toArray.size = _; simp
                        have hcs : fs.size + (⟨ek.toArray⟩ : ByteArray).size ≤ 9223372036854775807 := by rw [hfs, hes]; omega
                        have HFS := Lib.hid hFS
                        clear hFS hfs hes
                        go_wp2_with fail
                        refine (Try.Builder_String_any _ _ _ _ hT2 hB10.size).mono ?_
                        rintro e w11 ⟨rfl, hb11⟩
                        generalize (⟨ek.toArray⟩ : ByteArray) = es at *
                        go_wp2_with fail
                        go_ret3
                        refine ⟨?_, hB10.trans hb11⟩
                        rw [HBU.out]
                        rfl
        · have d3 : (a0 % 16 != 0) = true := by simpa using p3
          obtain ⟨rfl, rfl, rfl⟩ := BAD.out (.inr (.inr (.inl p3)))
          clear hfin BAD p3 p1 p2
          go_enter Try.func10, Try.ntmps10
          go_wp2_with fail
          go_ret3
          exact ⟨rfl, Below.refl _ _⟩
  · rw [if_neg hb] at h
    cases h
end Go.Proofs.Ytokilodeihocjaa.H
