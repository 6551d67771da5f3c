/- ElfAny holds: whatever the input, the law tells true, and the input reads as it did. Its conditions: none beyond those of the given statement. -/
import Derived.Test.YtdlgfjefbjkdaaaSame
import Derived.Test.YtdlgfjefbjkdaaaHeader
import Derived.Test.YtdlgfjefbjkdaaaBxFlyleaflaw08Awake
import Derived.Test.YtdlgfjefbjkdaaaBxElfParse
import Derived.Test.YtdlgfjefbjkdaaaAxFlyleaflaw08SpecImage
import Derived.Test.YtdlgfjefbjkdaaaAxFlyleafref01Fill
import Derived.Test.YtdlgfjefbjkdaaaPureElfBack
import Derived.Test.YtdlgfjefbjkdaaaRows
import Derived.Test.YtdlgfjefbjkdaaaOpen
import Derived.WalkKit
import Derived.ProofKit
import Derived.OpenShut
import Derived.ShutString
import Derived.ChangeOld
import Derived.Below
import Derived.SizedLaws
namespace Go.Proofs.Ytdlgfjefbjkdaaa.H
open Go.RowKit Go.Proofs.Ytdlgfjefbjkdaaa.A Go.Proofs.Flat Go.Proofs.YtdlgfjefbjkdaaaW.PrintWords Go.Proofs.YtdlgfjefbjkdaaaW.PrintLast Go.Proofs.YtdlgfjefbjkdaaaW.PrintMore
attribute [local go_sem] max2_int min2_int
set_option linter.unusedVariables false
set_option linter.unusedSimpArgs false
def byteList (s : ByteArray) : List Int := s.data.toList.map fun b => (b.toNat : Int)
/-- A text with another byte at a place. -/
def setByte (s : ByteArray) (p : Nat) (c : Int) : ByteArray := strOfNums ((byteList s).set p c)
/-- Where the law's number stands for a byte. -/
def placeK (at_ n : Int) : Int := Int.tmod (wrap64 (wrap64 (Int.tmod at_ (wrap64 (18 + wrap64 (8 * n))) + 18) + wrap64 (8 * n))) (wrap64 (18 + wrap64 (8 * n)))
def placeOf (k : Int) : Int := if k ≥ 18 then wrap64 (wrap64 (wrap64 (64 + wrap64 (56 * wrap64 (Int.tdiv (wrap64 (k - 18)) 8))) + 24) + Int.tmod (wrap64 (k - 18)) 8) else if k ≥ 12 then wrap64 (wrap64 (58 + k) - 12) else wrap64 (40 + k)
/-- What the law looks at is as it should be. -/
structure ToldAny (k : Nat) (a0 a1 : Int) (qs : List S50) (at_ c : Int) (kind entry : Int) (l : List Seg) (size : Int) (hd s : ByteArray) (k1 e1 : Int) (l1 : List Seg) : Prop where
  aw : flyleaflaw08_awake.f k = some true
  im : flyleaflaw08_Spec_image.f k a0 a1 qs = some (kind, entry, l, size)
  ne : ¬ (l.length : Int) = 0
  hh : elf_Header.f kind entry l = some hd
  fl : flyleafref01_Fill.f hd size = some s
  sz : s.size ≤ 140737488355328
  ln : ¬ (s.size : Int) < wrap64 (64 + wrap64 (56 * (l.length : Int)))
  m0 : ¬ wrap64 (18 + wrap64 (8 * (l.length : Int))) = 0
  p0 : 0 ≤ placeOf (placeK at_ l.length)
  p1 : placeOf (placeK at_ l.length) < s.size
  ps : elf_Parse.f k (setByte s (placeOf (placeK at_ l.length)).toNat c) = some (k1, e1, l1, 0)
  sm : elf_Same.f kind entry l k1 e1 l1 = some true
open Classical in
noncomputable def elfAny.f (k : Nat) (a0 a1 : Int) (qs : List S50) (at_ c : Int) : Option Bool :=
  if (∃ kind entry l size hd s k1 e1 l1, ToldAny k a0 a1 qs at_ c kind entry l size hd s k1 e1 l1) ∨ (flyleaflaw08_awake.f k = some true ∧ ∃ kind entry size, flyleaflaw08_Spec_image.f k a0 a1 qs = some (kind, entry, [], size)) then some true else none
structure AC (w0 : World) (g : Nat) (kind entry : Int) (A : Option Addr) (n c : Nat) (W : World) : Prop where
  bel : Below w0.heap.size w0 W
  bx : W.heap[g]? = some (.cells #[.int .i64 kind, .int .i64 entry, .slice A n c] 28 (0, 0))
section
variable {w0 W W' : World} {g : Nat} {kind entry : Int} {A : Option Addr} {n c : Nat}
theorem AC.step (h : AC w0 g kind entry A n c W) (hb : Below W.heap.size W W') : AC w0 g kind entry A n c W' := ⟨below_then h.bel h.bel.size hb, blk_below h.bx hb⟩
theorem AC.drew (h : AC w0 g kind entry A n c W) : AC w0 g kind entry A n c W.drew := ⟨below_drew h.bel, h.bx⟩
theorem AC.c0 (h : AC w0 g kind entry A n c W) : W.cell? ⟨g, 0, none⟩ = some (.int .i64 kind) := (blk_cell h.bx 0).trans rfl
theorem AC.c1 (h : AC w0 g kind entry A n c W) : W.cell? ⟨g, 1, none⟩ = some (.int .i64 entry) := (blk_cell h.bx 1).trans rfl
theorem AC.c2 (h : AC w0 g kind entry A n c W) : W.cell? ⟨g, 2, none⟩ = some (.slice A n c) := (blk_cell h.bx 2).trans rfl
end
theorem byteList_length (s : ByteArray) : (byteList s).length = s.size := by unfold byteList; simp
set_option maxHeartbeats 16000000 in
set_option maxRecDepth 100000 in
theorem elfAny_walk (k : Nat) (a0_0 a0_1 : Int) (A0_2 : Option Addr) (c0_2 : Nat) (l0_2 : List S50) (a1 a2 : Int) (w : World)
    (hr0_2 : Kd.C k50 w A0_2 l0_2.length l0_2) (hc0_2 : l0_2.length ≤ c0_2) {kind entry size k1 e1 : Int} {l l1 : List Seg} {hd s : ByteArray} (h : ToldAny k a0_0 a0_1 l0_2 a1 a2 kind entry l size hd s k1 e1 l1) :
    Calls Try.prog 7 #[.agg #[.int .i64 a0_0, .int .i64 a0_1, .slice A0_2 l0_2.length c0_2], .int .i64 a1, .int .u8 a2] w fun e w' => e = .returned (.bool true) ∧ Below w.heap.size w w' := by
  obtain ⟨aw, im, ne, hdr, fl, sz, ln, m0, p0, p1, ps, sm⟩ := h
  have hu := Try.underlying28
  have hu2 := Try.underlying24
  have hd1 : ((l.length : Int) == 0) = false := by simpa using ne
  have hd2 : decide ((s.size : Int) < wrap64 (64 + wrap64 (56 * (l.length : Int)))) = false := decide_eq_false ln
  have hd3 : (wrap64 (18 + wrap64 (8 * (l.length : Int))) = 0) = False := eq_false m0
  have AW := Lib.hid aw; have IM := Lib.hid im; have HD := Lib.hid hdr; have FL := Lib.hid fl; have SZ := Lib.hid sz; have P0 := Lib.hid p0; have P1 := Lib.hid p1; have PS := Lib.hid ps; have SM := Lib.hid sm; have HR := Lib.hid hr0_2; have HC := Lib.hid hc0_2
  clear aw im ne hdr fl sz ln m0 p0 p1 ps sm hr0_2 hc0_2
  obtain ⟨ll, hll⟩ : ∃ ll : Nat, ll = l.length := ⟨_, rfl⟩
  obtain ⟨nz, hnz⟩ : ∃ n : Nat, n = s.size := ⟨_, rfl⟩
  rw [← hll, ← hnz] at hd2
  rw [← hll] at hd1 hd3
  have HLL := Lib.hid hll; have HNZ := Lib.hid hnz
  clear hll hnz
  go_enter Try.func7, Try.ntmps7
  go_wp2_with fail
  have HB : Below w.heap.size w (w.alloc (.cells #[.int .i64 a0_0, .int .i64 a0_1, .slice A0_2 l0_2.length c0_2] 24)) := (Below.refl _ _).alloc (Nat.le_refl _) _
  have BP := blk_new w (.cells #[.int .i64 a0_0, .int .i64 a0_1, .slice A0_2 l0_2.length c0_2] 24)
  generalize (w.alloc (.cells #[.int .i64 a0_0, .int .i64 a0_1, .slice A0_2 l0_2.length c0_2] 24)) = W0 at *
  refine (flyleaflaw08_awake.calls k true _ AW.out).mono ?_
  rintro e w1 ⟨rfl, hb1⟩
  replace BP := blk_below BP hb1
  replace HB := below_then HB HB.size hb1
  clear hb1
  have f0 : w1.cell? ⟨w.heap.size, 0, none⟩ = some (.int .i64 a0_0) := (blk_cell BP 0).trans rfl
  have f1 : w1.cell? ⟨w.heap.size, 1, none⟩ = some (.int .i64 a0_1) := (blk_cell BP 1).trans rfl
  have f2 : w1.cell? ⟨w.heap.size, 2, none⟩ = some (.slice A0_2 l0_2.length c0_2) := (blk_cell BP 2).trans rfl
  clear BP
  go_wp2_with fail
  clear f0 f1 f2
  refine (flyleaflaw08_Spec_image.calls k a0_0 a0_1 A0_2 c0_2 l0_2 kind entry l size _ (Kd.C_below HR.out HB) HC.out IM.out).mono ?_
  rintro e w2 ⟨v, rfl, ho, hb1⟩
  replace HB := below_then HB HB.size hb1
  clear hb1
  obtain ⟨Ai, ci, rfl, hlc, hci⟩ := Kd.R_reads ho
  clear ho
  rw [← HLL.out] at hci
  have HCI := Lib.hid hci; have HLC := Lib.hid hlc
  clear hci hlc
  rw [← HLL.out]
  have HE : AC w2 w2.heap.size kind entry Ai ll ci (w2.alloc (.cells #[.int .i64 kind, .int .i64 entry, .slice Ai ll ci] 28)) := ⟨(Below.refl _ _).alloc (Nat.le_refl _) _, blk_new _ _⟩
  go_wp2_with fail
  generalize (w2.alloc (.cells #[.int .i64 kind, .int .i64 entry, .slice Ai ll ci] 28)) = W3 at *
  obtain ⟨g, hg⟩ : ∃ g, g = w2.heap.size := ⟨_, rfl⟩
  rw [← hg] at HE ⊢
  have HG := Lib.hid hg
  clear hg
  have PH : Hid (∀ W, AC w2 g kind entry Ai ll ci W → Calls Try.prog 12 #[.agg #[.int .i64 kind, .int .i64 entry, .slice Ai ll ci]] W fun e w' => e = .returned (.string hd) ∧ Below W.heap.size W w') := Lib.hid (by
    intro W h
    have e := HLL.out
    have C := Kd.C_below HCI.out h.bel
    have L := HLC.out
    subst e
    exact elf_Header.calls kind entry Ai ci l hd W C L HD.out)
  refine (PH.out _ HE).mono ?_
  rintro e w4 ⟨rfl, hb1⟩
  replace HE := HE.step hb1
  clear hb1 PH
  go_wp2_with fail
  refine (flyleafref01_Fill.calls hd size s _ FL.out).mono ?_
  rintro e w5 ⟨rfl, hb1⟩
  replace HE := HE.step hb1
  clear hb1
  obtain ⟨cap, hcap⟩ : ∃ c, c = grownCap w5 s.size 0 5 := ⟨_, rfl⟩
  obtain ⟨W6, hW6⟩ : ∃ W, W = Lib.bytesWorld w5 5 s := ⟨_, rfl⟩
  obtain ⟨gs, hgs⟩ : ∃ g, g = w5.heap.size := ⟨_, rfl⟩
  have hcv : (convert 9 48 (.string s)).run Try.prog w5 = .ok (.slice (some ⟨gs, 0, none⟩) nz cap) W6 := by
    rw [hcap, hW6, hgs, HNZ.out]
    exact Lib.run_convert_string_bytes w5 _ _ 5 s Try.underlying9 Try.underlying48 Try.underlying5
  have HE6 : AC w2 g kind entry Ai ll ci W6 := by
    rw [hW6]
    exact ⟨bytes_below HE.bel HE.bel.size _ s, (Lib.bytesWorld_at_old w5 _ s g (blk_lt HE.bx)).trans HE.bx⟩
  have hne : g ≠ gs := by rw [hgs]; exact Nat.ne_of_lt (blk_lt HE.bx)
  have hge : w2.heap.size ≤ gs := by rw [hgs]; exact HE.bel.size
  obtain ⟨cs, fr, HS, hcs, hfr⟩ : ∃ cs fr, W6.heap[gs]? = some (.cells cs 5 fr) ∧ (∀ i, i < s.size → cs[i]? = some (.int .u8 ((byteList s).getD i 0))) ∧ (∀ i, i < s.size → W6.frozen? ⟨gs, i, none⟩ = false) := by
    have hnew := Lib.bytesWorld_at_new w5 5 s
    rw [← hW6, ← hgs] at hnew
    refine ⟨_, _, hnew, fun i hi => ?_, fun i hi => ?_⟩
    · have h1 : i < s.data.toList.length := by simpa using hi
      have h2 : (byteList s).getD i 0 = ((s.data.toList[i]'h1).toNat : Int) := by
        unfold byteList
        rw [List.getD_eq_getElem?_getD, List.getElem?_map, List.getElem?_eq_getElem h1]
        rfl
      rw [h2]
      unfold Lib.bytesCells
      have h3 : i < s.data.size := by simpa using hi
      rw [Array.getElem?_append_left (by rw [Array.size_map]; exact h3), Array.getElem?_map, Array.getElem?_eq_getElem h3]
      simp
    · have h3 : s.size ≤ (Lib.bytesCells w5 5 s).size := by
        unfold Lib.bytesCells
        rw [Array.size_append, Array.size_map]
        exact Nat.le_add_right _ _
      unfold World.frozen?
      rw [hnew]
      simp
      omega
  clear HE hcap hW6 hgs
  have HNE := Lib.hid hne; have HGE := Lib.hid hge; have HCS := Lib.hid hcs; have HFR := Lib.hid hfr; have HS6 := Lib.hid HS
  clear hne hge hcs hfr HS
  obtain ⟨m, hm⟩ : ∃ m, wrap64 (18 + wrap64 (8 * (ll : Int))) = m := ⟨_, rfl⟩
  rw [hm] at hd3
  obtain ⟨K, hK⟩ : ∃ K, Int.tmod (wrap64 (wrap64 (Int.tmod a1 m + 18) + wrap64 (8 * (ll : Int)))) m = K := ⟨_, rfl⟩
  obtain ⟨P, hP⟩ : ∃ P, P = placeOf K := ⟨_, rfl⟩
  have hKP : placeK a1 l.length = K := by rw [← hK, ← hm, HLL.out]; rfl
  have hP0 : 0 ≤ P := by rw [hP, ← hKP]; exact P0.out
  have hP1 : P < nz := by rw [hP, ← hKP, HNZ.out]; exact P1.out
  have hPb : P.toNat < s.size := by rw [← HNZ.out]; omega
  have hc : W6.cell? ⟨gs, P.toNat, none⟩ = some (.int .u8 ((byteList s).getD P.toNat 0)) := by
    have h1 := HCS.out _ hPb
    have h2 := HS6.out
    unfold World.cell?
    rw [h2]
    exact h1
  have hf : W6.frozen? ⟨gs, P.toNat, none⟩ = false := HFR.out _ hPb
  have hq0 : (P < 0) = False := eq_false (by omega)
  have hq1 : ((nz : Int) ≤ P) = False := eq_false (by omega)
  have hq2 : (0 ≤ P) = True := eq_true hP0
  have hq3 : (P < (nz : Int)) = True := eq_true hP1
  have HP := Lib.hid hP
  obtain ⟨s2, hs2⟩ : ∃ s2, s2 = setByte s P.toNat a2 := ⟨_, rfl⟩
  have hps : elf_Parse.f k s2 = some (k1, e1, l1, 0) := by rw [hs2, hP, ← hKP]; exact PS.out
  obtain ⟨W7, hW7⟩ : ∃ W7, W6.setCell ⟨gs, P.toNat, none⟩ (.int .u8 a2) = W7 := ⟨_, rfl⟩
  have hcv2 : (convert 48 9 (.slice (some ⟨gs, 0, none⟩) nz cap)).run Try.prog W7 = .ok (.string s2) W7 := by
    rw [hs2]
    refine run_convert_bytes_arg W7 _ 5 Try.underlying48 Try.underlying5 gs 0 nz cap _ (by rw [List.length_set, byteList_length, HNZ.out]) (fun i hi => ?_) _ Try.underlying9
    have his : i < s.size := by rw [← HNZ.out]; exact hi
    rw [← hW7, Nat.zero_add]
    unfold World.cell?
    have hs6 : (W6.setCell ⟨gs, P.toNat, none⟩ (.int .u8 a2)).heap[gs]? = some (.cells (cs.setIfInBounds P.toNat (.int .u8 a2)) 5 fr) := by
      have h2 := HS6.out
      simp [World.setCell, Array.getElem?_modify, h2]
    rw [hs6]
    show (cs.setIfInBounds P.toNat (.int .u8 a2))[i]? = _
    rw [Array.getElem?_setIfInBounds, List.getD_eq_getElem?_getD, List.getElem?_set]
    by_cases hpi : P.toNat = i
    · rw [if_pos hpi, if_pos hpi]
      have h3 := HCS.out i his
      have h4 : i < cs.size := by
        by_cases h5 : i < cs.size
        · exact h5
        · rw [Array.getElem?_eq_none (by omega)] at h3; cases h3
      rw [if_pos (by omega), if_pos (by rw [byteList_length]; omega)]
      rfl
    · rw [if_neg hpi, if_neg hpi]
      have h3 := HCS.out i his
      rw [h3, List.getD_eq_getElem?_getD]
  have HE7 : AC w2 g kind entry Ai ll ci W7 := by
    rw [← hW7]
    exact ⟨below_set HE6.bel HGE.out, blk_far HE6.bx HNE.out _⟩
  have HPS := Lib.hid hps
  clear hP hKP hP0 hP1 hPb hs2 hps HE6
  have PS7 : Hid (∀ (v : Value) (A1 : Option Addr) (c1 : Nat) W, Kd.C kSeg W Ai ll l → Kd.C kSeg W A1 l1.length l1 → l1.length ≤ c1 → Calls Try.prog 19 #[.agg #[.int .i64 kind, .int .i64 entry, .slice Ai ll ci], .agg #[.int .i64 k1, .int .i64 e1, .slice A1 l1.length c1]] W fun e w' => e = .returned (.bool true) ∧ Below W.heap.size W w') := Lib.hid (by
    intro v A1 c1 W C0 C1 L1
    have e := HLL.out
    have L := HLC.out
    subst e
    exact elf_Same.calls _ _ _ _ _ _ _ _ _ _ _ _ C0 L C1 L1 SM.out)
  by_cases k12 : 12 ≤ K
  · have t1 : decide (K ≥ 12) = true := decide_eq_true k12
    by_cases k18 : 18 ≤ K
    · have t2 : decide (K ≥ 18) = true := decide_eq_true k18
      have eP : wrap64 (wrap64 (wrap64 (64 + wrap64 (56 * wrap64 (Int.tdiv (wrap64 (K - 18)) 8))) + 24) + Int.tmod (wrap64 (K - 18)) 8) = P := by rw [HP.out]; unfold placeOf; rw [if_pos (by omega)]
      clear k12 k18
      go_wp2_with fail
      clear hc hf hcv2 hcv hW7
      refine (elf_Parse.calls k s2 k1 e1 l1 0 _ HPS.out).mono ?_
      rintro e w8 ⟨v8, rfl, ho8, hb1⟩
      replace HE7 := HE7.step hb1
      clear hb1
      obtain ⟨A8, c8, rfl, hl8, hc8⟩ := Kd.R_reads ho8
      clear ho8
      have HL8 := Lib.hid hl8; have HC8 := Lib.hid hc8
      clear hl8 hc8
      have HE9 : AC w2 g kind entry Ai ll ci (w8.alloc (.cells #[.int .i64 k1, .int .i64 e1, .slice A8 l1.length c8] 28)) := HE7.step ((Below.refl _ _).alloc (Nat.le_refl _) _)
      have f0 := HE9.c0; have f1 := HE9.c1; have f2 := HE9.c2
      have HC9 := Kd.C_below HC8.out (((Below.refl _ w8).alloc (Nat.le_refl _) (.cells #[.int .i64 k1, .int .i64 e1, .slice A8 l1.length c8] 28)))
      have HC9' := Lib.hid HC9
      clear HC9
      go_wp2_with fail
      clear f0 f1 f2
      refine (PS7.out (.int .i64 0) A8 c8 _ (Kd.C_below HCI.out HE9.bel) HC9'.out HL8.out).mono ?_
      rintro e w9 ⟨rfl, hb1⟩
      replace HE9 := HE9.step hb1
      clear hb1
      go_wp2_with fail
      go_ret
      exact ⟨rfl, below_then HB HB.size HE9.bel⟩
    · have t2 : decide (K ≥ 18) = false := decide_eq_false k18
      have eP : wrap64 (wrap64 (58 + K) - 12) = P := by rw [HP.out]; unfold placeOf; rw [if_neg (by omega), if_pos (by omega)]
      clear k12 k18
      go_wp2_with fail
      clear hc hf hcv2 hcv hW7
      refine (elf_Parse.calls k s2 k1 e1 l1 0 _ HPS.out).mono ?_
      rintro e w8 ⟨v8, rfl, ho8, hb1⟩
      replace HE7 := HE7.step hb1
      clear hb1
      obtain ⟨A8, c8, rfl, hl8, hc8⟩ := Kd.R_reads ho8
      clear ho8
      have HL8 := Lib.hid hl8; have HC8 := Lib.hid hc8
      clear hl8 hc8
      have HE9 : AC w2 g kind entry Ai ll ci (w8.alloc (.cells #[.int .i64 k1, .int .i64 e1, .slice A8 l1.length c8] 28)) := HE7.step ((Below.refl _ _).alloc (Nat.le_refl _) _)
      have f0 := HE9.c0; have f1 := HE9.c1; have f2 := HE9.c2
      have HC9 := Kd.C_below HC8.out (((Below.refl _ w8).alloc (Nat.le_refl _) (.cells #[.int .i64 k1, .int .i64 e1, .slice A8 l1.length c8] 28)))
      have HC9' := Lib.hid HC9
      clear HC9
      go_wp2_with fail
      clear f0 f1 f2
      refine (PS7.out (.int .i64 0) A8 c8 _ (Kd.C_below HCI.out HE9.bel) HC9'.out HL8.out).mono ?_
      rintro e w9 ⟨rfl, hb1⟩
      replace HE9 := HE9.step hb1
      clear hb1
      go_wp2_with fail
      go_ret
      exact ⟨rfl, below_then HB HB.size HE9.bel⟩
  · have t1 : decide (K ≥ 12) = false := decide_eq_false k12
    have t2 : decide (K ≥ 18) = false := decide_eq_false (by omega)
    have eP : wrap64 (40 + K) = P := by rw [HP.out]; unfold placeOf; rw [if_neg (by omega), if_neg (by omega)]
    clear k12
    go_wp2_with fail
    clear hc hf hcv2 hcv hW7
    refine (elf_Parse.calls k s2 k1 e1 l1 0 _ HPS.out).mono ?_
    rintro e w8 ⟨v8, rfl, ho8, hb1⟩
    replace HE7 := HE7.step hb1
    clear hb1
    obtain ⟨A8, c8, rfl, hl8, hc8⟩ := Kd.R_reads ho8
    clear ho8
    have HL8 := Lib.hid hl8; have HC8 := Lib.hid hc8
    clear hl8 hc8
    have HE9 : AC w2 g kind entry Ai ll ci (w8.alloc (.cells #[.int .i64 k1, .int .i64 e1, .slice A8 l1.length c8] 28)) := HE7.step ((Below.refl _ _).alloc (Nat.le_refl _) _)
    have f0 := HE9.c0; have f1 := HE9.c1; have f2 := HE9.c2
    have HC9 := Kd.C_below HC8.out (((Below.refl _ w8).alloc (Nat.le_refl _) (.cells #[.int .i64 k1, .int .i64 e1, .slice A8 l1.length c8] 28)))
    have HC9' := Lib.hid HC9
    clear HC9
    go_wp2_with fail
    clear f0 f1 f2
    refine (PS7.out (.int .i64 0) A8 c8 _ (Kd.C_below HCI.out HE9.bel) HC9'.out HL8.out).mono ?_
    rintro e w9 ⟨rfl, hb1⟩
    replace HE9 := HE9.step hb1
    clear hb1
    go_wp2_with fail
    go_ret
    exact ⟨rfl, below_then HB HB.size HE9.bel⟩
set_option maxHeartbeats 16000000 in
set_option maxRecDepth 100000 in
theorem elfAny_none (k : Nat) (a0_0 a0_1 : Int) (A0_2 : Option Addr) (c0_2 : Nat) (l0_2 : List S50) (a1 a2 : Int) (w : World)
    (hr0_2 : Kd.C k50 w A0_2 l0_2.length l0_2) (hc0_2 : l0_2.length ≤ c0_2) {kind entry size : Int} (aw : flyleaflaw08_awake.f k = some true) (im : flyleaflaw08_Spec_image.f k a0_0 a0_1 l0_2 = some (kind, entry, [], size)) :
    Calls Try.prog 7 #[.agg #[.int .i64 a0_0, .int .i64 a0_1, .slice A0_2 l0_2.length c0_2], .int .i64 a1, .int .u8 a2] w fun e w' => e = .returned (.bool true) ∧ Below w.heap.size w w' := by
  have hu := Try.underlying28
  have hu2 := Try.underlying24
  have AW := Lib.hid aw; have IM := Lib.hid im; have HR := Lib.hid hr0_2; have HC := Lib.hid hc0_2
  clear aw im hr0_2 hc0_2
  go_enter Try.func7, Try.ntmps7
  go_wp2_with fail
  have HB : Below w.heap.size w (w.alloc (.cells #[.int .i64 a0_0, .int .i64 a0_1, .slice A0_2 l0_2.length c0_2] 24)) := (Below.refl _ _).alloc (Nat.le_refl _) _
  have BP := blk_new w (.cells #[.int .i64 a0_0, .int .i64 a0_1, .slice A0_2 l0_2.length c0_2] 24)
  generalize (w.alloc (.cells #[.int .i64 a0_0, .int .i64 a0_1, .slice A0_2 l0_2.length c0_2] 24)) = W0 at *
  refine (flyleaflaw08_awake.calls k true _ AW.out).mono ?_
  rintro e w1 ⟨rfl, hb1⟩
  replace BP := blk_below BP hb1
  replace HB := below_then HB HB.size hb1
  clear hb1
  have f0 : w1.cell? ⟨w.heap.size, 0, none⟩ = some (.int .i64 a0_0) := (blk_cell BP 0).trans rfl
  have f1 : w1.cell? ⟨w.heap.size, 1, none⟩ = some (.int .i64 a0_1) := (blk_cell BP 1).trans rfl
  have f2 : w1.cell? ⟨w.heap.size, 2, none⟩ = some (.slice A0_2 l0_2.length c0_2) := (blk_cell BP 2).trans rfl
  clear BP
  go_wp2_with fail
  clear f0 f1 f2
  refine (flyleaflaw08_Spec_image.calls k a0_0 a0_1 A0_2 c0_2 l0_2 kind entry [] size _ (Kd.C_below HR.out HB) HC.out IM.out).mono ?_
  rintro e w2 ⟨v, rfl, ho, hb1⟩
  replace HB := below_then HB HB.size hb1
  clear hb1
  obtain ⟨Ai, ci, rfl, hlc, hci⟩ := Kd.R_reads ho
  clear ho hci hlc
  rw [List.length_nil]
  go_wp2_with fail
  go_ret
  exact ⟨rfl, HB.alloc HB.size _⟩
theorem elfAny.calls (k : Nat) (a0_0 a0_1 : Int) (A0_2 : Option Addr) (c0_2 : Nat) (l0_2 : List S50) (a1 a2 : Int) (r : Bool) (w : World)
    (hr0_2 : Kd.C k50 w A0_2 l0_2.length l0_2) (hc0_2 : l0_2.length ≤ c0_2) (h : elfAny.f k a0_0 a0_1 l0_2 a1 a2 = some r) :
    Calls Try.prog 7 #[.agg #[.int .i64 a0_0, .int .i64 a0_1, .slice A0_2 l0_2.length c0_2], .int .i64 a1, .int .u8 a2] w fun e w' => e = .returned (.bool r) ∧ Below w.heap.size w w' := by
  unfold elfAny.f at h
  split at h
  case isFalse => cases h
  rename_i ht
  obtain rfl := Option.some.inj h
  rcases ht with ⟨kind, entry, l, size, hd, s, k1, e1, l1, ht⟩ | ⟨aw, kind, entry, size, im⟩
  · exact elfAny_walk k a0_0 a0_1 A0_2 c0_2 l0_2 a1 a2 w hr0_2 hc0_2 ht
  · exact elfAny_none k a0_0 a0_1 A0_2 c0_2 l0_2 a1 a2 w hr0_2 hc0_2 aw im
end Go.Proofs.Ytdlgfjefbjkdaaa.H
namespace Go.Proofs.Ytdlgfjefbjkdaaa.Pure
open Go.RowKit Go.Proofs.Ytdlgfjefbjkdaaa.A Go.Proofs.Ytdlgfjefbjkdaaa.H Go.Proofs.Flat Go.Proofs.YtdlgfjefbjkdaaaW.PrintWords Go.Proofs.YtdlgfjefbjkdaaaW.PrintLast Go.Proofs.YtdlgfjefbjkdaaaW.PrintMore
set_option linter.unusedVariables false
set_option linter.unusedSimpArgs false
theorem setByte_bytes (s : ByteArray) (p : Nat) (c : Int) : bytesL (setByte s p c) = (bytesL s).set p (UInt8.ofNat c.toNat) := by
  unfold setByte strOfNums bytesL byteList
  simp only [List.map_set, List.map_map, List.toList_toArray]
  congr 1
  conv => rhs; rw [← List.map_id s.data.toList]
  refine List.map_congr_left fun b _ => ?_
  simp
theorem setByte_size (s : ByteArray) (p : Nat) (c : Int) : (setByte s p c).size = s.size := by rw [← bytesL_length, setByte_bytes, List.length_set, bytesL_length]
theorem bt_set (s : ByteArray) (p : Nat) (c : Int) (j : Nat) (h : j ≠ p) : bt (setByte s p c) (j : Int) = bt s (j : Int) := by
  rw [bt_list, bt_list, setByte_bytes, List.getD_eq_getElem?_getD, List.getD_eq_getElem?_getD, List.getElem?_set_ne (by omega)]
theorem At.set {s : ByteArray} {off N : Int} {m p : Nat} {c : Int} (h : At s off N m) (hp : ∀ j : Nat, j < m → off + j ≠ p) : At (setByte s p c) off N m := by
  obtain ⟨h0, h1, h2⟩ := h
  refine ⟨h0, by rw [setByte_size]; exact h1, fun j hj => ?_⟩
  have := hp j hj
  rw [← h2 j hj, show off + (j : Int) = ((off.toNat + j : Nat) : Int) by omega, bt_set _ _ _ _ (by omega)]
/-- The bytes that may be any. -/
def AnyAt (p : Nat) : Prop := 40 ≤ p ∧ p < 52 ∨ 58 ≤ p ∧ p < 64 ∨ 64 ≤ p ∧ 24 ≤ (p - 64) % 56 ∧ (p - 64) % 56 < 32
theorem AtH.set {s : ByteArray} {kind entry : Int} {l : List S32} {p : Nat} {c : Int} (h : AtH s kind entry l) (hp : AnyAt p) : AtH (setByte s p c) kind entry l := by
  unfold AnyAt at hp
  refine ⟨h.k.set (fun j hj => by omega), h.e.set (fun j hj => by omega), h.n.set (fun j hj => by omega), fun i hi => ?_⟩
  have g := h.sg i hi
  exact ⟨g.a0.set (fun j hj => by omega), g.a1.set (fun j hj => by omega), g.a2.set (fun j hj => by omega), g.a3.set (fun j hj => by omega), g.a4.set (fun j hj => by omega), g.a5.set (fun j hj => by omega), g.a6.set (fun j hj => by omega)⟩
theorem any_at {p : Nat} (hp : AnyAt p) : H.anyB (p : Int) = true := by
  unfold AnyAt at hp
  unfold H.anyB
  by_cases h : (p : Int) < 64
  · rw [if_pos h]
    rcases hp with hp | hp | hp
    · rw [decide_eq_true (show (40 : Int) ≤ p by omega), decide_eq_true (show (p : Int) < 52 by omega)]; rfl
    · rw [decide_eq_true (show (58 : Int) ≤ p by omega)]; simp
    · omega
  · rw [if_neg h, decide_eq_true (show (24 : Int) ≤ ((p : Int) - 64) % 56 by omega), decide_eq_true (show ((p : Int) - 64) % 56 < 32 by omega)]; rfl
theorem alike_set {s hd : ByteArray} {rest : List UInt8} {p : Nat} {c : Int} (h : bytesL s = bytesL hd ++ rest) (hp : AnyAt p) : alikeB (setByte s p c) hd = true := by
  have hl : s.size = hd.size + rest.length := by rw [← bytesL_length, ← bytesL_length, h, List.length_append]
  refine alike_all (by rw [setByte_size]; omega) fun j hj => ?_
  unfold sameB
  by_cases e : j = p
  · subst e
    rw [any_at hp]
    simp
  · rw [bt_set _ _ _ _ e]
    have e2 : bt s (j : Int) = bt hd (j : Int) := by
      rw [bt_list, bt_list, h, List.getD_eq_getElem?_getD, List.getD_eq_getElem?_getD, List.getElem?_append_left (by rw [bytesL_length]; exact hj)]
    rw [e2]
    simp
theorem place_is (at_ : Int) (n : Nat) (h0 : 1 ≤ n) (h4 : n ≤ 4) : 0 ≤ placeOf (placeK at_ n) ∧ placeOf (placeK at_ n) < 64 + 56 * n ∧ AnyAt (placeOf (placeK at_ n)).toNat := by
  have w1 : wrap64 (8 * (n : Int)) = 8 * n := w64 (by omega) (by omega)
  have w2 : wrap64 (18 + 8 * (n : Int)) = 18 + 8 * n := w64 (by omega) (by omega)
  have hK : 0 ≤ placeK at_ n ∧ placeK at_ n < 18 + 8 * n := by
    unfold placeK
    rw [w1, w2]
    have h5 := Int.lt_tmod_of_pos at_ (show (0 : Int) < 18 + 8 * n by omega)
    have h6 := Int.tmod_lt_of_pos at_ (show (0 : Int) < 18 + 8 * n by omega)
    generalize Int.tmod at_ (18 + 8 * (n : Int)) = t at *
    rw [w64 (x := t + 18) (by omega) (by omega), w64 (by omega) (by omega)]
    exact ⟨Int.tmod_nonneg _ (by omega), Int.tmod_lt_of_pos _ (by omega)⟩
  generalize placeK at_ n = K at *
  clear w1 w2
  unfold placeOf AnyAt
  by_cases c18 : K ≥ 18
  · have e : wrap64 (wrap64 (wrap64 (64 + wrap64 (56 * wrap64 (Int.tdiv (wrap64 (K - 18)) 8))) + 24) + Int.tmod (wrap64 (K - 18)) 8) = 64 + 56 * ((K - 18) / 8) + 24 + (K - 18) % 8 := by
      rw [w64 (x := K - 18) (by omega) (by omega), Int.tdiv_eq_ediv_of_nonneg (by omega), Int.tmod_eq_emod_of_nonneg (by omega), w64 (x := (K - 18) / 8) (by omega) (by omega), w64 (x := 56 * ((K - 18) / 8)) (by omega) (by omega), w64 (x := 64 + 56 * ((K - 18) / 8)) (by omega) (by omega), w64 (x := 64 + 56 * ((K - 18) / 8) + 24) (by omega) (by omega), w64 (by omega) (by omega)]
    rw [if_pos c18, e]
    clear e
    omega
  · rw [if_neg c18]
    by_cases c12 : K ≥ 12
    · rw [if_pos c12, w64 (x := 58 + K) (by omega) (by omega), w64 (by omega) (by omega)]
      omega
    · rw [if_neg c12, w64 (by omega) (by omega)]
      omega
theorem ElfAny (a0 a1 : Int) (qs : List S50) (hb : b24 ⟨a0, a1, qs⟩) (at_ : Int) (ha : (Lit.int .i64 at_).wf = true) (c : Int) (hc : (Lit.int .u8 c).wf = true) : ∃ k, elfAny.f k a0 a1 qs at_ c = some true := by
  obtain ⟨kind, entry, l, size, hl, hi, he⟩ := image_is a0 a1 qs
  have ho := hi.off
  have h4 := hi.len
  have hen := hi.entry
  refine ⟨300, ?_⟩
  unfold elfAny.f
  rw [if_pos]
  by_cases hn : l = []
  · subst hn
    exact .inr ⟨awake_is 0, kind, entry, size, he 290⟩
  left
  have hp : 0 < l.length := List.length_pos_iff.2 hn
  have hz : (⟨(headL kind entry l).toArray⟩ : ByteArray).size = 64 + 56 * l.length := by
    show (headL kind entry l).toArray.size = _
    rw [List.size_toArray, headL_length]
  obtain ⟨t, ht, htb, htn⟩ := fill_is (s := ⟨(headL kind entry l).toArray⟩) (n := size) (by rw [hz]; omega) (by omega)
  obtain ⟨q0, q1, q2⟩ := place_is at_ l.length hp h4
  have ck : cl kind = kind := cl_id (by omega)
  have ce : cl entry = entry := cl_id hen.2.1
  have hps := parse_is (s := setByte t (placeOf (placeK at_ l.length)).toNat c) (by rw [setByte_size]; omega) (AtH.set (head_at htb (by rw [ck]; omega) (by rw [ce]; omega) (by omega) hi.fitS) q2) (by rw [ck]; omega) (by rw [ce]; omega) hi.fitS (by omega) (by omega) 260
  rw [ck, ce, map_clS hi.pos] at hps
  have hpi : parseI (setByte t (placeOf (placeK at_ l.length)).toNat c) kind entry l = (kind, entry, l, 0) := by
    unfold parseI
    rw [setByte_size, htn, if_pos (img_ok hi hn), if_pos (alike_set htb q2)]
  rw [hpi] at hps
  have w1 : wrap64 (64 + wrap64 (56 * (l.length : Int))) = 64 + 56 * l.length := by rw [w64 (x := 56 * (l.length : Int)) (by omega) (by omega), w64 (by omega) (by omega)]
  have w2 : wrap64 (18 + wrap64 (8 * (l.length : Int))) = 18 + 8 * l.length := by rw [w64 (x := 8 * (l.length : Int)) (by omega) (by omega), w64 (by omega) (by omega)]
  refine ⟨kind, entry, l, size, ⟨(headL kind entry l).toArray⟩, t, kind, entry, l, awake_is 0, he 290, by omega, ?_, ht, by omega, by rw [w1]; omega, by rw [w2]; omega, q0, by omega, hps, same_refl kind entry l (by omega)⟩
  unfold elf_Header.f
  rw [if_pos (by omega)]
end Go.Proofs.Ytdlgfjefbjkdaaa.Pure
namespace Go.Proofs.Ytdlgfjefbjkdaaa.elfAny
open Go.ChangeShapes Go.WideShapes Go.ChangeAt Go.RowKit Go.Proofs.Ytdlgfjefbjkdaaa.A Go.Proofs.YtdlgfjefbjkdaaaW.PrintWords
open Go.ChangeMaps (open_string shut_string)
set_option linter.unusedVariables false
set_option linter.unusedSimpArgs false
theorem own : ownKnob Try.prog.godebug = none := by kernel_rfl
theorem laidOut : laidOutB Try.prog = true := by kernel_rfl
set_option maxRecDepth 100000 in
theorem lifted (os : Os) (started : os.Started) (H : Type) (enc : TypeId × Value → H) :
    ReturnsInHanded {} Try.checked os 7 .any (Rows.elfAnySpec.pre6 enc Try.prog Try.f7 Rows.elfAnyRow.domain false) (Rows.elfAnySpec.post enc Try.prog Try.f7 false true false false) := by
  refine returnsInHanded_of_change_sized (C := Try.checked) own started (by kernel_rfl) Try.func7
    (ChangeSpec.witness6 (enc := enc) (C := Try.checked) false ⟨#[], #[.agg #[.int .i64 0, .int .i64 0, .slice none 0 0], .int .i64 0, .int .u8 0], []⟩ 8 (by kernel_rfl) (by kernel_rfl) (by kernel_rfl) (by kernel_rfl)) ?_
  intro W base args ds gs before hval0 hW hcnd hsz0 _
  have hsz : (DataW.weightsEach Try.prog (Try.f7.params.toList ++ Rows.elfAnySpec.plain.varTypes Try.prog) (ds ++ gs)).all (· ≤ reachBytes) = true := hsz0
  have hval : ∀ (j : Nat) t v, Try.f7.params[j]? = some t → args[j]? = some v → Value.okWide Try.prog W .any base t v := hval0
  have hW' := hW
  obtain ⟨p, q, hA0, hV, rfl, hfz, hnd⟩ := hW
  have hA : DataW.TrodAll enc Try.prog W 0 (fun _ => true) true Try.f7.params.toList args.toList ds p := hA0
  rw [Try.params7] at hA hval hsz
  obtain ⟨v0, vs0, d0, ds0, p0, q0, hargs, rfl, rfl, h0, r0⟩ := trodAll_cons hA
  obtain ⟨v1, vs1, d1, ds1, p1, q1, rfl, rfl, rfl, h1, r1⟩ := trodAll_cons r0
  obtain ⟨v2, vs2, d2, ds2, p2, q2, rfl, rfl, rfl, h2, r2⟩ := trodAll_cons r1
  obtain ⟨rfl, rfl, rfl⟩ := trodAll_nil r2
  obtain rfl : args = #[v0, v1, v2] := by cases args; simp_all
  obtain ⟨rfl, rfl⟩ := trodVars_none hV
  have k0 := h0
  have lt0 : ∀ x ∈ p0, x.block < W.heap.size := by obtain ⟨m, hm⟩ := k0; exact DataW.trod_lt m _ _ _ hm
  obtain ⟨cs0, rfl, _⟩ := okWide_struct Try.underlying24 (hval 0 24 v0 rfl rfl)
  obtain ⟨fu0, hf0⟩ := h0
  obtain ⟨x0, K0, B0⟩ := opens24 enc W _ _ _ _ _ _ hf0
  obtain ⟨A0_2, c0_2, E0, l0_2, g0_2⟩ := k24_open K0
  have E0' : cs0.toList = [.int .i64 x0.f0, .int .i64 x0.f1, .slice A0_2 x0.f2.length c0_2] := E0
  obtain rfl : cs0 = #[.int .i64 x0.f0, .int .i64 x0.f1, .slice A0_2 x0.f2.length c0_2] := by cases cs0; exact congrArg Array.mk E0'
  obtain ⟨a1, rfl, rfl, rfl, w1⟩ := open_int Try.underlying3 (hval 1 3 v1 rfl rfl) h1
  obtain ⟨a2, rfl, rfl, rfl, w2⟩ := open_int Try.underlying5 (hval 2 5 v2 rfl rfl) h2
  clear hA0 hval0 hsz0 hsz
  obtain ⟨k, hk⟩ := Pure.ElfAny x0.f0 x0.f1 x0.f2 B0 a1 w1 a2 w2
  refine (_root_.Go.Proofs.Ytdlgfjefbjkdaaa.H.elfAny.calls (h := hk) (w := W) (hr0_2 := g0_2) (hc0_2 := l0_2)).mono fun e W' ⟨he, bel⟩ => ?_
  subst he
  exact ⟨_, rfl, _, _, _, [], _, [], hW', trodAll_mk1 (shut_bool Try.underlying4 _), (trodAll_cons_mk (Below.trod laidOut (by kernel_rfl) (of_decide_eq_true (by kernel_rfl)) k0 bel lt0) (trodAll_cons_mk (shut_int Try.underlying3 w1) (trodAll_cons_mk (shut_int Try.underlying5 w2) trodAll_mk0))), rfl, bel.frame _, fun h => by cases h⟩
theorem over : Rows.elfAnyRow.holds Try.pinned (OpenSpec.ofChange Rows.elfAnySpec) :=
  OpenClaim.holds_of_wide 7 Try.f7 rfl rfl rfl rfl rfl rfl rfl ⟨rfl, rfl, rfl, rfl, rfl⟩ rfl rfl rfl rfl rfl (by kernel_rfl) Try.func7 (by kernel_rfl)
    (of_decide_eq_true (by kernel_rfl)) (by unfold Func.isWrapper; first | (rw [if_pos (by decide +kernel)]; kernel_rfl) | (rw [if_neg (by decide +kernel)]; exact ⟨rfl, rfl⟩))
    (fun os started H enc _ => lifted os started H enc)
theorem proved : Rows.ElfAnySaid := over
#print axioms proved
end Go.Proofs.Ytdlgfjefbjkdaaa.elfAny
namespace Go.Proofs.Ytdlgfjefbjkdaaa
/-- The row, under a short name, for the claim. -/
theorem elfAny_holds : Rows.ElfAnySaid := elfAny.proved
end Go.Proofs.Ytdlgfjefbjkdaaa
