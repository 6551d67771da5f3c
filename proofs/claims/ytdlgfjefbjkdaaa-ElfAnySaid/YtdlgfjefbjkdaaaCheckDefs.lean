/- What elf.Check tells, as plain functions. -/
import Derived.Test.YtdlgfjefbjkdaaaContains
import Derived.Test.YtdlgfjefbjkdaaaSegment
import Derived.Test.YtdlgfjefbjkdaaaAxElfBegins
import Derived.Test.YtdlgfjefbjkdaaaAxElfPages
import Derived.WalkKit
import Derived.Lib.Hide
import Derived.WalkSpells
namespace Go.Proofs.Ytdlgfjefbjkdaaa.H
open Go.RowKit Go.Proofs.YtdlgfjefbjkdaaaW.PrintWords Go.Proofs.YtdlgfjefbjkdaaaW.PrintLast Go.Proofs.YtdlgfjefbjkdaaaW.PrintMore Go.Proofs.Ytdlgfjefbjkdaaa.A
set_option linter.unusedVariables false
set_option linter.unusedSimpArgs false

def begB (s : Seg) (entry : Int) : Bool := (elf_begins.f s.f0 s.f1 s.f2 s.f3 s.f4 s.f5 s.f6 entry).getD false
theorem begB_some (s : Seg) (entry : Int) : elf_begins.f s.f0 s.f1 s.f2 s.f3 s.f4 s.f5 s.f6 entry = some (begB s entry) := by
  unfold begB elf_begins.f
  repeat' split
  all_goals rfl
def pageA (s : Seg) : Int := wrap64 (Int.tdiv s.f3 64)
def pageB (s : Seg) : Int := wrap64 (Int.tdiv (wrap64 ((wrap64 ((wrap64 (s.f3 + s.f5)) + 64)) - 1)) 64)
def segOk (s : Seg) (size : Int) : Bool := segB s.f0 s.f1 s.f2 s.f3 s.f4 s.f5 s.f6 size
/-- The rest of the segments, from what has been met so far. -/
def chk (all : List Seg) (size entryN : Int) : List Seg → Int → Int → Int → Bool → Bool
  | [], loads, dyns, _, entry => !decide (loads = 0) && !decide (1 < dyns) && entry
  | s :: rest, loads, dyns, fin, entry =>
    if segOk s size = false then false
    else if s.f0 = 1 then (if fin ≤ pageA s then chk all size entryN rest (loads + 1) dyns (pageB s) (entry || begB s entryN) else false)
    else if s.f0 = 2 then (if (all.any fun l => holdB l s) = true then chk all size entryN rest loads (dyns + 1) fin entry else false)
    else chk all size entryN rest loads dyns fin entry
def badHead (kind entry n size : Int) : Prop := (kind ≠ 2 ∧ kind ≠ 3) ∨ n < 1 ∨ 16 < n ∨ size < 64 + 56 * n ∨ entry < 0 ∨ 1099511627776 < entry
instance (kind entry n size : Int) : Decidable (badHead kind entry n size) := by unfold badHead; infer_instance
/-- What Check tells. -/
def checkI (kind entry : Int) (l : List Seg) (size : Int) : Int :=
  if badHead kind entry l.length size then 16 else if chk l size entry l 0 0 0 (decide (kind = 3) && decide (entry = 0)) = true then 0 else 16
def elf_Check.f (a0_0 a0_1 : Int) (l0_2 : List Seg) (a1 : Int) : Option Int := if l0_2.length ≤ 2147483647 then some (checkI a0_0 a0_1 l0_2 a1) else none

abbrev imgV (kind entry : Int) (A : Option Addr) (c : Nat) (l : List Seg) : Value := .agg #[.int .i64 kind, .int .i64 entry, .slice A l.length c]

end Go.Proofs.Ytdlgfjefbjkdaaa.H
