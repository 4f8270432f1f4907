/-
  No cell of these rows narrows 'for every input' (looked for: loops, veiled, ifaces, maps, wideKeys, modest, calm, conditions, laid).
  DERIVED. THE GIVEN ROWS OF THIS SEAT. 9 by the template 'for every input the law returns true; each argument reads behind the call as it read before'; 0 by the template 'total and deterministic' (their statements: YtbnchbcdgffkaaaTotals.lean).
  GIVEN WITH THE SEED: the statements are not yours to turn. If you find one false, say at which input.
  Laid BY PROGRAM, IN A SANDBOX (cutbox-rows.mjs): the forced cells as the released guide's own fill.sh prints them over the translation 62673d4794fe33d5… (all of the seat's roots in one cut). By AI agents, Wed Nov 11 2026. No macro, syntax, notation, axiom, sorry.
-/
import Derived.Test.YtbnchbcdgffkaaaChecked
import GoSem.Claim
import GoSem.ClaimJoined
import GoSem.ClaimMapViews
import Derived.JoinedTies
import Derived.KernelRfl
namespace Go.Proofs.Ytbnchbcdgffkaaa
/- THE CELL 'sum', in the pinned program and in every row, IS THE sha256 OF THE DUMP (.gsa) THAT YtbnchbcdgffkaaaProg.lean LOADS. Nothing in Lean hashes anything: it is a label: what it is worth is what the hold of that sum in a sandbox is worth. -/
noncomputable def Try.pinned : Pinned := { name := "ytbnchbcdgffkaaa", sum := "62673d4794fe33d5dfc506e35e8b9bcfd317254dbd1aababb769b5cf02a16f5f", checked := Try.checked }
namespace Rows
def none {H : Type} : Left H := { results := [], args := [] }

/-- 'voklaw3.ZoneAsks': WHATEVER THE INPUT: true; the input reads as it did. -/
def zoneAsksSpec : ChangeSpec := { name := "zoneAsks", fn := fun _ => fun
  | [d1, d2, d3] => { results := [.lit (.bool true)], args := [d1, d2, d3] }
  | _ => none }
def zoneAsksRow : OpenClaim := { program := "ytbnchbcdgffkaaa", sum := "62673d4794fe33d5dfc506e35e8b9bcfd317254dbd1aababb769b5cf02a16f5f", func := "convoker/voklaw3.ZoneAsks", spec := "zoneAsks", apart := false }
def ZoneAsksSaid : Prop := zoneAsksRow.holds Try.pinned (OpenSpec.ofChange zoneAsksSpec)

/-- ITS FALSE NEIGHBOUR: 'it returns false'. Refute it at one input. -/
def zoneAsksWrong : ChangeSpec := { name := "zoneAsks", fn := fun _ => fun
  | [d1, d2, d3] => { results := [.lit (.bool false)], args := [d1, d2, d3] }
  | _ => none }
def ZoneAsksWrongFalsely : Prop := zoneAsksRow.holds Try.pinned (OpenSpec.ofChange zoneAsksWrong)

/-- 'voklaw3.ZoneTurns': WHATEVER THE INPUT: true; the input reads as it did. -/
def zoneTurnsSpec : ChangeSpec := { name := "zoneTurns", fn := fun _ => fun
  | [d1, d2] => { results := [.lit (.bool true)], args := [d1, d2] }
  | _ => none }
def zoneTurnsRow : OpenClaim := { program := "ytbnchbcdgffkaaa", sum := "62673d4794fe33d5dfc506e35e8b9bcfd317254dbd1aababb769b5cf02a16f5f", func := "convoker/voklaw3.ZoneTurns", spec := "zoneTurns", apart := false }
def ZoneTurnsSaid : Prop := zoneTurnsRow.holds Try.pinned (OpenSpec.ofChange zoneTurnsSpec)

/-- ITS FALSE NEIGHBOUR: 'it returns false'. Refute it at one input. -/
def zoneTurnsWrong : ChangeSpec := { name := "zoneTurns", fn := fun _ => fun
  | [d1, d2] => { results := [.lit (.bool false)], args := [d1, d2] }
  | _ => none }
def ZoneTurnsWrongFalsely : Prop := zoneTurnsRow.holds Try.pinned (OpenSpec.ofChange zoneTurnsWrong)

/-- 'voklaw3.ZoneBack': WHATEVER THE INPUT: true; the input reads as it did. -/
def zoneBackSpec : ChangeSpec := { name := "zoneBack", fn := fun _ => fun
  | [d1, d2] => { results := [.lit (.bool true)], args := [d1, d2] }
  | _ => none }
def zoneBackRow : OpenClaim := { program := "ytbnchbcdgffkaaa", sum := "62673d4794fe33d5dfc506e35e8b9bcfd317254dbd1aababb769b5cf02a16f5f", func := "convoker/voklaw3.ZoneBack", spec := "zoneBack", apart := false }
def ZoneBackSaid : Prop := zoneBackRow.holds Try.pinned (OpenSpec.ofChange zoneBackSpec)

/-- ITS FALSE NEIGHBOUR: 'it returns false'. Refute it at one input. -/
def zoneBackWrong : ChangeSpec := { name := "zoneBack", fn := fun _ => fun
  | [d1, d2] => { results := [.lit (.bool false)], args := [d1, d2] }
  | _ => none }
def ZoneBackWrongFalsely : Prop := zoneBackRow.holds Try.pinned (OpenSpec.ofChange zoneBackWrong)

/-- 'voklaw3.ZoneGaps': WHATEVER THE INPUT: true; the input reads as it did. -/
def zoneGapsSpec : ChangeSpec := { name := "zoneGaps", fn := fun _ => fun
  | [d1, d2] => { results := [.lit (.bool true)], args := [d1, d2] }
  | _ => none }
def zoneGapsRow : OpenClaim := { program := "ytbnchbcdgffkaaa", sum := "62673d4794fe33d5dfc506e35e8b9bcfd317254dbd1aababb769b5cf02a16f5f", func := "convoker/voklaw3.ZoneGaps", spec := "zoneGaps", apart := false }
def ZoneGapsSaid : Prop := zoneGapsRow.holds Try.pinned (OpenSpec.ofChange zoneGapsSpec)

/-- ITS FALSE NEIGHBOUR: 'it returns false'. Refute it at one input. -/
def zoneGapsWrong : ChangeSpec := { name := "zoneGaps", fn := fun _ => fun
  | [d1, d2] => { results := [.lit (.bool false)], args := [d1, d2] }
  | _ => none }
def ZoneGapsWrongFalsely : Prop := zoneGapsRow.holds Try.pinned (OpenSpec.ofChange zoneGapsWrong)

/-- 'voklaw3.ZoneShifts': WHATEVER THE INPUT: true; the input reads as it did. -/
def zoneShiftsSpec : ChangeSpec := { name := "zoneShifts", fn := fun _ => fun
  | [d1, d2] => { results := [.lit (.bool true)], args := [d1, d2] }
  | _ => none }
def zoneShiftsRow : OpenClaim := { program := "ytbnchbcdgffkaaa", sum := "62673d4794fe33d5dfc506e35e8b9bcfd317254dbd1aababb769b5cf02a16f5f", func := "convoker/voklaw3.ZoneShifts", spec := "zoneShifts", apart := false }
def ZoneShiftsSaid : Prop := zoneShiftsRow.holds Try.pinned (OpenSpec.ofChange zoneShiftsSpec)

/-- ITS FALSE NEIGHBOUR: 'it returns false'. Refute it at one input. -/
def zoneShiftsWrong : ChangeSpec := { name := "zoneShifts", fn := fun _ => fun
  | [d1, d2] => { results := [.lit (.bool false)], args := [d1, d2] }
  | _ => none }
def ZoneShiftsWrongFalsely : Prop := zoneShiftsRow.holds Try.pinned (OpenSpec.ofChange zoneShiftsWrong)

/-- 'voklaw3.ZonePlain': WHATEVER THE INPUT: true; the input reads as it did. -/
def zonePlainSpec : ChangeSpec := { name := "zonePlain", fn := fun _ => fun
  | [d1, d2] => { results := [.lit (.bool true)], args := [d1, d2] }
  | _ => none }
def zonePlainRow : OpenClaim := { program := "ytbnchbcdgffkaaa", sum := "62673d4794fe33d5dfc506e35e8b9bcfd317254dbd1aababb769b5cf02a16f5f", func := "convoker/voklaw3.ZonePlain", spec := "zonePlain", apart := false }
def ZonePlainSaid : Prop := zonePlainRow.holds Try.pinned (OpenSpec.ofChange zonePlainSpec)

/-- ITS FALSE NEIGHBOUR: 'it returns false'. Refute it at one input. -/
def zonePlainWrong : ChangeSpec := { name := "zonePlain", fn := fun _ => fun
  | [d1, d2] => { results := [.lit (.bool false)], args := [d1, d2] }
  | _ => none }
def ZonePlainWrongFalsely : Prop := zonePlainRow.holds Try.pinned (OpenSpec.ofChange zonePlainWrong)

/-- 'voklaw3.ZoneFirst': WHATEVER THE INPUT: true; the input reads as it did. -/
def zoneFirstSpec : ChangeSpec := { name := "zoneFirst", fn := fun _ => fun
  | [d1, d2, d3] => { results := [.lit (.bool true)], args := [d1, d2, d3] }
  | _ => none }
def zoneFirstRow : OpenClaim := { program := "ytbnchbcdgffkaaa", sum := "62673d4794fe33d5dfc506e35e8b9bcfd317254dbd1aababb769b5cf02a16f5f", func := "convoker/voklaw3.ZoneFirst", spec := "zoneFirst", apart := false }
def ZoneFirstSaid : Prop := zoneFirstRow.holds Try.pinned (OpenSpec.ofChange zoneFirstSpec)

/-- ITS FALSE NEIGHBOUR: 'it returns false'. Refute it at one input. -/
def zoneFirstWrong : ChangeSpec := { name := "zoneFirst", fn := fun _ => fun
  | [d1, d2, d3] => { results := [.lit (.bool false)], args := [d1, d2, d3] }
  | _ => none }
def ZoneFirstWrongFalsely : Prop := zoneFirstRow.holds Try.pinned (OpenSpec.ofChange zoneFirstWrong)

/-- 'voklaw3.ZoneMore': WHATEVER THE INPUT: true; the input reads as it did. -/
def zoneMoreSpec : ChangeSpec := { name := "zoneMore", fn := fun _ => fun
  | [d1, d2, d3, d4] => { results := [.lit (.bool true)], args := [d1, d2, d3, d4] }
  | _ => none }
def zoneMoreRow : OpenClaim := { program := "ytbnchbcdgffkaaa", sum := "62673d4794fe33d5dfc506e35e8b9bcfd317254dbd1aababb769b5cf02a16f5f", func := "convoker/voklaw3.ZoneMore", spec := "zoneMore", apart := false }
def ZoneMoreSaid : Prop := zoneMoreRow.holds Try.pinned (OpenSpec.ofChange zoneMoreSpec)

/-- ITS FALSE NEIGHBOUR: 'it returns false'. Refute it at one input. -/
def zoneMoreWrong : ChangeSpec := { name := "zoneMore", fn := fun _ => fun
  | [d1, d2, d3, d4] => { results := [.lit (.bool false)], args := [d1, d2, d3, d4] }
  | _ => none }
def ZoneMoreWrongFalsely : Prop := zoneMoreRow.holds Try.pinned (OpenSpec.ofChange zoneMoreWrong)

/-- 'voklaw3.ZoneYears': WHATEVER THE INPUT: true; the input reads as it did. -/
def zoneYearsSpec : ChangeSpec := { name := "zoneYears", fn := fun _ => fun
  | [d1, d2] => { results := [.lit (.bool true)], args := [d1, d2] }
  | _ => none }
def zoneYearsRow : OpenClaim := { program := "ytbnchbcdgffkaaa", sum := "62673d4794fe33d5dfc506e35e8b9bcfd317254dbd1aababb769b5cf02a16f5f", func := "convoker/voklaw3.ZoneYears", spec := "zoneYears", apart := false }
def ZoneYearsSaid : Prop := zoneYearsRow.holds Try.pinned (OpenSpec.ofChange zoneYearsSpec)

/-- ITS FALSE NEIGHBOUR: 'it returns false'. Refute it at one input. -/
def zoneYearsWrong : ChangeSpec := { name := "zoneYears", fn := fun _ => fun
  | [d1, d2] => { results := [.lit (.bool false)], args := [d1, d2] }
  | _ => none }
def ZoneYearsWrongFalsely : Prop := zoneYearsRow.holds Try.pinned (OpenSpec.ofChange zoneYearsWrong)

/- THE SECOND FORM. 'bulk': how many values and letters a reading holds, each counted each time it is reached (what is shared counts as often as it is met; a slice's spare places count too). A statement '..UptoSaid' is the law's where the arguments, and the package variables that the reading takes, are together of bulk at most 1048576: NARROWER than '..Said'. Prove '..Said' where nothing that the law and all that it calls make is longer than what came in: it says more and counts as full. Else prove '..UptoSaid'. A law counts once. -/
mutual
def uptoBulk {H : Type} : DataW H → Nat
  | .lit (.string bytes) => bytes.length + 1
  | .lit _ => 1
  | .nil => 1
  | .ptr d => uptoBulk d + 1
  | .slice elems spare => uptoBulkAll elems + uptoBulkAll spare + 1
  | .agg parts => uptoBulkAll parts + 1
  | .iface _ d => uptoBulk d + 1
  | .map entries => uptoBulkEntries entries + 1
  | .held _ => 1
def uptoBulkAll {H : Type} : List (DataW H) → Nat
  | [] => 0
  | d :: r => uptoBulk d + uptoBulkAll r
def uptoBulkEntries {H : Type} : List (Lit × DataW H) → Nat
  | [] => 0
  | x :: r => uptoBulkEntry x + uptoBulkEntries r
def uptoBulkEntry {H : Type} : Lit × DataW H → Nat
  | (.string bytes, d) => bytes.length + uptoBulk d + 1
  | (_, d) => uptoBulk d + 1
 end
def uptoSmall : (H : Type) → List (DataW H) → Bool := fun _ ds => decide (uptoBulkAll ds ≤ 1048576)
def OpenSpec.upto (s : _root_.Go.ChangeSpec) : _root_.Go.OpenSpec := { _root_.Go.OpenSpec.ofChange s with cond := some uptoSmall }

/-- 'voklaw3.ZoneAsks', WHERE WHAT IT READS IS OF BULK AT MOST 1048576: true; the input reads as it did. -/
def zoneAsksUptoRow : OpenClaim := { program := "ytbnchbcdgffkaaa", sum := "62673d4794fe33d5dfc506e35e8b9bcfd317254dbd1aababb769b5cf02a16f5f", func := "convoker/voklaw3.ZoneAsks", spec := "zoneAsks", apart := false, narrowed := true }
def ZoneAsksUptoSaid : Prop := zoneAsksUptoRow.holds Try.pinned (OpenSpec.upto zoneAsksSpec)

/-- 'voklaw3.ZoneTurns', WHERE WHAT IT READS IS OF BULK AT MOST 1048576: true; the input reads as it did. -/
def zoneTurnsUptoRow : OpenClaim := { program := "ytbnchbcdgffkaaa", sum := "62673d4794fe33d5dfc506e35e8b9bcfd317254dbd1aababb769b5cf02a16f5f", func := "convoker/voklaw3.ZoneTurns", spec := "zoneTurns", apart := false, narrowed := true }
def ZoneTurnsUptoSaid : Prop := zoneTurnsUptoRow.holds Try.pinned (OpenSpec.upto zoneTurnsSpec)

/-- 'voklaw3.ZoneBack', WHERE WHAT IT READS IS OF BULK AT MOST 1048576: true; the input reads as it did. -/
def zoneBackUptoRow : OpenClaim := { program := "ytbnchbcdgffkaaa", sum := "62673d4794fe33d5dfc506e35e8b9bcfd317254dbd1aababb769b5cf02a16f5f", func := "convoker/voklaw3.ZoneBack", spec := "zoneBack", apart := false, narrowed := true }
def ZoneBackUptoSaid : Prop := zoneBackUptoRow.holds Try.pinned (OpenSpec.upto zoneBackSpec)

/-- 'voklaw3.ZoneGaps', WHERE WHAT IT READS IS OF BULK AT MOST 1048576: true; the input reads as it did. -/
def zoneGapsUptoRow : OpenClaim := { program := "ytbnchbcdgffkaaa", sum := "62673d4794fe33d5dfc506e35e8b9bcfd317254dbd1aababb769b5cf02a16f5f", func := "convoker/voklaw3.ZoneGaps", spec := "zoneGaps", apart := false, narrowed := true }
def ZoneGapsUptoSaid : Prop := zoneGapsUptoRow.holds Try.pinned (OpenSpec.upto zoneGapsSpec)

/-- 'voklaw3.ZoneShifts', WHERE WHAT IT READS IS OF BULK AT MOST 1048576: true; the input reads as it did. -/
def zoneShiftsUptoRow : OpenClaim := { program := "ytbnchbcdgffkaaa", sum := "62673d4794fe33d5dfc506e35e8b9bcfd317254dbd1aababb769b5cf02a16f5f", func := "convoker/voklaw3.ZoneShifts", spec := "zoneShifts", apart := false, narrowed := true }
def ZoneShiftsUptoSaid : Prop := zoneShiftsUptoRow.holds Try.pinned (OpenSpec.upto zoneShiftsSpec)

/-- 'voklaw3.ZonePlain', WHERE WHAT IT READS IS OF BULK AT MOST 1048576: true; the input reads as it did. -/
def zonePlainUptoRow : OpenClaim := { program := "ytbnchbcdgffkaaa", sum := "62673d4794fe33d5dfc506e35e8b9bcfd317254dbd1aababb769b5cf02a16f5f", func := "convoker/voklaw3.ZonePlain", spec := "zonePlain", apart := false, narrowed := true }
def ZonePlainUptoSaid : Prop := zonePlainUptoRow.holds Try.pinned (OpenSpec.upto zonePlainSpec)

/-- 'voklaw3.ZoneFirst', WHERE WHAT IT READS IS OF BULK AT MOST 1048576: true; the input reads as it did. -/
def zoneFirstUptoRow : OpenClaim := { program := "ytbnchbcdgffkaaa", sum := "62673d4794fe33d5dfc506e35e8b9bcfd317254dbd1aababb769b5cf02a16f5f", func := "convoker/voklaw3.ZoneFirst", spec := "zoneFirst", apart := false, narrowed := true }
def ZoneFirstUptoSaid : Prop := zoneFirstUptoRow.holds Try.pinned (OpenSpec.upto zoneFirstSpec)

/-- 'voklaw3.ZoneMore', WHERE WHAT IT READS IS OF BULK AT MOST 1048576: true; the input reads as it did. -/
def zoneMoreUptoRow : OpenClaim := { program := "ytbnchbcdgffkaaa", sum := "62673d4794fe33d5dfc506e35e8b9bcfd317254dbd1aababb769b5cf02a16f5f", func := "convoker/voklaw3.ZoneMore", spec := "zoneMore", apart := false, narrowed := true }
def ZoneMoreUptoSaid : Prop := zoneMoreUptoRow.holds Try.pinned (OpenSpec.upto zoneMoreSpec)

/-- 'voklaw3.ZoneYears', WHERE WHAT IT READS IS OF BULK AT MOST 1048576: true; the input reads as it did. -/
def zoneYearsUptoRow : OpenClaim := { program := "ytbnchbcdgffkaaa", sum := "62673d4794fe33d5dfc506e35e8b9bcfd317254dbd1aababb769b5cf02a16f5f", func := "convoker/voklaw3.ZoneYears", spec := "zoneYears", apart := false, narrowed := true }
def ZoneYearsUptoSaid : Prop := zoneYearsUptoRow.holds Try.pinned (OpenSpec.upto zoneYearsSpec)

end Rows
end Go.Proofs.Ytbnchbcdgffkaaa
