/-
  No cell of these rows narrows 'for every input' (looked for: loops, veiled, ifaces, maps, wideKeys, modest, calm, conditions, laid).
  DERIVED. THE GIVEN ROWS OF THIS SEAT. 12 by the template 'for every input the law returns true; each argument reads behind the call as it read before'; 0 by the template 'total and deterministic' (their statements: YtpgikdohlhbgoaaTotals.lean).
  GIVEN WITH THE SEED: the statements are not yours to turn. If you find one false, say at which input.
  Laid BY PROGRAM, IN A SANDBOX (cutbox-rows.mjs): the forced cells as the released guide's own fill.sh prints them over the translation 5aab816b8b164c15… (all of the seat's roots in one cut). By AI agents, Wed Nov 11 2026. No macro, syntax, notation, axiom, sorry.
-/
import Derived.Test.YtpgikdohlhbgoaaChecked
import GoSem.Claim
import GoSem.ClaimJoined
import GoSem.ClaimMapViews
import Derived.JoinedTies
import Derived.KernelRfl
namespace Go.Proofs.Ytpgikdohlhbgoaa
/- THE CELL 'sum', in the pinned program and in every row, IS THE sha256 OF THE DUMP (.gsa) THAT YtpgikdohlhbgoaaProg.lean LOADS. Nothing in Lean hashes anything: it is a label: what it is worth is what the hold of that sum in a sandbox is worth. -/
noncomputable def Try.pinned : Pinned := { name := "ytpgikdohlhbgoaa", sum := "5aab816b8b164c15036ad03b6940c897a55868d6d32fe14f917d9c9db0534354", checked := Try.checked }
namespace Rows
def none {H : Type} : Left H := { results := [], args := [] }

/-- 'voklaw1.CivilDays': WHATEVER THE INPUT: true; the input reads as it did. -/
def civilDaysSpec : ChangeSpec := { name := "civilDays", fn := fun _ => fun
  | [d1, d2, d3] => { results := [.lit (.bool true)], args := [d1, d2, d3] }
  | _ => none }
def civilDaysRow : OpenClaim := { program := "ytpgikdohlhbgoaa", sum := "5aab816b8b164c15036ad03b6940c897a55868d6d32fe14f917d9c9db0534354", func := "convoker/voklaw1.CivilDays", spec := "civilDays", apart := false }
def CivilDaysSaid : Prop := civilDaysRow.holds Try.pinned (OpenSpec.ofChange civilDaysSpec)

/-- ITS FALSE NEIGHBOUR: 'it returns false'. Refute it at one input. -/
def civilDaysWrong : ChangeSpec := { name := "civilDays", fn := fun _ => fun
  | [d1, d2, d3] => { results := [.lit (.bool false)], args := [d1, d2, d3] }
  | _ => none }
def CivilDaysWrongFalsely : Prop := civilDaysRow.holds Try.pinned (OpenSpec.ofChange civilDaysWrong)

/-- 'voklaw1.CivilBack': WHATEVER THE INPUT: true; the input reads as it did. -/
def civilBackSpec : ChangeSpec := { name := "civilBack", fn := fun _ => fun
  | [d1, d2, d3, d4] => { results := [.lit (.bool true)], args := [d1, d2, d3, d4] }
  | _ => none }
def civilBackRow : OpenClaim := { program := "ytpgikdohlhbgoaa", sum := "5aab816b8b164c15036ad03b6940c897a55868d6d32fe14f917d9c9db0534354", func := "convoker/voklaw1.CivilBack", spec := "civilBack", apart := false }
def CivilBackSaid : Prop := civilBackRow.holds Try.pinned (OpenSpec.ofChange civilBackSpec)

/-- ITS FALSE NEIGHBOUR: 'it returns false'. Refute it at one input. -/
def civilBackWrong : ChangeSpec := { name := "civilBack", fn := fun _ => fun
  | [d1, d2, d3, d4] => { results := [.lit (.bool false)], args := [d1, d2, d3, d4] }
  | _ => none }
def CivilBackWrongFalsely : Prop := civilBackRow.holds Try.pinned (OpenSpec.ofChange civilBackWrong)

/-- 'voklaw1.CivilRises': WHATEVER THE INPUT: true; the input reads as it did. -/
def civilRisesSpec : ChangeSpec := { name := "civilRises", fn := fun _ => fun
  | [d1, d2, d3, d4, d5, d6] => { results := [.lit (.bool true)], args := [d1, d2, d3, d4, d5, d6] }
  | _ => none }
def civilRisesRow : OpenClaim := { program := "ytpgikdohlhbgoaa", sum := "5aab816b8b164c15036ad03b6940c897a55868d6d32fe14f917d9c9db0534354", func := "convoker/voklaw1.CivilRises", spec := "civilRises", apart := false }
def CivilRisesSaid : Prop := civilRisesRow.holds Try.pinned (OpenSpec.ofChange civilRisesSpec)

/-- ITS FALSE NEIGHBOUR: 'it returns false'. Refute it at one input. -/
def civilRisesWrong : ChangeSpec := { name := "civilRises", fn := fun _ => fun
  | [d1, d2, d3, d4, d5, d6] => { results := [.lit (.bool false)], args := [d1, d2, d3, d4, d5, d6] }
  | _ => none }
def CivilRisesWrongFalsely : Prop := civilRisesRow.holds Try.pinned (OpenSpec.ofChange civilRisesWrong)

/-- 'voklaw1.CivilNths': WHATEVER THE INPUT: true; the input reads as it did. -/
def civilNthsSpec : ChangeSpec := { name := "civilNths", fn := fun _ => fun
  | [d1, d2, d3, d4] => { results := [.lit (.bool true)], args := [d1, d2, d3, d4] }
  | _ => none }
def civilNthsRow : OpenClaim := { program := "ytpgikdohlhbgoaa", sum := "5aab816b8b164c15036ad03b6940c897a55868d6d32fe14f917d9c9db0534354", func := "convoker/voklaw1.CivilNths", spec := "civilNths", apart := false }
def CivilNthsSaid : Prop := civilNthsRow.holds Try.pinned (OpenSpec.ofChange civilNthsSpec)

/-- ITS FALSE NEIGHBOUR: 'it returns false'. Refute it at one input. -/
def civilNthsWrong : ChangeSpec := { name := "civilNths", fn := fun _ => fun
  | [d1, d2, d3, d4] => { results := [.lit (.bool false)], args := [d1, d2, d3, d4] }
  | _ => none }
def CivilNthsWrongFalsely : Prop := civilNthsRow.holds Try.pinned (OpenSpec.ofChange civilNthsWrong)

/-- 'voklaw1.CivilCycles': WHATEVER THE INPUT: true; the input reads as it did. -/
def civilCyclesSpec : ChangeSpec := { name := "civilCycles", fn := fun _ => fun
  | [d1, d2, d3] => { results := [.lit (.bool true)], args := [d1, d2, d3] }
  | _ => none }
def civilCyclesRow : OpenClaim := { program := "ytpgikdohlhbgoaa", sum := "5aab816b8b164c15036ad03b6940c897a55868d6d32fe14f917d9c9db0534354", func := "convoker/voklaw1.CivilCycles", spec := "civilCycles", apart := false }
def CivilCyclesSaid : Prop := civilCyclesRow.holds Try.pinned (OpenSpec.ofChange civilCyclesSpec)

/-- ITS FALSE NEIGHBOUR: 'it returns false'. Refute it at one input. -/
def civilCyclesWrong : ChangeSpec := { name := "civilCycles", fn := fun _ => fun
  | [d1, d2, d3] => { results := [.lit (.bool false)], args := [d1, d2, d3] }
  | _ => none }
def CivilCyclesWrongFalsely : Prop := civilCyclesRow.holds Try.pinned (OpenSpec.ofChange civilCyclesWrong)

/-- 'voklaw1.CivilWeeks': WHATEVER THE INPUT: true; the input reads as it did. -/
def civilWeeksSpec : ChangeSpec := { name := "civilWeeks", fn := fun _ => fun
  | [d1, d2, d3] => { results := [.lit (.bool true)], args := [d1, d2, d3] }
  | _ => none }
def civilWeeksRow : OpenClaim := { program := "ytpgikdohlhbgoaa", sum := "5aab816b8b164c15036ad03b6940c897a55868d6d32fe14f917d9c9db0534354", func := "convoker/voklaw1.CivilWeeks", spec := "civilWeeks", apart := false }
def CivilWeeksSaid : Prop := civilWeeksRow.holds Try.pinned (OpenSpec.ofChange civilWeeksSpec)

/-- ITS FALSE NEIGHBOUR: 'it returns false'. Refute it at one input. -/
def civilWeeksWrong : ChangeSpec := { name := "civilWeeks", fn := fun _ => fun
  | [d1, d2, d3] => { results := [.lit (.bool false)], args := [d1, d2, d3] }
  | _ => none }
def CivilWeeksWrongFalsely : Prop := civilWeeksRow.holds Try.pinned (OpenSpec.ofChange civilWeeksWrong)

/-- 'voklaw1.CivilTurns': WHATEVER THE INPUT: true; the input reads as it did. -/
def civilTurnsSpec : ChangeSpec := { name := "civilTurns", fn := fun _ => fun
  | [d1, d2] => { results := [.lit (.bool true)], args := [d1, d2] }
  | _ => none }
def civilTurnsRow : OpenClaim := { program := "ytpgikdohlhbgoaa", sum := "5aab816b8b164c15036ad03b6940c897a55868d6d32fe14f917d9c9db0534354", func := "convoker/voklaw1.CivilTurns", spec := "civilTurns", apart := false }
def CivilTurnsSaid : Prop := civilTurnsRow.holds Try.pinned (OpenSpec.ofChange civilTurnsSpec)

/-- ITS FALSE NEIGHBOUR: 'it returns false'. Refute it at one input. -/
def civilTurnsWrong : ChangeSpec := { name := "civilTurns", fn := fun _ => fun
  | [d1, d2] => { results := [.lit (.bool false)], args := [d1, d2] }
  | _ => none }
def CivilTurnsWrongFalsely : Prop := civilTurnsRow.holds Try.pinned (OpenSpec.ofChange civilTurnsWrong)

/-- 'voklaw1.CivilFourths': WHATEVER THE INPUT: true; the input reads as it did. -/
def civilFourthsSpec : ChangeSpec := { name := "civilFourths", fn := fun _ => fun
  | [d1, d2] => { results := [.lit (.bool true)], args := [d1, d2] }
  | _ => none }
def civilFourthsRow : OpenClaim := { program := "ytpgikdohlhbgoaa", sum := "5aab816b8b164c15036ad03b6940c897a55868d6d32fe14f917d9c9db0534354", func := "convoker/voklaw1.CivilFourths", spec := "civilFourths", apart := false }
def CivilFourthsSaid : Prop := civilFourthsRow.holds Try.pinned (OpenSpec.ofChange civilFourthsSpec)

/-- ITS FALSE NEIGHBOUR: 'it returns false'. Refute it at one input. -/
def civilFourthsWrong : ChangeSpec := { name := "civilFourths", fn := fun _ => fun
  | [d1, d2] => { results := [.lit (.bool false)], args := [d1, d2] }
  | _ => none }
def CivilFourthsWrongFalsely : Prop := civilFourthsRow.holds Try.pinned (OpenSpec.ofChange civilFourthsWrong)

/-- 'voklaw1.CivilDates': WHATEVER THE INPUT: true; the input reads as it did. -/
def civilDatesSpec : ChangeSpec := { name := "civilDates", fn := fun _ => fun
  | [d] => { results := [.lit (.bool true)], args := [d] }
  | _ => none }
def civilDatesRow : OpenClaim := { program := "ytpgikdohlhbgoaa", sum := "5aab816b8b164c15036ad03b6940c897a55868d6d32fe14f917d9c9db0534354", func := "convoker/voklaw1.CivilDates", spec := "civilDates", apart := false }
def CivilDatesSaid : Prop := civilDatesRow.holds Try.pinned (OpenSpec.ofChange civilDatesSpec)

/-- ITS FALSE NEIGHBOUR: 'it returns false'. Refute it at one input. -/
def civilDatesWrong : ChangeSpec := { name := "civilDates", fn := fun _ => fun
  | [d] => { results := [.lit (.bool false)], args := [d] }
  | _ => none }
def CivilDatesWrongFalsely : Prop := civilDatesRow.holds Try.pinned (OpenSpec.ofChange civilDatesWrong)

/-- 'voklaw1.CivilYears': WHATEVER THE INPUT: true; the input reads as it did. -/
def civilYearsSpec : ChangeSpec := { name := "civilYears", fn := fun _ => fun
  | [d] => { results := [.lit (.bool true)], args := [d] }
  | _ => none }
def civilYearsRow : OpenClaim := { program := "ytpgikdohlhbgoaa", sum := "5aab816b8b164c15036ad03b6940c897a55868d6d32fe14f917d9c9db0534354", func := "convoker/voklaw1.CivilYears", spec := "civilYears", apart := false }
def CivilYearsSaid : Prop := civilYearsRow.holds Try.pinned (OpenSpec.ofChange civilYearsSpec)

/-- ITS FALSE NEIGHBOUR: 'it returns false'. Refute it at one input. -/
def civilYearsWrong : ChangeSpec := { name := "civilYears", fn := fun _ => fun
  | [d] => { results := [.lit (.bool false)], args := [d] }
  | _ => none }
def CivilYearsWrongFalsely : Prop := civilYearsRow.holds Try.pinned (OpenSpec.ofChange civilYearsWrong)

/-- 'voklaw1.CivilMonths': WHATEVER THE INPUT: true; the input reads as it did. -/
def civilMonthsSpec : ChangeSpec := { name := "civilMonths", fn := fun _ => fun
  | [d1, d2, d3, d4, d5] => { results := [.lit (.bool true)], args := [d1, d2, d3, d4, d5] }
  | _ => none }
def civilMonthsRow : OpenClaim := { program := "ytpgikdohlhbgoaa", sum := "5aab816b8b164c15036ad03b6940c897a55868d6d32fe14f917d9c9db0534354", func := "convoker/voklaw1.CivilMonths", spec := "civilMonths", apart := false }
def CivilMonthsSaid : Prop := civilMonthsRow.holds Try.pinned (OpenSpec.ofChange civilMonthsSpec)

/-- ITS FALSE NEIGHBOUR: 'it returns false'. Refute it at one input. -/
def civilMonthsWrong : ChangeSpec := { name := "civilMonths", fn := fun _ => fun
  | [d1, d2, d3, d4, d5] => { results := [.lit (.bool false)], args := [d1, d2, d3, d4, d5] }
  | _ => none }
def CivilMonthsWrongFalsely : Prop := civilMonthsRow.holds Try.pinned (OpenSpec.ofChange civilMonthsWrong)

/-- 'voklaw1.CivilAdds': WHATEVER THE INPUT: true; the input reads as it did. -/
def civilAddsSpec : ChangeSpec := { name := "civilAdds", fn := fun _ => fun
  | [d1, d2, d3] => { results := [.lit (.bool true)], args := [d1, d2, d3] }
  | _ => none }
def civilAddsRow : OpenClaim := { program := "ytpgikdohlhbgoaa", sum := "5aab816b8b164c15036ad03b6940c897a55868d6d32fe14f917d9c9db0534354", func := "convoker/voklaw1.CivilAdds", spec := "civilAdds", apart := false }
def CivilAddsSaid : Prop := civilAddsRow.holds Try.pinned (OpenSpec.ofChange civilAddsSpec)

/-- ITS FALSE NEIGHBOUR: 'it returns false'. Refute it at one input. -/
def civilAddsWrong : ChangeSpec := { name := "civilAdds", fn := fun _ => fun
  | [d1, d2, d3] => { results := [.lit (.bool false)], args := [d1, d2, d3] }
  | _ => none }
def CivilAddsWrongFalsely : Prop := civilAddsRow.holds Try.pinned (OpenSpec.ofChange civilAddsWrong)

/- THE SECOND FORM. 'bulk': how many values and letters a reading holds, each counted each time it is reached (what is shared counts as often as it is met; a slice's spare places count too). A statement '..UptoSaid' is the law's where the arguments, and the package variables that the reading takes, are together of bulk at most 1048576: NARROWER than '..Said'. Prove '..Said' where nothing that the law and all that it calls make is longer than what came in: it says more and counts as full. Else prove '..UptoSaid'. A law counts once. -/
mutual
def uptoBulk {H : Type} : DataW H → Nat
  | .lit (.string bytes) => bytes.length + 1
  | .lit _ => 1
  | .nil => 1
  | .ptr d => uptoBulk d + 1
  | .slice elems spare => uptoBulkAll elems + uptoBulkAll spare + 1
  | .agg parts => uptoBulkAll parts + 1
  | .iface _ d => uptoBulk d + 1
  | .map entries => uptoBulkEntries entries + 1
  | .held _ => 1
def uptoBulkAll {H : Type} : List (DataW H) → Nat
  | [] => 0
  | d :: r => uptoBulk d + uptoBulkAll r
def uptoBulkEntries {H : Type} : List (Lit × DataW H) → Nat
  | [] => 0
  | x :: r => uptoBulkEntry x + uptoBulkEntries r
def uptoBulkEntry {H : Type} : Lit × DataW H → Nat
  | (.string bytes, d) => bytes.length + uptoBulk d + 1
  | (_, d) => uptoBulk d + 1
 end
def uptoSmall : (H : Type) → List (DataW H) → Bool := fun _ ds => decide (uptoBulkAll ds ≤ 1048576)
def OpenSpec.upto (s : _root_.Go.ChangeSpec) : _root_.Go.OpenSpec := { _root_.Go.OpenSpec.ofChange s with cond := some uptoSmall }

/-- 'voklaw1.CivilDays', WHERE WHAT IT READS IS OF BULK AT MOST 1048576: true; the input reads as it did. -/
def civilDaysUptoRow : OpenClaim := { program := "ytpgikdohlhbgoaa", sum := "5aab816b8b164c15036ad03b6940c897a55868d6d32fe14f917d9c9db0534354", func := "convoker/voklaw1.CivilDays", spec := "civilDays", apart := false, narrowed := true }
def CivilDaysUptoSaid : Prop := civilDaysUptoRow.holds Try.pinned (OpenSpec.upto civilDaysSpec)

/-- 'voklaw1.CivilBack', WHERE WHAT IT READS IS OF BULK AT MOST 1048576: true; the input reads as it did. -/
def civilBackUptoRow : OpenClaim := { program := "ytpgikdohlhbgoaa", sum := "5aab816b8b164c15036ad03b6940c897a55868d6d32fe14f917d9c9db0534354", func := "convoker/voklaw1.CivilBack", spec := "civilBack", apart := false, narrowed := true }
def CivilBackUptoSaid : Prop := civilBackUptoRow.holds Try.pinned (OpenSpec.upto civilBackSpec)

/-- 'voklaw1.CivilRises', WHERE WHAT IT READS IS OF BULK AT MOST 1048576: true; the input reads as it did. -/
def civilRisesUptoRow : OpenClaim := { program := "ytpgikdohlhbgoaa", sum := "5aab816b8b164c15036ad03b6940c897a55868d6d32fe14f917d9c9db0534354", func := "convoker/voklaw1.CivilRises", spec := "civilRises", apart := false, narrowed := true }
def CivilRisesUptoSaid : Prop := civilRisesUptoRow.holds Try.pinned (OpenSpec.upto civilRisesSpec)

/-- 'voklaw1.CivilNths', WHERE WHAT IT READS IS OF BULK AT MOST 1048576: true; the input reads as it did. -/
def civilNthsUptoRow : OpenClaim := { program := "ytpgikdohlhbgoaa", sum := "5aab816b8b164c15036ad03b6940c897a55868d6d32fe14f917d9c9db0534354", func := "convoker/voklaw1.CivilNths", spec := "civilNths", apart := false, narrowed := true }
def CivilNthsUptoSaid : Prop := civilNthsUptoRow.holds Try.pinned (OpenSpec.upto civilNthsSpec)

/-- 'voklaw1.CivilCycles', WHERE WHAT IT READS IS OF BULK AT MOST 1048576: true; the input reads as it did. -/
def civilCyclesUptoRow : OpenClaim := { program := "ytpgikdohlhbgoaa", sum := "5aab816b8b164c15036ad03b6940c897a55868d6d32fe14f917d9c9db0534354", func := "convoker/voklaw1.CivilCycles", spec := "civilCycles", apart := false, narrowed := true }
def CivilCyclesUptoSaid : Prop := civilCyclesUptoRow.holds Try.pinned (OpenSpec.upto civilCyclesSpec)

/-- 'voklaw1.CivilWeeks', WHERE WHAT IT READS IS OF BULK AT MOST 1048576: true; the input reads as it did. -/
def civilWeeksUptoRow : OpenClaim := { program := "ytpgikdohlhbgoaa", sum := "5aab816b8b164c15036ad03b6940c897a55868d6d32fe14f917d9c9db0534354", func := "convoker/voklaw1.CivilWeeks", spec := "civilWeeks", apart := false, narrowed := true }
def CivilWeeksUptoSaid : Prop := civilWeeksUptoRow.holds Try.pinned (OpenSpec.upto civilWeeksSpec)

/-- 'voklaw1.CivilTurns', WHERE WHAT IT READS IS OF BULK AT MOST 1048576: true; the input reads as it did. -/
def civilTurnsUptoRow : OpenClaim := { program := "ytpgikdohlhbgoaa", sum := "5aab816b8b164c15036ad03b6940c897a55868d6d32fe14f917d9c9db0534354", func := "convoker/voklaw1.CivilTurns", spec := "civilTurns", apart := false, narrowed := true }
def CivilTurnsUptoSaid : Prop := civilTurnsUptoRow.holds Try.pinned (OpenSpec.upto civilTurnsSpec)

/-- 'voklaw1.CivilFourths', WHERE WHAT IT READS IS OF BULK AT MOST 1048576: true; the input reads as it did. -/
def civilFourthsUptoRow : OpenClaim := { program := "ytpgikdohlhbgoaa", sum := "5aab816b8b164c15036ad03b6940c897a55868d6d32fe14f917d9c9db0534354", func := "convoker/voklaw1.CivilFourths", spec := "civilFourths", apart := false, narrowed := true }
def CivilFourthsUptoSaid : Prop := civilFourthsUptoRow.holds Try.pinned (OpenSpec.upto civilFourthsSpec)

/-- 'voklaw1.CivilDates', WHERE WHAT IT READS IS OF BULK AT MOST 1048576: true; the input reads as it did. -/
def civilDatesUptoRow : OpenClaim := { program := "ytpgikdohlhbgoaa", sum := "5aab816b8b164c15036ad03b6940c897a55868d6d32fe14f917d9c9db0534354", func := "convoker/voklaw1.CivilDates", spec := "civilDates", apart := false, narrowed := true }
def CivilDatesUptoSaid : Prop := civilDatesUptoRow.holds Try.pinned (OpenSpec.upto civilDatesSpec)

/-- 'voklaw1.CivilYears', WHERE WHAT IT READS IS OF BULK AT MOST 1048576: true; the input reads as it did. -/
def civilYearsUptoRow : OpenClaim := { program := "ytpgikdohlhbgoaa", sum := "5aab816b8b164c15036ad03b6940c897a55868d6d32fe14f917d9c9db0534354", func := "convoker/voklaw1.CivilYears", spec := "civilYears", apart := false, narrowed := true }
def CivilYearsUptoSaid : Prop := civilYearsUptoRow.holds Try.pinned (OpenSpec.upto civilYearsSpec)

/-- 'voklaw1.CivilMonths', WHERE WHAT IT READS IS OF BULK AT MOST 1048576: true; the input reads as it did. -/
def civilMonthsUptoRow : OpenClaim := { program := "ytpgikdohlhbgoaa", sum := "5aab816b8b164c15036ad03b6940c897a55868d6d32fe14f917d9c9db0534354", func := "convoker/voklaw1.CivilMonths", spec := "civilMonths", apart := false, narrowed := true }
def CivilMonthsUptoSaid : Prop := civilMonthsUptoRow.holds Try.pinned (OpenSpec.upto civilMonthsSpec)

/-- 'voklaw1.CivilAdds', WHERE WHAT IT READS IS OF BULK AT MOST 1048576: true; the input reads as it did. -/
def civilAddsUptoRow : OpenClaim := { program := "ytpgikdohlhbgoaa", sum := "5aab816b8b164c15036ad03b6940c897a55868d6d32fe14f917d9c9db0534354", func := "convoker/voklaw1.CivilAdds", spec := "civilAdds", apart := false, narrowed := true }
def CivilAddsUptoSaid : Prop := civilAddsUptoRow.holds Try.pinned (OpenSpec.upto civilAddsSpec)

end Rows
end Go.Proofs.Ytpgikdohlhbgoaa
