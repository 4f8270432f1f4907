/-
  No cell of these rows narrows 'for every input' (looked for: loops, veiled, ifaces, maps, wideKeys, modest, calm, conditions, laid).
  DERIVED. THE GIVEN ROWS OF THIS SEAT. 6 by the template 'for every input the law returns true; each argument reads behind the call as it read before'; 0 by the template 'total and deterministic' (their statements: YtegjpfdbfjfolaaTotals.lean).
  GIVEN WITH THE SEED: the statements are not yours to turn. If you find one false, say at which input.
  Laid BY PROGRAM, IN A SANDBOX (cutbox-rows.mjs): the forced cells as the released guide's own fill.sh prints them over the translation fdc2f01edf26385a… (all of the seat's roots in one cut). By AI agents, Wed Nov 11 2026. No macro, syntax, notation, axiom, sorry.
-/
import Derived.Test.YtegjpfdbfjfolaaChecked
import GoSem.Claim
import GoSem.ClaimJoined
import GoSem.ClaimMapViews
import Derived.JoinedTies
import Derived.KernelRfl
namespace Go.Proofs.Ytegjpfdbfjfolaa
/- THE CELL 'sum', in the pinned program and in every row, IS THE sha256 OF THE DUMP (.gsa) THAT YtegjpfdbfjfolaaProg.lean LOADS. Nothing in Lean hashes anything: it is a label: what it is worth is what the hold of that sum in a sandbox is worth. -/
noncomputable def Try.pinned : Pinned := { name := "ytegjpfdbfjfolaa", sum := "fdc2f01edf26385a86af6da0ba5cb050f5f9a7cfdf0bed593435f845c72622ec", checked := Try.checked }
namespace Rows
def none {H : Type} : Left H := { results := [], args := [] }

/-- 'voklaw12.BoxOnce': WHATEVER THE INPUT: true; the input reads as it did. -/
def boxOnceSpec : ChangeSpec := { name := "boxOnce", fn := fun _ => fun
  | [d1, d2] => { results := [.lit (.bool true)], args := [d1, d2] }
  | _ => none }
def boxOnceRow : OpenClaim := { program := "ytegjpfdbfjfolaa", sum := "fdc2f01edf26385a86af6da0ba5cb050f5f9a7cfdf0bed593435f845c72622ec", func := "convoker/voklaw12.BoxOnce", spec := "boxOnce", apart := false }
def BoxOnceSaid : Prop := boxOnceRow.holds Try.pinned (OpenSpec.ofChange boxOnceSpec)

/-- ITS FALSE NEIGHBOUR: 'it returns false'. Refute it at one input. -/
def boxOnceWrong : ChangeSpec := { name := "boxOnce", fn := fun _ => fun
  | [d1, d2] => { results := [.lit (.bool false)], args := [d1, d2] }
  | _ => none }
def BoxOnceWrongFalsely : Prop := boxOnceRow.holds Try.pinned (OpenSpec.ofChange boxOnceWrong)

/-- 'voklaw12.BoxWheel': WHATEVER THE INPUT: true; the input reads as it did. -/
def boxWheelSpec : ChangeSpec := { name := "boxWheel", fn := fun _ => fun
  | [d1, d2] => { results := [.lit (.bool true)], args := [d1, d2] }
  | _ => none }
def boxWheelRow : OpenClaim := { program := "ytegjpfdbfjfolaa", sum := "fdc2f01edf26385a86af6da0ba5cb050f5f9a7cfdf0bed593435f845c72622ec", func := "convoker/voklaw12.BoxWheel", spec := "boxWheel", apart := false }
def BoxWheelSaid : Prop := boxWheelRow.holds Try.pinned (OpenSpec.ofChange boxWheelSpec)

/-- ITS FALSE NEIGHBOUR: 'it returns false'. Refute it at one input. -/
def boxWheelWrong : ChangeSpec := { name := "boxWheel", fn := fun _ => fun
  | [d1, d2] => { results := [.lit (.bool false)], args := [d1, d2] }
  | _ => none }
def BoxWheelWrongFalsely : Prop := boxWheelRow.holds Try.pinned (OpenSpec.ofChange boxWheelWrong)

/-- 'voklaw12.BoxFirsts': WHATEVER THE INPUT: true; the input reads as it did. -/
def boxFirstsSpec : ChangeSpec := { name := "boxFirsts", fn := fun _ => fun
  | [d1, d2] => { results := [.lit (.bool true)], args := [d1, d2] }
  | _ => none }
def boxFirstsRow : OpenClaim := { program := "ytegjpfdbfjfolaa", sum := "fdc2f01edf26385a86af6da0ba5cb050f5f9a7cfdf0bed593435f845c72622ec", func := "convoker/voklaw12.BoxFirsts", spec := "boxFirsts", apart := false }
def BoxFirstsSaid : Prop := boxFirstsRow.holds Try.pinned (OpenSpec.ofChange boxFirstsSpec)

/-- ITS FALSE NEIGHBOUR: 'it returns false'. Refute it at one input. -/
def boxFirstsWrong : ChangeSpec := { name := "boxFirsts", fn := fun _ => fun
  | [d1, d2] => { results := [.lit (.bool false)], args := [d1, d2] }
  | _ => none }
def BoxFirstsWrongFalsely : Prop := boxFirstsRow.holds Try.pinned (OpenSpec.ofChange boxFirstsWrong)

/-- 'voklaw12.BoxTurns': WHATEVER THE INPUT: true; the input reads as it did. -/
def boxTurnsSpec : ChangeSpec := { name := "boxTurns", fn := fun _ => fun
  | [d1, d2] => { results := [.lit (.bool true)], args := [d1, d2] }
  | _ => none }
def boxTurnsRow : OpenClaim := { program := "ytegjpfdbfjfolaa", sum := "fdc2f01edf26385a86af6da0ba5cb050f5f9a7cfdf0bed593435f845c72622ec", func := "convoker/voklaw12.BoxTurns", spec := "boxTurns", apart := false }
def BoxTurnsSaid : Prop := boxTurnsRow.holds Try.pinned (OpenSpec.ofChange boxTurnsSpec)

/-- ITS FALSE NEIGHBOUR: 'it returns false'. Refute it at one input. -/
def boxTurnsWrong : ChangeSpec := { name := "boxTurns", fn := fun _ => fun
  | [d1, d2] => { results := [.lit (.bool false)], args := [d1, d2] }
  | _ => none }
def BoxTurnsWrongFalsely : Prop := boxTurnsRow.holds Try.pinned (OpenSpec.ofChange boxTurnsWrong)

/-- 'voklaw12.BoxPlays': WHATEVER THE INPUT: true; the input reads as it did. -/
def boxPlaysSpec : ChangeSpec := { name := "boxPlays", fn := fun _ => fun
  | [d1, d2] => { results := [.lit (.bool true)], args := [d1, d2] }
  | _ => none }
def boxPlaysRow : OpenClaim := { program := "ytegjpfdbfjfolaa", sum := "fdc2f01edf26385a86af6da0ba5cb050f5f9a7cfdf0bed593435f845c72622ec", func := "convoker/voklaw12.BoxPlays", spec := "boxPlays", apart := false }
def BoxPlaysSaid : Prop := boxPlaysRow.holds Try.pinned (OpenSpec.ofChange boxPlaysSpec)

/-- ITS FALSE NEIGHBOUR: 'it returns false'. Refute it at one input. -/
def boxPlaysWrong : ChangeSpec := { name := "boxPlays", fn := fun _ => fun
  | [d1, d2] => { results := [.lit (.bool false)], args := [d1, d2] }
  | _ => none }
def BoxPlaysWrongFalsely : Prop := boxPlaysRow.holds Try.pinned (OpenSpec.ofChange boxPlaysWrong)

/-- 'voklaw12.BoxCopies': WHATEVER THE INPUT: true; the input reads as it did. -/
def boxCopiesSpec : ChangeSpec := { name := "boxCopies", fn := fun _ => fun
  | [d1, d2, d3] => { results := [.lit (.bool true)], args := [d1, d2, d3] }
  | _ => none }
def boxCopiesRow : OpenClaim := { program := "ytegjpfdbfjfolaa", sum := "fdc2f01edf26385a86af6da0ba5cb050f5f9a7cfdf0bed593435f845c72622ec", func := "convoker/voklaw12.BoxCopies", spec := "boxCopies", apart := false }
def BoxCopiesSaid : Prop := boxCopiesRow.holds Try.pinned (OpenSpec.ofChange boxCopiesSpec)

/-- ITS FALSE NEIGHBOUR: 'it returns false'. Refute it at one input. -/
def boxCopiesWrong : ChangeSpec := { name := "boxCopies", fn := fun _ => fun
  | [d1, d2, d3] => { results := [.lit (.bool false)], args := [d1, d2, d3] }
  | _ => none }
def BoxCopiesWrongFalsely : Prop := boxCopiesRow.holds Try.pinned (OpenSpec.ofChange boxCopiesWrong)

/- THE SECOND FORM. 'bulk': how many values and letters a reading holds, each counted each time it is reached (what is shared counts as often as it is met; a slice's spare places count too). A statement '..UptoSaid' is the law's where the arguments, and the package variables that the reading takes, are together of bulk at most 1048576: NARROWER than '..Said'. Prove '..Said' where nothing that the law and all that it calls make is longer than what came in: it says more and counts as full. Else prove '..UptoSaid'. A law counts once. -/
mutual
def uptoBulk {H : Type} : DataW H → Nat
  | .lit (.string bytes) => bytes.length + 1
  | .lit _ => 1
  | .nil => 1
  | .ptr d => uptoBulk d + 1
  | .slice elems spare => uptoBulkAll elems + uptoBulkAll spare + 1
  | .agg parts => uptoBulkAll parts + 1
  | .iface _ d => uptoBulk d + 1
  | .map entries => uptoBulkEntries entries + 1
  | .held _ => 1
def uptoBulkAll {H : Type} : List (DataW H) → Nat
  | [] => 0
  | d :: r => uptoBulk d + uptoBulkAll r
def uptoBulkEntries {H : Type} : List (Lit × DataW H) → Nat
  | [] => 0
  | x :: r => uptoBulkEntry x + uptoBulkEntries r
def uptoBulkEntry {H : Type} : Lit × DataW H → Nat
  | (.string bytes, d) => bytes.length + uptoBulk d + 1
  | (_, d) => uptoBulk d + 1
 end
def uptoSmall : (H : Type) → List (DataW H) → Bool := fun _ ds => decide (uptoBulkAll ds ≤ 1048576)
def OpenSpec.upto (s : _root_.Go.ChangeSpec) : _root_.Go.OpenSpec := { _root_.Go.OpenSpec.ofChange s with cond := some uptoSmall }

/-- 'voklaw12.BoxOnce', WHERE WHAT IT READS IS OF BULK AT MOST 1048576: true; the input reads as it did. -/
def boxOnceUptoRow : OpenClaim := { program := "ytegjpfdbfjfolaa", sum := "fdc2f01edf26385a86af6da0ba5cb050f5f9a7cfdf0bed593435f845c72622ec", func := "convoker/voklaw12.BoxOnce", spec := "boxOnce", apart := false, narrowed := true }
def BoxOnceUptoSaid : Prop := boxOnceUptoRow.holds Try.pinned (OpenSpec.upto boxOnceSpec)

/-- 'voklaw12.BoxWheel', WHERE WHAT IT READS IS OF BULK AT MOST 1048576: true; the input reads as it did. -/
def boxWheelUptoRow : OpenClaim := { program := "ytegjpfdbfjfolaa", sum := "fdc2f01edf26385a86af6da0ba5cb050f5f9a7cfdf0bed593435f845c72622ec", func := "convoker/voklaw12.BoxWheel", spec := "boxWheel", apart := false, narrowed := true }
def BoxWheelUptoSaid : Prop := boxWheelUptoRow.holds Try.pinned (OpenSpec.upto boxWheelSpec)

/-- 'voklaw12.BoxFirsts', WHERE WHAT IT READS IS OF BULK AT MOST 1048576: true; the input reads as it did. -/
def boxFirstsUptoRow : OpenClaim := { program := "ytegjpfdbfjfolaa", sum := "fdc2f01edf26385a86af6da0ba5cb050f5f9a7cfdf0bed593435f845c72622ec", func := "convoker/voklaw12.BoxFirsts", spec := "boxFirsts", apart := false, narrowed := true }
def BoxFirstsUptoSaid : Prop := boxFirstsUptoRow.holds Try.pinned (OpenSpec.upto boxFirstsSpec)

/-- 'voklaw12.BoxTurns', WHERE WHAT IT READS IS OF BULK AT MOST 1048576: true; the input reads as it did. -/
def boxTurnsUptoRow : OpenClaim := { program := "ytegjpfdbfjfolaa", sum := "fdc2f01edf26385a86af6da0ba5cb050f5f9a7cfdf0bed593435f845c72622ec", func := "convoker/voklaw12.BoxTurns", spec := "boxTurns", apart := false, narrowed := true }
def BoxTurnsUptoSaid : Prop := boxTurnsUptoRow.holds Try.pinned (OpenSpec.upto boxTurnsSpec)

/-- 'voklaw12.BoxPlays', WHERE WHAT IT READS IS OF BULK AT MOST 1048576: true; the input reads as it did. -/
def boxPlaysUptoRow : OpenClaim := { program := "ytegjpfdbfjfolaa", sum := "fdc2f01edf26385a86af6da0ba5cb050f5f9a7cfdf0bed593435f845c72622ec", func := "convoker/voklaw12.BoxPlays", spec := "boxPlays", apart := false, narrowed := true }
def BoxPlaysUptoSaid : Prop := boxPlaysUptoRow.holds Try.pinned (OpenSpec.upto boxPlaysSpec)

/-- 'voklaw12.BoxCopies', WHERE WHAT IT READS IS OF BULK AT MOST 1048576: true; the input reads as it did. -/
def boxCopiesUptoRow : OpenClaim := { program := "ytegjpfdbfjfolaa", sum := "fdc2f01edf26385a86af6da0ba5cb050f5f9a7cfdf0bed593435f845c72622ec", func := "convoker/voklaw12.BoxCopies", spec := "boxCopies", apart := false, narrowed := true }
def BoxCopiesUptoSaid : Prop := boxCopiesUptoRow.holds Try.pinned (OpenSpec.upto boxCopiesSpec)

end Rows
end Go.Proofs.Ytegjpfdbfjfolaa
