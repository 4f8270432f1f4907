/-
  No cell of these rows narrows 'for every input' (looked for: loops, veiled, ifaces, maps, wideKeys, modest, calm, conditions, laid).
  DERIVED. THE GIVEN ROWS OF THIS SEAT. 5 by the template 'for every input the law returns true; each argument reads behind the call as it read before'; 0 by the template 'total and deterministic' (their statements: YtkhbpaloicefdaaTotals.lean).
  GIVEN WITH THE SEED: the statements are not yours to turn. If you find one false, say at which input.
  Laid BY PROGRAM, IN A SANDBOX (cutbox-rows.mjs): the forced cells as the released guide's own fill.sh prints them over the translation 8fa2ee61e7739685… (all of the seat's roots in one cut). By AI agents, Wed Nov 11 2026. No macro, syntax, notation, axiom, sorry.
-/
import Derived.Test.YtkhbpaloicefdaaChecked
import GoSem.Claim
import GoSem.ClaimJoined
import GoSem.ClaimMapViews
import Derived.JoinedTies
import Derived.KernelRfl
namespace Go.Proofs.Ytkhbpaloicefdaa
/- THE CELL 'sum', in the pinned program and in every row, IS THE sha256 OF THE DUMP (.gsa) THAT YtkhbpaloicefdaaProg.lean LOADS. Nothing in Lean hashes anything: it is a label: what it is worth is what the hold of that sum in a sandbox is worth. -/
noncomputable def Try.pinned : Pinned := { name := "ytkhbpaloicefdaa", sum := "8fa2ee61e7739685be6dbe2de6164080fb2d248db71d8cbc067f4f3afd837b46", checked := Try.checked }
namespace Rows
def none {H : Type} : Left H := { results := [], args := [] }

/-- 'voklaw15.WalKeeps': WHATEVER THE INPUT: true; the input reads as it did. -/
def walKeepsSpec : ChangeSpec := { name := "walKeeps", fn := fun _ => fun
  | [d1, d2, d3] => { results := [.lit (.bool true)], args := [d1, d2, d3] }
  | _ => none }
def walKeepsRow : OpenClaim := { program := "ytkhbpaloicefdaa", sum := "8fa2ee61e7739685be6dbe2de6164080fb2d248db71d8cbc067f4f3afd837b46", func := "convoker/voklaw15.WalKeeps", spec := "walKeeps", apart := false }
def WalKeepsSaid : Prop := walKeepsRow.holds Try.pinned (OpenSpec.ofChange walKeepsSpec)

/-- ITS FALSE NEIGHBOUR: 'it returns false'. Refute it at one input. -/
def walKeepsWrong : ChangeSpec := { name := "walKeeps", fn := fun _ => fun
  | [d1, d2, d3] => { results := [.lit (.bool false)], args := [d1, d2, d3] }
  | _ => none }
def WalKeepsWrongFalsely : Prop := walKeepsRow.holds Try.pinned (OpenSpec.ofChange walKeepsWrong)

/-- 'voklaw15.WalAgain': WHATEVER THE INPUT: true; the input reads as it did. -/
def walAgainSpec : ChangeSpec := { name := "walAgain", fn := fun _ => fun
  | [d1, d2] => { results := [.lit (.bool true)], args := [d1, d2] }
  | _ => none }
def walAgainRow : OpenClaim := { program := "ytkhbpaloicefdaa", sum := "8fa2ee61e7739685be6dbe2de6164080fb2d248db71d8cbc067f4f3afd837b46", func := "convoker/voklaw15.WalAgain", spec := "walAgain", apart := false }
def WalAgainSaid : Prop := walAgainRow.holds Try.pinned (OpenSpec.ofChange walAgainSpec)

/-- ITS FALSE NEIGHBOUR: 'it returns false'. Refute it at one input. -/
def walAgainWrong : ChangeSpec := { name := "walAgain", fn := fun _ => fun
  | [d1, d2] => { results := [.lit (.bool false)], args := [d1, d2] }
  | _ => none }
def WalAgainWrongFalsely : Prop := walAgainRow.holds Try.pinned (OpenSpec.ofChange walAgainWrong)

/-- 'voklaw15.WalLong': WHATEVER THE INPUT: true; the input reads as it did. -/
def walLongSpec : ChangeSpec := { name := "walLong", fn := fun _ => fun
  | [d1, d2] => { results := [.lit (.bool true)], args := [d1, d2] }
  | _ => none }
def walLongRow : OpenClaim := { program := "ytkhbpaloicefdaa", sum := "8fa2ee61e7739685be6dbe2de6164080fb2d248db71d8cbc067f4f3afd837b46", func := "convoker/voklaw15.WalLong", spec := "walLong", apart := false }
def WalLongSaid : Prop := walLongRow.holds Try.pinned (OpenSpec.ofChange walLongSpec)

/-- ITS FALSE NEIGHBOUR: 'it returns false'. Refute it at one input. -/
def walLongWrong : ChangeSpec := { name := "walLong", fn := fun _ => fun
  | [d1, d2] => { results := [.lit (.bool false)], args := [d1, d2] }
  | _ => none }
def WalLongWrongFalsely : Prop := walLongRow.holds Try.pinned (OpenSpec.ofChange walLongWrong)

/-- 'voklaw15.WalFile': WHATEVER THE INPUT: true; the input reads as it did. -/
def walFileSpec : ChangeSpec := { name := "walFile", fn := fun _ => fun
  | [d1, d2, d3] => { results := [.lit (.bool true)], args := [d1, d2, d3] }
  | _ => none }
def walFileRow : OpenClaim := { program := "ytkhbpaloicefdaa", sum := "8fa2ee61e7739685be6dbe2de6164080fb2d248db71d8cbc067f4f3afd837b46", func := "convoker/voklaw15.WalFile", spec := "walFile", apart := false }
def WalFileSaid : Prop := walFileRow.holds Try.pinned (OpenSpec.ofChange walFileSpec)

/-- ITS FALSE NEIGHBOUR: 'it returns false'. Refute it at one input. -/
def walFileWrong : ChangeSpec := { name := "walFile", fn := fun _ => fun
  | [d1, d2, d3] => { results := [.lit (.bool false)], args := [d1, d2, d3] }
  | _ => none }
def WalFileWrongFalsely : Prop := walFileRow.holds Try.pinned (OpenSpec.ofChange walFileWrong)

/-- 'voklaw15.WalPlays': WHATEVER THE INPUT: true; the input reads as it did. -/
def walPlaysSpec : ChangeSpec := { name := "walPlays", fn := fun _ => fun
  | [d1, d2, d3] => { results := [.lit (.bool true)], args := [d1, d2, d3] }
  | _ => none }
def walPlaysRow : OpenClaim := { program := "ytkhbpaloicefdaa", sum := "8fa2ee61e7739685be6dbe2de6164080fb2d248db71d8cbc067f4f3afd837b46", func := "convoker/voklaw15.WalPlays", spec := "walPlays", apart := false }
def WalPlaysSaid : Prop := walPlaysRow.holds Try.pinned (OpenSpec.ofChange walPlaysSpec)

/-- ITS FALSE NEIGHBOUR: 'it returns false'. Refute it at one input. -/
def walPlaysWrong : ChangeSpec := { name := "walPlays", fn := fun _ => fun
  | [d1, d2, d3] => { results := [.lit (.bool false)], args := [d1, d2, d3] }
  | _ => none }
def WalPlaysWrongFalsely : Prop := walPlaysRow.holds Try.pinned (OpenSpec.ofChange walPlaysWrong)

/- THE SECOND FORM. 'bulk': how many values and letters a reading holds, each counted each time it is reached (what is shared counts as often as it is met; a slice's spare places count too). A statement '..UptoSaid' is the law's where the arguments, and the package variables that the reading takes, are together of bulk at most 1048576: NARROWER than '..Said'. Prove '..Said' where nothing that the law and all that it calls make is longer than what came in: it says more and counts as full. Else prove '..UptoSaid'. A law counts once. -/
mutual
def uptoBulk {H : Type} : DataW H → Nat
  | .lit (.string bytes) => bytes.length + 1
  | .lit _ => 1
  | .nil => 1
  | .ptr d => uptoBulk d + 1
  | .slice elems spare => uptoBulkAll elems + uptoBulkAll spare + 1
  | .agg parts => uptoBulkAll parts + 1
  | .iface _ d => uptoBulk d + 1
  | .map entries => uptoBulkEntries entries + 1
  | .held _ => 1
def uptoBulkAll {H : Type} : List (DataW H) → Nat
  | [] => 0
  | d :: r => uptoBulk d + uptoBulkAll r
def uptoBulkEntries {H : Type} : List (Lit × DataW H) → Nat
  | [] => 0
  | x :: r => uptoBulkEntry x + uptoBulkEntries r
def uptoBulkEntry {H : Type} : Lit × DataW H → Nat
  | (.string bytes, d) => bytes.length + uptoBulk d + 1
  | (_, d) => uptoBulk d + 1
 end
def uptoSmall : (H : Type) → List (DataW H) → Bool := fun _ ds => decide (uptoBulkAll ds ≤ 1048576)
def OpenSpec.upto (s : _root_.Go.ChangeSpec) : _root_.Go.OpenSpec := { _root_.Go.OpenSpec.ofChange s with cond := some uptoSmall }

/-- 'voklaw15.WalKeeps', WHERE WHAT IT READS IS OF BULK AT MOST 1048576: true; the input reads as it did. -/
def walKeepsUptoRow : OpenClaim := { program := "ytkhbpaloicefdaa", sum := "8fa2ee61e7739685be6dbe2de6164080fb2d248db71d8cbc067f4f3afd837b46", func := "convoker/voklaw15.WalKeeps", spec := "walKeeps", apart := false, narrowed := true }
def WalKeepsUptoSaid : Prop := walKeepsUptoRow.holds Try.pinned (OpenSpec.upto walKeepsSpec)

/-- 'voklaw15.WalAgain', WHERE WHAT IT READS IS OF BULK AT MOST 1048576: true; the input reads as it did. -/
def walAgainUptoRow : OpenClaim := { program := "ytkhbpaloicefdaa", sum := "8fa2ee61e7739685be6dbe2de6164080fb2d248db71d8cbc067f4f3afd837b46", func := "convoker/voklaw15.WalAgain", spec := "walAgain", apart := false, narrowed := true }
def WalAgainUptoSaid : Prop := walAgainUptoRow.holds Try.pinned (OpenSpec.upto walAgainSpec)

/-- 'voklaw15.WalLong', WHERE WHAT IT READS IS OF BULK AT MOST 1048576: true; the input reads as it did. -/
def walLongUptoRow : OpenClaim := { program := "ytkhbpaloicefdaa", sum := "8fa2ee61e7739685be6dbe2de6164080fb2d248db71d8cbc067f4f3afd837b46", func := "convoker/voklaw15.WalLong", spec := "walLong", apart := false, narrowed := true }
def WalLongUptoSaid : Prop := walLongUptoRow.holds Try.pinned (OpenSpec.upto walLongSpec)

/-- 'voklaw15.WalFile', WHERE WHAT IT READS IS OF BULK AT MOST 1048576: true; the input reads as it did. -/
def walFileUptoRow : OpenClaim := { program := "ytkhbpaloicefdaa", sum := "8fa2ee61e7739685be6dbe2de6164080fb2d248db71d8cbc067f4f3afd837b46", func := "convoker/voklaw15.WalFile", spec := "walFile", apart := false, narrowed := true }
def WalFileUptoSaid : Prop := walFileUptoRow.holds Try.pinned (OpenSpec.upto walFileSpec)

/-- 'voklaw15.WalPlays', WHERE WHAT IT READS IS OF BULK AT MOST 1048576: true; the input reads as it did. -/
def walPlaysUptoRow : OpenClaim := { program := "ytkhbpaloicefdaa", sum := "8fa2ee61e7739685be6dbe2de6164080fb2d248db71d8cbc067f4f3afd837b46", func := "convoker/voklaw15.WalPlays", spec := "walPlays", apart := false, narrowed := true }
def WalPlaysUptoSaid : Prop := walPlaysUptoRow.holds Try.pinned (OpenSpec.upto walPlaysSpec)

end Rows
end Go.Proofs.Ytkhbpaloicefdaa
