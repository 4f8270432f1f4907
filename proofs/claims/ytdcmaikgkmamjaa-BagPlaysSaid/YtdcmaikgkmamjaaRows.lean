/-
  No cell of these rows narrows 'for every input' (looked for: loops, veiled, ifaces, maps, wideKeys, modest, calm, conditions, laid).
  DERIVED. THE GIVEN ROWS OF THIS SEAT. 4 by the template 'for every input the law returns true; each argument reads behind the call as it read before'; 0 by the template 'total and deterministic' (their statements: YtdcmaikgkmamjaaTotals.lean).
  GIVEN WITH THE SEED: the statements are not yours to turn. If you find one false, say at which input.
  Laid BY PROGRAM, IN A SANDBOX (cutbox-rows.mjs): the forced cells as the released guide's own fill.sh prints them over the translation 6666a6751e75e5ab… (all of the seat's roots in one cut). By AI agents, Wed Nov 11 2026. No macro, syntax, notation, axiom, sorry.
-/
import Derived.Test.YtdcmaikgkmamjaaChecked
import GoSem.Claim
import GoSem.ClaimJoined
import GoSem.ClaimMapViews
import Derived.JoinedTies
import Derived.KernelRfl
namespace Go.Proofs.Ytdcmaikgkmamjaa
/- THE CELL 'sum', in the pinned program and in every row, IS THE sha256 OF THE DUMP (.gsa) THAT YtdcmaikgkmamjaaProg.lean LOADS. Nothing in Lean hashes anything: it is a label: what it is worth is what the hold of that sum in a sandbox is worth. -/
noncomputable def Try.pinned : Pinned := { name := "ytdcmaikgkmamjaa", sum := "6666a6751e75e5ab60f1e914965b62f40ecb599d85a560f52d4e176576eafddf", checked := Try.checked }
namespace Rows
def none {H : Type} : Left H := { results := [], args := [] }

/-- 'voklaw20.BagTwice': WHATEVER THE INPUT: true; the input reads as it did. -/
def bagTwiceSpec : ChangeSpec := { name := "bagTwice", fn := fun _ => fun
  | [d1, d2, d3] => { results := [.lit (.bool true)], args := [d1, d2, d3] }
  | _ => none }
def bagTwiceRow : OpenClaim := { program := "ytdcmaikgkmamjaa", sum := "6666a6751e75e5ab60f1e914965b62f40ecb599d85a560f52d4e176576eafddf", func := "convoker/voklaw20.BagTwice", spec := "bagTwice", apart := false }
def BagTwiceSaid : Prop := bagTwiceRow.holds Try.pinned (OpenSpec.ofChange bagTwiceSpec)

/-- ITS FALSE NEIGHBOUR: 'it returns false'. Refute it at one input. -/
def bagTwiceWrong : ChangeSpec := { name := "bagTwice", fn := fun _ => fun
  | [d1, d2, d3] => { results := [.lit (.bool false)], args := [d1, d2, d3] }
  | _ => none }
def BagTwiceWrongFalsely : Prop := bagTwiceRow.holds Try.pinned (OpenSpec.ofChange bagTwiceWrong)

/-- 'voklaw20.BagOrder': WHATEVER THE INPUT: true; the input reads as it did. -/
def bagOrderSpec : ChangeSpec := { name := "bagOrder", fn := fun _ => fun
  | [d1, d2] => { results := [.lit (.bool true)], args := [d1, d2] }
  | _ => none }
def bagOrderRow : OpenClaim := { program := "ytdcmaikgkmamjaa", sum := "6666a6751e75e5ab60f1e914965b62f40ecb599d85a560f52d4e176576eafddf", func := "convoker/voklaw20.BagOrder", spec := "bagOrder", apart := false }
def BagOrderSaid : Prop := bagOrderRow.holds Try.pinned (OpenSpec.ofChange bagOrderSpec)

/-- ITS FALSE NEIGHBOUR: 'it returns false'. Refute it at one input. -/
def bagOrderWrong : ChangeSpec := { name := "bagOrder", fn := fun _ => fun
  | [d1, d2] => { results := [.lit (.bool false)], args := [d1, d2] }
  | _ => none }
def BagOrderWrongFalsely : Prop := bagOrderRow.holds Try.pinned (OpenSpec.ofChange bagOrderWrong)

/-- 'voklaw20.BagPlays': WHATEVER THE INPUT: true; the input reads as it did. -/
def bagPlaysSpec : ChangeSpec := { name := "bagPlays", fn := fun _ => fun
  | [d1, d2] => { results := [.lit (.bool true)], args := [d1, d2] }
  | _ => none }
def bagPlaysRow : OpenClaim := { program := "ytdcmaikgkmamjaa", sum := "6666a6751e75e5ab60f1e914965b62f40ecb599d85a560f52d4e176576eafddf", func := "convoker/voklaw20.BagPlays", spec := "bagPlays", apart := false }
def BagPlaysSaid : Prop := bagPlaysRow.holds Try.pinned (OpenSpec.ofChange bagPlaysSpec)

/-- ITS FALSE NEIGHBOUR: 'it returns false'. Refute it at one input. -/
def bagPlaysWrong : ChangeSpec := { name := "bagPlays", fn := fun _ => fun
  | [d1, d2] => { results := [.lit (.bool false)], args := [d1, d2] }
  | _ => none }
def BagPlaysWrongFalsely : Prop := bagPlaysRow.holds Try.pinned (OpenSpec.ofChange bagPlaysWrong)

/-- 'voklaw20.BagCopies': WHATEVER THE INPUT: true; the input reads as it did. -/
def bagCopiesSpec : ChangeSpec := { name := "bagCopies", fn := fun _ => fun
  | [d1, d2, d3] => { results := [.lit (.bool true)], args := [d1, d2, d3] }
  | _ => none }
def bagCopiesRow : OpenClaim := { program := "ytdcmaikgkmamjaa", sum := "6666a6751e75e5ab60f1e914965b62f40ecb599d85a560f52d4e176576eafddf", func := "convoker/voklaw20.BagCopies", spec := "bagCopies", apart := false }
def BagCopiesSaid : Prop := bagCopiesRow.holds Try.pinned (OpenSpec.ofChange bagCopiesSpec)

/-- ITS FALSE NEIGHBOUR: 'it returns false'. Refute it at one input. -/
def bagCopiesWrong : ChangeSpec := { name := "bagCopies", fn := fun _ => fun
  | [d1, d2, d3] => { results := [.lit (.bool false)], args := [d1, d2, d3] }
  | _ => none }
def BagCopiesWrongFalsely : Prop := bagCopiesRow.holds Try.pinned (OpenSpec.ofChange bagCopiesWrong)

/- THE SECOND FORM. 'bulk': how many values and letters a reading holds, each counted each time it is reached (what is shared counts as often as it is met; a slice's spare places count too). A statement '..UptoSaid' is the law's where the arguments, and the package variables that the reading takes, are together of bulk at most 1048576: NARROWER than '..Said'. Prove '..Said' where nothing that the law and all that it calls make is longer than what came in: it says more and counts as full. Else prove '..UptoSaid'. A law counts once. -/
mutual
def uptoBulk {H : Type} : DataW H → Nat
  | .lit (.string bytes) => bytes.length + 1
  | .lit _ => 1
  | .nil => 1
  | .ptr d => uptoBulk d + 1
  | .slice elems spare => uptoBulkAll elems + uptoBulkAll spare + 1
  | .agg parts => uptoBulkAll parts + 1
  | .iface _ d => uptoBulk d + 1
  | .map entries => uptoBulkEntries entries + 1
  | .held _ => 1
def uptoBulkAll {H : Type} : List (DataW H) → Nat
  | [] => 0
  | d :: r => uptoBulk d + uptoBulkAll r
def uptoBulkEntries {H : Type} : List (Lit × DataW H) → Nat
  | [] => 0
  | x :: r => uptoBulkEntry x + uptoBulkEntries r
def uptoBulkEntry {H : Type} : Lit × DataW H → Nat
  | (.string bytes, d) => bytes.length + uptoBulk d + 1
  | (_, d) => uptoBulk d + 1
 end
def uptoSmall : (H : Type) → List (DataW H) → Bool := fun _ ds => decide (uptoBulkAll ds ≤ 1048576)
def OpenSpec.upto (s : _root_.Go.ChangeSpec) : _root_.Go.OpenSpec := { _root_.Go.OpenSpec.ofChange s with cond := some uptoSmall }

/-- 'voklaw20.BagTwice', WHERE WHAT IT READS IS OF BULK AT MOST 1048576: true; the input reads as it did. -/
def bagTwiceUptoRow : OpenClaim := { program := "ytdcmaikgkmamjaa", sum := "6666a6751e75e5ab60f1e914965b62f40ecb599d85a560f52d4e176576eafddf", func := "convoker/voklaw20.BagTwice", spec := "bagTwice", apart := false, narrowed := true }
def BagTwiceUptoSaid : Prop := bagTwiceUptoRow.holds Try.pinned (OpenSpec.upto bagTwiceSpec)

/-- 'voklaw20.BagOrder', WHERE WHAT IT READS IS OF BULK AT MOST 1048576: true; the input reads as it did. -/
def bagOrderUptoRow : OpenClaim := { program := "ytdcmaikgkmamjaa", sum := "6666a6751e75e5ab60f1e914965b62f40ecb599d85a560f52d4e176576eafddf", func := "convoker/voklaw20.BagOrder", spec := "bagOrder", apart := false, narrowed := true }
def BagOrderUptoSaid : Prop := bagOrderUptoRow.holds Try.pinned (OpenSpec.upto bagOrderSpec)

/-- 'voklaw20.BagPlays', WHERE WHAT IT READS IS OF BULK AT MOST 1048576: true; the input reads as it did. -/
def bagPlaysUptoRow : OpenClaim := { program := "ytdcmaikgkmamjaa", sum := "6666a6751e75e5ab60f1e914965b62f40ecb599d85a560f52d4e176576eafddf", func := "convoker/voklaw20.BagPlays", spec := "bagPlays", apart := false, narrowed := true }
def BagPlaysUptoSaid : Prop := bagPlaysUptoRow.holds Try.pinned (OpenSpec.upto bagPlaysSpec)

/-- 'voklaw20.BagCopies', WHERE WHAT IT READS IS OF BULK AT MOST 1048576: true; the input reads as it did. -/
def bagCopiesUptoRow : OpenClaim := { program := "ytdcmaikgkmamjaa", sum := "6666a6751e75e5ab60f1e914965b62f40ecb599d85a560f52d4e176576eafddf", func := "convoker/voklaw20.BagCopies", spec := "bagCopies", apart := false, narrowed := true }
def BagCopiesUptoSaid : Prop := bagCopiesUptoRow.holds Try.pinned (OpenSpec.upto bagCopiesSpec)

end Rows
end Go.Proofs.Ytdcmaikgkmamjaa
