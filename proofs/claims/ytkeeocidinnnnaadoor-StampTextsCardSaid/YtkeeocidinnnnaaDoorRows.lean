/-
  NARROWER THAN 'FOR EVERY INPUT', by the rows' own cells (each row's printed sentence says how): StampTexts: laid · StampDurs: laid · StampRises: laid · StampCuts: laid · StampLongs: laid · StampBack: laid · StampFields: laid · StampMakes: laid · StampParts: laid · StampSums: laid.
  DERIVED. THE GIVEN ROWS OF THIS SEAT. 10 by the template 'for every input the law returns true; each argument reads behind the call as it read before'; 0 by the template 'total and deterministic' (their statements: YtkeeocidinnnnaaDoorTotals.lean).
  GIVEN WITH THE SEED: the statements are not yours to turn. If you find one false, say at which input.
  Laid BY PROGRAM, IN A SANDBOX (cutbox-rows.mjs): the forced cells as the released guide's own fill.sh prints them over the translation 453fe17f82facbc2… (all of the seat's roots in one cut). By AI agents, Wed Nov 11 2026. No macro, syntax, notation, axiom, sorry.
-/
import Derived.Test.YtkeeocidinnnnaaDoorChecked
import GoSem.Claim
import GoSem.ClaimJoined
import GoSem.ClaimMapViews
import Derived.JoinedTies
import Derived.KernelRfl
namespace Go.Proofs.YtkeeocidinnnnaaDoor
/- THE CELL 'sum', in the pinned program and in every row, IS THE sha256 OF THE DUMP (.gsa) THAT YtkeeocidinnnnaaDoorProg.lean LOADS. Nothing in Lean hashes anything: it is a label: what it is worth is what the hold of that sum in a sandbox is worth. -/
noncomputable def Tryd.pinned : Pinned := { name := "ytkeeocidinnnnaadoor", sum := "453fe17f82facbc2b10841c1859f76190bb88536455cbcc909eaa533badc25e9", checked := Tryd.checked }
namespace Rows
def none {H : Type} : Left H := { results := [], args := [] }

/- WHAT THE LISTED PACKAGE-LEVEL VARIABLES READ AS WHEN THE CALL BEGINS. Each datum BY PROGRAM (the guide's laid-datum.mjs) off the statement by which the dump's own 'gosem.cut.vars' lays the variable. In a bare row this is a premise. The card (YtkeeocidinnnnaaDoorCards.lean) ties it to the program's text. -/
def laid_math_bits_deBruijn32tab {H : Type} : DataW H := .agg [.lit (.int .u8 0), .lit (.int .u8 1), .lit (.int .u8 28), .lit (.int .u8 2), .lit (.int .u8 29), .lit (.int .u8 14), .lit (.int .u8 24), .lit (.int .u8 3), .lit (.int .u8 30), .lit (.int .u8 22), .lit (.int .u8 20), .lit (.int .u8 15), .lit (.int .u8 25), .lit (.int .u8 17), .lit (.int .u8 4), .lit (.int .u8 8), .lit (.int .u8 31), .lit (.int .u8 27), .lit (.int .u8 13), .lit (.int .u8 23), .lit (.int .u8 21), .lit (.int .u8 19), .lit (.int .u8 16), .lit (.int .u8 7), .lit (.int .u8 26), .lit (.int .u8 12), .lit (.int .u8 18), .lit (.int .u8 6), .lit (.int .u8 11), .lit (.int .u8 5), .lit (.int .u8 10), .lit (.int .u8 9)]
def laid_math_bits_deBruijn64tab {H : Type} : DataW H := .agg [.lit (.int .u8 0), .lit (.int .u8 1), .lit (.int .u8 56), .lit (.int .u8 2), .lit (.int .u8 57), .lit (.int .u8 49), .lit (.int .u8 28), .lit (.int .u8 3), .lit (.int .u8 61), .lit (.int .u8 58), .lit (.int .u8 42), .lit (.int .u8 50), .lit (.int .u8 38), .lit (.int .u8 29), .lit (.int .u8 17), .lit (.int .u8 4), .lit (.int .u8 62), .lit (.int .u8 47), .lit (.int .u8 59), .lit (.int .u8 36), .lit (.int .u8 45), .lit (.int .u8 43), .lit (.int .u8 51), .lit (.int .u8 22), .lit (.int .u8 53), .lit (.int .u8 39), .lit (.int .u8 33), .lit (.int .u8 30), .lit (.int .u8 24), .lit (.int .u8 18), .lit (.int .u8 12), .lit (.int .u8 5), .lit (.int .u8 63), .lit (.int .u8 55), .lit (.int .u8 48), .lit (.int .u8 27), .lit (.int .u8 60), .lit (.int .u8 41), .lit (.int .u8 37), .lit (.int .u8 16), .lit (.int .u8 46), .lit (.int .u8 35), .lit (.int .u8 44), .lit (.int .u8 21), .lit (.int .u8 52), .lit (.int .u8 32), .lit (.int .u8 23), .lit (.int .u8 11), .lit (.int .u8 54), .lit (.int .u8 26), .lit (.int .u8 40), .lit (.int .u8 15), .lit (.int .u8 34), .lit (.int .u8 20), .lit (.int .u8 31), .lit (.int .u8 10), .lit (.int .u8 25), .lit (.int .u8 14), .lit (.int .u8 19), .lit (.int .u8 9), .lit (.int .u8 13), .lit (.int .u8 8), .lit (.int .u8 7), .lit (.int .u8 6)]
def laid_internal_strconv_uint64pow10 {H : Type} : DataW H := .agg [.lit (.int .u64 1), .lit (.int .u64 10), .lit (.int .u64 100), .lit (.int .u64 1000), .lit (.int .u64 10000), .lit (.int .u64 100000), .lit (.int .u64 1000000), .lit (.int .u64 10000000), .lit (.int .u64 100000000), .lit (.int .u64 1000000000), .lit (.int .u64 10000000000), .lit (.int .u64 100000000000), .lit (.int .u64 1000000000000), .lit (.int .u64 10000000000000), .lit (.int .u64 100000000000000), .lit (.int .u64 1000000000000000), .lit (.int .u64 10000000000000000), .lit (.int .u64 100000000000000000), .lit (.int .u64 1000000000000000000), .lit (.int .u64 10000000000000000000)]

/-- 'voklaw2.StampTexts': WHATEVER THE INPUT: true; the input reads as it did. -/
def stampTextsSpec : ChangeSpec := { name := "stampTexts", fn := fun _ => fun
  | [d1, d2] => { results := [.lit (.bool true)], args := [d1, d2] }
  | _ => none }
def stampTextsRow : OpenClaim := { program := "ytkeeocidinnnnaadoor", sum := "453fe17f82facbc2b10841c1859f76190bb88536455cbcc909eaa533badc25e9", func := "convoker/voklaw2.StampTexts", spec := "stampTexts", inPlace := ["internal/abi.NoEscape", "internal/bytealg.MakeNoZero"], unfollowed := true, recurses := true, named := ["internal/strconv.uint64pow10", "math/bits.deBruijn32tab", "math/bits.deBruijn64tab"], apart := false, laid := [("math/bits.deBruijn32tab", laid_math_bits_deBruijn32tab), ("math/bits.deBruijn64tab", laid_math_bits_deBruijn64tab), ("internal/strconv.uint64pow10", laid_internal_strconv_uint64pow10)] }
def StampTextsSaid : Prop := stampTextsRow.holds Tryd.pinned (OpenSpec.ofChange stampTextsSpec)

/-- ITS FALSE NEIGHBOUR: 'it returns false'. Refute it at one input. -/
def stampTextsWrong : ChangeSpec := { name := "stampTexts", fn := fun _ => fun
  | [d1, d2] => { results := [.lit (.bool false)], args := [d1, d2] }
  | _ => none }
def StampTextsWrongFalsely : Prop := stampTextsRow.holds Tryd.pinned (OpenSpec.ofChange stampTextsWrong)

/-- 'voklaw2.StampDurs': WHATEVER THE INPUT: true; the input reads as it did. -/
def stampDursSpec : ChangeSpec := { name := "stampDurs", fn := fun _ => fun
  | [d1, d2] => { results := [.lit (.bool true)], args := [d1, d2] }
  | _ => none }
def stampDursRow : OpenClaim := { program := "ytkeeocidinnnnaadoor", sum := "453fe17f82facbc2b10841c1859f76190bb88536455cbcc909eaa533badc25e9", func := "convoker/voklaw2.StampDurs", spec := "stampDurs", inPlace := ["internal/abi.NoEscape", "internal/bytealg.MakeNoZero"], unfollowed := true, recurses := true, named := ["internal/strconv.uint64pow10", "math/bits.deBruijn32tab", "math/bits.deBruijn64tab"], apart := false, laid := [("math/bits.deBruijn32tab", laid_math_bits_deBruijn32tab), ("math/bits.deBruijn64tab", laid_math_bits_deBruijn64tab), ("internal/strconv.uint64pow10", laid_internal_strconv_uint64pow10)] }
def StampDursSaid : Prop := stampDursRow.holds Tryd.pinned (OpenSpec.ofChange stampDursSpec)

/-- ITS FALSE NEIGHBOUR: 'it returns false'. Refute it at one input. -/
def stampDursWrong : ChangeSpec := { name := "stampDurs", fn := fun _ => fun
  | [d1, d2] => { results := [.lit (.bool false)], args := [d1, d2] }
  | _ => none }
def StampDursWrongFalsely : Prop := stampDursRow.holds Tryd.pinned (OpenSpec.ofChange stampDursWrong)

/-- 'voklaw2.StampRises': WHATEVER THE INPUT: true; the input reads as it did. -/
def stampRisesSpec : ChangeSpec := { name := "stampRises", fn := fun _ => fun
  | [d1, d2] => { results := [.lit (.bool true)], args := [d1, d2] }
  | _ => none }
def stampRisesRow : OpenClaim := { program := "ytkeeocidinnnnaadoor", sum := "453fe17f82facbc2b10841c1859f76190bb88536455cbcc909eaa533badc25e9", func := "convoker/voklaw2.StampRises", spec := "stampRises", inPlace := ["internal/abi.NoEscape", "internal/bytealg.MakeNoZero"], unfollowed := true, recurses := true, named := ["internal/strconv.uint64pow10", "math/bits.deBruijn32tab", "math/bits.deBruijn64tab"], apart := false, laid := [("math/bits.deBruijn32tab", laid_math_bits_deBruijn32tab), ("math/bits.deBruijn64tab", laid_math_bits_deBruijn64tab), ("internal/strconv.uint64pow10", laid_internal_strconv_uint64pow10)] }
def StampRisesSaid : Prop := stampRisesRow.holds Tryd.pinned (OpenSpec.ofChange stampRisesSpec)

/-- ITS FALSE NEIGHBOUR: 'it returns false'. Refute it at one input. -/
def stampRisesWrong : ChangeSpec := { name := "stampRises", fn := fun _ => fun
  | [d1, d2] => { results := [.lit (.bool false)], args := [d1, d2] }
  | _ => none }
def StampRisesWrongFalsely : Prop := stampRisesRow.holds Tryd.pinned (OpenSpec.ofChange stampRisesWrong)

/-- 'voklaw2.StampCuts': WHATEVER THE INPUT: true; the input reads as it did. -/
def stampCutsSpec : ChangeSpec := { name := "stampCuts", fn := fun _ => fun
  | [d1, d2, d3] => { results := [.lit (.bool true)], args := [d1, d2, d3] }
  | _ => none }
def stampCutsRow : OpenClaim := { program := "ytkeeocidinnnnaadoor", sum := "453fe17f82facbc2b10841c1859f76190bb88536455cbcc909eaa533badc25e9", func := "convoker/voklaw2.StampCuts", spec := "stampCuts", inPlace := ["internal/abi.NoEscape", "internal/bytealg.MakeNoZero"], unfollowed := true, recurses := true, named := ["internal/strconv.uint64pow10", "math/bits.deBruijn32tab", "math/bits.deBruijn64tab"], apart := false, laid := [("math/bits.deBruijn32tab", laid_math_bits_deBruijn32tab), ("math/bits.deBruijn64tab", laid_math_bits_deBruijn64tab), ("internal/strconv.uint64pow10", laid_internal_strconv_uint64pow10)] }
def StampCutsSaid : Prop := stampCutsRow.holds Tryd.pinned (OpenSpec.ofChange stampCutsSpec)

/-- ITS FALSE NEIGHBOUR: 'it returns false'. Refute it at one input. -/
def stampCutsWrong : ChangeSpec := { name := "stampCuts", fn := fun _ => fun
  | [d1, d2, d3] => { results := [.lit (.bool false)], args := [d1, d2, d3] }
  | _ => none }
def StampCutsWrongFalsely : Prop := stampCutsRow.holds Tryd.pinned (OpenSpec.ofChange stampCutsWrong)

/-- 'voklaw2.StampLongs': WHATEVER THE INPUT: true; the input reads as it did. -/
def stampLongsSpec : ChangeSpec := { name := "stampLongs", fn := fun _ => fun
  | [d1, d2, d3, d4, d5] => { results := [.lit (.bool true)], args := [d1, d2, d3, d4, d5] }
  | _ => none }
def stampLongsRow : OpenClaim := { program := "ytkeeocidinnnnaadoor", sum := "453fe17f82facbc2b10841c1859f76190bb88536455cbcc909eaa533badc25e9", func := "convoker/voklaw2.StampLongs", spec := "stampLongs", inPlace := ["internal/abi.NoEscape", "internal/bytealg.MakeNoZero"], unfollowed := true, recurses := true, named := ["internal/strconv.uint64pow10", "math/bits.deBruijn32tab", "math/bits.deBruijn64tab"], apart := false, laid := [("math/bits.deBruijn32tab", laid_math_bits_deBruijn32tab), ("math/bits.deBruijn64tab", laid_math_bits_deBruijn64tab), ("internal/strconv.uint64pow10", laid_internal_strconv_uint64pow10)] }
def StampLongsSaid : Prop := stampLongsRow.holds Tryd.pinned (OpenSpec.ofChange stampLongsSpec)

/-- ITS FALSE NEIGHBOUR: 'it returns false'. Refute it at one input. -/
def stampLongsWrong : ChangeSpec := { name := "stampLongs", fn := fun _ => fun
  | [d1, d2, d3, d4, d5] => { results := [.lit (.bool false)], args := [d1, d2, d3, d4, d5] }
  | _ => none }
def StampLongsWrongFalsely : Prop := stampLongsRow.holds Tryd.pinned (OpenSpec.ofChange stampLongsWrong)

/-- 'voklaw2.StampBack': WHATEVER THE INPUT: true; the input reads as it did. -/
def stampBackSpec : ChangeSpec := { name := "stampBack", fn := fun _ => fun
  | [d1, d2, d3, d4] => { results := [.lit (.bool true)], args := [d1, d2, d3, d4] }
  | _ => none }
def stampBackRow : OpenClaim := { program := "ytkeeocidinnnnaadoor", sum := "453fe17f82facbc2b10841c1859f76190bb88536455cbcc909eaa533badc25e9", func := "convoker/voklaw2.StampBack", spec := "stampBack", inPlace := ["internal/abi.NoEscape", "internal/bytealg.MakeNoZero"], unfollowed := true, recurses := true, named := ["internal/strconv.uint64pow10", "math/bits.deBruijn32tab", "math/bits.deBruijn64tab"], apart := false, laid := [("math/bits.deBruijn32tab", laid_math_bits_deBruijn32tab), ("math/bits.deBruijn64tab", laid_math_bits_deBruijn64tab), ("internal/strconv.uint64pow10", laid_internal_strconv_uint64pow10)] }
def StampBackSaid : Prop := stampBackRow.holds Tryd.pinned (OpenSpec.ofChange stampBackSpec)

/-- ITS FALSE NEIGHBOUR: 'it returns false'. Refute it at one input. -/
def stampBackWrong : ChangeSpec := { name := "stampBack", fn := fun _ => fun
  | [d1, d2, d3, d4] => { results := [.lit (.bool false)], args := [d1, d2, d3, d4] }
  | _ => none }
def StampBackWrongFalsely : Prop := stampBackRow.holds Tryd.pinned (OpenSpec.ofChange stampBackWrong)

/-- 'voklaw2.StampFields': WHATEVER THE INPUT: true; the input reads as it did. -/
def stampFieldsSpec : ChangeSpec := { name := "stampFields", fn := fun _ => fun
  | [d1, d2, d3, d4, d5, d6] => { results := [.lit (.bool true)], args := [d1, d2, d3, d4, d5, d6] }
  | _ => none }
def stampFieldsRow : OpenClaim := { program := "ytkeeocidinnnnaadoor", sum := "453fe17f82facbc2b10841c1859f76190bb88536455cbcc909eaa533badc25e9", func := "convoker/voklaw2.StampFields", spec := "stampFields", inPlace := ["internal/abi.NoEscape", "internal/bytealg.MakeNoZero"], unfollowed := true, recurses := true, named := ["internal/strconv.uint64pow10", "math/bits.deBruijn32tab", "math/bits.deBruijn64tab"], apart := false, laid := [("math/bits.deBruijn32tab", laid_math_bits_deBruijn32tab), ("math/bits.deBruijn64tab", laid_math_bits_deBruijn64tab), ("internal/strconv.uint64pow10", laid_internal_strconv_uint64pow10)] }
def StampFieldsSaid : Prop := stampFieldsRow.holds Tryd.pinned (OpenSpec.ofChange stampFieldsSpec)

/-- ITS FALSE NEIGHBOUR: 'it returns false'. Refute it at one input. -/
def stampFieldsWrong : ChangeSpec := { name := "stampFields", fn := fun _ => fun
  | [d1, d2, d3, d4, d5, d6] => { results := [.lit (.bool false)], args := [d1, d2, d3, d4, d5, d6] }
  | _ => none }
def StampFieldsWrongFalsely : Prop := stampFieldsRow.holds Tryd.pinned (OpenSpec.ofChange stampFieldsWrong)

/-- 'voklaw2.StampMakes': WHATEVER THE INPUT: true; the input reads as it did. -/
def stampMakesSpec : ChangeSpec := { name := "stampMakes", fn := fun _ => fun
  | [d1, d2, d3, d4, d5, d6, d7, d8] => { results := [.lit (.bool true)], args := [d1, d2, d3, d4, d5, d6, d7, d8] }
  | _ => none }
def stampMakesRow : OpenClaim := { program := "ytkeeocidinnnnaadoor", sum := "453fe17f82facbc2b10841c1859f76190bb88536455cbcc909eaa533badc25e9", func := "convoker/voklaw2.StampMakes", spec := "stampMakes", inPlace := ["internal/abi.NoEscape", "internal/bytealg.MakeNoZero"], unfollowed := true, recurses := true, named := ["internal/strconv.uint64pow10", "math/bits.deBruijn32tab", "math/bits.deBruijn64tab"], apart := false, laid := [("math/bits.deBruijn32tab", laid_math_bits_deBruijn32tab), ("math/bits.deBruijn64tab", laid_math_bits_deBruijn64tab), ("internal/strconv.uint64pow10", laid_internal_strconv_uint64pow10)] }
def StampMakesSaid : Prop := stampMakesRow.holds Tryd.pinned (OpenSpec.ofChange stampMakesSpec)

/-- ITS FALSE NEIGHBOUR: 'it returns false'. Refute it at one input. -/
def stampMakesWrong : ChangeSpec := { name := "stampMakes", fn := fun _ => fun
  | [d1, d2, d3, d4, d5, d6, d7, d8] => { results := [.lit (.bool false)], args := [d1, d2, d3, d4, d5, d6, d7, d8] }
  | _ => none }
def StampMakesWrongFalsely : Prop := stampMakesRow.holds Tryd.pinned (OpenSpec.ofChange stampMakesWrong)

/-- 'voklaw2.StampParts': WHATEVER THE INPUT: true; the input reads as it did. -/
def stampPartsSpec : ChangeSpec := { name := "stampParts", fn := fun _ => fun
  | [d] => { results := [.lit (.bool true)], args := [d] }
  | _ => none }
def stampPartsRow : OpenClaim := { program := "ytkeeocidinnnnaadoor", sum := "453fe17f82facbc2b10841c1859f76190bb88536455cbcc909eaa533badc25e9", func := "convoker/voklaw2.StampParts", spec := "stampParts", inPlace := ["internal/abi.NoEscape", "internal/bytealg.MakeNoZero"], unfollowed := true, recurses := true, named := ["internal/strconv.uint64pow10", "math/bits.deBruijn32tab", "math/bits.deBruijn64tab"], apart := false, laid := [("math/bits.deBruijn32tab", laid_math_bits_deBruijn32tab), ("math/bits.deBruijn64tab", laid_math_bits_deBruijn64tab), ("internal/strconv.uint64pow10", laid_internal_strconv_uint64pow10)] }
def StampPartsSaid : Prop := stampPartsRow.holds Tryd.pinned (OpenSpec.ofChange stampPartsSpec)

/-- ITS FALSE NEIGHBOUR: 'it returns false'. Refute it at one input. -/
def stampPartsWrong : ChangeSpec := { name := "stampParts", fn := fun _ => fun
  | [d] => { results := [.lit (.bool false)], args := [d] }
  | _ => none }
def StampPartsWrongFalsely : Prop := stampPartsRow.holds Tryd.pinned (OpenSpec.ofChange stampPartsWrong)

/-- 'voklaw2.StampSums': WHATEVER THE INPUT: true; the input reads as it did. -/
def stampSumsSpec : ChangeSpec := { name := "stampSums", fn := fun _ => fun
  | [d1, d2, d3] => { results := [.lit (.bool true)], args := [d1, d2, d3] }
  | _ => none }
def stampSumsRow : OpenClaim := { program := "ytkeeocidinnnnaadoor", sum := "453fe17f82facbc2b10841c1859f76190bb88536455cbcc909eaa533badc25e9", func := "convoker/voklaw2.StampSums", spec := "stampSums", inPlace := ["internal/abi.NoEscape", "internal/bytealg.MakeNoZero"], unfollowed := true, recurses := true, named := ["internal/strconv.uint64pow10", "math/bits.deBruijn32tab", "math/bits.deBruijn64tab"], apart := false, laid := [("math/bits.deBruijn32tab", laid_math_bits_deBruijn32tab), ("math/bits.deBruijn64tab", laid_math_bits_deBruijn64tab), ("internal/strconv.uint64pow10", laid_internal_strconv_uint64pow10)] }
def StampSumsSaid : Prop := stampSumsRow.holds Tryd.pinned (OpenSpec.ofChange stampSumsSpec)

/-- ITS FALSE NEIGHBOUR: 'it returns false'. Refute it at one input. -/
def stampSumsWrong : ChangeSpec := { name := "stampSums", fn := fun _ => fun
  | [d1, d2, d3] => { results := [.lit (.bool false)], args := [d1, d2, d3] }
  | _ => none }
def StampSumsWrongFalsely : Prop := stampSumsRow.holds Tryd.pinned (OpenSpec.ofChange stampSumsWrong)

/- THE SECOND FORM. 'bulk': how many values and letters a reading holds, each counted each time it is reached (what is shared counts as often as it is met; a slice's spare places count too). A statement '..UptoSaid' is the law's where the arguments, and the package variables that the reading takes, are together of bulk at most 1048576: NARROWER than '..Said'. Prove '..Said' where nothing that the law and all that it calls make is longer than what came in: it says more and counts as full. Else prove '..UptoSaid'. A law counts once. -/
mutual
def uptoBulk {H : Type} : DataW H → Nat
  | .lit (.string bytes) => bytes.length + 1
  | .lit _ => 1
  | .nil => 1
  | .ptr d => uptoBulk d + 1
  | .slice elems spare => uptoBulkAll elems + uptoBulkAll spare + 1
  | .agg parts => uptoBulkAll parts + 1
  | .iface _ d => uptoBulk d + 1
  | .map entries => uptoBulkEntries entries + 1
  | .held _ => 1
def uptoBulkAll {H : Type} : List (DataW H) → Nat
  | [] => 0
  | d :: r => uptoBulk d + uptoBulkAll r
def uptoBulkEntries {H : Type} : List (Lit × DataW H) → Nat
  | [] => 0
  | x :: r => uptoBulkEntry x + uptoBulkEntries r
def uptoBulkEntry {H : Type} : Lit × DataW H → Nat
  | (.string bytes, d) => bytes.length + uptoBulk d + 1
  | (_, d) => uptoBulk d + 1
 end
def uptoSmall : (H : Type) → List (DataW H) → Bool := fun _ ds => decide (uptoBulkAll ds ≤ 1048576)
def OpenSpec.upto (s : _root_.Go.ChangeSpec) : _root_.Go.OpenSpec := { _root_.Go.OpenSpec.ofChange s with cond := some uptoSmall }

/-- 'voklaw2.StampTexts', WHERE WHAT IT READS IS OF BULK AT MOST 1048576: true; the input reads as it did. -/
def stampTextsUptoRow : OpenClaim := { program := "ytkeeocidinnnnaadoor", sum := "453fe17f82facbc2b10841c1859f76190bb88536455cbcc909eaa533badc25e9", func := "convoker/voklaw2.StampTexts", spec := "stampTexts", inPlace := ["internal/abi.NoEscape", "internal/bytealg.MakeNoZero"], unfollowed := true, recurses := true, named := ["internal/strconv.uint64pow10", "math/bits.deBruijn32tab", "math/bits.deBruijn64tab"], apart := false, laid := [("math/bits.deBruijn32tab", laid_math_bits_deBruijn32tab), ("math/bits.deBruijn64tab", laid_math_bits_deBruijn64tab), ("internal/strconv.uint64pow10", laid_internal_strconv_uint64pow10)], narrowed := true }
def StampTextsUptoSaid : Prop := stampTextsUptoRow.holds Tryd.pinned (OpenSpec.upto stampTextsSpec)

/-- 'voklaw2.StampDurs', WHERE WHAT IT READS IS OF BULK AT MOST 1048576: true; the input reads as it did. -/
def stampDursUptoRow : OpenClaim := { program := "ytkeeocidinnnnaadoor", sum := "453fe17f82facbc2b10841c1859f76190bb88536455cbcc909eaa533badc25e9", func := "convoker/voklaw2.StampDurs", spec := "stampDurs", inPlace := ["internal/abi.NoEscape", "internal/bytealg.MakeNoZero"], unfollowed := true, recurses := true, named := ["internal/strconv.uint64pow10", "math/bits.deBruijn32tab", "math/bits.deBruijn64tab"], apart := false, laid := [("math/bits.deBruijn32tab", laid_math_bits_deBruijn32tab), ("math/bits.deBruijn64tab", laid_math_bits_deBruijn64tab), ("internal/strconv.uint64pow10", laid_internal_strconv_uint64pow10)], narrowed := true }
def StampDursUptoSaid : Prop := stampDursUptoRow.holds Tryd.pinned (OpenSpec.upto stampDursSpec)

/-- 'voklaw2.StampRises', WHERE WHAT IT READS IS OF BULK AT MOST 1048576: true; the input reads as it did. -/
def stampRisesUptoRow : OpenClaim := { program := "ytkeeocidinnnnaadoor", sum := "453fe17f82facbc2b10841c1859f76190bb88536455cbcc909eaa533badc25e9", func := "convoker/voklaw2.StampRises", spec := "stampRises", inPlace := ["internal/abi.NoEscape", "internal/bytealg.MakeNoZero"], unfollowed := true, recurses := true, named := ["internal/strconv.uint64pow10", "math/bits.deBruijn32tab", "math/bits.deBruijn64tab"], apart := false, laid := [("math/bits.deBruijn32tab", laid_math_bits_deBruijn32tab), ("math/bits.deBruijn64tab", laid_math_bits_deBruijn64tab), ("internal/strconv.uint64pow10", laid_internal_strconv_uint64pow10)], narrowed := true }
def StampRisesUptoSaid : Prop := stampRisesUptoRow.holds Tryd.pinned (OpenSpec.upto stampRisesSpec)

/-- 'voklaw2.StampCuts', WHERE WHAT IT READS IS OF BULK AT MOST 1048576: true; the input reads as it did. -/
def stampCutsUptoRow : OpenClaim := { program := "ytkeeocidinnnnaadoor", sum := "453fe17f82facbc2b10841c1859f76190bb88536455cbcc909eaa533badc25e9", func := "convoker/voklaw2.StampCuts", spec := "stampCuts", inPlace := ["internal/abi.NoEscape", "internal/bytealg.MakeNoZero"], unfollowed := true, recurses := true, named := ["internal/strconv.uint64pow10", "math/bits.deBruijn32tab", "math/bits.deBruijn64tab"], apart := false, laid := [("math/bits.deBruijn32tab", laid_math_bits_deBruijn32tab), ("math/bits.deBruijn64tab", laid_math_bits_deBruijn64tab), ("internal/strconv.uint64pow10", laid_internal_strconv_uint64pow10)], narrowed := true }
def StampCutsUptoSaid : Prop := stampCutsUptoRow.holds Tryd.pinned (OpenSpec.upto stampCutsSpec)

/-- 'voklaw2.StampLongs', WHERE WHAT IT READS IS OF BULK AT MOST 1048576: true; the input reads as it did. -/
def stampLongsUptoRow : OpenClaim := { program := "ytkeeocidinnnnaadoor", sum := "453fe17f82facbc2b10841c1859f76190bb88536455cbcc909eaa533badc25e9", func := "convoker/voklaw2.StampLongs", spec := "stampLongs", inPlace := ["internal/abi.NoEscape", "internal/bytealg.MakeNoZero"], unfollowed := true, recurses := true, named := ["internal/strconv.uint64pow10", "math/bits.deBruijn32tab", "math/bits.deBruijn64tab"], apart := false, laid := [("math/bits.deBruijn32tab", laid_math_bits_deBruijn32tab), ("math/bits.deBruijn64tab", laid_math_bits_deBruijn64tab), ("internal/strconv.uint64pow10", laid_internal_strconv_uint64pow10)], narrowed := true }
def StampLongsUptoSaid : Prop := stampLongsUptoRow.holds Tryd.pinned (OpenSpec.upto stampLongsSpec)

/-- 'voklaw2.StampBack', WHERE WHAT IT READS IS OF BULK AT MOST 1048576: true; the input reads as it did. -/
def stampBackUptoRow : OpenClaim := { program := "ytkeeocidinnnnaadoor", sum := "453fe17f82facbc2b10841c1859f76190bb88536455cbcc909eaa533badc25e9", func := "convoker/voklaw2.StampBack", spec := "stampBack", inPlace := ["internal/abi.NoEscape", "internal/bytealg.MakeNoZero"], unfollowed := true, recurses := true, named := ["internal/strconv.uint64pow10", "math/bits.deBruijn32tab", "math/bits.deBruijn64tab"], apart := false, laid := [("math/bits.deBruijn32tab", laid_math_bits_deBruijn32tab), ("math/bits.deBruijn64tab", laid_math_bits_deBruijn64tab), ("internal/strconv.uint64pow10", laid_internal_strconv_uint64pow10)], narrowed := true }
def StampBackUptoSaid : Prop := stampBackUptoRow.holds Tryd.pinned (OpenSpec.upto stampBackSpec)

/-- 'voklaw2.StampFields', WHERE WHAT IT READS IS OF BULK AT MOST 1048576: true; the input reads as it did. -/
def stampFieldsUptoRow : OpenClaim := { program := "ytkeeocidinnnnaadoor", sum := "453fe17f82facbc2b10841c1859f76190bb88536455cbcc909eaa533badc25e9", func := "convoker/voklaw2.StampFields", spec := "stampFields", inPlace := ["internal/abi.NoEscape", "internal/bytealg.MakeNoZero"], unfollowed := true, recurses := true, named := ["internal/strconv.uint64pow10", "math/bits.deBruijn32tab", "math/bits.deBruijn64tab"], apart := false, laid := [("math/bits.deBruijn32tab", laid_math_bits_deBruijn32tab), ("math/bits.deBruijn64tab", laid_math_bits_deBruijn64tab), ("internal/strconv.uint64pow10", laid_internal_strconv_uint64pow10)], narrowed := true }
def StampFieldsUptoSaid : Prop := stampFieldsUptoRow.holds Tryd.pinned (OpenSpec.upto stampFieldsSpec)

/-- 'voklaw2.StampMakes', WHERE WHAT IT READS IS OF BULK AT MOST 1048576: true; the input reads as it did. -/
def stampMakesUptoRow : OpenClaim := { program := "ytkeeocidinnnnaadoor", sum := "453fe17f82facbc2b10841c1859f76190bb88536455cbcc909eaa533badc25e9", func := "convoker/voklaw2.StampMakes", spec := "stampMakes", inPlace := ["internal/abi.NoEscape", "internal/bytealg.MakeNoZero"], unfollowed := true, recurses := true, named := ["internal/strconv.uint64pow10", "math/bits.deBruijn32tab", "math/bits.deBruijn64tab"], apart := false, laid := [("math/bits.deBruijn32tab", laid_math_bits_deBruijn32tab), ("math/bits.deBruijn64tab", laid_math_bits_deBruijn64tab), ("internal/strconv.uint64pow10", laid_internal_strconv_uint64pow10)], narrowed := true }
def StampMakesUptoSaid : Prop := stampMakesUptoRow.holds Tryd.pinned (OpenSpec.upto stampMakesSpec)

/-- 'voklaw2.StampParts', WHERE WHAT IT READS IS OF BULK AT MOST 1048576: true; the input reads as it did. -/
def stampPartsUptoRow : OpenClaim := { program := "ytkeeocidinnnnaadoor", sum := "453fe17f82facbc2b10841c1859f76190bb88536455cbcc909eaa533badc25e9", func := "convoker/voklaw2.StampParts", spec := "stampParts", inPlace := ["internal/abi.NoEscape", "internal/bytealg.MakeNoZero"], unfollowed := true, recurses := true, named := ["internal/strconv.uint64pow10", "math/bits.deBruijn32tab", "math/bits.deBruijn64tab"], apart := false, laid := [("math/bits.deBruijn32tab", laid_math_bits_deBruijn32tab), ("math/bits.deBruijn64tab", laid_math_bits_deBruijn64tab), ("internal/strconv.uint64pow10", laid_internal_strconv_uint64pow10)], narrowed := true }
def StampPartsUptoSaid : Prop := stampPartsUptoRow.holds Tryd.pinned (OpenSpec.upto stampPartsSpec)

/-- 'voklaw2.StampSums', WHERE WHAT IT READS IS OF BULK AT MOST 1048576: true; the input reads as it did. -/
def stampSumsUptoRow : OpenClaim := { program := "ytkeeocidinnnnaadoor", sum := "453fe17f82facbc2b10841c1859f76190bb88536455cbcc909eaa533badc25e9", func := "convoker/voklaw2.StampSums", spec := "stampSums", inPlace := ["internal/abi.NoEscape", "internal/bytealg.MakeNoZero"], unfollowed := true, recurses := true, named := ["internal/strconv.uint64pow10", "math/bits.deBruijn32tab", "math/bits.deBruijn64tab"], apart := false, laid := [("math/bits.deBruijn32tab", laid_math_bits_deBruijn32tab), ("math/bits.deBruijn64tab", laid_math_bits_deBruijn64tab), ("internal/strconv.uint64pow10", laid_internal_strconv_uint64pow10)], narrowed := true }
def StampSumsUptoSaid : Prop := stampSumsUptoRow.holds Tryd.pinned (OpenSpec.upto stampSumsSpec)

end Rows
end Go.Proofs.YtkeeocidinnnnaaDoor
