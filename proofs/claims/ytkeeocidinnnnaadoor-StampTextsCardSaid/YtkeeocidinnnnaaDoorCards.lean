/-
  DERIVED. GIVEN WITH THE SEED: THE CARDS: each row of YtkeeocidinnnnaaDoorRows.lean that lists a variable, with what it lists TIED to the program's text (the seventh form; the later family's looks); each row that meets fmt, with fmt's text TOLD by the authors' own Lean function (tested against real Go, not proved from fmt's source: count such statements apart). THE CARD IS WHAT COUNTS. Prove the row's statement (the work); the ties are given (YtkeeocidinnnnaaDoorTie.lean); close each card by the builder's one call (the guide's Derived/Test/ToyasCard.lean, 'card_holds'). Laid BY PROGRAM, IN A SANDBOX (cutbox-door.mjs). By AI agents, Wed Nov 11 2026. No macro, syntax, notation, axiom, sorry.
-/
import Derived.Test.YtkeeocidinnnnaaDoorRows
import GoSem.ClaimSeven
namespace Go.Proofs.YtkeeocidinnnnaaDoor
namespace Rows

/-- THE TIED CARD OF 'voklaw2.StampTexts'. -/
def stampTextsCard : Claim7 := { stood := { row := stampTextsRow, standIns := [], harness := (true, "c9eed7dd23db0962e875c247331663281c5f9e2472ce4f21a298ce9eb1b559f3"), looks := false }, kinds := [], alts := [], laidByText := true, laidKinds := [.data, .data, .data], laidTests := true, laidLooks := .later }
def StampTextsCardSaid : Prop := Claim7.holds Tryd.pinned (.plain (OpenSpec.ofChange stampTextsSpec)) stampTextsCard

/-- THE TIED CARD OF 'voklaw2.StampDurs'. -/
def stampDursCard : Claim7 := { stood := { row := stampDursRow, standIns := [], harness := (true, "c9eed7dd23db0962e875c247331663281c5f9e2472ce4f21a298ce9eb1b559f3"), looks := false }, kinds := [], alts := [], laidByText := true, laidKinds := [.data, .data, .data], laidTests := true, laidLooks := .later }
def StampDursCardSaid : Prop := Claim7.holds Tryd.pinned (.plain (OpenSpec.ofChange stampDursSpec)) stampDursCard

/-- THE TIED CARD OF 'voklaw2.StampRises'. -/
def stampRisesCard : Claim7 := { stood := { row := stampRisesRow, standIns := [], harness := (true, "c9eed7dd23db0962e875c247331663281c5f9e2472ce4f21a298ce9eb1b559f3"), looks := false }, kinds := [], alts := [], laidByText := true, laidKinds := [.data, .data, .data], laidTests := true, laidLooks := .later }
def StampRisesCardSaid : Prop := Claim7.holds Tryd.pinned (.plain (OpenSpec.ofChange stampRisesSpec)) stampRisesCard

/-- THE TIED CARD OF 'voklaw2.StampCuts'. -/
def stampCutsCard : Claim7 := { stood := { row := stampCutsRow, standIns := [], harness := (true, "c9eed7dd23db0962e875c247331663281c5f9e2472ce4f21a298ce9eb1b559f3"), looks := false }, kinds := [], alts := [], laidByText := true, laidKinds := [.data, .data, .data], laidTests := true, laidLooks := .later }
def StampCutsCardSaid : Prop := Claim7.holds Tryd.pinned (.plain (OpenSpec.ofChange stampCutsSpec)) stampCutsCard

/-- THE TIED CARD OF 'voklaw2.StampLongs'. -/
def stampLongsCard : Claim7 := { stood := { row := stampLongsRow, standIns := [], harness := (true, "c9eed7dd23db0962e875c247331663281c5f9e2472ce4f21a298ce9eb1b559f3"), looks := false }, kinds := [], alts := [], laidByText := true, laidKinds := [.data, .data, .data], laidTests := true, laidLooks := .later }
def StampLongsCardSaid : Prop := Claim7.holds Tryd.pinned (.plain (OpenSpec.ofChange stampLongsSpec)) stampLongsCard

/-- THE TIED CARD OF 'voklaw2.StampBack'. -/
def stampBackCard : Claim7 := { stood := { row := stampBackRow, standIns := [], harness := (true, "c9eed7dd23db0962e875c247331663281c5f9e2472ce4f21a298ce9eb1b559f3"), looks := false }, kinds := [], alts := [], laidByText := true, laidKinds := [.data, .data, .data], laidTests := true, laidLooks := .later }
def StampBackCardSaid : Prop := Claim7.holds Tryd.pinned (.plain (OpenSpec.ofChange stampBackSpec)) stampBackCard

/-- THE TIED CARD OF 'voklaw2.StampFields'. -/
def stampFieldsCard : Claim7 := { stood := { row := stampFieldsRow, standIns := [], harness := (true, "c9eed7dd23db0962e875c247331663281c5f9e2472ce4f21a298ce9eb1b559f3"), looks := false }, kinds := [], alts := [], laidByText := true, laidKinds := [.data, .data, .data], laidTests := true, laidLooks := .later }
def StampFieldsCardSaid : Prop := Claim7.holds Tryd.pinned (.plain (OpenSpec.ofChange stampFieldsSpec)) stampFieldsCard

/-- THE TIED CARD OF 'voklaw2.StampMakes'. -/
def stampMakesCard : Claim7 := { stood := { row := stampMakesRow, standIns := [], harness := (true, "c9eed7dd23db0962e875c247331663281c5f9e2472ce4f21a298ce9eb1b559f3"), looks := false }, kinds := [], alts := [], laidByText := true, laidKinds := [.data, .data, .data], laidTests := true, laidLooks := .later }
def StampMakesCardSaid : Prop := Claim7.holds Tryd.pinned (.plain (OpenSpec.ofChange stampMakesSpec)) stampMakesCard

/-- THE TIED CARD OF 'voklaw2.StampParts'. -/
def stampPartsCard : Claim7 := { stood := { row := stampPartsRow, standIns := [], harness := (true, "c9eed7dd23db0962e875c247331663281c5f9e2472ce4f21a298ce9eb1b559f3"), looks := false }, kinds := [], alts := [], laidByText := true, laidKinds := [.data, .data, .data], laidTests := true, laidLooks := .later }
def StampPartsCardSaid : Prop := Claim7.holds Tryd.pinned (.plain (OpenSpec.ofChange stampPartsSpec)) stampPartsCard

/-- THE TIED CARD OF 'voklaw2.StampSums'. -/
def stampSumsCard : Claim7 := { stood := { row := stampSumsRow, standIns := [], harness := (true, "c9eed7dd23db0962e875c247331663281c5f9e2472ce4f21a298ce9eb1b559f3"), looks := false }, kinds := [], alts := [], laidByText := true, laidKinds := [.data, .data, .data], laidTests := true, laidLooks := .later }
def StampSumsCardSaid : Prop := Claim7.holds Tryd.pinned (.plain (OpenSpec.ofChange stampSumsSpec)) stampSumsCard

/-- THE SECOND FORM's CARD OF 'voklaw2.StampTexts'. -/
def stampTextsUptoCard : Claim7 := { stood := { row := stampTextsUptoRow, standIns := [], harness := (true, "c9eed7dd23db0962e875c247331663281c5f9e2472ce4f21a298ce9eb1b559f3"), looks := false }, kinds := [], alts := [], laidByText := true, laidKinds := [.data, .data, .data], laidTests := true, laidLooks := .later }
def StampTextsUptoCardSaid : Prop := Claim7.holds Tryd.pinned (.plain (OpenSpec.upto stampTextsSpec)) stampTextsUptoCard

/-- THE SECOND FORM's CARD OF 'voklaw2.StampDurs'. -/
def stampDursUptoCard : Claim7 := { stood := { row := stampDursUptoRow, standIns := [], harness := (true, "c9eed7dd23db0962e875c247331663281c5f9e2472ce4f21a298ce9eb1b559f3"), looks := false }, kinds := [], alts := [], laidByText := true, laidKinds := [.data, .data, .data], laidTests := true, laidLooks := .later }
def StampDursUptoCardSaid : Prop := Claim7.holds Tryd.pinned (.plain (OpenSpec.upto stampDursSpec)) stampDursUptoCard

/-- THE SECOND FORM's CARD OF 'voklaw2.StampRises'. -/
def stampRisesUptoCard : Claim7 := { stood := { row := stampRisesUptoRow, standIns := [], harness := (true, "c9eed7dd23db0962e875c247331663281c5f9e2472ce4f21a298ce9eb1b559f3"), looks := false }, kinds := [], alts := [], laidByText := true, laidKinds := [.data, .data, .data], laidTests := true, laidLooks := .later }
def StampRisesUptoCardSaid : Prop := Claim7.holds Tryd.pinned (.plain (OpenSpec.upto stampRisesSpec)) stampRisesUptoCard

/-- THE SECOND FORM's CARD OF 'voklaw2.StampCuts'. -/
def stampCutsUptoCard : Claim7 := { stood := { row := stampCutsUptoRow, standIns := [], harness := (true, "c9eed7dd23db0962e875c247331663281c5f9e2472ce4f21a298ce9eb1b559f3"), looks := false }, kinds := [], alts := [], laidByText := true, laidKinds := [.data, .data, .data], laidTests := true, laidLooks := .later }
def StampCutsUptoCardSaid : Prop := Claim7.holds Tryd.pinned (.plain (OpenSpec.upto stampCutsSpec)) stampCutsUptoCard

/-- THE SECOND FORM's CARD OF 'voklaw2.StampLongs'. -/
def stampLongsUptoCard : Claim7 := { stood := { row := stampLongsUptoRow, standIns := [], harness := (true, "c9eed7dd23db0962e875c247331663281c5f9e2472ce4f21a298ce9eb1b559f3"), looks := false }, kinds := [], alts := [], laidByText := true, laidKinds := [.data, .data, .data], laidTests := true, laidLooks := .later }
def StampLongsUptoCardSaid : Prop := Claim7.holds Tryd.pinned (.plain (OpenSpec.upto stampLongsSpec)) stampLongsUptoCard

/-- THE SECOND FORM's CARD OF 'voklaw2.StampBack'. -/
def stampBackUptoCard : Claim7 := { stood := { row := stampBackUptoRow, standIns := [], harness := (true, "c9eed7dd23db0962e875c247331663281c5f9e2472ce4f21a298ce9eb1b559f3"), looks := false }, kinds := [], alts := [], laidByText := true, laidKinds := [.data, .data, .data], laidTests := true, laidLooks := .later }
def StampBackUptoCardSaid : Prop := Claim7.holds Tryd.pinned (.plain (OpenSpec.upto stampBackSpec)) stampBackUptoCard

/-- THE SECOND FORM's CARD OF 'voklaw2.StampFields'. -/
def stampFieldsUptoCard : Claim7 := { stood := { row := stampFieldsUptoRow, standIns := [], harness := (true, "c9eed7dd23db0962e875c247331663281c5f9e2472ce4f21a298ce9eb1b559f3"), looks := false }, kinds := [], alts := [], laidByText := true, laidKinds := [.data, .data, .data], laidTests := true, laidLooks := .later }
def StampFieldsUptoCardSaid : Prop := Claim7.holds Tryd.pinned (.plain (OpenSpec.upto stampFieldsSpec)) stampFieldsUptoCard

/-- THE SECOND FORM's CARD OF 'voklaw2.StampMakes'. -/
def stampMakesUptoCard : Claim7 := { stood := { row := stampMakesUptoRow, standIns := [], harness := (true, "c9eed7dd23db0962e875c247331663281c5f9e2472ce4f21a298ce9eb1b559f3"), looks := false }, kinds := [], alts := [], laidByText := true, laidKinds := [.data, .data, .data], laidTests := true, laidLooks := .later }
def StampMakesUptoCardSaid : Prop := Claim7.holds Tryd.pinned (.plain (OpenSpec.upto stampMakesSpec)) stampMakesUptoCard

/-- THE SECOND FORM's CARD OF 'voklaw2.StampParts'. -/
def stampPartsUptoCard : Claim7 := { stood := { row := stampPartsUptoRow, standIns := [], harness := (true, "c9eed7dd23db0962e875c247331663281c5f9e2472ce4f21a298ce9eb1b559f3"), looks := false }, kinds := [], alts := [], laidByText := true, laidKinds := [.data, .data, .data], laidTests := true, laidLooks := .later }
def StampPartsUptoCardSaid : Prop := Claim7.holds Tryd.pinned (.plain (OpenSpec.upto stampPartsSpec)) stampPartsUptoCard

/-- THE SECOND FORM's CARD OF 'voklaw2.StampSums'. -/
def stampSumsUptoCard : Claim7 := { stood := { row := stampSumsUptoRow, standIns := [], harness := (true, "c9eed7dd23db0962e875c247331663281c5f9e2472ce4f21a298ce9eb1b559f3"), looks := false }, kinds := [], alts := [], laidByText := true, laidKinds := [.data, .data, .data], laidTests := true, laidLooks := .later }
def StampSumsUptoCardSaid : Prop := Claim7.holds Tryd.pinned (.plain (OpenSpec.upto stampSumsSpec)) stampSumsUptoCard
end Rows
end Go.Proofs.YtkeeocidinnnnaaDoor
