/-
  DERIVED. GIVEN WITH THE SEED: THE CARDS: each row of YtbbfilmajiilhaaDoorRows.lean that lists a variable, with what it lists TIED to the program's text (the seventh form; the later family's looks); each row that meets fmt, with fmt's text TOLD by the authors' own Lean function (tested against real Go, not proved from fmt's source: count such statements apart). THE CARD IS WHAT COUNTS. Prove the row's statement (the work); the ties are given (YtbbfilmajiilhaaDoorTie.lean); close each card by the builder's one call (the guide's Derived/Test/ToyasCard.lean, 'card_holds'). Laid BY PROGRAM, IN A SANDBOX (cutbox-door.mjs). By AI agents, Wed Nov 11 2026. No macro, syntax, notation, axiom, sorry.
-/
import Derived.Test.YtbbfilmajiilhaaDoorRows
import GoSem.ClaimSeven
namespace Go.Proofs.YtbbfilmajiilhaaDoor
namespace Rows

/-- THE TIED CARD OF 'concordancelaw08.DocWords'. -/
def docWordsCard : Claim7 := { stood := { row := docWordsRow, standIns := [], harness := (true, "fbee18e11c325ecae8b5908ed0521166566ec0f54f066bcd4985b883b913eb32"), looks := false }, kinds := [], alts := [], laidByText := true, laidKinds := [.data, .pinned], laidTests := true, laidLooks := .later }
def DocWordsCardSaid : Prop := Claim7.holds Tryd.pinned (.plain (OpenSpec.ofChange docWordsSpec)) docWordsCard

/-- THE TIED CARD OF 'concordancelaw08.DocMay'. -/
def docMayCard : Claim7 := { stood := { row := docMayRow, standIns := [], harness := (true, "fbee18e11c325ecae8b5908ed0521166566ec0f54f066bcd4985b883b913eb32"), looks := false }, kinds := [], alts := [], laidByText := true, laidKinds := [.data, .pinned], laidTests := true, laidLooks := .later }
def DocMayCardSaid : Prop := Claim7.holds Tryd.pinned (.plain (OpenSpec.ofChange docMaySpec)) docMayCard

/-- THE SECOND FORM's CARD OF 'concordancelaw08.DocWords'. -/
def docWordsUptoCard : Claim7 := { stood := { row := docWordsUptoRow, standIns := [], harness := (true, "fbee18e11c325ecae8b5908ed0521166566ec0f54f066bcd4985b883b913eb32"), looks := false }, kinds := [], alts := [], laidByText := true, laidKinds := [.data, .pinned], laidTests := true, laidLooks := .later }
def DocWordsUptoCardSaid : Prop := Claim7.holds Tryd.pinned (.plain (OpenSpec.upto docWordsSpec)) docWordsUptoCard

/-- THE SECOND FORM's CARD OF 'concordancelaw08.DocMay'. -/
def docMayUptoCard : Claim7 := { stood := { row := docMayUptoRow, standIns := [], harness := (true, "fbee18e11c325ecae8b5908ed0521166566ec0f54f066bcd4985b883b913eb32"), looks := false }, kinds := [], alts := [], laidByText := true, laidKinds := [.data, .pinned], laidTests := true, laidLooks := .later }
def DocMayUptoCardSaid : Prop := Claim7.holds Tryd.pinned (.plain (OpenSpec.upto docMaySpec)) docMayUptoCard
end Rows
end Go.Proofs.YtbbfilmajiilhaaDoor
