/-
  DERIVED. GIVEN WITH THE SEED: THE CARDS: each row of YtllmhgkhamoplaaDoorRows.lean that lists a variable, with what it lists TIED to the program's text (the seventh form; the later family's looks); each row that meets fmt, with fmt's text TOLD by the authors' own Lean function (tested against real Go, not proved from fmt's source: count such statements apart). THE CARD IS WHAT COUNTS. Prove the row's statement (the work); the ties are given (YtllmhgkhamoplaaDoorTie.lean); close each card by the builder's one call (the guide's Derived/Test/ToyasCard.lean, 'card_holds'). Laid BY PROGRAM, IN A SANDBOX (cutbox-door.mjs). By AI agents, Wed Nov 11 2026. No macro, syntax, notation, axiom, sorry.
-/
import Derived.Test.YtllmhgkhamoplaaDoorRows
import GoSem.ClaimSeven
namespace Go.Proofs.YtllmhgkhamoplaaDoor
namespace Rows

/-- THE TIED CARD OF 'concordancelaw01.SignFolds'. -/
def signFoldsCard : Claim7 := { stood := { row := signFoldsRow, standIns := [], harness := (true, "ccb01cee3911d12dd62c06e0af0807d88de40f3a4c9b8561d5eafd70de2cb0e5"), looks := false }, kinds := [], alts := [], laidByText := true, laidKinds := [.data, .pinned], laidTests := true, laidLooks := .later }
def SignFoldsCardSaid : Prop := Claim7.holds Tryd.pinned (.plain (OpenSpec.ofChange signFoldsSpec)) signFoldsCard

/-- THE SECOND FORM's CARD OF 'concordancelaw01.SignFolds'. -/
def signFoldsUptoCard : Claim7 := { stood := { row := signFoldsUptoRow, standIns := [], harness := (true, "ccb01cee3911d12dd62c06e0af0807d88de40f3a4c9b8561d5eafd70de2cb0e5"), looks := false }, kinds := [], alts := [], laidByText := true, laidKinds := [.data, .pinned], laidTests := true, laidLooks := .later }
def SignFoldsUptoCardSaid : Prop := Claim7.holds Tryd.pinned (.plain (OpenSpec.upto signFoldsSpec)) signFoldsUptoCard
end Rows
end Go.Proofs.YtllmhgkhamoplaaDoor
