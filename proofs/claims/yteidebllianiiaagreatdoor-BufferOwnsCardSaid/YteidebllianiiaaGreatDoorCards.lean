/-
  DERIVED. GIVEN WITH THE SEED: THE CARDS: each row of YteidebllianiiaaGreatDoorRows.lean that lists a variable, with what it lists TIED to the program's text (the seventh form; the later family's looks); each row that meets fmt, with fmt's text TOLD by the authors' own Lean function (tested against real Go, not proved from fmt's source: count such statements apart). THE CARD IS WHAT COUNTS. Prove the row's statement (the work); the ties are given (YteidebllianiiaaGreatDoorTie.lean); close each card by the builder's one call (the guide's Derived/Test/ToyasCard.lean, 'card_holds'). Laid BY PROGRAM, IN A SANDBOX (cutbox-door.mjs). By AI agents, Wed Nov 11 2026. No macro, syntax, notation, axiom, sorry.
-/
import Derived.Test.YteidebllianiiaaGreatDoorRows
import GoSem.ClaimSeven
namespace Go.Proofs.YteidebllianiiaaGreatDoor
namespace Rows

/-- THE TIED CARD OF 'concordancelaw09.BufferTells'. -/
def bufferTellsCard : Claim7 := { stood := { row := bufferTellsRow, standIns := [], harness := (true, "daa1496b162593cb6a29275892a63cef6ce2a6ff1946d818894eef6044055078"), looks := false }, kinds := [], alts := [], laidByText := true, laidKinds := [.data, .pinned], laidTests := true, laidLooks := .later }
def BufferTellsCardSaid : Prop := Claim7.holds Tryz.pinned (.plain (OpenSpec.ofChange bufferTellsSpec)) bufferTellsCard

/-- THE TIED CARD OF 'concordancelaw09.BufferSeals'. -/
def bufferSealsCard : Claim7 := { stood := { row := bufferSealsRow, standIns := [], harness := (true, "daa1496b162593cb6a29275892a63cef6ce2a6ff1946d818894eef6044055078"), looks := false }, kinds := [], alts := [], laidByText := true, laidKinds := [.data, .pinned], laidTests := true, laidLooks := .later }
def BufferSealsCardSaid : Prop := Claim7.holds Tryz.pinned (.plain (OpenSpec.ofChange bufferSealsSpec)) bufferSealsCard

/-- THE TIED CARD OF 'concordancelaw09.BufferOwns'. -/
def bufferOwnsCard : Claim7 := { stood := { row := bufferOwnsRow, standIns := [], harness := (true, "daa1496b162593cb6a29275892a63cef6ce2a6ff1946d818894eef6044055078"), looks := false }, kinds := [], alts := [], laidByText := true, laidKinds := [.data, .pinned], laidTests := true, laidLooks := .later }
def BufferOwnsCardSaid : Prop := Claim7.holds Tryz.pinned (.plain (OpenSpec.ofChange bufferOwnsSpec)) bufferOwnsCard

/-- THE TIED CARD OF 'concordancelaw09.BufferPlays'. -/
def bufferPlaysCard : Claim7 := { stood := { row := bufferPlaysRow, standIns := [], harness := (true, "daa1496b162593cb6a29275892a63cef6ce2a6ff1946d818894eef6044055078"), looks := false }, kinds := [], alts := [], laidByText := true, laidKinds := [.data, .pinned], laidTests := true, laidLooks := .later }
def BufferPlaysCardSaid : Prop := Claim7.holds Tryz.pinned (.plain (OpenSpec.ofChange bufferPlaysSpec)) bufferPlaysCard

/-- THE SECOND FORM's CARD OF 'concordancelaw09.BufferTells'. -/
def bufferTellsUptoCard : Claim7 := { stood := { row := bufferTellsUptoRow, standIns := [], harness := (true, "daa1496b162593cb6a29275892a63cef6ce2a6ff1946d818894eef6044055078"), looks := false }, kinds := [], alts := [], laidByText := true, laidKinds := [.data, .pinned], laidTests := true, laidLooks := .later }
def BufferTellsUptoCardSaid : Prop := Claim7.holds Tryz.pinned (.plain (OpenSpec.upto bufferTellsSpec)) bufferTellsUptoCard

/-- THE SECOND FORM's CARD OF 'concordancelaw09.BufferSeals'. -/
def bufferSealsUptoCard : Claim7 := { stood := { row := bufferSealsUptoRow, standIns := [], harness := (true, "daa1496b162593cb6a29275892a63cef6ce2a6ff1946d818894eef6044055078"), looks := false }, kinds := [], alts := [], laidByText := true, laidKinds := [.data, .pinned], laidTests := true, laidLooks := .later }
def BufferSealsUptoCardSaid : Prop := Claim7.holds Tryz.pinned (.plain (OpenSpec.upto bufferSealsSpec)) bufferSealsUptoCard

/-- THE SECOND FORM's CARD OF 'concordancelaw09.BufferOwns'. -/
def bufferOwnsUptoCard : Claim7 := { stood := { row := bufferOwnsUptoRow, standIns := [], harness := (true, "daa1496b162593cb6a29275892a63cef6ce2a6ff1946d818894eef6044055078"), looks := false }, kinds := [], alts := [], laidByText := true, laidKinds := [.data, .pinned], laidTests := true, laidLooks := .later }
def BufferOwnsUptoCardSaid : Prop := Claim7.holds Tryz.pinned (.plain (OpenSpec.upto bufferOwnsSpec)) bufferOwnsUptoCard

/-- THE SECOND FORM's CARD OF 'concordancelaw09.BufferPlays'. -/
def bufferPlaysUptoCard : Claim7 := { stood := { row := bufferPlaysUptoRow, standIns := [], harness := (true, "daa1496b162593cb6a29275892a63cef6ce2a6ff1946d818894eef6044055078"), looks := false }, kinds := [], alts := [], laidByText := true, laidKinds := [.data, .pinned], laidTests := true, laidLooks := .later }
def BufferPlaysUptoCardSaid : Prop := Claim7.holds Tryz.pinned (.plain (OpenSpec.upto bufferPlaysSpec)) bufferPlaysUptoCard
end Rows
end Go.Proofs.YteidebllianiiaaGreatDoor
