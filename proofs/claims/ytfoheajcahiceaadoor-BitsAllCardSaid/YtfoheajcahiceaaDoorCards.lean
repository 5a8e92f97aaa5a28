/-
  DERIVED. GIVEN WITH THE SEED: THE CARDS: each row of YtfoheajcahiceaaDoorRows.lean that lists a variable, with what it lists TIED to the program's text (the seventh form; the later family's looks); each row that meets fmt, with fmt's text TOLD by the authors' own Lean function (tested against real Go, not proved from fmt's source: count such statements apart). THE CARD IS WHAT COUNTS. Prove the row's statement (the work); the ties are given (YtfoheajcahiceaaDoorTie.lean); close each card by the builder's one call (the guide's Derived/Test/ToyasCard.lean, 'card_holds'). Laid BY PROGRAM, IN A SANDBOX (cutbox-door.mjs). By AI agents, Wed Nov 11 2026. No macro, syntax, notation, axiom, sorry.
-/
import Derived.Test.YtfoheajcahiceaaDoorRows
import GoSem.ClaimSeven
namespace Go.Proofs.YtfoheajcahiceaaDoor
namespace Rows

/-- THE TIED CARD OF 'concordancelaw03.BitsTurns'. -/
def bitsTurnsCard : Claim7 := { stood := { row := bitsTurnsRow, standIns := [], harness := (true, "26862b01b913f22f7d3e30706a3129a9f53261b9e7f8ba95a48a0ae72ad17233"), looks := false }, kinds := [], alts := [], laidByText := true, laidKinds := [.data], laidTests := true, laidLooks := .later }
def BitsTurnsCardSaid : Prop := Claim7.holds Tryd.pinned (.plain (OpenSpec.ofChange bitsTurnsSpec)) bitsTurnsCard

/-- THE TIED CARD OF 'concordancelaw03.BitsRanks'. -/
def bitsRanksCard : Claim7 := { stood := { row := bitsRanksRow, standIns := [], harness := (true, "26862b01b913f22f7d3e30706a3129a9f53261b9e7f8ba95a48a0ae72ad17233"), looks := false }, kinds := [], alts := [], laidByText := true, laidKinds := [.data], laidTests := true, laidLooks := .later }
def BitsRanksCardSaid : Prop := Claim7.holds Tryd.pinned (.plain (OpenSpec.ofChange bitsRanksSpec)) bitsRanksCard

/-- THE TIED CARD OF 'concordancelaw03.BitsPlays'. -/
def bitsPlaysCard : Claim7 := { stood := { row := bitsPlaysRow, standIns := [], harness := (true, "26862b01b913f22f7d3e30706a3129a9f53261b9e7f8ba95a48a0ae72ad17233"), looks := false }, kinds := [], alts := [], laidByText := true, laidKinds := [.data], laidTests := true, laidLooks := .later }
def BitsPlaysCardSaid : Prop := Claim7.holds Tryd.pinned (.plain (OpenSpec.ofChange bitsPlaysSpec)) bitsPlaysCard

/-- THE TIED CARD OF 'concordancelaw03.BitsAll'. -/
def bitsAllCard : Claim7 := { stood := { row := bitsAllRow, standIns := [], harness := (true, "26862b01b913f22f7d3e30706a3129a9f53261b9e7f8ba95a48a0ae72ad17233"), looks := false }, kinds := [], alts := [], laidByText := true, laidKinds := [.data], laidTests := true, laidLooks := .later }
def BitsAllCardSaid : Prop := Claim7.holds Tryd.pinned (.plain (OpenSpec.ofChange bitsAllSpec)) bitsAllCard

/-- THE TIED CARD OF 'concordancelaw03.BitsClones'. -/
def bitsClonesCard : Claim7 := { stood := { row := bitsClonesRow, standIns := [], harness := (true, "26862b01b913f22f7d3e30706a3129a9f53261b9e7f8ba95a48a0ae72ad17233"), looks := false }, kinds := [], alts := [], laidByText := true, laidKinds := [.data], laidTests := true, laidLooks := .later }
def BitsClonesCardSaid : Prop := Claim7.holds Tryd.pinned (.plain (OpenSpec.ofChange bitsClonesSpec)) bitsClonesCard

/-- THE TIED CARD OF 'concordancelaw03.BitsJoins'. -/
def bitsJoinsCard : Claim7 := { stood := { row := bitsJoinsRow, standIns := [], harness := (true, "26862b01b913f22f7d3e30706a3129a9f53261b9e7f8ba95a48a0ae72ad17233"), looks := false }, kinds := [], alts := [], laidByText := true, laidKinds := [.data], laidTests := true, laidLooks := .later }
def BitsJoinsCardSaid : Prop := Claim7.holds Tryd.pinned (.plain (OpenSpec.ofChange bitsJoinsSpec)) bitsJoinsCard

/-- THE SECOND FORM's CARD OF 'concordancelaw03.BitsTurns'. -/
def bitsTurnsUptoCard : Claim7 := { stood := { row := bitsTurnsUptoRow, standIns := [], harness := (true, "26862b01b913f22f7d3e30706a3129a9f53261b9e7f8ba95a48a0ae72ad17233"), looks := false }, kinds := [], alts := [], laidByText := true, laidKinds := [.data], laidTests := true, laidLooks := .later }
def BitsTurnsUptoCardSaid : Prop := Claim7.holds Tryd.pinned (.plain (OpenSpec.upto bitsTurnsSpec)) bitsTurnsUptoCard

/-- THE SECOND FORM's CARD OF 'concordancelaw03.BitsRanks'. -/
def bitsRanksUptoCard : Claim7 := { stood := { row := bitsRanksUptoRow, standIns := [], harness := (true, "26862b01b913f22f7d3e30706a3129a9f53261b9e7f8ba95a48a0ae72ad17233"), looks := false }, kinds := [], alts := [], laidByText := true, laidKinds := [.data], laidTests := true, laidLooks := .later }
def BitsRanksUptoCardSaid : Prop := Claim7.holds Tryd.pinned (.plain (OpenSpec.upto bitsRanksSpec)) bitsRanksUptoCard

/-- THE SECOND FORM's CARD OF 'concordancelaw03.BitsPlays'. -/
def bitsPlaysUptoCard : Claim7 := { stood := { row := bitsPlaysUptoRow, standIns := [], harness := (true, "26862b01b913f22f7d3e30706a3129a9f53261b9e7f8ba95a48a0ae72ad17233"), looks := false }, kinds := [], alts := [], laidByText := true, laidKinds := [.data], laidTests := true, laidLooks := .later }
def BitsPlaysUptoCardSaid : Prop := Claim7.holds Tryd.pinned (.plain (OpenSpec.upto bitsPlaysSpec)) bitsPlaysUptoCard

/-- THE SECOND FORM's CARD OF 'concordancelaw03.BitsAll'. -/
def bitsAllUptoCard : Claim7 := { stood := { row := bitsAllUptoRow, standIns := [], harness := (true, "26862b01b913f22f7d3e30706a3129a9f53261b9e7f8ba95a48a0ae72ad17233"), looks := false }, kinds := [], alts := [], laidByText := true, laidKinds := [.data], laidTests := true, laidLooks := .later }
def BitsAllUptoCardSaid : Prop := Claim7.holds Tryd.pinned (.plain (OpenSpec.upto bitsAllSpec)) bitsAllUptoCard

/-- THE SECOND FORM's CARD OF 'concordancelaw03.BitsClones'. -/
def bitsClonesUptoCard : Claim7 := { stood := { row := bitsClonesUptoRow, standIns := [], harness := (true, "26862b01b913f22f7d3e30706a3129a9f53261b9e7f8ba95a48a0ae72ad17233"), looks := false }, kinds := [], alts := [], laidByText := true, laidKinds := [.data], laidTests := true, laidLooks := .later }
def BitsClonesUptoCardSaid : Prop := Claim7.holds Tryd.pinned (.plain (OpenSpec.upto bitsClonesSpec)) bitsClonesUptoCard

/-- THE SECOND FORM's CARD OF 'concordancelaw03.BitsJoins'. -/
def bitsJoinsUptoCard : Claim7 := { stood := { row := bitsJoinsUptoRow, standIns := [], harness := (true, "26862b01b913f22f7d3e30706a3129a9f53261b9e7f8ba95a48a0ae72ad17233"), looks := false }, kinds := [], alts := [], laidByText := true, laidKinds := [.data], laidTests := true, laidLooks := .later }
def BitsJoinsUptoCardSaid : Prop := Claim7.holds Tryd.pinned (.plain (OpenSpec.upto bitsJoinsSpec)) bitsJoinsUptoCard
end Rows
end Go.Proofs.YtfoheajcahiceaaDoor
