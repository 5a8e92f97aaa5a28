/-
  No cell of these rows narrows 'for every input' (looked for: loops, veiled, ifaces, maps, wideKeys, modest, calm, conditions, laid).
  DERIVED. THE GIVEN ROWS OF THIS SEAT. 6 by the template 'for every input the law returns true; each argument reads behind the call as it read before'; 0 by the template 'total and deterministic' (their statements: YtcfkmhmgappckaaTotals.lean).
  GIVEN WITH THE SEED: the statements are not yours to turn. If you find one false, say at which input.
  Laid BY PROGRAM, IN A SANDBOX (cutbox-rows.mjs): the forced cells as the released guide's own fill.sh prints them over the translation 0cfde2e7836ef6f7… (all of the seat's roots in one cut). By AI agents, Wed Nov 11 2026. No macro, syntax, notation, axiom, sorry.
-/
import Derived.Test.YtcfkmhmgappckaaChecked
import GoSem.Claim
import GoSem.ClaimJoined
import GoSem.ClaimMapViews
import Derived.JoinedTies
import Derived.KernelRfl
namespace Go.Proofs.Ytcfkmhmgappckaa
/- THE CELL 'sum', in the pinned program and in every row, IS THE sha256 OF THE DUMP (.gsa) THAT YtcfkmhmgappckaaProg.lean LOADS. Nothing in Lean hashes anything: it is a label: what it is worth is what the hold of that sum in a sandbox is worth. -/
noncomputable def Try.pinned : Pinned := { name := "ytcfkmhmgappckaa", sum := "0cfde2e7836ef6f7b8402c647e35ec827c02b32ead07053c7943e459e586e2ed", checked := Try.checked }
namespace Rows
def none {H : Type} : Left H := { results := [], args := [] }

/-- 'concordancelaw19.SchedRows': WHATEVER THE INPUT: true; the input reads as it did. -/
def schedRowsSpec : ChangeSpec := { name := "schedRows", fn := fun _ => fun
  | [d1, d2] => { results := [.lit (.bool true)], args := [d1, d2] }
  | _ => none }
def schedRowsRow : OpenClaim := { program := "ytcfkmhmgappckaa", sum := "0cfde2e7836ef6f7b8402c647e35ec827c02b32ead07053c7943e459e586e2ed", func := "concordance/concordancelaw19.SchedRows", spec := "schedRows", apart := false }
def SchedRowsSaid : Prop := schedRowsRow.holds Try.pinned (OpenSpec.ofChange schedRowsSpec)

/-- ITS FALSE NEIGHBOUR: 'it returns false'. Refute it at one input. -/
def schedRowsWrong : ChangeSpec := { name := "schedRows", fn := fun _ => fun
  | [d1, d2] => { results := [.lit (.bool false)], args := [d1, d2] }
  | _ => none }
def SchedRowsWrongFalsely : Prop := schedRowsRow.holds Try.pinned (OpenSpec.ofChange schedRowsWrong)

/-- 'concordancelaw19.SchedWakes': WHATEVER THE INPUT: true; the input reads as it did. -/
def schedWakesSpec : ChangeSpec := { name := "schedWakes", fn := fun _ => fun
  | [d] => { results := [.lit (.bool true)], args := [d] }
  | _ => none }
def schedWakesRow : OpenClaim := { program := "ytcfkmhmgappckaa", sum := "0cfde2e7836ef6f7b8402c647e35ec827c02b32ead07053c7943e459e586e2ed", func := "concordance/concordancelaw19.SchedWakes", spec := "schedWakes", unfollowed := true, recurses := true, apart := false }
def SchedWakesSaid : Prop := schedWakesRow.holds Try.pinned (OpenSpec.ofChange schedWakesSpec)

/-- ITS FALSE NEIGHBOUR: 'it returns false'. Refute it at one input. -/
def schedWakesWrong : ChangeSpec := { name := "schedWakes", fn := fun _ => fun
  | [d] => { results := [.lit (.bool false)], args := [d] }
  | _ => none }
def SchedWakesWrongFalsely : Prop := schedWakesRow.holds Try.pinned (OpenSpec.ofChange schedWakesWrong)

/-- 'concordancelaw19.SchedPicks': WHATEVER THE INPUT: true; the input reads as it did. -/
def schedPicksSpec : ChangeSpec := { name := "schedPicks", fn := fun _ => fun
  | [d1, d2] => { results := [.lit (.bool true)], args := [d1, d2] }
  | _ => none }
def schedPicksRow : OpenClaim := { program := "ytcfkmhmgappckaa", sum := "0cfde2e7836ef6f7b8402c647e35ec827c02b32ead07053c7943e459e586e2ed", func := "concordance/concordancelaw19.SchedPicks", spec := "schedPicks", unfollowed := true, recurses := true, apart := false }
def SchedPicksSaid : Prop := schedPicksRow.holds Try.pinned (OpenSpec.ofChange schedPicksSpec)

/-- ITS FALSE NEIGHBOUR: 'it returns false'. Refute it at one input. -/
def schedPicksWrong : ChangeSpec := { name := "schedPicks", fn := fun _ => fun
  | [d1, d2] => { results := [.lit (.bool false)], args := [d1, d2] }
  | _ => none }
def SchedPicksWrongFalsely : Prop := schedPicksRow.holds Try.pinned (OpenSpec.ofChange schedPicksWrong)

/-- 'concordancelaw19.SchedHolds': WHATEVER THE INPUT: true; the input reads as it did. -/
def schedHoldsSpec : ChangeSpec := { name := "schedHolds", fn := fun _ => fun
  | [d1, d2, d3, d4] => { results := [.lit (.bool true)], args := [d1, d2, d3, d4] }
  | _ => none }
def schedHoldsRow : OpenClaim := { program := "ytcfkmhmgappckaa", sum := "0cfde2e7836ef6f7b8402c647e35ec827c02b32ead07053c7943e459e586e2ed", func := "concordance/concordancelaw19.SchedHolds", spec := "schedHolds", unfollowed := true, recurses := true, apart := false }
def SchedHoldsSaid : Prop := schedHoldsRow.holds Try.pinned (OpenSpec.ofChange schedHoldsSpec)

/-- ITS FALSE NEIGHBOUR: 'it returns false'. Refute it at one input. -/
def schedHoldsWrong : ChangeSpec := { name := "schedHolds", fn := fun _ => fun
  | [d1, d2, d3, d4] => { results := [.lit (.bool false)], args := [d1, d2, d3, d4] }
  | _ => none }
def SchedHoldsWrongFalsely : Prop := schedHoldsRow.holds Try.pinned (OpenSpec.ofChange schedHoldsWrong)

/-- 'concordancelaw19.SchedPlays': WHATEVER THE INPUT: true; the input reads as it did. -/
def schedPlaysSpec : ChangeSpec := { name := "schedPlays", fn := fun _ => fun
  | [d1, d2, d3, d4] => { results := [.lit (.bool true)], args := [d1, d2, d3, d4] }
  | _ => none }
def schedPlaysRow : OpenClaim := { program := "ytcfkmhmgappckaa", sum := "0cfde2e7836ef6f7b8402c647e35ec827c02b32ead07053c7943e459e586e2ed", func := "concordance/concordancelaw19.SchedPlays", spec := "schedPlays", unfollowed := true, recurses := true, apart := false }
def SchedPlaysSaid : Prop := schedPlaysRow.holds Try.pinned (OpenSpec.ofChange schedPlaysSpec)

/-- ITS FALSE NEIGHBOUR: 'it returns false'. Refute it at one input. -/
def schedPlaysWrong : ChangeSpec := { name := "schedPlays", fn := fun _ => fun
  | [d1, d2, d3, d4] => { results := [.lit (.bool false)], args := [d1, d2, d3, d4] }
  | _ => none }
def SchedPlaysWrongFalsely : Prop := schedPlaysRow.holds Try.pinned (OpenSpec.ofChange schedPlaysWrong)

/-- 'concordancelaw19.SchedOthers': WHATEVER THE INPUT: true; the input reads as it did. -/
def schedOthersSpec : ChangeSpec := { name := "schedOthers", fn := fun _ => fun
  | [d1, d2, d3, d4, d5] => { results := [.lit (.bool true)], args := [d1, d2, d3, d4, d5] }
  | _ => none }
def schedOthersRow : OpenClaim := { program := "ytcfkmhmgappckaa", sum := "0cfde2e7836ef6f7b8402c647e35ec827c02b32ead07053c7943e459e586e2ed", func := "concordance/concordancelaw19.SchedOthers", spec := "schedOthers", unfollowed := true, recurses := true, apart := false }
def SchedOthersSaid : Prop := schedOthersRow.holds Try.pinned (OpenSpec.ofChange schedOthersSpec)

/-- ITS FALSE NEIGHBOUR: 'it returns false'. Refute it at one input. -/
def schedOthersWrong : ChangeSpec := { name := "schedOthers", fn := fun _ => fun
  | [d1, d2, d3, d4, d5] => { results := [.lit (.bool false)], args := [d1, d2, d3, d4, d5] }
  | _ => none }
def SchedOthersWrongFalsely : Prop := schedOthersRow.holds Try.pinned (OpenSpec.ofChange schedOthersWrong)

/- THE SECOND FORM. 'bulk': how many values and letters a reading holds, each counted each time it is reached (what is shared counts as often as it is met; a slice's spare places count too). A statement '..UptoSaid' is the law's where the arguments, and the package variables that the reading takes, are together of bulk at most 1048576: NARROWER than '..Said'. Prove '..Said' where nothing that the law and all that it calls make is longer than what came in: it says more and counts as full. Else prove '..UptoSaid'. A law counts once. -/
mutual
def uptoBulk {H : Type} : DataW H → Nat
  | .lit (.string bytes) => bytes.length + 1
  | .lit _ => 1
  | .nil => 1
  | .ptr d => uptoBulk d + 1
  | .slice elems spare => uptoBulkAll elems + uptoBulkAll spare + 1
  | .agg parts => uptoBulkAll parts + 1
  | .iface _ d => uptoBulk d + 1
  | .map entries => uptoBulkEntries entries + 1
  | .held _ => 1
def uptoBulkAll {H : Type} : List (DataW H) → Nat
  | [] => 0
  | d :: r => uptoBulk d + uptoBulkAll r
def uptoBulkEntries {H : Type} : List (Lit × DataW H) → Nat
  | [] => 0
  | x :: r => uptoBulkEntry x + uptoBulkEntries r
def uptoBulkEntry {H : Type} : Lit × DataW H → Nat
  | (.string bytes, d) => bytes.length + uptoBulk d + 1
  | (_, d) => uptoBulk d + 1
 end
def uptoSmall : (H : Type) → List (DataW H) → Bool := fun _ ds => decide (uptoBulkAll ds ≤ 1048576)
def OpenSpec.upto (s : _root_.Go.ChangeSpec) : _root_.Go.OpenSpec := { _root_.Go.OpenSpec.ofChange s with cond := some uptoSmall }

/-- 'concordancelaw19.SchedRows', WHERE WHAT IT READS IS OF BULK AT MOST 1048576: true; the input reads as it did. -/
def schedRowsUptoRow : OpenClaim := { program := "ytcfkmhmgappckaa", sum := "0cfde2e7836ef6f7b8402c647e35ec827c02b32ead07053c7943e459e586e2ed", func := "concordance/concordancelaw19.SchedRows", spec := "schedRows", apart := false, narrowed := true }
def SchedRowsUptoSaid : Prop := schedRowsUptoRow.holds Try.pinned (OpenSpec.upto schedRowsSpec)

/-- 'concordancelaw19.SchedWakes', WHERE WHAT IT READS IS OF BULK AT MOST 1048576: true; the input reads as it did. -/
def schedWakesUptoRow : OpenClaim := { program := "ytcfkmhmgappckaa", sum := "0cfde2e7836ef6f7b8402c647e35ec827c02b32ead07053c7943e459e586e2ed", func := "concordance/concordancelaw19.SchedWakes", spec := "schedWakes", unfollowed := true, recurses := true, apart := false, narrowed := true }
def SchedWakesUptoSaid : Prop := schedWakesUptoRow.holds Try.pinned (OpenSpec.upto schedWakesSpec)

/-- 'concordancelaw19.SchedPicks', WHERE WHAT IT READS IS OF BULK AT MOST 1048576: true; the input reads as it did. -/
def schedPicksUptoRow : OpenClaim := { program := "ytcfkmhmgappckaa", sum := "0cfde2e7836ef6f7b8402c647e35ec827c02b32ead07053c7943e459e586e2ed", func := "concordance/concordancelaw19.SchedPicks", spec := "schedPicks", unfollowed := true, recurses := true, apart := false, narrowed := true }
def SchedPicksUptoSaid : Prop := schedPicksUptoRow.holds Try.pinned (OpenSpec.upto schedPicksSpec)

/-- 'concordancelaw19.SchedHolds', WHERE WHAT IT READS IS OF BULK AT MOST 1048576: true; the input reads as it did. -/
def schedHoldsUptoRow : OpenClaim := { program := "ytcfkmhmgappckaa", sum := "0cfde2e7836ef6f7b8402c647e35ec827c02b32ead07053c7943e459e586e2ed", func := "concordance/concordancelaw19.SchedHolds", spec := "schedHolds", unfollowed := true, recurses := true, apart := false, narrowed := true }
def SchedHoldsUptoSaid : Prop := schedHoldsUptoRow.holds Try.pinned (OpenSpec.upto schedHoldsSpec)

/-- 'concordancelaw19.SchedPlays', WHERE WHAT IT READS IS OF BULK AT MOST 1048576: true; the input reads as it did. -/
def schedPlaysUptoRow : OpenClaim := { program := "ytcfkmhmgappckaa", sum := "0cfde2e7836ef6f7b8402c647e35ec827c02b32ead07053c7943e459e586e2ed", func := "concordance/concordancelaw19.SchedPlays", spec := "schedPlays", unfollowed := true, recurses := true, apart := false, narrowed := true }
def SchedPlaysUptoSaid : Prop := schedPlaysUptoRow.holds Try.pinned (OpenSpec.upto schedPlaysSpec)

/-- 'concordancelaw19.SchedOthers', WHERE WHAT IT READS IS OF BULK AT MOST 1048576: true; the input reads as it did. -/
def schedOthersUptoRow : OpenClaim := { program := "ytcfkmhmgappckaa", sum := "0cfde2e7836ef6f7b8402c647e35ec827c02b32ead07053c7943e459e586e2ed", func := "concordance/concordancelaw19.SchedOthers", spec := "schedOthers", unfollowed := true, recurses := true, apart := false, narrowed := true }
def SchedOthersUptoSaid : Prop := schedOthersUptoRow.holds Try.pinned (OpenSpec.upto schedOthersSpec)

end Rows
end Go.Proofs.Ytcfkmhmgappckaa
