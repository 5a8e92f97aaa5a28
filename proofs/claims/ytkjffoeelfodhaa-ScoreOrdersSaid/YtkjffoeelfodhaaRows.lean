/-
  No cell of these rows narrows 'for every input' (looked for: loops, veiled, ifaces, maps, wideKeys, modest, calm, conditions, laid).
  DERIVED. THE GIVEN ROWS OF THIS SEAT. 4 by the template 'for every input the law returns true; each argument reads behind the call as it read before'; 0 by the template 'total and deterministic' (their statements: YtkjffoeelfodhaaTotals.lean).
  GIVEN WITH THE SEED: the statements are not yours to turn. If you find one false, say at which input.
  Laid BY PROGRAM, IN A SANDBOX (cutbox-rows.mjs): the forced cells as the released guide's own fill.sh prints them over the translation 3074352c67fbf820… (all of the seat's roots in one cut). By AI agents, Wed Nov 11 2026. No macro, syntax, notation, axiom, sorry.
-/
import Derived.Test.YtkjffoeelfodhaaChecked
import GoSem.Claim
import GoSem.ClaimJoined
import GoSem.ClaimMapViews
import Derived.JoinedTies
import Derived.KernelRfl
namespace Go.Proofs.Ytkjffoeelfodhaa
/- THE CELL 'sum', in the pinned program and in every row, IS THE sha256 OF THE DUMP (.gsa) THAT YtkjffoeelfodhaaProg.lean LOADS. Nothing in Lean hashes anything: it is a label: what it is worth is what the hold of that sum in a sandbox is worth. -/
noncomputable def Try.pinned : Pinned := { name := "ytkjffoeelfodhaa", sum := "3074352c67fbf82098ab7d9030f9b2a7df785a8f9f2a662c8a3a366242844e80", checked := Try.checked }
namespace Rows
def none {H : Type} : Left H := { results := [], args := [] }

/-- 'concordancelaw14.ScoreOrders': WHATEVER THE INPUT: true; the input reads as it did. -/
def scoreOrdersSpec : ChangeSpec := { name := "scoreOrders", fn := fun _ => fun
  | [d1, d2, d3] => { results := [.lit (.bool true)], args := [d1, d2, d3] }
  | _ => none }
def scoreOrdersRow : OpenClaim := { program := "ytkjffoeelfodhaa", sum := "3074352c67fbf82098ab7d9030f9b2a7df785a8f9f2a662c8a3a366242844e80", func := "concordance/concordancelaw14.ScoreOrders", spec := "scoreOrders", unfollowed := true, recurses := true, apart := false }
def ScoreOrdersSaid : Prop := scoreOrdersRow.holds Try.pinned (OpenSpec.ofChange scoreOrdersSpec)

/-- ITS FALSE NEIGHBOUR: 'it returns false'. Refute it at one input. -/
def scoreOrdersWrong : ChangeSpec := { name := "scoreOrders", fn := fun _ => fun
  | [d1, d2, d3] => { results := [.lit (.bool false)], args := [d1, d2, d3] }
  | _ => none }
def ScoreOrdersWrongFalsely : Prop := scoreOrdersRow.holds Try.pinned (OpenSpec.ofChange scoreOrdersWrong)

/-- 'concordancelaw14.ScoreRows': WHATEVER THE INPUT: true; the input reads as it did. -/
def scoreRowsSpec : ChangeSpec := { name := "scoreRows", fn := fun _ => fun
  | [d1, d2, d3] => { results := [.lit (.bool true)], args := [d1, d2, d3] }
  | _ => none }
def scoreRowsRow : OpenClaim := { program := "ytkjffoeelfodhaa", sum := "3074352c67fbf82098ab7d9030f9b2a7df785a8f9f2a662c8a3a366242844e80", func := "concordance/concordancelaw14.ScoreRows", spec := "scoreRows", unfollowed := true, recurses := true, apart := false }
def ScoreRowsSaid : Prop := scoreRowsRow.holds Try.pinned (OpenSpec.ofChange scoreRowsSpec)

/-- ITS FALSE NEIGHBOUR: 'it returns false'. Refute it at one input. -/
def scoreRowsWrong : ChangeSpec := { name := "scoreRows", fn := fun _ => fun
  | [d1, d2, d3] => { results := [.lit (.bool false)], args := [d1, d2, d3] }
  | _ => none }
def ScoreRowsWrongFalsely : Prop := scoreRowsRow.holds Try.pinned (OpenSpec.ofChange scoreRowsWrong)

/-- 'concordancelaw14.ScoreMore': WHATEVER THE INPUT: true; the input reads as it did. -/
def scoreMoreSpec : ChangeSpec := { name := "scoreMore", fn := fun _ => fun
  | [d1, d2, d3] => { results := [.lit (.bool true)], args := [d1, d2, d3] }
  | _ => none }
def scoreMoreRow : OpenClaim := { program := "ytkjffoeelfodhaa", sum := "3074352c67fbf82098ab7d9030f9b2a7df785a8f9f2a662c8a3a366242844e80", func := "concordance/concordancelaw14.ScoreMore", spec := "scoreMore", unfollowed := true, recurses := true, apart := false }
def ScoreMoreSaid : Prop := scoreMoreRow.holds Try.pinned (OpenSpec.ofChange scoreMoreSpec)

/-- ITS FALSE NEIGHBOUR: 'it returns false'. Refute it at one input. -/
def scoreMoreWrong : ChangeSpec := { name := "scoreMore", fn := fun _ => fun
  | [d1, d2, d3] => { results := [.lit (.bool false)], args := [d1, d2, d3] }
  | _ => none }
def ScoreMoreWrongFalsely : Prop := scoreMoreRow.holds Try.pinned (OpenSpec.ofChange scoreMoreWrong)

/-- 'concordancelaw14.ScoreBest': WHATEVER THE INPUT: true; the input reads as it did. -/
def scoreBestSpec : ChangeSpec := { name := "scoreBest", fn := fun _ => fun
  | [d1, d2, d3] => { results := [.lit (.bool true)], args := [d1, d2, d3] }
  | _ => none }
def scoreBestRow : OpenClaim := { program := "ytkjffoeelfodhaa", sum := "3074352c67fbf82098ab7d9030f9b2a7df785a8f9f2a662c8a3a366242844e80", func := "concordance/concordancelaw14.ScoreBest", spec := "scoreBest", unfollowed := true, recurses := true, apart := false }
def ScoreBestSaid : Prop := scoreBestRow.holds Try.pinned (OpenSpec.ofChange scoreBestSpec)

/-- ITS FALSE NEIGHBOUR: 'it returns false'. Refute it at one input. -/
def scoreBestWrong : ChangeSpec := { name := "scoreBest", fn := fun _ => fun
  | [d1, d2, d3] => { results := [.lit (.bool false)], args := [d1, d2, d3] }
  | _ => none }
def ScoreBestWrongFalsely : Prop := scoreBestRow.holds Try.pinned (OpenSpec.ofChange scoreBestWrong)

/- THE SECOND FORM. 'bulk': how many values and letters a reading holds, each counted each time it is reached (what is shared counts as often as it is met; a slice's spare places count too). A statement '..UptoSaid' is the law's where the arguments, and the package variables that the reading takes, are together of bulk at most 1048576: NARROWER than '..Said'. Prove '..Said' where nothing that the law and all that it calls make is longer than what came in: it says more and counts as full. Else prove '..UptoSaid'. A law counts once. -/
mutual
def uptoBulk {H : Type} : DataW H → Nat
  | .lit (.string bytes) => bytes.length + 1
  | .lit _ => 1
  | .nil => 1
  | .ptr d => uptoBulk d + 1
  | .slice elems spare => uptoBulkAll elems + uptoBulkAll spare + 1
  | .agg parts => uptoBulkAll parts + 1
  | .iface _ d => uptoBulk d + 1
  | .map entries => uptoBulkEntries entries + 1
  | .held _ => 1
def uptoBulkAll {H : Type} : List (DataW H) → Nat
  | [] => 0
  | d :: r => uptoBulk d + uptoBulkAll r
def uptoBulkEntries {H : Type} : List (Lit × DataW H) → Nat
  | [] => 0
  | x :: r => uptoBulkEntry x + uptoBulkEntries r
def uptoBulkEntry {H : Type} : Lit × DataW H → Nat
  | (.string bytes, d) => bytes.length + uptoBulk d + 1
  | (_, d) => uptoBulk d + 1
 end
def uptoSmall : (H : Type) → List (DataW H) → Bool := fun _ ds => decide (uptoBulkAll ds ≤ 1048576)
def OpenSpec.upto (s : _root_.Go.ChangeSpec) : _root_.Go.OpenSpec := { _root_.Go.OpenSpec.ofChange s with cond := some uptoSmall }

/-- 'concordancelaw14.ScoreOrders', WHERE WHAT IT READS IS OF BULK AT MOST 1048576: true; the input reads as it did. -/
def scoreOrdersUptoRow : OpenClaim := { program := "ytkjffoeelfodhaa", sum := "3074352c67fbf82098ab7d9030f9b2a7df785a8f9f2a662c8a3a366242844e80", func := "concordance/concordancelaw14.ScoreOrders", spec := "scoreOrders", unfollowed := true, recurses := true, apart := false, narrowed := true }
def ScoreOrdersUptoSaid : Prop := scoreOrdersUptoRow.holds Try.pinned (OpenSpec.upto scoreOrdersSpec)

/-- 'concordancelaw14.ScoreRows', WHERE WHAT IT READS IS OF BULK AT MOST 1048576: true; the input reads as it did. -/
def scoreRowsUptoRow : OpenClaim := { program := "ytkjffoeelfodhaa", sum := "3074352c67fbf82098ab7d9030f9b2a7df785a8f9f2a662c8a3a366242844e80", func := "concordance/concordancelaw14.ScoreRows", spec := "scoreRows", unfollowed := true, recurses := true, apart := false, narrowed := true }
def ScoreRowsUptoSaid : Prop := scoreRowsUptoRow.holds Try.pinned (OpenSpec.upto scoreRowsSpec)

/-- 'concordancelaw14.ScoreMore', WHERE WHAT IT READS IS OF BULK AT MOST 1048576: true; the input reads as it did. -/
def scoreMoreUptoRow : OpenClaim := { program := "ytkjffoeelfodhaa", sum := "3074352c67fbf82098ab7d9030f9b2a7df785a8f9f2a662c8a3a366242844e80", func := "concordance/concordancelaw14.ScoreMore", spec := "scoreMore", unfollowed := true, recurses := true, apart := false, narrowed := true }
def ScoreMoreUptoSaid : Prop := scoreMoreUptoRow.holds Try.pinned (OpenSpec.upto scoreMoreSpec)

/-- 'concordancelaw14.ScoreBest', WHERE WHAT IT READS IS OF BULK AT MOST 1048576: true; the input reads as it did. -/
def scoreBestUptoRow : OpenClaim := { program := "ytkjffoeelfodhaa", sum := "3074352c67fbf82098ab7d9030f9b2a7df785a8f9f2a662c8a3a366242844e80", func := "concordance/concordancelaw14.ScoreBest", spec := "scoreBest", unfollowed := true, recurses := true, apart := false, narrowed := true }
def ScoreBestUptoSaid : Prop := scoreBestUptoRow.holds Try.pinned (OpenSpec.upto scoreBestSpec)

end Rows
end Go.Proofs.Ytkjffoeelfodhaa
