/-
  No cell of these rows narrows 'for every input' (looked for: loops, veiled, ifaces, maps, wideKeys, modest, calm, conditions, laid).
  DERIVED. THE GIVEN ROWS OF THIS SEAT. 6 by the template 'for every input the law returns true; each argument reads behind the call as it read before'; 0 by the template 'total and deterministic' (their statements: YtpaenaedahoggaaTotals.lean).
  GIVEN WITH THE SEED: the statements are not yours to turn. If you find one false, say at which input.
  Laid BY PROGRAM, IN A SANDBOX (cutbox-rows.mjs): the forced cells as the released guide's own fill.sh prints them over the translation 4fcbeec2fcc36255… (all of the seat's roots in one cut). By AI agents, Wed Nov 11 2026. No macro, syntax, notation, axiom, sorry.
-/
import Derived.Test.YtpaenaedahoggaaChecked
import GoSem.Claim
import GoSem.ClaimJoined
import GoSem.ClaimMapViews
import Derived.JoinedTies
import Derived.KernelRfl
namespace Go.Proofs.Ytpaenaedahoggaa
/- THE CELL 'sum', in the pinned program and in every row, IS THE sha256 OF THE DUMP (.gsa) THAT YtpaenaedahoggaaProg.lean LOADS. Nothing in Lean hashes anything: it is a label: what it is worth is what the hold of that sum in a sandbox is worth. -/
noncomputable def Try.pinned : Pinned := { name := "ytpaenaedahoggaa", sum := "4fcbeec2fcc36255e6088f8bd7b3688f23bc1b52f3c1ea981a0ffaea049cd204", checked := Try.checked }
namespace Rows
def none {H : Type} : Left H := { results := [], args := [] }

/-- 'concordancelaw17.PolicyPicks': WHATEVER THE INPUT: true; the input reads as it did. -/
def policyPicksSpec : ChangeSpec := { name := "policyPicks", fn := fun _ => fun
  | [d1, d2, d3] => { results := [.lit (.bool true)], args := [d1, d2, d3] }
  | _ => none }
def policyPicksRow : OpenClaim := { program := "ytpaenaedahoggaa", sum := "4fcbeec2fcc36255e6088f8bd7b3688f23bc1b52f3c1ea981a0ffaea049cd204", func := "concordance/concordancelaw17.PolicyPicks", spec := "policyPicks", unfollowed := true, recurses := true, apart := false }
def PolicyPicksSaid : Prop := policyPicksRow.holds Try.pinned (OpenSpec.ofChange policyPicksSpec)

/-- ITS FALSE NEIGHBOUR: 'it returns false'. Refute it at one input. -/
def policyPicksWrong : ChangeSpec := { name := "policyPicks", fn := fun _ => fun
  | [d1, d2, d3] => { results := [.lit (.bool false)], args := [d1, d2, d3] }
  | _ => none }
def PolicyPicksWrongFalsely : Prop := policyPicksRow.holds Try.pinned (OpenSpec.ofChange policyPicksWrong)

/-- 'concordancelaw17.PolicyLeast': WHATEVER THE INPUT: true; the input reads as it did. -/
def policyLeastSpec : ChangeSpec := { name := "policyLeast", fn := fun _ => fun
  | [d1, d2, d3] => { results := [.lit (.bool true)], args := [d1, d2, d3] }
  | _ => none }
def policyLeastRow : OpenClaim := { program := "ytpaenaedahoggaa", sum := "4fcbeec2fcc36255e6088f8bd7b3688f23bc1b52f3c1ea981a0ffaea049cd204", func := "concordance/concordancelaw17.PolicyLeast", spec := "policyLeast", unfollowed := true, recurses := true, apart := false }
def PolicyLeastSaid : Prop := policyLeastRow.holds Try.pinned (OpenSpec.ofChange policyLeastSpec)

/-- ITS FALSE NEIGHBOUR: 'it returns false'. Refute it at one input. -/
def policyLeastWrong : ChangeSpec := { name := "policyLeast", fn := fun _ => fun
  | [d1, d2, d3] => { results := [.lit (.bool false)], args := [d1, d2, d3] }
  | _ => none }
def PolicyLeastWrongFalsely : Prop := policyLeastRow.holds Try.pinned (OpenSpec.ofChange policyLeastWrong)

/-- 'concordancelaw17.PolicyAfter': WHATEVER THE INPUT: true; the input reads as it did. -/
def policyAfterSpec : ChangeSpec := { name := "policyAfter", fn := fun _ => fun
  | [d1, d2, d3] => { results := [.lit (.bool true)], args := [d1, d2, d3] }
  | _ => none }
def policyAfterRow : OpenClaim := { program := "ytpaenaedahoggaa", sum := "4fcbeec2fcc36255e6088f8bd7b3688f23bc1b52f3c1ea981a0ffaea049cd204", func := "concordance/concordancelaw17.PolicyAfter", spec := "policyAfter", unfollowed := true, recurses := true, apart := false }
def PolicyAfterSaid : Prop := policyAfterRow.holds Try.pinned (OpenSpec.ofChange policyAfterSpec)

/-- ITS FALSE NEIGHBOUR: 'it returns false'. Refute it at one input. -/
def policyAfterWrong : ChangeSpec := { name := "policyAfter", fn := fun _ => fun
  | [d1, d2, d3] => { results := [.lit (.bool false)], args := [d1, d2, d3] }
  | _ => none }
def PolicyAfterWrongFalsely : Prop := policyAfterRow.holds Try.pinned (OpenSpec.ofChange policyAfterWrong)

/-- 'concordancelaw17.PolicyFewer': WHATEVER THE INPUT: true; the input reads as it did. -/
def policyFewerSpec : ChangeSpec := { name := "policyFewer", fn := fun _ => fun
  | [d1, d2, d3] => { results := [.lit (.bool true)], args := [d1, d2, d3] }
  | _ => none }
def policyFewerRow : OpenClaim := { program := "ytpaenaedahoggaa", sum := "4fcbeec2fcc36255e6088f8bd7b3688f23bc1b52f3c1ea981a0ffaea049cd204", func := "concordance/concordancelaw17.PolicyFewer", spec := "policyFewer", unfollowed := true, recurses := true, apart := false }
def PolicyFewerSaid : Prop := policyFewerRow.holds Try.pinned (OpenSpec.ofChange policyFewerSpec)

/-- ITS FALSE NEIGHBOUR: 'it returns false'. Refute it at one input. -/
def policyFewerWrong : ChangeSpec := { name := "policyFewer", fn := fun _ => fun
  | [d1, d2, d3] => { results := [.lit (.bool false)], args := [d1, d2, d3] }
  | _ => none }
def PolicyFewerWrongFalsely : Prop := policyFewerRow.holds Try.pinned (OpenSpec.ofChange policyFewerWrong)

/-- 'concordancelaw17.PolicyPlans': WHATEVER THE INPUT: true; the input reads as it did. -/
def policyPlansSpec : ChangeSpec := { name := "policyPlans", fn := fun _ => fun
  | [d1, d2, d3] => { results := [.lit (.bool true)], args := [d1, d2, d3] }
  | _ => none }
def policyPlansRow : OpenClaim := { program := "ytpaenaedahoggaa", sum := "4fcbeec2fcc36255e6088f8bd7b3688f23bc1b52f3c1ea981a0ffaea049cd204", func := "concordance/concordancelaw17.PolicyPlans", spec := "policyPlans", unfollowed := true, recurses := true, apart := false }
def PolicyPlansSaid : Prop := policyPlansRow.holds Try.pinned (OpenSpec.ofChange policyPlansSpec)

/-- ITS FALSE NEIGHBOUR: 'it returns false'. Refute it at one input. -/
def policyPlansWrong : ChangeSpec := { name := "policyPlans", fn := fun _ => fun
  | [d1, d2, d3] => { results := [.lit (.bool false)], args := [d1, d2, d3] }
  | _ => none }
def PolicyPlansWrongFalsely : Prop := policyPlansRow.holds Try.pinned (OpenSpec.ofChange policyPlansWrong)

/-- 'concordancelaw17.PolicyRounds': WHATEVER THE INPUT: true; the input reads as it did. -/
def policyRoundsSpec : ChangeSpec := { name := "policyRounds", fn := fun _ => fun
  | [d1, d2, d3, d4] => { results := [.lit (.bool true)], args := [d1, d2, d3, d4] }
  | _ => none }
def policyRoundsRow : OpenClaim := { program := "ytpaenaedahoggaa", sum := "4fcbeec2fcc36255e6088f8bd7b3688f23bc1b52f3c1ea981a0ffaea049cd204", func := "concordance/concordancelaw17.PolicyRounds", spec := "policyRounds", unfollowed := true, recurses := true, apart := false }
def PolicyRoundsSaid : Prop := policyRoundsRow.holds Try.pinned (OpenSpec.ofChange policyRoundsSpec)

/-- ITS FALSE NEIGHBOUR: 'it returns false'. Refute it at one input. -/
def policyRoundsWrong : ChangeSpec := { name := "policyRounds", fn := fun _ => fun
  | [d1, d2, d3, d4] => { results := [.lit (.bool false)], args := [d1, d2, d3, d4] }
  | _ => none }
def PolicyRoundsWrongFalsely : Prop := policyRoundsRow.holds Try.pinned (OpenSpec.ofChange policyRoundsWrong)

/- THE SECOND FORM. 'bulk': how many values and letters a reading holds, each counted each time it is reached (what is shared counts as often as it is met; a slice's spare places count too). A statement '..UptoSaid' is the law's where the arguments, and the package variables that the reading takes, are together of bulk at most 1048576: NARROWER than '..Said'. Prove '..Said' where nothing that the law and all that it calls make is longer than what came in: it says more and counts as full. Else prove '..UptoSaid'. A law counts once. -/
mutual
def uptoBulk {H : Type} : DataW H → Nat
  | .lit (.string bytes) => bytes.length + 1
  | .lit _ => 1
  | .nil => 1
  | .ptr d => uptoBulk d + 1
  | .slice elems spare => uptoBulkAll elems + uptoBulkAll spare + 1
  | .agg parts => uptoBulkAll parts + 1
  | .iface _ d => uptoBulk d + 1
  | .map entries => uptoBulkEntries entries + 1
  | .held _ => 1
def uptoBulkAll {H : Type} : List (DataW H) → Nat
  | [] => 0
  | d :: r => uptoBulk d + uptoBulkAll r
def uptoBulkEntries {H : Type} : List (Lit × DataW H) → Nat
  | [] => 0
  | x :: r => uptoBulkEntry x + uptoBulkEntries r
def uptoBulkEntry {H : Type} : Lit × DataW H → Nat
  | (.string bytes, d) => bytes.length + uptoBulk d + 1
  | (_, d) => uptoBulk d + 1
 end
def uptoSmall : (H : Type) → List (DataW H) → Bool := fun _ ds => decide (uptoBulkAll ds ≤ 1048576)
def OpenSpec.upto (s : _root_.Go.ChangeSpec) : _root_.Go.OpenSpec := { _root_.Go.OpenSpec.ofChange s with cond := some uptoSmall }

/-- 'concordancelaw17.PolicyPicks', WHERE WHAT IT READS IS OF BULK AT MOST 1048576: true; the input reads as it did. -/
def policyPicksUptoRow : OpenClaim := { program := "ytpaenaedahoggaa", sum := "4fcbeec2fcc36255e6088f8bd7b3688f23bc1b52f3c1ea981a0ffaea049cd204", func := "concordance/concordancelaw17.PolicyPicks", spec := "policyPicks", unfollowed := true, recurses := true, apart := false, narrowed := true }
def PolicyPicksUptoSaid : Prop := policyPicksUptoRow.holds Try.pinned (OpenSpec.upto policyPicksSpec)

/-- 'concordancelaw17.PolicyLeast', WHERE WHAT IT READS IS OF BULK AT MOST 1048576: true; the input reads as it did. -/
def policyLeastUptoRow : OpenClaim := { program := "ytpaenaedahoggaa", sum := "4fcbeec2fcc36255e6088f8bd7b3688f23bc1b52f3c1ea981a0ffaea049cd204", func := "concordance/concordancelaw17.PolicyLeast", spec := "policyLeast", unfollowed := true, recurses := true, apart := false, narrowed := true }
def PolicyLeastUptoSaid : Prop := policyLeastUptoRow.holds Try.pinned (OpenSpec.upto policyLeastSpec)

/-- 'concordancelaw17.PolicyAfter', WHERE WHAT IT READS IS OF BULK AT MOST 1048576: true; the input reads as it did. -/
def policyAfterUptoRow : OpenClaim := { program := "ytpaenaedahoggaa", sum := "4fcbeec2fcc36255e6088f8bd7b3688f23bc1b52f3c1ea981a0ffaea049cd204", func := "concordance/concordancelaw17.PolicyAfter", spec := "policyAfter", unfollowed := true, recurses := true, apart := false, narrowed := true }
def PolicyAfterUptoSaid : Prop := policyAfterUptoRow.holds Try.pinned (OpenSpec.upto policyAfterSpec)

/-- 'concordancelaw17.PolicyFewer', WHERE WHAT IT READS IS OF BULK AT MOST 1048576: true; the input reads as it did. -/
def policyFewerUptoRow : OpenClaim := { program := "ytpaenaedahoggaa", sum := "4fcbeec2fcc36255e6088f8bd7b3688f23bc1b52f3c1ea981a0ffaea049cd204", func := "concordance/concordancelaw17.PolicyFewer", spec := "policyFewer", unfollowed := true, recurses := true, apart := false, narrowed := true }
def PolicyFewerUptoSaid : Prop := policyFewerUptoRow.holds Try.pinned (OpenSpec.upto policyFewerSpec)

/-- 'concordancelaw17.PolicyPlans', WHERE WHAT IT READS IS OF BULK AT MOST 1048576: true; the input reads as it did. -/
def policyPlansUptoRow : OpenClaim := { program := "ytpaenaedahoggaa", sum := "4fcbeec2fcc36255e6088f8bd7b3688f23bc1b52f3c1ea981a0ffaea049cd204", func := "concordance/concordancelaw17.PolicyPlans", spec := "policyPlans", unfollowed := true, recurses := true, apart := false, narrowed := true }
def PolicyPlansUptoSaid : Prop := policyPlansUptoRow.holds Try.pinned (OpenSpec.upto policyPlansSpec)

/-- 'concordancelaw17.PolicyRounds', WHERE WHAT IT READS IS OF BULK AT MOST 1048576: true; the input reads as it did. -/
def policyRoundsUptoRow : OpenClaim := { program := "ytpaenaedahoggaa", sum := "4fcbeec2fcc36255e6088f8bd7b3688f23bc1b52f3c1ea981a0ffaea049cd204", func := "concordance/concordancelaw17.PolicyRounds", spec := "policyRounds", unfollowed := true, recurses := true, apart := false, narrowed := true }
def PolicyRoundsUptoSaid : Prop := policyRoundsUptoRow.holds Try.pinned (OpenSpec.upto policyRoundsSpec)

end Rows
end Go.Proofs.Ytpaenaedahoggaa
