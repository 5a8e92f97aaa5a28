/-
  No cell of these rows narrows 'for every input' (looked for: loops, veiled, ifaces, maps, wideKeys, modest, calm, conditions, laid).
  DERIVED. THE GIVEN ROWS OF THIS SEAT. 4 by the template 'for every input the law returns true; each argument reads behind the call as it read before'; 0 by the template 'total and deterministic' (their statements: YtbbfilmajiilhaaTotals.lean).
  GIVEN WITH THE SEED: the statements are not yours to turn. If you find one false, say at which input.
  Laid BY PROGRAM, IN A SANDBOX (cutbox-rows.mjs): the forced cells as the released guide's own fill.sh prints them over the translation 15387c05456e2c8a… (all of the seat's roots in one cut). By AI agents, Wed Nov 11 2026. No macro, syntax, notation, axiom, sorry.
-/
import Derived.Test.YtbbfilmajiilhaaChecked
import GoSem.Claim
import GoSem.ClaimJoined
import GoSem.ClaimMapViews
import Derived.JoinedTies
import Derived.KernelRfl
namespace Go.Proofs.Ytbbfilmajiilhaa
/- THE CELL 'sum', in the pinned program and in every row, IS THE sha256 OF THE DUMP (.gsa) THAT YtbbfilmajiilhaaProg.lean LOADS. Nothing in Lean hashes anything: it is a label: what it is worth is what the hold of that sum in a sandbox is worth. -/
noncomputable def Try.pinned : Pinned := { name := "ytbbfilmajiilhaa", sum := "15387c05456e2c8a880ef882692e0f27e2fcdc57d3fbf911cc81a5f9d5027cbf", checked := Try.checked }
namespace Rows
def none {H : Type} : Left H := { results := [], args := [] }

/-- 'concordancelaw08.DocPhrases': WHATEVER THE INPUT: true; the input reads as it did. -/
def docPhrasesSpec : ChangeSpec := { name := "docPhrases", fn := fun _ => fun
  | [d1, d2, d3] => { results := [.lit (.bool true)], args := [d1, d2, d3] }
  | _ => none }
def docPhrasesRow : OpenClaim := { program := "ytbbfilmajiilhaa", sum := "15387c05456e2c8a880ef882692e0f27e2fcdc57d3fbf911cc81a5f9d5027cbf", func := "concordance/concordancelaw08.DocPhrases", spec := "docPhrases", inPlace := ["internal/abi.NoEscape", "internal/bytealg.abigen_runtime_cmpstring"], unfollowed := true, recurses := true, plainKeys := false, apart := false }
def DocPhrasesSaid : Prop := docPhrasesRow.holds Try.pinned (OpenSpec.ofChange docPhrasesSpec)

/-- ITS FALSE NEIGHBOUR: 'it returns false'. Refute it at one input. -/
def docPhrasesWrong : ChangeSpec := { name := "docPhrases", fn := fun _ => fun
  | [d1, d2, d3] => { results := [.lit (.bool false)], args := [d1, d2, d3] }
  | _ => none }
def DocPhrasesWrongFalsely : Prop := docPhrasesRow.holds Try.pinned (OpenSpec.ofChange docPhrasesWrong)

/-- 'concordancelaw08.DocInverts': WHATEVER THE INPUT: true; the input reads as it did. -/
def docInvertsSpec : ChangeSpec := { name := "docInverts", fn := fun _ => fun
  | [d] => { results := [.lit (.bool true)], args := [d] }
  | _ => none }
def docInvertsRow : OpenClaim := { program := "ytbbfilmajiilhaa", sum := "15387c05456e2c8a880ef882692e0f27e2fcdc57d3fbf911cc81a5f9d5027cbf", func := "concordance/concordancelaw08.DocInverts", spec := "docInverts", inPlace := ["internal/abi.NoEscape", "internal/bytealg.abigen_runtime_cmpstring"], unfollowed := true, recurses := true, plainKeys := false, apart := false }
def DocInvertsSaid : Prop := docInvertsRow.holds Try.pinned (OpenSpec.ofChange docInvertsSpec)

/-- ITS FALSE NEIGHBOUR: 'it returns false'. Refute it at one input. -/
def docInvertsWrong : ChangeSpec := { name := "docInverts", fn := fun _ => fun
  | [d] => { results := [.lit (.bool false)], args := [d] }
  | _ => none }
def DocInvertsWrongFalsely : Prop := docInvertsRow.holds Try.pinned (OpenSpec.ofChange docInvertsWrong)

/-- 'concordancelaw08.DocCounts': WHATEVER THE INPUT: true; the input reads as it did. -/
def docCountsSpec : ChangeSpec := { name := "docCounts", fn := fun _ => fun
  | [d1, d2, d3] => { results := [.lit (.bool true)], args := [d1, d2, d3] }
  | _ => none }
def docCountsRow : OpenClaim := { program := "ytbbfilmajiilhaa", sum := "15387c05456e2c8a880ef882692e0f27e2fcdc57d3fbf911cc81a5f9d5027cbf", func := "concordance/concordancelaw08.DocCounts", spec := "docCounts", inPlace := ["internal/abi.NoEscape", "internal/bytealg.abigen_runtime_cmpstring"], unfollowed := true, recurses := true, plainKeys := false, apart := false }
def DocCountsSaid : Prop := docCountsRow.holds Try.pinned (OpenSpec.ofChange docCountsSpec)

/-- ITS FALSE NEIGHBOUR: 'it returns false'. Refute it at one input. -/
def docCountsWrong : ChangeSpec := { name := "docCounts", fn := fun _ => fun
  | [d1, d2, d3] => { results := [.lit (.bool false)], args := [d1, d2, d3] }
  | _ => none }
def DocCountsWrongFalsely : Prop := docCountsRow.holds Try.pinned (OpenSpec.ofChange docCountsWrong)

/-- 'concordancelaw08.DocFields': WHATEVER THE INPUT: true; the input reads as it did. -/
def docFieldsSpec : ChangeSpec := { name := "docFields", fn := fun _ => fun
  | [d1, d2] => { results := [.lit (.bool true)], args := [d1, d2] }
  | _ => none }
def docFieldsRow : OpenClaim := { program := "ytbbfilmajiilhaa", sum := "15387c05456e2c8a880ef882692e0f27e2fcdc57d3fbf911cc81a5f9d5027cbf", func := "concordance/concordancelaw08.DocFields", spec := "docFields", inPlace := ["internal/abi.NoEscape", "internal/bytealg.abigen_runtime_cmpstring"], unfollowed := true, recurses := true, plainKeys := false, apart := false }
def DocFieldsSaid : Prop := docFieldsRow.holds Try.pinned (OpenSpec.ofChange docFieldsSpec)

/-- ITS FALSE NEIGHBOUR: 'it returns false'. Refute it at one input. -/
def docFieldsWrong : ChangeSpec := { name := "docFields", fn := fun _ => fun
  | [d1, d2] => { results := [.lit (.bool false)], args := [d1, d2] }
  | _ => none }
def DocFieldsWrongFalsely : Prop := docFieldsRow.holds Try.pinned (OpenSpec.ofChange docFieldsWrong)

/- THE SECOND FORM. 'bulk': how many values and letters a reading holds, each counted each time it is reached (what is shared counts as often as it is met; a slice's spare places count too). A statement '..UptoSaid' is the law's where the arguments, and the package variables that the reading takes, are together of bulk at most 1048576: NARROWER than '..Said'. Prove '..Said' where nothing that the law and all that it calls make is longer than what came in: it says more and counts as full. Else prove '..UptoSaid'. A law counts once. -/
mutual
def uptoBulk {H : Type} : DataW H → Nat
  | .lit (.string bytes) => bytes.length + 1
  | .lit _ => 1
  | .nil => 1
  | .ptr d => uptoBulk d + 1
  | .slice elems spare => uptoBulkAll elems + uptoBulkAll spare + 1
  | .agg parts => uptoBulkAll parts + 1
  | .iface _ d => uptoBulk d + 1
  | .map entries => uptoBulkEntries entries + 1
  | .held _ => 1
def uptoBulkAll {H : Type} : List (DataW H) → Nat
  | [] => 0
  | d :: r => uptoBulk d + uptoBulkAll r
def uptoBulkEntries {H : Type} : List (Lit × DataW H) → Nat
  | [] => 0
  | x :: r => uptoBulkEntry x + uptoBulkEntries r
def uptoBulkEntry {H : Type} : Lit × DataW H → Nat
  | (.string bytes, d) => bytes.length + uptoBulk d + 1
  | (_, d) => uptoBulk d + 1
 end
def uptoSmall : (H : Type) → List (DataW H) → Bool := fun _ ds => decide (uptoBulkAll ds ≤ 1048576)
def OpenSpec.upto (s : _root_.Go.ChangeSpec) : _root_.Go.OpenSpec := { _root_.Go.OpenSpec.ofChange s with cond := some uptoSmall }

/-- 'concordancelaw08.DocPhrases', WHERE WHAT IT READS IS OF BULK AT MOST 1048576: true; the input reads as it did. -/
def docPhrasesUptoRow : OpenClaim := { program := "ytbbfilmajiilhaa", sum := "15387c05456e2c8a880ef882692e0f27e2fcdc57d3fbf911cc81a5f9d5027cbf", func := "concordance/concordancelaw08.DocPhrases", spec := "docPhrases", inPlace := ["internal/abi.NoEscape", "internal/bytealg.abigen_runtime_cmpstring"], unfollowed := true, recurses := true, plainKeys := false, apart := false, narrowed := true }
def DocPhrasesUptoSaid : Prop := docPhrasesUptoRow.holds Try.pinned (OpenSpec.upto docPhrasesSpec)

/-- 'concordancelaw08.DocInverts', WHERE WHAT IT READS IS OF BULK AT MOST 1048576: true; the input reads as it did. -/
def docInvertsUptoRow : OpenClaim := { program := "ytbbfilmajiilhaa", sum := "15387c05456e2c8a880ef882692e0f27e2fcdc57d3fbf911cc81a5f9d5027cbf", func := "concordance/concordancelaw08.DocInverts", spec := "docInverts", inPlace := ["internal/abi.NoEscape", "internal/bytealg.abigen_runtime_cmpstring"], unfollowed := true, recurses := true, plainKeys := false, apart := false, narrowed := true }
def DocInvertsUptoSaid : Prop := docInvertsUptoRow.holds Try.pinned (OpenSpec.upto docInvertsSpec)

/-- 'concordancelaw08.DocCounts', WHERE WHAT IT READS IS OF BULK AT MOST 1048576: true; the input reads as it did. -/
def docCountsUptoRow : OpenClaim := { program := "ytbbfilmajiilhaa", sum := "15387c05456e2c8a880ef882692e0f27e2fcdc57d3fbf911cc81a5f9d5027cbf", func := "concordance/concordancelaw08.DocCounts", spec := "docCounts", inPlace := ["internal/abi.NoEscape", "internal/bytealg.abigen_runtime_cmpstring"], unfollowed := true, recurses := true, plainKeys := false, apart := false, narrowed := true }
def DocCountsUptoSaid : Prop := docCountsUptoRow.holds Try.pinned (OpenSpec.upto docCountsSpec)

/-- 'concordancelaw08.DocFields', WHERE WHAT IT READS IS OF BULK AT MOST 1048576: true; the input reads as it did. -/
def docFieldsUptoRow : OpenClaim := { program := "ytbbfilmajiilhaa", sum := "15387c05456e2c8a880ef882692e0f27e2fcdc57d3fbf911cc81a5f9d5027cbf", func := "concordance/concordancelaw08.DocFields", spec := "docFields", inPlace := ["internal/abi.NoEscape", "internal/bytealg.abigen_runtime_cmpstring"], unfollowed := true, recurses := true, plainKeys := false, apart := false, narrowed := true }
def DocFieldsUptoSaid : Prop := docFieldsUptoRow.holds Try.pinned (OpenSpec.upto docFieldsSpec)

end Rows
end Go.Proofs.Ytbbfilmajiilhaa
