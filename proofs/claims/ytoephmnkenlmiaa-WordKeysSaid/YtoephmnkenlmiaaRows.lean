/-
  No cell of these rows narrows 'for every input' (looked for: loops, veiled, ifaces, maps, wideKeys, modest, calm, conditions, laid).
  DERIVED. THE GIVEN ROWS OF THIS SEAT. 7 by the template 'for every input the law returns true; each argument reads behind the call as it read before'; 0 by the template 'total and deterministic' (their statements: YtoephmnkenlmiaaTotals.lean).
  GIVEN WITH THE SEED: the statements are not yours to turn. If you find one false, say at which input.
  Laid BY PROGRAM, IN A SANDBOX (cutbox-rows.mjs): the forced cells as the released guide's own fill.sh prints them over the translation 7c1ea1a80d3c1307… (all of the seat's roots in one cut). By AI agents, Wed Nov 11 2026. No macro, syntax, notation, axiom, sorry.
-/
import Derived.Test.YtoephmnkenlmiaaChecked
import GoSem.Claim
import GoSem.ClaimJoined
import GoSem.ClaimMapViews
import Derived.JoinedTies
import Derived.KernelRfl
namespace Go.Proofs.Ytoephmnkenlmiaa
/- THE CELL 'sum', in the pinned program and in every row, IS THE sha256 OF THE DUMP (.gsa) THAT YtoephmnkenlmiaaProg.lean LOADS. Nothing in Lean hashes anything: it is a label: what it is worth is what the hold of that sum in a sandbox is worth. -/
noncomputable def Try.pinned : Pinned := { name := "ytoephmnkenlmiaa", sum := "7c1ea1a80d3c1307d8c6c97821a70788a5bc725dcee11fab728e1bfb680a6891", checked := Try.checked }
namespace Rows
def none {H : Type} : Left H := { results := [], args := [] }

/-- 'concordancelaw02.WordMay': WHATEVER THE INPUT: true; the input reads as it did. -/
def wordMaySpec : ChangeSpec := { name := "wordMay", fn := fun _ => fun
  | [d] => { results := [.lit (.bool true)], args := [d] }
  | _ => none }
def wordMayRow : OpenClaim := { program := "ytoephmnkenlmiaa", sum := "7c1ea1a80d3c1307d8c6c97821a70788a5bc725dcee11fab728e1bfb680a6891", func := "concordance/concordancelaw02.WordMay", spec := "wordMay", inPlace := ["internal/abi.NoEscape"], unfollowed := true, recurses := true, apart := false }
def WordMaySaid : Prop := wordMayRow.holds Try.pinned (OpenSpec.ofChange wordMaySpec)

/-- ITS FALSE NEIGHBOUR: 'it returns false'. Refute it at one input. -/
def wordMayWrong : ChangeSpec := { name := "wordMay", fn := fun _ => fun
  | [d] => { results := [.lit (.bool false)], args := [d] }
  | _ => none }
def WordMayWrongFalsely : Prop := wordMayRow.holds Try.pinned (OpenSpec.ofChange wordMayWrong)

/-- 'concordancelaw02.WordJoins': WHATEVER THE INPUT: true; the input reads as it did. -/
def wordJoinsSpec : ChangeSpec := { name := "wordJoins", fn := fun _ => fun
  | [d1, d2] => { results := [.lit (.bool true)], args := [d1, d2] }
  | _ => none }
def wordJoinsRow : OpenClaim := { program := "ytoephmnkenlmiaa", sum := "7c1ea1a80d3c1307d8c6c97821a70788a5bc725dcee11fab728e1bfb680a6891", func := "concordance/concordancelaw02.WordJoins", spec := "wordJoins", inPlace := ["internal/abi.NoEscape"], unfollowed := true, recurses := true, apart := false }
def WordJoinsSaid : Prop := wordJoinsRow.holds Try.pinned (OpenSpec.ofChange wordJoinsSpec)

/-- ITS FALSE NEIGHBOUR: 'it returns false'. Refute it at one input. -/
def wordJoinsWrong : ChangeSpec := { name := "wordJoins", fn := fun _ => fun
  | [d1, d2] => { results := [.lit (.bool false)], args := [d1, d2] }
  | _ => none }
def WordJoinsWrongFalsely : Prop := wordJoinsRow.holds Try.pinned (OpenSpec.ofChange wordJoinsWrong)

/-- 'concordancelaw02.WordFolds': WHATEVER THE INPUT: true; the input reads as it did. -/
def wordFoldsSpec : ChangeSpec := { name := "wordFolds", fn := fun _ => fun
  | [d] => { results := [.lit (.bool true)], args := [d] }
  | _ => none }
def wordFoldsRow : OpenClaim := { program := "ytoephmnkenlmiaa", sum := "7c1ea1a80d3c1307d8c6c97821a70788a5bc725dcee11fab728e1bfb680a6891", func := "concordance/concordancelaw02.WordFolds", spec := "wordFolds", inPlace := ["internal/abi.NoEscape"], unfollowed := true, recurses := true, apart := false }
def WordFoldsSaid : Prop := wordFoldsRow.holds Try.pinned (OpenSpec.ofChange wordFoldsSpec)

/-- ITS FALSE NEIGHBOUR: 'it returns false'. Refute it at one input. -/
def wordFoldsWrong : ChangeSpec := { name := "wordFolds", fn := fun _ => fun
  | [d] => { results := [.lit (.bool false)], args := [d] }
  | _ => none }
def WordFoldsWrongFalsely : Prop := wordFoldsRow.holds Try.pinned (OpenSpec.ofChange wordFoldsWrong)

/-- 'concordancelaw02.WordWords': WHATEVER THE INPUT: true; the input reads as it did. -/
def wordWordsSpec : ChangeSpec := { name := "wordWords", fn := fun _ => fun
  | [d] => { results := [.lit (.bool true)], args := [d] }
  | _ => none }
def wordWordsRow : OpenClaim := { program := "ytoephmnkenlmiaa", sum := "7c1ea1a80d3c1307d8c6c97821a70788a5bc725dcee11fab728e1bfb680a6891", func := "concordance/concordancelaw02.WordWords", spec := "wordWords", inPlace := ["internal/abi.NoEscape"], unfollowed := true, recurses := true, apart := false }
def WordWordsSaid : Prop := wordWordsRow.holds Try.pinned (OpenSpec.ofChange wordWordsSpec)

/-- ITS FALSE NEIGHBOUR: 'it returns false'. Refute it at one input. -/
def wordWordsWrong : ChangeSpec := { name := "wordWords", fn := fun _ => fun
  | [d] => { results := [.lit (.bool false)], args := [d] }
  | _ => none }
def WordWordsWrongFalsely : Prop := wordWordsRow.holds Try.pinned (OpenSpec.ofChange wordWordsWrong)

/-- 'concordancelaw02.WordMany': WHATEVER THE INPUT: true; the input reads as it did. -/
def wordManySpec : ChangeSpec := { name := "wordMany", fn := fun _ => fun
  | [d1, d2] => { results := [.lit (.bool true)], args := [d1, d2] }
  | _ => none }
def wordManyRow : OpenClaim := { program := "ytoephmnkenlmiaa", sum := "7c1ea1a80d3c1307d8c6c97821a70788a5bc725dcee11fab728e1bfb680a6891", func := "concordance/concordancelaw02.WordMany", spec := "wordMany", inPlace := ["internal/abi.NoEscape"], unfollowed := true, recurses := true, apart := false }
def WordManySaid : Prop := wordManyRow.holds Try.pinned (OpenSpec.ofChange wordManySpec)

/-- ITS FALSE NEIGHBOUR: 'it returns false'. Refute it at one input. -/
def wordManyWrong : ChangeSpec := { name := "wordMany", fn := fun _ => fun
  | [d1, d2] => { results := [.lit (.bool false)], args := [d1, d2] }
  | _ => none }
def WordManyWrongFalsely : Prop := wordManyRow.holds Try.pinned (OpenSpec.ofChange wordManyWrong)

/-- 'concordancelaw02.WordApart': WHATEVER THE INPUT: true; the input reads as it did. -/
def wordApartSpec : ChangeSpec := { name := "wordApart", fn := fun _ => fun
  | [d1, d2] => { results := [.lit (.bool true)], args := [d1, d2] }
  | _ => none }
def wordApartRow : OpenClaim := { program := "ytoephmnkenlmiaa", sum := "7c1ea1a80d3c1307d8c6c97821a70788a5bc725dcee11fab728e1bfb680a6891", func := "concordance/concordancelaw02.WordApart", spec := "wordApart", inPlace := ["internal/bytealg.IndexByteString", "internal/bytealg.IndexString", "internal/abi.NoEscape"], unfollowed := true, recurses := true, named := ["internal/bytealg.MaxLen"], apart := false }
def WordApartSaid : Prop := wordApartRow.holds Try.pinned (OpenSpec.ofChange wordApartSpec)

/-- ITS FALSE NEIGHBOUR: 'it returns false'. Refute it at one input. -/
def wordApartWrong : ChangeSpec := { name := "wordApart", fn := fun _ => fun
  | [d1, d2] => { results := [.lit (.bool false)], args := [d1, d2] }
  | _ => none }
def WordApartWrongFalsely : Prop := wordApartRow.holds Try.pinned (OpenSpec.ofChange wordApartWrong)

/-- 'concordancelaw02.WordKeys': WHATEVER THE INPUT: true; the input reads as it did. -/
def wordKeysSpec : ChangeSpec := { name := "wordKeys", fn := fun _ => fun
  | [d1, d2, d3] => { results := [.lit (.bool true)], args := [d1, d2, d3] }
  | _ => none }
def wordKeysRow : OpenClaim := { program := "ytoephmnkenlmiaa", sum := "7c1ea1a80d3c1307d8c6c97821a70788a5bc725dcee11fab728e1bfb680a6891", func := "concordance/concordancelaw02.WordKeys", spec := "wordKeys", inPlace := ["internal/bytealg.IndexByteString", "internal/bytealg.IndexString", "internal/abi.NoEscape"], unfollowed := true, recurses := true, named := ["internal/bytealg.MaxLen"], apart := false }
def WordKeysSaid : Prop := wordKeysRow.holds Try.pinned (OpenSpec.ofChange wordKeysSpec)

/-- ITS FALSE NEIGHBOUR: 'it returns false'. Refute it at one input. -/
def wordKeysWrong : ChangeSpec := { name := "wordKeys", fn := fun _ => fun
  | [d1, d2, d3] => { results := [.lit (.bool false)], args := [d1, d2, d3] }
  | _ => none }
def WordKeysWrongFalsely : Prop := wordKeysRow.holds Try.pinned (OpenSpec.ofChange wordKeysWrong)

/- THE SECOND FORM. 'bulk': how many values and letters a reading holds, each counted each time it is reached (what is shared counts as often as it is met; a slice's spare places count too). A statement '..UptoSaid' is the law's where the arguments, and the package variables that the reading takes, are together of bulk at most 1048576: NARROWER than '..Said'. Prove '..Said' where nothing that the law and all that it calls make is longer than what came in: it says more and counts as full. Else prove '..UptoSaid'. A law counts once. -/
mutual
def uptoBulk {H : Type} : DataW H → Nat
  | .lit (.string bytes) => bytes.length + 1
  | .lit _ => 1
  | .nil => 1
  | .ptr d => uptoBulk d + 1
  | .slice elems spare => uptoBulkAll elems + uptoBulkAll spare + 1
  | .agg parts => uptoBulkAll parts + 1
  | .iface _ d => uptoBulk d + 1
  | .map entries => uptoBulkEntries entries + 1
  | .held _ => 1
def uptoBulkAll {H : Type} : List (DataW H) → Nat
  | [] => 0
  | d :: r => uptoBulk d + uptoBulkAll r
def uptoBulkEntries {H : Type} : List (Lit × DataW H) → Nat
  | [] => 0
  | x :: r => uptoBulkEntry x + uptoBulkEntries r
def uptoBulkEntry {H : Type} : Lit × DataW H → Nat
  | (.string bytes, d) => bytes.length + uptoBulk d + 1
  | (_, d) => uptoBulk d + 1
 end
def uptoSmall : (H : Type) → List (DataW H) → Bool := fun _ ds => decide (uptoBulkAll ds ≤ 1048576)
def OpenSpec.upto (s : _root_.Go.ChangeSpec) : _root_.Go.OpenSpec := { _root_.Go.OpenSpec.ofChange s with cond := some uptoSmall }

/-- 'concordancelaw02.WordMay', WHERE WHAT IT READS IS OF BULK AT MOST 1048576: true; the input reads as it did. -/
def wordMayUptoRow : OpenClaim := { program := "ytoephmnkenlmiaa", sum := "7c1ea1a80d3c1307d8c6c97821a70788a5bc725dcee11fab728e1bfb680a6891", func := "concordance/concordancelaw02.WordMay", spec := "wordMay", inPlace := ["internal/abi.NoEscape"], unfollowed := true, recurses := true, apart := false, narrowed := true }
def WordMayUptoSaid : Prop := wordMayUptoRow.holds Try.pinned (OpenSpec.upto wordMaySpec)

/-- 'concordancelaw02.WordJoins', WHERE WHAT IT READS IS OF BULK AT MOST 1048576: true; the input reads as it did. -/
def wordJoinsUptoRow : OpenClaim := { program := "ytoephmnkenlmiaa", sum := "7c1ea1a80d3c1307d8c6c97821a70788a5bc725dcee11fab728e1bfb680a6891", func := "concordance/concordancelaw02.WordJoins", spec := "wordJoins", inPlace := ["internal/abi.NoEscape"], unfollowed := true, recurses := true, apart := false, narrowed := true }
def WordJoinsUptoSaid : Prop := wordJoinsUptoRow.holds Try.pinned (OpenSpec.upto wordJoinsSpec)

/-- 'concordancelaw02.WordFolds', WHERE WHAT IT READS IS OF BULK AT MOST 1048576: true; the input reads as it did. -/
def wordFoldsUptoRow : OpenClaim := { program := "ytoephmnkenlmiaa", sum := "7c1ea1a80d3c1307d8c6c97821a70788a5bc725dcee11fab728e1bfb680a6891", func := "concordance/concordancelaw02.WordFolds", spec := "wordFolds", inPlace := ["internal/abi.NoEscape"], unfollowed := true, recurses := true, apart := false, narrowed := true }
def WordFoldsUptoSaid : Prop := wordFoldsUptoRow.holds Try.pinned (OpenSpec.upto wordFoldsSpec)

/-- 'concordancelaw02.WordWords', WHERE WHAT IT READS IS OF BULK AT MOST 1048576: true; the input reads as it did. -/
def wordWordsUptoRow : OpenClaim := { program := "ytoephmnkenlmiaa", sum := "7c1ea1a80d3c1307d8c6c97821a70788a5bc725dcee11fab728e1bfb680a6891", func := "concordance/concordancelaw02.WordWords", spec := "wordWords", inPlace := ["internal/abi.NoEscape"], unfollowed := true, recurses := true, apart := false, narrowed := true }
def WordWordsUptoSaid : Prop := wordWordsUptoRow.holds Try.pinned (OpenSpec.upto wordWordsSpec)

/-- 'concordancelaw02.WordMany', WHERE WHAT IT READS IS OF BULK AT MOST 1048576: true; the input reads as it did. -/
def wordManyUptoRow : OpenClaim := { program := "ytoephmnkenlmiaa", sum := "7c1ea1a80d3c1307d8c6c97821a70788a5bc725dcee11fab728e1bfb680a6891", func := "concordance/concordancelaw02.WordMany", spec := "wordMany", inPlace := ["internal/abi.NoEscape"], unfollowed := true, recurses := true, apart := false, narrowed := true }
def WordManyUptoSaid : Prop := wordManyUptoRow.holds Try.pinned (OpenSpec.upto wordManySpec)

/-- 'concordancelaw02.WordApart', WHERE WHAT IT READS IS OF BULK AT MOST 1048576: true; the input reads as it did. -/
def wordApartUptoRow : OpenClaim := { program := "ytoephmnkenlmiaa", sum := "7c1ea1a80d3c1307d8c6c97821a70788a5bc725dcee11fab728e1bfb680a6891", func := "concordance/concordancelaw02.WordApart", spec := "wordApart", inPlace := ["internal/bytealg.IndexByteString", "internal/bytealg.IndexString", "internal/abi.NoEscape"], unfollowed := true, recurses := true, named := ["internal/bytealg.MaxLen"], apart := false, narrowed := true }
def WordApartUptoSaid : Prop := wordApartUptoRow.holds Try.pinned (OpenSpec.upto wordApartSpec)

/-- 'concordancelaw02.WordKeys', WHERE WHAT IT READS IS OF BULK AT MOST 1048576: true; the input reads as it did. -/
def wordKeysUptoRow : OpenClaim := { program := "ytoephmnkenlmiaa", sum := "7c1ea1a80d3c1307d8c6c97821a70788a5bc725dcee11fab728e1bfb680a6891", func := "concordance/concordancelaw02.WordKeys", spec := "wordKeys", inPlace := ["internal/bytealg.IndexByteString", "internal/bytealg.IndexString", "internal/abi.NoEscape"], unfollowed := true, recurses := true, named := ["internal/bytealg.MaxLen"], apart := false, narrowed := true }
def WordKeysUptoSaid : Prop := wordKeysUptoRow.holds Try.pinned (OpenSpec.upto wordKeysSpec)

end Rows
end Go.Proofs.Ytoephmnkenlmiaa
