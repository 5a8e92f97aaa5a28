/-
  No cell of these rows narrows 'for every input' (looked for: loops, veiled, ifaces, maps, wideKeys, modest, calm, conditions, laid).
  DERIVED. THE GIVEN ROWS OF THIS SEAT. 6 by the template 'for every input the law returns true; each argument reads behind the call as it read before'; 0 by the template 'total and deterministic' (their statements: YtlghcfhmfbdidaaTotals.lean).
  GIVEN WITH THE SEED: the statements are not yours to turn. If you find one false, say at which input.
  Laid BY PROGRAM, IN A SANDBOX (cutbox-rows.mjs): the forced cells as the released guide's own fill.sh prints them over the translation 1bc77357ba3fa779… (all of the seat's roots in one cut). By AI agents, Wed Nov 11 2026. No macro, syntax, notation, axiom, sorry.
-/
import Derived.Test.YtlghcfhmfbdidaaChecked
import GoSem.Claim
import GoSem.ClaimJoined
import GoSem.ClaimMapViews
import Derived.JoinedTies
import Derived.KernelRfl
namespace Go.Proofs.Ytlghcfhmfbdidaa
/- THE CELL 'sum', in the pinned program and in every row, IS THE sha256 OF THE DUMP (.gsa) THAT YtlghcfhmfbdidaaProg.lean LOADS. Nothing in Lean hashes anything: it is a label: what it is worth is what the hold of that sum in a sandbox is worth. -/
noncomputable def Try.pinned : Pinned := { name := "ytlghcfhmfbdidaa", sum := "1bc77357ba3fa77999eccd8262025449238c120d63af6f9ca210509a3541a855", checked := Try.checked }
namespace Rows
def none {H : Type} : Left H := { results := [], args := [] }

/-- 'concordancelaw07.DictPrefixes': WHATEVER THE INPUT: true; the input reads as it did. -/
def dictPrefixesSpec : ChangeSpec := { name := "dictPrefixes", fn := fun _ => fun
  | [d1, d2] => { results := [.lit (.bool true)], args := [d1, d2] }
  | _ => none }
def dictPrefixesRow : OpenClaim := { program := "ytlghcfhmfbdidaa", sum := "1bc77357ba3fa77999eccd8262025449238c120d63af6f9ca210509a3541a855", func := "concordance/concordancelaw07.DictPrefixes", spec := "dictPrefixes", unfollowed := true, recurses := true, apart := false }
def DictPrefixesSaid : Prop := dictPrefixesRow.holds Try.pinned (OpenSpec.ofChange dictPrefixesSpec)

/-- ITS FALSE NEIGHBOUR: 'it returns false'. Refute it at one input. -/
def dictPrefixesWrong : ChangeSpec := { name := "dictPrefixes", fn := fun _ => fun
  | [d1, d2] => { results := [.lit (.bool false)], args := [d1, d2] }
  | _ => none }
def DictPrefixesWrongFalsely : Prop := dictPrefixesRow.holds Try.pinned (OpenSpec.ofChange dictPrefixesWrong)

/-- 'concordancelaw07.DictFinds': WHATEVER THE INPUT: true; the input reads as it did. -/
def dictFindsSpec : ChangeSpec := { name := "dictFinds", fn := fun _ => fun
  | [d1, d2, d3] => { results := [.lit (.bool true)], args := [d1, d2, d3] }
  | _ => none }
def dictFindsRow : OpenClaim := { program := "ytlghcfhmfbdidaa", sum := "1bc77357ba3fa77999eccd8262025449238c120d63af6f9ca210509a3541a855", func := "concordance/concordancelaw07.DictFinds", spec := "dictFinds", unfollowed := true, recurses := true, apart := false }
def DictFindsSaid : Prop := dictFindsRow.holds Try.pinned (OpenSpec.ofChange dictFindsSpec)

/-- ITS FALSE NEIGHBOUR: 'it returns false'. Refute it at one input. -/
def dictFindsWrong : ChangeSpec := { name := "dictFinds", fn := fun _ => fun
  | [d1, d2, d3] => { results := [.lit (.bool false)], args := [d1, d2, d3] }
  | _ => none }
def DictFindsWrongFalsely : Prop := dictFindsRow.holds Try.pinned (OpenSpec.ofChange dictFindsWrong)

/-- 'concordancelaw07.DictFrom': WHATEVER THE INPUT: true; the input reads as it did. -/
def dictFromSpec : ChangeSpec := { name := "dictFrom", fn := fun _ => fun
  | [d1, d2, d3] => { results := [.lit (.bool true)], args := [d1, d2, d3] }
  | _ => none }
def dictFromRow : OpenClaim := { program := "ytlghcfhmfbdidaa", sum := "1bc77357ba3fa77999eccd8262025449238c120d63af6f9ca210509a3541a855", func := "concordance/concordancelaw07.DictFrom", spec := "dictFrom", unfollowed := true, recurses := true, apart := false }
def DictFromSaid : Prop := dictFromRow.holds Try.pinned (OpenSpec.ofChange dictFromSpec)

/-- ITS FALSE NEIGHBOUR: 'it returns false'. Refute it at one input. -/
def dictFromWrong : ChangeSpec := { name := "dictFrom", fn := fun _ => fun
  | [d1, d2, d3] => { results := [.lit (.bool false)], args := [d1, d2, d3] }
  | _ => none }
def DictFromWrongFalsely : Prop := dictFromRow.holds Try.pinned (OpenSpec.ofChange dictFromWrong)

/-- 'concordancelaw07.DictMakes': WHATEVER THE INPUT: true; the input reads as it did. -/
def dictMakesSpec : ChangeSpec := { name := "dictMakes", fn := fun _ => fun
  | [d1, d2] => { results := [.lit (.bool true)], args := [d1, d2] }
  | _ => none }
def dictMakesRow : OpenClaim := { program := "ytlghcfhmfbdidaa", sum := "1bc77357ba3fa77999eccd8262025449238c120d63af6f9ca210509a3541a855", func := "concordance/concordancelaw07.DictMakes", spec := "dictMakes", unfollowed := true, recurses := true, apart := false }
def DictMakesSaid : Prop := dictMakesRow.holds Try.pinned (OpenSpec.ofChange dictMakesSpec)

/-- ITS FALSE NEIGHBOUR: 'it returns false'. Refute it at one input. -/
def dictMakesWrong : ChangeSpec := { name := "dictMakes", fn := fun _ => fun
  | [d1, d2] => { results := [.lit (.bool false)], args := [d1, d2] }
  | _ => none }
def DictMakesWrongFalsely : Prop := dictMakesRow.holds Try.pinned (OpenSpec.ofChange dictMakesWrong)

/-- 'concordancelaw07.DictOwns': WHATEVER THE INPUT: true; the input reads as it did. -/
def dictOwnsSpec : ChangeSpec := { name := "dictOwns", fn := fun _ => fun
  | [d] => { results := [.lit (.bool true)], args := [d] }
  | _ => none }
def dictOwnsRow : OpenClaim := { program := "ytlghcfhmfbdidaa", sum := "1bc77357ba3fa77999eccd8262025449238c120d63af6f9ca210509a3541a855", func := "concordance/concordancelaw07.DictOwns", spec := "dictOwns", unfollowed := true, recurses := true, apart := false }
def DictOwnsSaid : Prop := dictOwnsRow.holds Try.pinned (OpenSpec.ofChange dictOwnsSpec)

/-- ITS FALSE NEIGHBOUR: 'it returns false'. Refute it at one input. -/
def dictOwnsWrong : ChangeSpec := { name := "dictOwns", fn := fun _ => fun
  | [d] => { results := [.lit (.bool false)], args := [d] }
  | _ => none }
def DictOwnsWrongFalsely : Prop := dictOwnsRow.holds Try.pinned (OpenSpec.ofChange dictOwnsWrong)

/-- 'concordancelaw07.DictJoins': WHATEVER THE INPUT: true; the input reads as it did. -/
def dictJoinsSpec : ChangeSpec := { name := "dictJoins", fn := fun _ => fun
  | [d1, d2] => { results := [.lit (.bool true)], args := [d1, d2] }
  | _ => none }
def dictJoinsRow : OpenClaim := { program := "ytlghcfhmfbdidaa", sum := "1bc77357ba3fa77999eccd8262025449238c120d63af6f9ca210509a3541a855", func := "concordance/concordancelaw07.DictJoins", spec := "dictJoins", unfollowed := true, recurses := true, apart := false }
def DictJoinsSaid : Prop := dictJoinsRow.holds Try.pinned (OpenSpec.ofChange dictJoinsSpec)

/-- ITS FALSE NEIGHBOUR: 'it returns false'. Refute it at one input. -/
def dictJoinsWrong : ChangeSpec := { name := "dictJoins", fn := fun _ => fun
  | [d1, d2] => { results := [.lit (.bool false)], args := [d1, d2] }
  | _ => none }
def DictJoinsWrongFalsely : Prop := dictJoinsRow.holds Try.pinned (OpenSpec.ofChange dictJoinsWrong)

/- THE SECOND FORM. 'bulk': how many values and letters a reading holds, each counted each time it is reached (what is shared counts as often as it is met; a slice's spare places count too). A statement '..UptoSaid' is the law's where the arguments, and the package variables that the reading takes, are together of bulk at most 1048576: NARROWER than '..Said'. Prove '..Said' where nothing that the law and all that it calls make is longer than what came in: it says more and counts as full. Else prove '..UptoSaid'. A law counts once. -/
mutual
def uptoBulk {H : Type} : DataW H → Nat
  | .lit (.string bytes) => bytes.length + 1
  | .lit _ => 1
  | .nil => 1
  | .ptr d => uptoBulk d + 1
  | .slice elems spare => uptoBulkAll elems + uptoBulkAll spare + 1
  | .agg parts => uptoBulkAll parts + 1
  | .iface _ d => uptoBulk d + 1
  | .map entries => uptoBulkEntries entries + 1
  | .held _ => 1
def uptoBulkAll {H : Type} : List (DataW H) → Nat
  | [] => 0
  | d :: r => uptoBulk d + uptoBulkAll r
def uptoBulkEntries {H : Type} : List (Lit × DataW H) → Nat
  | [] => 0
  | x :: r => uptoBulkEntry x + uptoBulkEntries r
def uptoBulkEntry {H : Type} : Lit × DataW H → Nat
  | (.string bytes, d) => bytes.length + uptoBulk d + 1
  | (_, d) => uptoBulk d + 1
 end
def uptoSmall : (H : Type) → List (DataW H) → Bool := fun _ ds => decide (uptoBulkAll ds ≤ 1048576)
def OpenSpec.upto (s : _root_.Go.ChangeSpec) : _root_.Go.OpenSpec := { _root_.Go.OpenSpec.ofChange s with cond := some uptoSmall }

/-- 'concordancelaw07.DictPrefixes', WHERE WHAT IT READS IS OF BULK AT MOST 1048576: true; the input reads as it did. -/
def dictPrefixesUptoRow : OpenClaim := { program := "ytlghcfhmfbdidaa", sum := "1bc77357ba3fa77999eccd8262025449238c120d63af6f9ca210509a3541a855", func := "concordance/concordancelaw07.DictPrefixes", spec := "dictPrefixes", unfollowed := true, recurses := true, apart := false, narrowed := true }
def DictPrefixesUptoSaid : Prop := dictPrefixesUptoRow.holds Try.pinned (OpenSpec.upto dictPrefixesSpec)

/-- 'concordancelaw07.DictFinds', WHERE WHAT IT READS IS OF BULK AT MOST 1048576: true; the input reads as it did. -/
def dictFindsUptoRow : OpenClaim := { program := "ytlghcfhmfbdidaa", sum := "1bc77357ba3fa77999eccd8262025449238c120d63af6f9ca210509a3541a855", func := "concordance/concordancelaw07.DictFinds", spec := "dictFinds", unfollowed := true, recurses := true, apart := false, narrowed := true }
def DictFindsUptoSaid : Prop := dictFindsUptoRow.holds Try.pinned (OpenSpec.upto dictFindsSpec)

/-- 'concordancelaw07.DictFrom', WHERE WHAT IT READS IS OF BULK AT MOST 1048576: true; the input reads as it did. -/
def dictFromUptoRow : OpenClaim := { program := "ytlghcfhmfbdidaa", sum := "1bc77357ba3fa77999eccd8262025449238c120d63af6f9ca210509a3541a855", func := "concordance/concordancelaw07.DictFrom", spec := "dictFrom", unfollowed := true, recurses := true, apart := false, narrowed := true }
def DictFromUptoSaid : Prop := dictFromUptoRow.holds Try.pinned (OpenSpec.upto dictFromSpec)

/-- 'concordancelaw07.DictMakes', WHERE WHAT IT READS IS OF BULK AT MOST 1048576: true; the input reads as it did. -/
def dictMakesUptoRow : OpenClaim := { program := "ytlghcfhmfbdidaa", sum := "1bc77357ba3fa77999eccd8262025449238c120d63af6f9ca210509a3541a855", func := "concordance/concordancelaw07.DictMakes", spec := "dictMakes", unfollowed := true, recurses := true, apart := false, narrowed := true }
def DictMakesUptoSaid : Prop := dictMakesUptoRow.holds Try.pinned (OpenSpec.upto dictMakesSpec)

/-- 'concordancelaw07.DictOwns', WHERE WHAT IT READS IS OF BULK AT MOST 1048576: true; the input reads as it did. -/
def dictOwnsUptoRow : OpenClaim := { program := "ytlghcfhmfbdidaa", sum := "1bc77357ba3fa77999eccd8262025449238c120d63af6f9ca210509a3541a855", func := "concordance/concordancelaw07.DictOwns", spec := "dictOwns", unfollowed := true, recurses := true, apart := false, narrowed := true }
def DictOwnsUptoSaid : Prop := dictOwnsUptoRow.holds Try.pinned (OpenSpec.upto dictOwnsSpec)

/-- 'concordancelaw07.DictJoins', WHERE WHAT IT READS IS OF BULK AT MOST 1048576: true; the input reads as it did. -/
def dictJoinsUptoRow : OpenClaim := { program := "ytlghcfhmfbdidaa", sum := "1bc77357ba3fa77999eccd8262025449238c120d63af6f9ca210509a3541a855", func := "concordance/concordancelaw07.DictJoins", spec := "dictJoins", unfollowed := true, recurses := true, apart := false, narrowed := true }
def DictJoinsUptoSaid : Prop := dictJoinsUptoRow.holds Try.pinned (OpenSpec.upto dictJoinsSpec)

end Rows
end Go.Proofs.Ytlghcfhmfbdidaa
