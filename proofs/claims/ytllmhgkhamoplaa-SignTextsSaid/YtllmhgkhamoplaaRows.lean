/-
  No cell of these rows narrows 'for every input' (looked for: loops, veiled, ifaces, maps, wideKeys, modest, calm, conditions, laid).
  DERIVED. THE GIVEN ROWS OF THIS SEAT. 5 by the template 'for every input the law returns true; each argument reads behind the call as it read before'; 0 by the template 'total and deterministic' (their statements: YtllmhgkhamoplaaTotals.lean).
  GIVEN WITH THE SEED: the statements are not yours to turn. If you find one false, say at which input.
  Laid BY PROGRAM, IN A SANDBOX (cutbox-rows.mjs): the forced cells as the released guide's own fill.sh prints them over the translation 39c3bfa5e4159463… (all of the seat's roots in one cut). By AI agents, Wed Nov 11 2026. No macro, syntax, notation, axiom, sorry.
-/
import Derived.Test.YtllmhgkhamoplaaChecked
import GoSem.Claim
import GoSem.ClaimJoined
import GoSem.ClaimMapViews
import Derived.JoinedTies
import Derived.KernelRfl
namespace Go.Proofs.Ytllmhgkhamoplaa
/- THE CELL 'sum', in the pinned program and in every row, IS THE sha256 OF THE DUMP (.gsa) THAT YtllmhgkhamoplaaProg.lean LOADS. Nothing in Lean hashes anything: it is a label: what it is worth is what the hold of that sum in a sandbox is worth. -/
noncomputable def Try.pinned : Pinned := { name := "ytllmhgkhamoplaa", sum := "39c3bfa5e41594636befbc842ff43ab8e90c5420ce4ed3f7f23b1c09e942820e", checked := Try.checked }
namespace Rows
def none {H : Type} : Left H := { results := [], args := [] }

/-- 'concordancelaw01.SignKinds': WHATEVER THE INPUT: true; the input reads as it did. -/
def signKindsSpec : ChangeSpec := { name := "signKinds", fn := fun _ => fun
  | [d] => { results := [.lit (.bool true)], args := [d] }
  | _ => none }
def signKindsRow : OpenClaim := { program := "ytllmhgkhamoplaa", sum := "39c3bfa5e41594636befbc842ff43ab8e90c5420ce4ed3f7f23b1c09e942820e", func := "concordance/concordancelaw01.SignKinds", spec := "signKinds", apart := false }
def SignKindsSaid : Prop := signKindsRow.holds Try.pinned (OpenSpec.ofChange signKindsSpec)

/-- ITS FALSE NEIGHBOUR: 'it returns false'. Refute it at one input. -/
def signKindsWrong : ChangeSpec := { name := "signKinds", fn := fun _ => fun
  | [d] => { results := [.lit (.bool false)], args := [d] }
  | _ => none }
def SignKindsWrongFalsely : Prop := signKindsRow.holds Try.pinned (OpenSpec.ofChange signKindsWrong)

/-- 'concordancelaw01.SignSigns': WHATEVER THE INPUT: true; the input reads as it did. -/
def signSignsSpec : ChangeSpec := { name := "signSigns", fn := fun _ => fun
  | [d1, d2] => { results := [.lit (.bool true)], args := [d1, d2] }
  | _ => none }
def signSignsRow : OpenClaim := { program := "ytllmhgkhamoplaa", sum := "39c3bfa5e41594636befbc842ff43ab8e90c5420ce4ed3f7f23b1c09e942820e", func := "concordance/concordancelaw01.SignSigns", spec := "signSigns", inPlace := ["internal/abi.NoEscape"], apart := false }
def SignSignsSaid : Prop := signSignsRow.holds Try.pinned (OpenSpec.ofChange signSignsSpec)

/-- ITS FALSE NEIGHBOUR: 'it returns false'. Refute it at one input. -/
def signSignsWrong : ChangeSpec := { name := "signSigns", fn := fun _ => fun
  | [d1, d2] => { results := [.lit (.bool false)], args := [d1, d2] }
  | _ => none }
def SignSignsWrongFalsely : Prop := signSignsRow.holds Try.pinned (OpenSpec.ofChange signSignsWrong)

/-- 'concordancelaw01.SignRound': WHATEVER THE INPUT: true; the input reads as it did. -/
def signRoundSpec : ChangeSpec := { name := "signRound", fn := fun _ => fun
  | [d] => { results := [.lit (.bool true)], args := [d] }
  | _ => none }
def signRoundRow : OpenClaim := { program := "ytllmhgkhamoplaa", sum := "39c3bfa5e41594636befbc842ff43ab8e90c5420ce4ed3f7f23b1c09e942820e", func := "concordance/concordancelaw01.SignRound", spec := "signRound", inPlace := ["internal/abi.NoEscape"], apart := false }
def SignRoundSaid : Prop := signRoundRow.holds Try.pinned (OpenSpec.ofChange signRoundSpec)

/-- ITS FALSE NEIGHBOUR: 'it returns false'. Refute it at one input. -/
def signRoundWrong : ChangeSpec := { name := "signRound", fn := fun _ => fun
  | [d] => { results := [.lit (.bool false)], args := [d] }
  | _ => none }
def SignRoundWrongFalsely : Prop := signRoundRow.holds Try.pinned (OpenSpec.ofChange signRoundWrong)

/-- 'concordancelaw01.SignJoins': WHATEVER THE INPUT: true; the input reads as it did. -/
def signJoinsSpec : ChangeSpec := { name := "signJoins", fn := fun _ => fun
  | [d1, d2] => { results := [.lit (.bool true)], args := [d1, d2] }
  | _ => none }
def signJoinsRow : OpenClaim := { program := "ytllmhgkhamoplaa", sum := "39c3bfa5e41594636befbc842ff43ab8e90c5420ce4ed3f7f23b1c09e942820e", func := "concordance/concordancelaw01.SignJoins", spec := "signJoins", inPlace := ["internal/abi.NoEscape"], apart := false }
def SignJoinsSaid : Prop := signJoinsRow.holds Try.pinned (OpenSpec.ofChange signJoinsSpec)

/-- ITS FALSE NEIGHBOUR: 'it returns false'. Refute it at one input. -/
def signJoinsWrong : ChangeSpec := { name := "signJoins", fn := fun _ => fun
  | [d1, d2] => { results := [.lit (.bool false)], args := [d1, d2] }
  | _ => none }
def SignJoinsWrongFalsely : Prop := signJoinsRow.holds Try.pinned (OpenSpec.ofChange signJoinsWrong)

/-- 'concordancelaw01.SignTexts': WHATEVER THE INPUT: true; the input reads as it did. -/
def signTextsSpec : ChangeSpec := { name := "signTexts", fn := fun _ => fun
  | [d] => { results := [.lit (.bool true)], args := [d] }
  | _ => none }
def signTextsRow : OpenClaim := { program := "ytllmhgkhamoplaa", sum := "39c3bfa5e41594636befbc842ff43ab8e90c5420ce4ed3f7f23b1c09e942820e", func := "concordance/concordancelaw01.SignTexts", spec := "signTexts", inPlace := ["internal/abi.NoEscape"], apart := false }
def SignTextsSaid : Prop := signTextsRow.holds Try.pinned (OpenSpec.ofChange signTextsSpec)

/-- ITS FALSE NEIGHBOUR: 'it returns false'. Refute it at one input. -/
def signTextsWrong : ChangeSpec := { name := "signTexts", fn := fun _ => fun
  | [d] => { results := [.lit (.bool false)], args := [d] }
  | _ => none }
def SignTextsWrongFalsely : Prop := signTextsRow.holds Try.pinned (OpenSpec.ofChange signTextsWrong)

/- THE SECOND FORM. 'bulk': how many values and letters a reading holds, each counted each time it is reached (what is shared counts as often as it is met; a slice's spare places count too). A statement '..UptoSaid' is the law's where the arguments, and the package variables that the reading takes, are together of bulk at most 1048576: NARROWER than '..Said'. Prove '..Said' where nothing that the law and all that it calls make is longer than what came in: it says more and counts as full. Else prove '..UptoSaid'. A law counts once. -/
mutual
def uptoBulk {H : Type} : DataW H → Nat
  | .lit (.string bytes) => bytes.length + 1
  | .lit _ => 1
  | .nil => 1
  | .ptr d => uptoBulk d + 1
  | .slice elems spare => uptoBulkAll elems + uptoBulkAll spare + 1
  | .agg parts => uptoBulkAll parts + 1
  | .iface _ d => uptoBulk d + 1
  | .map entries => uptoBulkEntries entries + 1
  | .held _ => 1
def uptoBulkAll {H : Type} : List (DataW H) → Nat
  | [] => 0
  | d :: r => uptoBulk d + uptoBulkAll r
def uptoBulkEntries {H : Type} : List (Lit × DataW H) → Nat
  | [] => 0
  | x :: r => uptoBulkEntry x + uptoBulkEntries r
def uptoBulkEntry {H : Type} : Lit × DataW H → Nat
  | (.string bytes, d) => bytes.length + uptoBulk d + 1
  | (_, d) => uptoBulk d + 1
 end
def uptoSmall : (H : Type) → List (DataW H) → Bool := fun _ ds => decide (uptoBulkAll ds ≤ 1048576)
def OpenSpec.upto (s : _root_.Go.ChangeSpec) : _root_.Go.OpenSpec := { _root_.Go.OpenSpec.ofChange s with cond := some uptoSmall }

/-- 'concordancelaw01.SignKinds', WHERE WHAT IT READS IS OF BULK AT MOST 1048576: true; the input reads as it did. -/
def signKindsUptoRow : OpenClaim := { program := "ytllmhgkhamoplaa", sum := "39c3bfa5e41594636befbc842ff43ab8e90c5420ce4ed3f7f23b1c09e942820e", func := "concordance/concordancelaw01.SignKinds", spec := "signKinds", apart := false, narrowed := true }
def SignKindsUptoSaid : Prop := signKindsUptoRow.holds Try.pinned (OpenSpec.upto signKindsSpec)

/-- 'concordancelaw01.SignSigns', WHERE WHAT IT READS IS OF BULK AT MOST 1048576: true; the input reads as it did. -/
def signSignsUptoRow : OpenClaim := { program := "ytllmhgkhamoplaa", sum := "39c3bfa5e41594636befbc842ff43ab8e90c5420ce4ed3f7f23b1c09e942820e", func := "concordance/concordancelaw01.SignSigns", spec := "signSigns", inPlace := ["internal/abi.NoEscape"], apart := false, narrowed := true }
def SignSignsUptoSaid : Prop := signSignsUptoRow.holds Try.pinned (OpenSpec.upto signSignsSpec)

/-- 'concordancelaw01.SignRound', WHERE WHAT IT READS IS OF BULK AT MOST 1048576: true; the input reads as it did. -/
def signRoundUptoRow : OpenClaim := { program := "ytllmhgkhamoplaa", sum := "39c3bfa5e41594636befbc842ff43ab8e90c5420ce4ed3f7f23b1c09e942820e", func := "concordance/concordancelaw01.SignRound", spec := "signRound", inPlace := ["internal/abi.NoEscape"], apart := false, narrowed := true }
def SignRoundUptoSaid : Prop := signRoundUptoRow.holds Try.pinned (OpenSpec.upto signRoundSpec)

/-- 'concordancelaw01.SignJoins', WHERE WHAT IT READS IS OF BULK AT MOST 1048576: true; the input reads as it did. -/
def signJoinsUptoRow : OpenClaim := { program := "ytllmhgkhamoplaa", sum := "39c3bfa5e41594636befbc842ff43ab8e90c5420ce4ed3f7f23b1c09e942820e", func := "concordance/concordancelaw01.SignJoins", spec := "signJoins", inPlace := ["internal/abi.NoEscape"], apart := false, narrowed := true }
def SignJoinsUptoSaid : Prop := signJoinsUptoRow.holds Try.pinned (OpenSpec.upto signJoinsSpec)

/-- 'concordancelaw01.SignTexts', WHERE WHAT IT READS IS OF BULK AT MOST 1048576: true; the input reads as it did. -/
def signTextsUptoRow : OpenClaim := { program := "ytllmhgkhamoplaa", sum := "39c3bfa5e41594636befbc842ff43ab8e90c5420ce4ed3f7f23b1c09e942820e", func := "concordance/concordancelaw01.SignTexts", spec := "signTexts", inPlace := ["internal/abi.NoEscape"], apart := false, narrowed := true }
def SignTextsUptoSaid : Prop := signTextsUptoRow.holds Try.pinned (OpenSpec.upto signTextsSpec)

end Rows
end Go.Proofs.Ytllmhgkhamoplaa
