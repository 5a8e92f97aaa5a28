/- The document's Good, Words: what they tell. Condition: names of few bytes. -/
import Derived.Test.YtbbfilmajiilhaaDoorDocP
set_option linter.unusedVariables false
set_option linter.unusedSimpArgs false
namespace Go.Proofs.YtbbfilmajiilhaaDoor
open Go.RowKit Go.Proofs.YtbbfilmajiilhaaDoor.PAll Go.Proofs.YtbbfilmajiilhaaDoorW.PrintWords Go.Proofs.YtbbfilmajiilhaaDoorW.PrintLast

def pool : List ByteArray := [⟨#[116]⟩, ⟨#[117]⟩, ⟨#[118]⟩, ⟨#[119]⟩]
/-- A field as it is taken over. -/
def fixF (i : Nat) (f : Fd) : Fd := ⟨if nameB f.f0 = true then f.f0 else rdOf ByteArray.empty pool (i : Int), f.f1.extract 0 ((mn ((f.f1).size : Int) 40 : Int)).toNat⟩
def fixes (l : List Fd) : List Fd := l.zipIdx.map (fun x => fixF x.2 x.1)

structure Fine (l out : List Fd) : Prop where
  nice : Nice out
  sub : out.Sublist (fixes l)
  small : Small out
  few : out.length ≤ 4

end Go.Proofs.YtbbfilmajiilhaaDoor
