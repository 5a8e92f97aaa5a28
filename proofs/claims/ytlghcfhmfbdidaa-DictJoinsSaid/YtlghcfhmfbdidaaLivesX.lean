/- The document's example, in the form of a printed function. No condition. -/
import Derived.Test.YtlghcfhmfbdidaaLives
namespace Go.Proofs.Ytlghcfhmfbdidaa
open Go.RowKit Go.Shelf Go.Proofs.Ytlghcfhmfbdidaa.PAll Go.Proofs.YtlghcfhmfbdidaaW.PrintWords Go.Proofs.YtlghcfhmfbdidaaW.PrintLast Go.Proofs.YtlghcfhmfbdidaaW.PrintMore
def concordancelaw07_lives.f : Option (Bool) := some true
theorem concordancelaw07_lives.calls (r : Bool) (w : World) (h : concordancelaw07_lives.f = some r) :
    Calls Try.prog 12 #[] w fun e w' => e = .returned (.bool r) ∧ Below w.heap.size w w' := by
  cases h
  exact lives_any w
end Go.Proofs.Ytlghcfhmfbdidaa
