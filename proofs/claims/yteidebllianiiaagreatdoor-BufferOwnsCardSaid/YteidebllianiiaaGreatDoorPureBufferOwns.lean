/- BufferOwns: what the row asks. No condition. -/
import Derived.Test.YteidebllianiiaaGreatDoorOwnsW
import Derived.Test.YteidebllianiiaaGreatDoorBun1
set_option linter.unusedVariables false
set_option linter.unusedSimpArgs false
namespace Go.Proofs.YteidebllianiiaaGreatDoor
open Go.RowKit Go.Proofs.YteidebllianiiaaGreatDoor.PAll Go.Proofs.YteidebllianiiaaGreatDoorW.PrintWords Go.Proofs.YteidebllianiiaaGreatDoorW.PrintLast Go.Proofs.YteidebllianiiaaGreatDoorW.PrintMore

theorem bufferOwns_walk (A0 : Option Addr) (c0 : Nat) (l0 : List S31) (w : World) (hr : Kd.C k31 w A0 l0.length l0) (hc : l0.length ≤ c0) (hs : ∀ x ∈ l0, okD x) :
    Calls Tryz.prog 5 #[.slice A0 l0.length c0] w fun e w' => e = .returned (.bool true) ∧ Below w.heap.size w w' :=
  owns_any A0 c0 l0 w hr hc (docs_bounds hr hs).1 (docs_bounds hr hs).2
end Go.Proofs.YteidebllianiiaaGreatDoor
