/- BufferSeals: what the row asks. No condition. -/
import Derived.Test.YteidebllianiiaaGreatDoorSealsW
import Derived.Test.YteidebllianiiaaGreatDoorBun1
set_option linter.unusedVariables false
set_option linter.unusedSimpArgs false
namespace Go.Proofs.YteidebllianiiaaGreatDoor
open Go.RowKit Go.Proofs.YteidebllianiiaaGreatDoor.PAll Go.Proofs.YteidebllianiiaaGreatDoorW.PrintWords Go.Proofs.YteidebllianiiaaGreatDoorW.PrintLast Go.Proofs.YteidebllianiiaaGreatDoorW.PrintMore

theorem wf64 {n : Int} (h : (Lit.int .i64 n).wf = true) : -9223372036854775808 ≤ n ∧ n ≤ 9223372036854775807 := by
  simpa only [Lit.wf, show IntKind.i64.min = -9223372036854775808 by decide, show IntKind.i64.max = 9223372036854775807 by decide, Bool.and_eq_true, decide_eq_true_eq] using h
theorem bufferSeals_walk (A0 : Option Addr) (c0 : Nat) (l0 : List S31) (a1 : Int) (w : World) (hr : Kd.C k31 w A0 l0.length l0) (hc : l0.length ≤ c0) (hs : ∀ x ∈ l0, okD x) (h1 : (Lit.int .i64 a1).wf = true) :
    Calls Tryz.prog 4 #[.slice A0 l0.length c0, .int .i64 a1] w fun e w' => e = .returned (.bool true) ∧ Below w.heap.size w w' :=
  seals_any A0 c0 l0 a1 w hr hc (docs_bounds hr hs).1 (docs_bounds hr hs).2 (wf64 h1)
end Go.Proofs.YteidebllianiiaaGreatDoor
