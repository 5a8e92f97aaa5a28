/- The two tables of unicode/utf8, read off the row's listed variables; a start that meets them; the walk. -/
import Derived.Test.YtllmhgkhamoplaaDoorFoldP
import Derived.ProofKit
import Derived.LaidMore
import Derived.OpenShut
import Derived.FnData
import Derived.LaidByTextLater
import Derived.Lib.LaidU8
import Derived.PinnedBridge
namespace Go.Proofs.YtllmhgkhamoplaaDoor
open Go.RowKit Go.ChangeShapes Go.WideShapes Go.ChangeAt Go.Lib Go.Proofs.YtllmhgkhamoplaaDoor.PAll Go.Proofs.YtllmhgkhamoplaaDoorW.PrintWords Go.Proofs.YtllmhgkhamoplaaDoorW.PrintLast

theorem u8extra : U8Extra Tryd.prog Tryd.lays260_ren := ⟨by kernel_rfl, by kernel_rfl, by kernel_rfl, by kernel_rfl, by kernel_rfl, by kernel_rfl, by kernel_rfl⟩
theorem accept_eq : (Rows.laid_unicode_utf8_acceptRanges : DataW Unit) = acceptData := by kernel_rfl
theorem first_eq : Rows.laid_unicode_utf8_first = firstData := Pinned.utf8First_eq
theorem tab_of_laid {W : World} (h : laidMetH Tryd.prog [("unicode/utf8.acceptRanges", Rows.laid_unicode_utf8_acceptRanges), ("unicode/utf8.first", Rows.laid_unicode_utf8_first)] W) : Lib.Utf8Tabs 0 1 W := by
  rw [MakeChecks.laidMetH_plain _ _ _ (by kernel_rfl)] at h
  have h4 : VarReads Tryd.prog W "unicode/utf8.acceptRanges" acceptData := by
    rw [← accept_eq]
    exact laidMet.reads h (by simp)
  have h3 : VarReads Tryd.prog W "unicode/utf8.first" firstData := by
    rw [← first_eq]
    exact laidMet.reads h (by simp)
  exact utf8Tabs_of_reads Tryd.lays260 u8extra h3 h4
theorem signFolds_walk (a0 : ByteArray) (w : World) (hT : Lib.Utf8Tabs 0 1 w) (_h : a0.size ≤ maxLen) :
    Calls Tryd.prog 3 #[.string a0] w fun e w' => e = .returned (.bool true) ∧ Below w.heap.size w w' := by
  obtain ⟨n, hn⟩ := (law_ev a0).rounds
  exact concordancelaw01_SignFolds.calls n a0 true w hT hn
end Go.Proofs.YtllmhgkhamoplaaDoor
