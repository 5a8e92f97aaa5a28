import Derived.Test.YtbbfilmajiilhaaDoorBnd0
/-! Words of characters: plain lists. -/
set_option linter.unusedVariables false
set_option linter.unusedSimpArgs false
namespace Go.Proofs.YtbbfilmajiilhaaDoor
open Go.RowKit

theorem inB_32 : inB 32 = false := by decide

theorem stepW_out (st : List ByteArray × List Int) (c : Int) (h : inB c = false) : stepW st c = (if 0 < st.2.length then st.1 ++ [strOf st.2] else st.1, []) := by unfold stepW; rw [h]; rfl

/-! A blank behind bytes: no sign of theirs turns. -/

end Go.Proofs.YtbbfilmajiilhaaDoor
