/- WordFolds: a text, folded, has the same words; the pure statement behind the walk. No condition beyond the row's own. -/
import Derived.Test.YtoephmnkenlmiaaPureWordJoins
import Derived.Test.YtoephmnkenlmiaaPAllx6
namespace Go.Proofs.Ytoephmnkenlmiaa.Pure
open Go.RowKit Go.Proofs.Ytoephmnkenlmiaa.PAll Go.Proofs.YtoephmnkenlmiaaW.PrintWords Go.Proofs.YtoephmnkenlmiaaW.PrintLast

theorem strOf_size (l : List Int) : (strOf l).size ≤ 4 * l.length := by
  unfold strOf
  rw [← size_data, show (⟨(text l).toArray⟩ : ByteArray).data.toList = text l by simp]
  exact text_length l
theorem WordFolds : concordancelaw02_WordFolds.Pure := by
  intro a _
  obtain ⟨s, hs, hs2⟩ := few_ok a 100 (by decide)
  apply Ev.rounds
  unfold concordancelaw02_WordFolds.f
  have l1 := words_len s.data.toList
  rw [size_data] at l1
  have l2 := signs_length s.data.toList
  rw [size_data] at l2
  have l3 := strOf_size ((signs s.data.toList).map fold)
  rw [List.length_map] at l3
  have e : wordsOf (signs (strOf ((signs s.data.toList).map fold)).data.toList) = wordsOf (signs s.data.toList) := by
    rw [show (strOf ((signs s.data.toList).map fold)).data.toList = text ((signs s.data.toList).map fold) by unfold strOf; simp, signs_folded, wordsOf_fold]
  refine Ev.const hs (Ev.bind (foldT_ev s (by omega)) (Ev.const (words_ok _ (by omega)) (Ev.const (words_ok s (by omega)) ?_)))
  refine Ev.bind (same_ev _ _ e ?_) (Ev.pos rfl (Ev.const lives_ok (Ev.ret rfl)))
  rw [e]; omega
end Go.Proofs.Ytoephmnkenlmiaa.Pure
