/- SignRound: signs of a text of signs are these; the pure statement behind the walk. No condition beyond the row's own. -/
import Derived.Test.YtllmhgkhamoplaaRefs
import Derived.Test.YtllmhgkhamoplaaSignsE
import Derived.Test.YtllmhgkhamoplaaText
import Derived.Test.YtllmhgkhamoplaaKinds
namespace Go.Proofs.Ytllmhgkhamoplaa.Pure
open Go.RowKit Go.Proofs.Ytllmhgkhamoplaa.PAll Go.Proofs.YtllmhgkhamoplaaW.PrintWords Go.Proofs.YtllmhgkhamoplaaW.PrintLast

theorem signs_ok (a : ByteArray) (h : a.size ≤ 1000000000000) : sign_Signs.f a = some (signs a.data.toList) := if_pos h
theorem text_ok (l : List Int) (h : l.length ≤ 1000000000000) : sign_Text.f l = some ⟨(text l).toArray⟩ := if_pos h
theorem few_ok (a : ByteArray) : ∃ b, concordancelaw01_few.f a = some b ∧ b.size ≤ 100 := by
  unfold concordancelaw01_few.f
  by_cases h : (a.size : Int) > 100
  · rw [if_pos h, if_pos (by decide), if_pos (by omega)]
    refine ⟨_, rfl, ?_⟩
    rw [← size_data, ByteArray.data_extract, Array.toList_extract]
    simp
    omega
  · rw [if_neg h]
    exact ⟨a, rfl, by omega⟩
theorem lives_ok : concordancelaw01_lives.f = some true := by
  unfold concordancelaw01_lives.f
  rw [signs_ok _ (by decide)]
  have hl : signs (ByteArray.mk #[97, 255]).data.toList = [97, 65533] := by decide
  rw [hl]
  decide +kernel

theorem SignRound : concordancelaw01_SignRound.Pure := by
  intro a _
  obtain ⟨b, hb, hb2⟩ := few_ok a
  apply Ev.rounds
  unfold concordancelaw01_SignRound.f
  have h1 := signs_length b.data.toList
  rw [size_data] at h1
  have h2 := text_length (signs b.data.toList)
  have e1 : ((⟨(text (signs b.data.toList)).toArray⟩ : ByteArray)).data.toList = text (signs b.data.toList) := by simp
  have h3 : ((⟨(text (signs b.data.toList)).toArray⟩ : ByteArray)).size ≤ 1000000000000 := by rw [← size_data, e1]; omega
  rw [hb]
  simp only [Option.bind_some, signs_ok b (by omega), text_ok (signs b.data.toList) (by omega), signs_ok _ h3, signs_text_signs, if_true]
  refine Ev.bind (same_ev _ _ (by omega)) ?_
  simp only [decide_true, if_true, lives_ok, Option.bind_some]
  exact Ev.now true
end Go.Proofs.Ytllmhgkhamoplaa.Pure
