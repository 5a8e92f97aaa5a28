/- WordJoins: the words of two texts with a blank between are those of the first one, then those of the second one; the pure statement behind the walk. No condition beyond the row's own. -/
import Derived.Test.YtoephmnkenlmiaaWordRefs
import Derived.Test.YtoephmnkenlmiaaPAllx7
namespace Go.Proofs.Ytoephmnkenlmiaa.Pure
open Go.RowKit Go.Proofs.Ytoephmnkenlmiaa.PAll Go.Proofs.YtoephmnkenlmiaaW.PrintWords Go.Proofs.YtoephmnkenlmiaaW.PrintLast

theorem words_ok (a : ByteArray) (h : a.size ≤ 1000000000) : word_Words.f a = some (wordsOf (signs a.data.toList)) := if_pos h
theorem loop_data (s : ByteArray) (d : Nat) : ∀ (i : Nat) (r : List UInt8), i + d = s.size → ByteArray.toList.loop s i r = r.reverse ++ s.data.toList.drop i := by
  induction d with
  | zero =>
    intro i r h
    rw [ByteArray.toList.loop]
    rw [if_neg (by omega), List.drop_eq_nil_of_le (by rw [size_data]; omega), List.append_nil]
  | succ d ih =>
    intro i r h
    have hlt : i < s.size := by omega
    have hg : s.get! i = s.data.toList[i]'(by rw [size_data]; exact hlt) := by
      show s.data[i]! = _
      rw [getElem!_pos s.data i hlt, Array.getElem_toList]
    rw [ByteArray.toList.loop, if_pos hlt, ih (i + 1) _ (by omega), List.drop_eq_getElem_cons (i := i) (by rw [size_data]; exact hlt), hg]
    simp
theorem toList_data (s : ByteArray) : s.toList = s.data.toList := by
  unfold ByteArray.toList
  rw [loop_data s s.size 0 [] (by omega)]
  rfl
theorem toList_inj {a b : ByteArray} : a.toList = b.toList ↔ a = b := by
  rw [toList_data, toList_data]
  constructor
  · intro h
    cases a; cases b
    congr 1
    exact Array.toList_inj.mp h
  · rintro rfl; rfl
theorem data_append (a b : ByteArray) : (a ++ b).data.toList = a.data.toList ++ b.data.toList := by rw [ByteArray.data_append, Array.toList_append]
theorem few_ok (a : ByteArray) (n : Nat) (hn : n ≤ 1000) : ∃ b, concordancelaw02_few.f a (n : Int) = some b ∧ b.size ≤ n := by
  unfold concordancelaw02_few.f
  by_cases h : (a.size : Int) > (n : Int)
  · rw [if_pos h, if_pos (by omega), if_pos (by omega)]
    refine ⟨_, rfl, ?_⟩
    rw [← size_data, ByteArray.data_extract, Array.toList_extract]
    simp
    omega
  · rw [if_neg h]
    exact ⟨a, rfl, by omega⟩
theorem may_f (a : ByteArray) (h : a.size ≤ 1000000000) : word_May.f a = some (decide (wordsOf (signs a.data.toList) = [a]) && decide ((a.size : Int) ≤ 30)) := by
  unfold word_May.f
  rw [words_ok a h, Option.bind_some]
  generalize wordsOf (signs a.data.toList) = ws
  match ws with
  | [] => rfl
  | [x] =>
    rw [if_pos (show (([x] : List ByteArray).length : Int) = 1 from rfl), if_pos (show (0 : Int) < (([x] : List ByteArray).length : Int) by simp)]
    have e : rdOf ByteArray.empty [x] 0 = x := rfl
    rw [e]
    by_cases hx : x = a
    · subst hx
      rw [if_pos rfl]; simp
    · rw [if_neg (fun hh => hx (toList_inj.mp hh))]
      have : ¬ ([x] = [a]) := fun hh => hx (by simpa using hh)
      simp [hx]
  | x :: y :: r =>
    rw [if_neg (by simp; omega)]
    simp
theorem lives_ok : concordancelaw02_lives.f = some true := by
  unfold concordancelaw02_lives.f
  have hw : wordsOf (signs (⟨#[73, 116, 39, 115, 32, 51, 80, 77]⟩ : ByteArray).data.toList) = [⟨#[105, 116]⟩, ⟨#[115]⟩, ⟨#[51, 112, 109]⟩] := by decide +kernel
  have hm : wordsOf (signs (⟨#[105, 116]⟩ : ByteArray).data.toList) = [⟨#[105, 116]⟩] := by decide +kernel
  rw [words_ok _ (by decide), hw, Option.bind_some, may_f _ (by decide), hm]
  have e0 : rdOf ByteArray.empty [(⟨#[105, 116]⟩ : ByteArray), ⟨#[115]⟩, ⟨#[51, 112, 109]⟩] 0 = ⟨#[105, 116]⟩ := rfl
  have e1 : rdOf ByteArray.empty [(⟨#[105, 116]⟩ : ByteArray), ⟨#[115]⟩, ⟨#[51, 112, 109]⟩] 1 = ⟨#[115]⟩ := rfl
  have e2 : rdOf ByteArray.empty [(⟨#[105, 116]⟩ : ByteArray), ⟨#[115]⟩, ⟨#[51, 112, 109]⟩] 2 = ⟨#[51, 112, 109]⟩ := rfl
  rw [e0, e1, e2, toList_data, toList_data, toList_data]
  rw [if_pos (by decide), if_pos (by decide), if_pos rfl, if_pos (by decide), if_pos rfl, if_pos (by decide), if_pos rfl]
  rfl

theorem WordJoins : concordancelaw02_WordJoins.Pure := by
  intro a b _ _
  obtain ⟨s, hs, hs2⟩ := few_ok a 80 (by decide)
  obtain ⟨t, ht, ht2⟩ := few_ok b 80 (by decide)
  apply Ev.rounds
  unfold concordancelaw02_WordJoins.f
  have l1 := words_len s.data.toList
  have l2 := words_len t.data.toList
  rw [size_data] at l1 l2
  have e3 : (s ++ (⟨#[32]⟩ : ByteArray) ++ t).data.toList = s.data.toList ++ 32 :: t.data.toList := by rw [data_append, data_append, List.append_assoc]; rfl
  have hsz : (s ++ (⟨#[32]⟩ : ByteArray) ++ t).size = s.size + 1 + t.size := by rw [← size_data, e3, List.length_append, List.length_cons, size_data, size_data]; omega
  have hsz1 : (s ++ (⟨#[32]⟩ : ByteArray)).size = s.size + 1 := by rw [← size_data, data_append, List.length_append, size_data]; rfl
  refine Ev.const hs (Ev.const ht (Ev.const (words_ok s (by omega)) (Ev.pos (by simp; omega) ?_)))
  refine Ev.som (Ev.const (words_ok t (by omega)) (Ev.pos (by simp; omega) (Ev.pos (by omega) (Ev.pos (by rw [hsz1]; omega) ?_))))
  refine Ev.const (words_ok _ (by rw [hsz]; omega)) (Ev.bind (same_ev _ _ ?_ ?_) (Ev.pos rfl (Ev.const lives_ok (Ev.ret rfl))))
  · rw [e3, words_blank]; rfl
  · rw [e3, words_blank, List.length_append]; omega
end Go.Proofs.Ytoephmnkenlmiaa.Pure
