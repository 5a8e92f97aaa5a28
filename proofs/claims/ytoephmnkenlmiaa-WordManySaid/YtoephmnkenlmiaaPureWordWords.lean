/- WordWords: a text's words are the document's, and each with its place, or the first error; the pure statement behind the walk. No condition beyond the row's own. -/
import Derived.Test.YtoephmnkenlmiaaPureWordMay
import Derived.Test.YtoephmnkenlmiaaPAllx7
namespace Go.Proofs.Ytoephmnkenlmiaa.Pure
open Go.RowKit Go.Proofs.Ytoephmnkenlmiaa.PAll Go.Proofs.YtoephmnkenlmiaaW.PrintWords Go.Proofs.YtoephmnkenlmiaaW.PrintLast

/-- Words with their places, from number i on, or the first error. -/
def tokL : List ByteArray → Nat → List S35 → List S35 × Int
  | [], _, acc => (acc, 0)
  | w :: ws, i, acc => if 30 < w.size then ([], 3) else if 500 ≤ i then ([], 7) else tokL ws (i + 1) (acc ++ [⟨w, (i : Int)⟩])
theorem tok_loop (ws : List ByteArray) (_hl : ws.length ≤ 1000000000) (d : Nat) : ∀ (i : Nat) (acc : List S35), i + d = ws.length → i ≤ 500 → acc.length ≤ i →
    Ev (fun k => word_Tokens.l0 k acc ws (ws.length : Int) (i : Int)) (tokL (ws.drop i) i acc) := by
  induction d with
  | zero =>
    intro i acc hi h5 ha
    rw [List.drop_eq_nil_of_le (by omega), show tokL [] i acc = (acc, 0) from rfl]
    exact Ev.step (fun k => by rw [word_Tokens.l0]) (Ev.neg (by omega) (Ev.ret rfl))
  | succ d ih =>
    intro i acc hi h5 ha
    rw [List.drop_eq_getElem_cons (show i < ws.length by omega)]
    refine Ev.step (fun k => by rw [word_Tokens.l0, rdS_nat ws i (by omega), wrap_small (i + 1) (by omega)]) (Ev.pos (by omega) (Ev.pos (by omega) (Ev.pos (by omega) ?_)))
    unfold tokL
    by_cases h1 : 30 < ws[i].size
    · rw [if_pos h1]
      exact Ev.pos (by omega) (Ev.ret rfl)
    · rw [if_neg h1]
      refine Ev.neg (by omega) ?_
      by_cases h2 : 500 ≤ i
      · rw [if_pos h2]
        exact Ev.pos (by omega) (Ev.ret rfl)
      · rw [if_neg h2]
        have hg := ih (i + 1) (acc ++ [⟨ws[i], (i : Int)⟩]) (by omega) (by omega) (by simp; omega)
        exact Ev.neg (by omega) (Ev.pos (by omega) (by exact_mod_cast hg))
theorem tok_ev (a : ByteArray) (h : a.size ≤ 1000000) : Ev (fun k => word_Tokens.f k a) (tokL (wordsOf (signs a.data.toList)) 0 []) := by
  have hl := words_len a.data.toList
  rw [size_data] at hl
  unfold word_Tokens.f
  refine Ev.const (words_ok a (by omega)) ?_
  exact tok_loop (wordsOf (signs a.data.toList)) (by omega) (wordsOf (signs a.data.toList)).length 0 [] (by omega) (by omega) (by simp)
theorem rtok_loop (ws : List ByteArray) (_hl : ws.length ≤ 1000000000) (d : Nat) : ∀ (i : Nat) (acc : List S35), i + d = ws.length → i ≤ 500 → acc.length ≤ i →
    Ev (fun k => concordanceref02_Tokens.l0 k ws acc (i : Int)) (tokL (ws.drop i) i acc) := by
  induction d with
  | zero =>
    intro i acc hi h5 ha
    rw [List.drop_eq_nil_of_le (by omega), show tokL [] i acc = (acc, 0) from rfl]
    exact Ev.step (fun k => by rw [concordanceref02_Tokens.l0]) (Ev.neg (by omega) (Ev.ret rfl))
  | succ d ih =>
    intro i acc hi h5 ha
    rw [List.drop_eq_getElem_cons (show i < ws.length by omega)]
    refine Ev.step (fun k => by rw [concordanceref02_Tokens.l0, rdS_nat ws i (by omega), wrap_small (i + 1) (by omega)]) (Ev.pos (by omega) (Ev.pos (by omega) ?_))
    unfold tokL
    by_cases h1 : 30 < ws[i].size
    · rw [if_pos h1]
      exact Ev.pos (by omega) (Ev.ret rfl)
    · rw [if_neg h1]
      refine Ev.neg (by omega) ?_
      by_cases h2 : 500 ≤ i
      · rw [if_pos h2]
        exact Ev.pos (by omega) (Ev.ret rfl)
      · rw [if_neg h2]
        have hg := ih (i + 1) (acc ++ [⟨ws[i], (i : Int)⟩]) (by omega) (by omega) (by simp; omega)
        exact Ev.neg (by omega) (Ev.pos (by omega) (by exact_mod_cast hg))
theorem rtok_ev (a : ByteArray) (h : a.size ≤ 1000000) : Ev (fun k => concordanceref02_Tokens.f k a) (tokL (wordsOf (signs a.data.toList)) 0 []) := by
  have hl := words_len a.data.toList
  rw [size_data] at hl
  unfold concordanceref02_Tokens.f
  refine Ev.bind (rwords_ev a (by omega)) ?_
  exact rtok_loop (wordsOf (signs a.data.toList)) (by omega) (wordsOf (signs a.data.toList)).length 0 [] (by omega) (by omega) (by simp)
theorem tokL_len : ∀ (ws : List ByteArray) (i : Nat) (acc : List S35), (tokL ws i acc).1.length ≤ ws.length + acc.length
  | [], _, acc => by simp [tokL]
  | w :: ws, i, acc => by
    unfold tokL
    have := tokL_len ws (i + 1) (acc ++ [⟨w, (i : Int)⟩])
    simp only [List.length_append, List.length_cons, List.length_nil] at this ⊢
    split
    · simp
    · split
      · simp
      · omega

theorem eq_loop (s : ByteArray) (hs : s.size ≤ 200) (l : List S35) (hl : l.length ≤ 1000) (d : Nat) : ∀ i : Nat, i + d = l.length → Ev (fun k => concordancelaw02_WordWords.l0 k s l l (i : Int)) true := by
  have hwl := words_len s.data.toList
  rw [size_data] at hwl
  induction d with
  | zero =>
    intro i hi
    refine Ev.step (fun k => by rw [concordancelaw02_WordWords.l0]) (Ev.neg (by omega) ?_)
    refine Ev.const (words_ok s (by omega)) (Ev.bind (rwords_ev s (by omega)) (Ev.bind (same_ev _ _ rfl (by omega)) (Ev.pos rfl (Ev.const lives_ok (Ev.ret rfl)))))
  | succ d ih =>
    intro i hi
    have hg := ih (i + 1) (by omega)
    refine Ev.step (fun k => by rw [concordancelaw02_WordWords.l0, wrap_small (i + 1) (by omega)]) (Ev.pos (by omega) (Ev.pos (by omega) (Ev.pos (by omega) (Ev.neg (by simp) ?_))))
    exact_mod_cast hg
theorem WordWords : concordancelaw02_WordWords.Pure := by
  intro a _
  obtain ⟨s, hs, hs2⟩ := few_ok a 200 (by decide)
  have hwl := words_len s.data.toList
  rw [size_data] at hwl
  have htl := tokL_len (wordsOf (signs s.data.toList)) 0 []
  simp only [List.length_nil] at htl
  apply Ev.rounds
  unfold concordancelaw02_WordWords.f
  refine Ev.const hs (Ev.bind (tok_ev s (by omega)) (Ev.bind (rtok_ev s (by omega)) (Ev.pos rfl ?_)))
  refine Ev.step (fun k => by rw [concordancelaw02_WordWords.j0]) (Ev.neg (by simp) ?_)
  exact eq_loop s hs2 _ (by omega) (tokL (wordsOf (signs s.data.toList)) 0 []).1.length 0 (by omega)
end Go.Proofs.Ytoephmnkenlmiaa.Pure
