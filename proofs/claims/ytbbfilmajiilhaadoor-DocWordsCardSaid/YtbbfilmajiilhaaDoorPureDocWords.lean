/- So many words may be in all fields, and no more: the plain law. No condition. -/
import Derived.Test.YtbbfilmajiilhaaDoorLives
import Derived.Test.YtbbfilmajiilhaaDoorMayC
import Derived.Test.YtbbfilmajiilhaaDoorPAllx10
set_option linter.unusedVariables false
set_option linter.unusedSimpArgs false
namespace Go.Proofs.YtbbfilmajiilhaaDoor
open Go.RowKit Go.Proofs.YtbbfilmajiilhaaDoor.PAll Go.Proofs.YtbbfilmajiilhaaDoorW.PrintWords Go.Proofs.YtbbfilmajiilhaaDoorW.PrintLast

theorem tmod_lt {a : Int} (ha : 0 ≤ a) : ∃ k : Nat, Int.tmod a 511 = (k : Int) ∧ k < 511 := by
  obtain ⟨x, rfl⟩ := Int.eq_ofNat_of_zero_le ha
  exact ⟨x % 511, rfl, Nat.mod_lt _ (by decide)⟩
theorem turn_nonneg (a : Int) (h : -9223372036854775808 ≤ a ∧ a ≤ 9223372036854775807) (hn : a < 0) : 0 ≤ wrap64 (-(wrap64 (a + 1))) := by
  rw [wrap_small (a + 1) (by omega), wrap_small (-(a + 1)) (by omega)]
  omega
def repB : Nat → List UInt8
  | 0 => []
  | n + 1 => 97 :: 32 :: repB n
theorem repB_snoc : ∀ n, repB n ++ [97, 32] = repB (n + 1)
  | 0 => rfl
  | n + 1 => by
    show 97 :: 32 :: (repB n ++ [97, 32]) = _
    rw [repB_snoc n]
    rfl
theorem repB_len : ∀ n, (repB n).length = 2 * n
  | 0 => rfl
  | n + 1 => by
    show (repB n).length + 1 + 1 = _
    rw [repB_len n]; omega
def repS (n : Nat) : ByteArray := ⟨(repB n).toArray⟩
def wA : ByteArray := ⟨#[97]⟩
theorem words_one : wordsOf (signs [97]) = [wA] := by decide +kernel
theorem words_rep : ∀ n, wordsOf (signs (repB n)) = List.replicate n wA
  | 0 => by decide +kernel
  | n + 1 => by
    have h := words_blank [97] (repB n)
    rw [words_one, words_rep n] at h
    exact h
theorem wordsT_rep (n : Nat) : wordsT (repS n) = List.replicate n wA := words_rep n
theorem size_rep (n : Nat) : (repS n).size = 2 * n := by
  rw [← size_data]
  exact repB_len n
theorem tokE_rep (m : Nat) : ∀ i, i ≤ 500 → tokE (List.replicate m wA) i = if 500 < i + m then 7 else 0 := by
  induction m with
  | zero => intro i hi; rw [if_neg (by omega)]; rfl
  | succ m ih =>
    intro i hi
    rw [List.replicate_succ, tokE, if_neg (by decide)]
    by_cases h : 500 ≤ i
    · rw [if_pos h, if_pos (by omega)]
    · rw [if_neg h, ih (i + 1) (by omega)]
      by_cases h2 : 500 < i + 1 + m
      · rw [if_pos h2, if_pos (by omega)]
      · rw [if_neg h2, if_neg (by omega)]
theorem words_loop (n : Nat) (hn : n ≤ 1000) (d : Nat) : ∀ i : Nat, i + d = n → Ev (fun k => concordancelaw08_words.l0 k (n : Int) (numsOf (repB i)) (i : Int)) (repS n) := by
  induction d with
  | zero =>
    intro i hi
    have hi : i = n := by omega
    subst hi
    refine Ev.step (fun k => by rw [concordancelaw08_words.l0]) ?_
    exact Ev.neg (by omega) (Ev.ret (str_nums _))
  | succ d ih =>
    intro i hi
    have hg := ih (i + 1) (by omega)
    have hl := repB_len i
    refine Ev.step (fun k => by rw [concordancelaw08_words.l0, wrap_nat i (by omega)]) ?_
    refine Ev.pos (by omega) (Ev.const (a := [97, 32]) rfl (Ev.pos ?_ ?_))
    · rw [numsOf_length, hl]
      show 2 * i + 2 < _
      omega
    · rw [show numsOf (repB i) ++ [97, 32] = numsOf (repB (i + 1)) by rw [← repB_snoc, numsOf_append]; rfl]
      exact hg
theorem words_ev (n : Nat) (hn : n ≤ 1000) : Ev (fun k => concordancelaw08_words.f k (n : Int)) (repS n) := by
  unfold concordancelaw08_words.f
  exact words_loop n hn n 0 (by omega)
def two (a b : Nat) : List Fd := [⟨⟨#[116]⟩, repS a⟩, ⟨⟨#[117]⟩, repS b⟩]
theorem two_ok (a b : Nat) (ha : a < 511) (hb : b < 511) : docOk (two a b) ∧ ∀ f ∈ two a b, f.f0.size ≤ 9223372036854775807 := by
  have h1 := size_rep a
  have h2 := size_rep b
  refine ⟨⟨by unfold two; simp, fun f hf => ?_⟩, fun f hf => ?_⟩
  · rcases List.mem_cons.1 hf with rfl | hf
    · show (repS a).size ≤ _; omega
    · rw [List.mem_singleton.1 hf]; show (repS b).size ≤ _; omega
  · rcases List.mem_cons.1 hf with rfl | hf
    · show (⟨#[116]⟩ : ByteArray).size ≤ _; decide
    · rw [List.mem_singleton.1 hf]; show (⟨#[117]⟩ : ByteArray).size ≤ _; decide
theorem two_apart (a b : Nat) : ¬ (([] ++ [⟨⟨#[116]⟩, repS a⟩] : List Fd).any (fun g => decide (g.f0 = (⟨⟨#[117]⟩, repS b⟩ : Fd).f0))) = true := by
  show ¬ (decide ((⟨#[116]⟩ : ByteArray) = ⟨#[117]⟩) || false) = true
  decide
theorem two_may (a b : Nat) : mayN (two a b) = if 500 < a ∨ 500 < b ∨ 500 < a + b then 7 else 0 := by
  unfold mayN two
  rw [if_neg (by simp), mayD_cons, if_neg (show ¬ nameB (⟨#[116]⟩ : ByteArray) = false by decide), if_neg (by simp), wordsT_rep, tokE_rep a 0 (by omega), Nat.zero_add]
  by_cases h1 : 500 < a
  · rw [if_pos h1, if_neg (by decide), if_pos (.inl h1)]
  · rw [if_neg h1, if_pos rfl, mayD_cons, if_neg (show ¬ nameB (⟨#[117]⟩ : ByteArray) = false by decide), if_neg (two_apart a b), wordsT_rep, tokE_rep b 0 (by omega), Nat.zero_add]
    by_cases h2 : 500 < b
    · rw [if_pos h2, if_neg (by decide), if_pos (.inr (.inl h2))]
    · rw [if_neg h2, if_pos rfl, mayD_nil, List.length_replicate, List.length_replicate, Nat.zero_add]
      by_cases h3 : 500 < a + b
      · rw [if_pos h3, if_pos (.inr (.inr h3))]
      · rw [if_neg h3, if_neg (by omega)]
theorem two_occ (a b : Nat) : (occ (two a b)).length = a + b := by
  unfold occ two
  rw [List.flatMap_cons, List.flatMap_cons, List.flatMap_nil, List.append_nil, List.length_append, occF_len, occF_len, wordsT_rep, wordsT_rep, List.length_replicate, List.length_replicate]
theorem words_tail (a b : Nat) (ha : a < 511) (hb : b < 511) (y : Bool) (hy : (y = true ↔ (500 < a ∨ 500 < b ∨ 500 < a + b))) : Ev (fun k => concordancelaw08_DocWords.j2 k (a : Int) (b : Int) 0 y 0 (two a b)) true := by
  have hm := two_may a b
  have hf : doc_May.f 0 (two a b) = some (mayN (two a b)) := if_pos (two_ok a b ha hb)
  refine Ev.step (fun k => by rw [concordancelaw08_DocWords.j2]) ?_
  by_cases h : 500 < a ∨ 500 < b ∨ 500 < a + b
  · rw [if_pos h] at hm
    rw [hm] at hf
    refine Ev.pos (hy.2 h) ?_
    refine Ev.const hf ?_
    exact Ev.pos rfl (Ev.neg (by decide) (Ev.bind lives_ev (Ev.ret rfl)))
  · rw [if_neg h] at hm
    rw [hm] at hf
    refine Ev.neg (fun q => h (hy.1 q)) ?_
    refine Ev.const hf ?_
    refine Ev.pos rfl (Ev.pos rfl ?_)
    refine Ev.const (show doc_Weight.f 0 (two a b) = some _ from if_pos (two_ok a b ha hb).1) ?_
    exact Ev.pos (by rw [two_occ, wrap_small _ (by omega)]; push_cast; rfl) (Ev.bind lives_ev (Ev.ret rfl))
theorem doc_words_ev (n m : Int) (hn : -9223372036854775808 ≤ n ∧ n ≤ 9223372036854775807) (hm : -9223372036854775808 ≤ m ∧ m ≤ 9223372036854775807) : Ev (fun k => concordancelaw08_DocWords.f k n m) true := by
  have tail : ∀ n m : Int, 0 ≤ n → 0 ≤ m → Ev (fun k => concordancelaw08_DocWords.j1 k n m) true := by
    intro n m h0 h1
    obtain ⟨a, ea, ha⟩ := tmod_lt h0
    obtain ⟨b, eb, hb⟩ := tmod_lt h1
    refine Ev.step (fun k => by rw [concordancelaw08_DocWords.j1, ea, eb]) ?_
    refine Ev.bind (words_ev a (by omega)) (Ev.bind (words_ev b (by omega)) (Ev.const (a := two a b) rfl ?_))
    by_cases h2 : 500 < a
    · exact Ev.pos (by omega) (words_tail a b ha hb true ⟨fun _ => .inl h2, fun _ => rfl⟩)
    · refine Ev.neg (by omega) ?_
      by_cases h3 : 500 < b
      · exact Ev.pos (by omega) (words_tail a b ha hb true ⟨fun _ => .inr (.inl h3), fun _ => rfl⟩)
      · refine Ev.neg (by omega) ?_
        refine words_tail a b ha hb _ ?_
        rw [wrap_small _ (by omega), decide_eq_true_eq]
        omega
  have mid : ∀ n : Int, 0 ≤ n → Ev (fun k => concordancelaw08_DocWords.j0 k n m) true := by
    intro n h0
    refine Ev.step (fun k => by rw [concordancelaw08_DocWords.j0]) ?_
    by_cases h1 : m < 0
    · exact Ev.pos h1 (tail _ _ h0 (turn_nonneg m hm h1))
    · exact Ev.neg h1 (tail _ _ h0 (by omega))
  unfold concordancelaw08_DocWords.f
  by_cases h1 : n < 0
  · exact Ev.pos h1 (mid _ (turn_nonneg n hn h1))
  · exact Ev.neg h1 (mid _ (by omega))
theorem i64_in {n : Int} (h : (Lit.int .i64 n).wf = true) : -9223372036854775808 ≤ n ∧ n ≤ 9223372036854775807 := by
  have hnb : IntKind.i64.min ≤ n ∧ n ≤ IntKind.i64.max := by simpa [Lit.wf] using h
  exact hnb
theorem docWords_walk (n m : Int) (w : World) (hn : (Lit.int .i64 n).wf = true) (hm : (Lit.int .i64 m).wf = true) :
    Calls Tryd.prog 3 #[.int .i64 n, .int .i64 m] w fun e w' => e = .returned (.bool true) ∧ Below w.heap.size w w' := by
  obtain ⟨k, hk⟩ := (doc_words_ev n m (i64_in hn) (i64_in hm)).rounds
  exact concordancelaw08_DocWords.calls k n m true w hk
end Go.Proofs.YtbbfilmajiilhaaDoor
