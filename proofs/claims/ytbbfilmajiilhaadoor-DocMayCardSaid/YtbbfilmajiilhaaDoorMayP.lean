/- Names and words of a document that may be: plain, and the print's functions of them. No condition. -/
import Derived.Test.YtbbfilmajiilhaaDoorDocP
import Derived.Test.YtbbfilmajiilhaaDoorPAllxT
import Derived.Test.YtbbfilmajiilhaaDoorPAllx8
set_option linter.unusedVariables false
set_option linter.unusedSimpArgs false
namespace Go.Proofs.YtbbfilmajiilhaaDoor
open Go.RowKit Go.Proofs.YtbbfilmajiilhaaDoor.PAll Go.Proofs.YtbbfilmajiilhaaDoorW.PrintWords Go.Proofs.YtbbfilmajiilhaaDoorW.PrintLast

/-! ### the error of a text's words -/
def tokE : List ByteArray → Nat → Int
  | [], _ => 0
  | x :: W, i => if 30 < x.size then 3 else if 500 ≤ i then 7 else tokE W (i + 1)
theorem wtok_loop (W : List ByteArray) (hW : W.length ≤ 1000000000) (d : Nat) : ∀ (i : Nat) (acc : List S59), i + d = W.length → acc.length = i → i ≤ 500 →
    ∃ r : List S59, Ev (fun k => word_Tokens.l0 k acc W (W.length : Int) (i : Int)) (r, tokE (W.drop i) i) ∧ (tokE (W.drop i) i = 0 → r.length = W.length) := by
  induction d with
  | zero =>
    intro i acc hi ha _
    rw [List.drop_eq_nil_of_le (by omega)]
    refine ⟨acc, Ev.step (fun k => by rw [word_Tokens.l0]) ?_, fun _ => by omega⟩
    exact Ev.neg (by omega) (Ev.ret rfl)
  | succ d ih =>
    intro i acc hi ha h5
    have hil : i < W.length := by omega
    have hrd := rdS_nat W i hil
    rw [List.drop_eq_getElem_cons hil]
    by_cases h2 : 30 < W[i].size
    · have e : tokE (W[i] :: W.drop (i + 1)) i = 3 := if_pos h2
      rw [e]
      exact ⟨[], Ev.step (fun k => by rw [word_Tokens.l0, hrd]) (Ev.pos (by omega) (Ev.pos (by omega) (Ev.pos (by omega) (Ev.pos (by omega) (Ev.ret rfl))))), fun h => by cases h⟩
    · by_cases h3 : i = 500
      · have e : tokE (W[i] :: W.drop (i + 1)) i = 7 := (if_neg h2).trans (if_pos (by omega))
        rw [e]
        exact ⟨[], Ev.step (fun k => by rw [word_Tokens.l0, hrd]) (Ev.pos (by omega) (Ev.pos (by omega) (Ev.pos (by omega) (Ev.neg (by omega) (Ev.pos (by omega) (Ev.ret rfl)))))), fun h => by cases h⟩
      · have e : tokE (W[i] :: W.drop (i + 1)) i = tokE (W.drop (i + 1)) (i + 1) := (if_neg h2).trans (if_neg (by omega))
        rw [e]
        obtain ⟨r, hr, h4⟩ := ih (i + 1) (acc ++ [⟨W[i], (i : Int)⟩]) (by omega) (by simp; omega) (by omega)
        exact ⟨r, Ev.step (fun k => by rw [word_Tokens.l0, hrd, wrap_nat i (by omega)]) (Ev.pos (by omega) (Ev.pos (by omega) (Ev.pos (by omega) (Ev.neg (by omega) (Ev.neg (by omega) (Ev.pos (by omega) hr)))))), h4⟩
theorem wtok_ev (s : ByteArray) (hs : s.size ≤ 100000000) : ∃ r : List S59, Ev (fun k => word_Tokens.f k s) (r, tokE (wordsT s) 0) ∧ (tokE (wordsT s) 0 = 0 → r.length = (wordsT s).length) := by
  have hl := wordsT_len s
  obtain ⟨r, h1, h2⟩ := wtok_loop (wordsT s) (by omega) (wordsT s).length 0 [] (by omega) rfl (by omega)
  refine ⟨r, ?_, h2⟩
  unfold word_Tokens.f
  exact Ev.const (show word_Words.f s = some (wordsT s) from if_pos (by omega)) h1

/-! ### names -/
theorem dw_nil {α : Type} (p : α → Bool) : ∀ l : List α, l.dropWhile p = [] ↔ ∀ x ∈ l, p x = true
  | [] => by simp
  | a :: l => by
    rw [List.dropWhile_cons]
    by_cases h : p a = true
    · rw [if_pos h, dw_nil p l]
      constructor
      · intro q x hx
        rcases List.mem_cons.1 hx with rfl | hx
        · exact h
        · exact q x hx
      · exact fun q x hx => q x (List.mem_cons_of_mem _ hx)
    · rw [if_neg h]
      constructor
      · intro q; cases q
      · exact fun q => absurd (q a List.mem_cons_self) h
theorem dw_head {α : Type} (p : α → Bool) : ∀ (l : List α) (a : α) (r : List α), l.dropWhile p = a :: r → p a = false
  | [], _, _, h => by cases h
  | b :: l, a, r, h => by
    rw [List.dropWhile_cons] at h
    by_cases hb : p b = true
    · rw [if_pos hb] at h; exact dw_head p l a r h
    · rw [if_neg hb] at h
      cases h
      simpa using hb
theorem trim_nil {α : Type} (p : α → Bool) (l : List α) : (l.reverse.dropWhile p).reverse.dropWhile p = [] ↔ ∀ x ∈ l, p x = true := by
  constructor
  · intro h
    cases hR : l.reverse.dropWhile p with
    | nil => exact fun x hx => (dw_nil p _).1 hR x (List.mem_reverse.2 hx)
    | cons a r =>
      have h1 := dw_head p _ a r hR
      have h2 := (dw_nil p _).1 h a (by rw [hR]; simp)
      rw [h1] at h2; cases h2
  · intro h
    rw [(dw_nil p _).2 (fun x hx => h x (List.mem_reverse.1 hx))]
    rfl
def smallS : ByteArray := ⟨#[97, 98, 99, 100, 101, 102, 103, 104, 105, 106, 107, 108, 109, 110, 111, 112, 113, 114, 115, 116, 117, 118, 119, 120, 121, 122]⟩
theorem small_low (c : UInt8) : smallS.data.toList.contains c = lowB c := by
  have h : ∀ n : Fin 256, smallS.data.toList.contains (UInt8.ofNat n.val) = lowB (UInt8.ofNat n.val) := by decide +kernel
  have := h ⟨c.toNat, c.toNat_lt⟩
  rwa [UInt8.ofNat_toNat] at this
theorem name_f (s : ByteArray) (hs : s.size ≤ 9223372036854775807) : doc_Name.f s = some (nameB s) := by
  unfold doc_Name.f nameB
  by_cases h0 : s.toList = []
  · rw [if_pos h0]
    have : s.size = 0 := by rw [ByteArray.toList_eq] at h0; rw [← size_data, h0]; rfl
    rw [decide_eq_false (show ¬ 1 ≤ s.size by omega), Bool.false_and, Bool.and_false]
  · rw [if_neg h0]
    have h1 : 1 ≤ s.size := by
      rcases Nat.eq_zero_or_pos s.size with h | h
      · exfalso; apply h0; rw [ByteArray.toList_eq]; exact List.eq_nil_of_length_eq_zero (by rw [size_data]; exact h)
      · exact h
    by_cases h2 : (s.size : Int) ≤ 12
    · rw [if_pos h2, decide_eq_true h1, decide_eq_true (show s.size ≤ 12 by omega), Bool.true_and, Bool.and_true]
      rw [show strings_Trim.f s ⟨#[97, 98, 99, 100, 101, 102, 103, 104, 105, 106, 107, 108, 109, 110, 111, 112, 113, 114, 115, 116, 117, 118, 119, 120, 121, 122]⟩ = some ⟨(Lib.trimS s.data.toList smallS.data.toList).toArray⟩ from if_pos ⟨hs, by decide, by decide⟩]
      show some _ = some _
      congr 1
      rw [ByteArray.toList_eq]
      have e : ((⟨(Lib.trimS s.data.toList smallS.data.toList).toArray⟩ : ByteArray).data.toList) = Lib.trimS s.data.toList smallS.data.toList := rfl
      rw [e]
      have hp : (fun x => smallS.data.toList.contains x) = lowB := funext small_low
      have ht : Lib.trimS s.data.toList smallS.data.toList = (s.data.toList.reverse.dropWhile lowB).reverse.dropWhile lowB := by
        unfold Lib.trimS Lib.trimLeftS Lib.trimRightS
        rw [hp]
      rw [ht]
      cases ha : s.data.toList.all lowB with
      | true => rw [(trim_nil lowB _).2 (List.all_eq_true.1 ha)]; rfl
      | false =>
        rw [beq_eq_false_iff_ne]
        intro h
        rw [List.all_eq_true.2 ((trim_nil lowB _).1 h)] at ha
        cases ha
    · rw [if_neg h2, decide_eq_false (show ¬ s.size ≤ 12 by omega), Bool.and_false, Bool.and_false]

/-! ### which documents may be -/
def mayD : List Fd → List Fd → Nat → Int
  | _, [], n => if 500 < n then 7 else 0
  | seen, f :: r, n => if nameB f.f0 = false then 4 else if seen.any (fun g => decide (g.f0 = f.f0)) = true then 5 else if tokE (wordsT f.f1) 0 = 0 then mayD (seen ++ [f]) r (n + (wordsT f.f1).length) else tokE (wordsT f.f1) 0
theorem mayD_nil (seen : List Fd) (n : Nat) : mayD seen [] n = if 500 < n then 7 else 0 := by rw [mayD]
theorem mayD_cons (seen : List Fd) (f : Fd) (r : List Fd) (n : Nat) : mayD seen (f :: r) n = if nameB f.f0 = false then 4 else if seen.any (fun g => decide (g.f0 = f.f0)) = true then 5 else if tokE (wordsT f.f1) 0 = 0 then mayD (seen ++ [f]) r (n + (wordsT f.f1).length) else tokE (wordsT f.f1) 0 := by rw [mayD]
def mayN (l : List Fd) : Int := if 8 < l.length then 7 else mayD [] l 0
end Go.Proofs.YtbbfilmajiilhaaDoor
