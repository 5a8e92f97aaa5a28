/- Sets of numbers as bits: the document's answers, as plain functions. -/
import Derived.Test.YtfoheajcahiceaaDoorNext
import Derived.Test.YtfoheajcahiceaaDoorEv
import Derived.Test.YtfoheajcahiceaaDoorPAllx2
namespace Go.Proofs.YtfoheajcahiceaaDoor
open Go.RowKit Go.Proofs.YtfoheajcahiceaaDoor.PAll Go.Proofs.YtfoheajcahiceaaDoorW.PrintWords Go.Proofs.YtfoheajcahiceaaDoorW.PrintLast Go.Proofs.YtfoheajcahiceaaDoorW.PrintMore

theorem rdOf_bit (r : List Bool) (i : Nat) : rdOf false r (i : Int) = bit r i := rfl
theorem rdOf_bit' (r : List Bool) (i : Int) : rdOf false r i = bit r i.toNat := rfl
theorem ref_has (r : List Bool) (i : Int) : concordanceref03_Has.f r i = some (hasB r i) := by
  unfold concordanceref03_Has.f hasB
  by_cases h0 : 0 ≤ i
  · by_cases h1 : i < r.length
    · rw [if_pos h0, if_pos h1, if_pos h0, rdOf_bit', decide_eq_true h0, decide_eq_true h1]; rfl
    · rw [if_pos h0, if_neg h1, decide_eq_true h0, decide_eq_false h1]; rfl
  · rw [if_neg h0, decide_eq_false h0]; rfl
theorem ref_turn (r : List Bool) (i : Int) (b : Bool) (hl : r.length ≤ 100000) : concordanceref03_Turn.f r i b = some (turnB r i (!b)) := by
  unfold concordanceref03_Turn.f turnB
  by_cases h0 : i < 0
  · rw [if_pos h0, if_neg (by omega)]
  · by_cases h1 : i ≥ (r.length : Int)
    · rw [if_neg h0, if_pos h1, if_neg (by omega)]
    · rw [if_neg h0, if_neg h1, if_pos (by omega), if_pos (by omega), rdOf_bit']
      by_cases h2 : bit r i.toNat = b
      · rw [if_pos (by simpa using h2), if_neg (by rintro ⟨_, _, h⟩; rw [h2] at h; cases b <;> cases h)]
      · rw [if_neg (by simpa using h2), if_pos (by simp; omega)]
        have hb : bit r i.toNat = !b := by cases b <;> cases hh : bit r i.toNat <;> simp_all
        rw [if_pos ⟨by omega, by omega, hb⟩]
        simp only [List.nil_append, Option.bind_some, Bool.not_not]
        rw [if_pos (by omega)]
theorem ref_next_go (r : List Bool) (a : Int) (hl : r.length ≤ 100000) : ∀ (m i k : Nat), i + m = r.length → m < k → (∀ l, a.toNat ≤ l → l < i → bit r l = false) → concordanceref03_Next.l0 k r a (i : Int) = some (nextI r a)
  | 0, i, k + 1, h, hk, hp => by
    simp only [concordanceref03_Next.l0]
    rw [if_neg (by omega), nextI_none (fun l h1 => if hh : l < i then hp l h1 hh else bit_out (by omega))]
  | m + 1, i, k + 1, h, hk, hp => by
    have hi : wrap64 ((i : Int) + 1) = ((i + 1 : Nat) : Int) := by rw [wrap_small _ (by omega)]; rfl
    have ih := ref_next_go r a hl m (i + 1) k (by omega) (by omega)
    simp only [concordanceref03_Next.l0]
    rw [if_pos (by omega), if_pos (by omega), rdOf_bit, hi]
    by_cases hb : bit r i = true
    · rw [if_pos hb]
      by_cases ha : (i : Int) ≥ a
      · rw [if_pos ha, nextI_some (by omega) hb hp]
      · rw [if_neg ha, ih (fun l h1 h2 => if hh : l < i then hp l h1 hh else by omega)]
    · have hbf : bit r i = false := Bool.eq_false_iff.2 hb
      rw [if_neg hb, ih (fun l h1 h2 => if hh : l < i then hp l h1 hh else (show l = i by omega) ▸ hbf)]
theorem ref_next (r : List Bool) (a : Int) (hl : r.length ≤ 100000) : ∃ k, concordanceref03_Next.f k r a = some (nextI r a) :=
  ⟨r.length + 1, ref_next_go r a hl r.length 0 _ (by omega) (by omega) (fun l _ h => by omega)⟩
theorem ref_rank_go (r : List Bool) (a : Int) (hl : r.length ≤ 100000) : ∀ (m i k : Nat), i + m = r.length → m < k → concordanceref03_Rank.l0 k r a ((cnt r (min a.toNat i) : Nat) : Int) (i : Int) = some ((cnt r (min a.toNat r.length) : Nat) : Int)
  | 0, i, k + 1, h, hk => by
    simp only [concordanceref03_Rank.l0]
    rw [if_neg (by omega), show i = r.length by omega]
  | m + 1, i, k + 1, h, hk => by
    have hi : wrap64 ((i : Int) + 1) = ((i + 1 : Nat) : Int) := by rw [wrap_small _ (by omega)]; rfl
    have ih := ref_rank_go r a hl m (i + 1) k (by omega) (by omega)
    have hc := cnt_le r (min a.toNat i)
    simp only [concordanceref03_Rank.l0]
    rw [if_pos (by omega), if_pos (by omega), rdOf_bit, hi]
    by_cases hb : bit r i = true
    · rw [if_pos hb]
      by_cases ha : (i : Int) < a
      · rw [if_pos ha, wrap_small _ (by omega), ← ih]
        congr 1
        rw [show min a.toNat (i + 1) = i + 1 by omega, show min a.toNat i = i by omega]
        rw [show cnt r (i + 1) = cnt r i + (bit r i).toNat from rfl, hb]; rfl
      · rw [if_neg ha, ← ih, show min a.toNat (i + 1) = min a.toNat i by omega]
    · rw [if_neg hb, ← ih]
      by_cases ha : (i : Int) < a
      · rw [show min a.toNat (i + 1) = i + 1 by omega, show min a.toNat i = i by omega]
        rw [show cnt r (i + 1) = cnt r i + (bit r i).toNat from rfl, Bool.eq_false_iff.2 hb]; rfl
      · rw [show min a.toNat (i + 1) = min a.toNat i by omega]
theorem ref_rank (r : List Bool) (a : Int) (hl : r.length ≤ 100000) : ∃ k, concordanceref03_Rank.f k r a = some ((cnt r (min a.toNat r.length) : Nat) : Int) := by
  refine ⟨r.length + 1, ?_⟩
  have h := ref_rank_go r a hl r.length 0 (r.length + 1) (by omega) (by omega)
  rw [Nat.min_zero] at h
  exact h
/-- The numbers below i that are in. -/
def insN (r : List Bool) : Nat → List Int
  | 0 => []
  | i + 1 => if bit r i then insN r i ++ [(i : Int)] else insN r i
theorem insN_len (r : List Bool) : ∀ i, (insN r i).length = cnt r i
  | 0 => rfl
  | i + 1 => by
    unfold insN cnt
    cases h : bit r i
    · rw [if_neg (by simp), insN_len r i]; rfl
    · rw [if_pos rfl, List.length_append, insN_len r i]; rfl
theorem ref_list_go (r : List Bool) (hl : r.length ≤ 100000) : ∀ (m i k : Nat), i + m = r.length → m < k → concordanceref03_List.l0 k r (insN r i) (i : Int) = some (insN r r.length)
  | 0, i, k + 1, h, hk => by
    simp only [concordanceref03_List.l0]
    rw [if_neg (by omega), show i = r.length by omega]
  | m + 1, i, k + 1, h, hk => by
    have hi : wrap64 ((i : Int) + 1) = ((i + 1 : Nat) : Int) := by rw [wrap_small _ (by omega)]; rfl
    have ih := ref_list_go r hl m (i + 1) k (by omega) (by omega)
    have hc := cnt_le r i
    simp only [concordanceref03_List.l0]
    rw [if_pos (by omega), if_pos (by omega), rdOf_bit, hi, insN_len]
    rw [show insN r (i + 1) = if bit r i then insN r i ++ [(i : Int)] else insN r i from rfl] at ih
    cases hb : bit r i
    · rw [hb, if_neg (by simp)] at ih
      rw [if_neg (by simp), ih]
    · rw [hb, if_pos rfl] at ih
      rw [if_pos rfl, if_pos (by omega), ih]
theorem ref_list (r : List Bool) (hl : r.length ≤ 100000) : ∃ k, concordanceref03_List.f k r = some (insN r r.length) :=
  ⟨r.length + 1, ref_list_go r hl r.length 0 _ (by omega) (by omega)⟩
theorem ref_same_go (l : List Int) (hl : l.length ≤ 1000000) : ∀ (m i k : Nat), i + m = l.length → m < k → concordanceref01_Same.l0 k l l (i : Int) = some true
  | 0, i, k + 1, h, hk => by
    simp only [concordanceref01_Same.l0]
    rw [if_neg (by omega)]
  | m + 1, i, k + 1, h, hk => by
    have hi : wrap64 ((i : Int) + 1) = ((i + 1 : Nat) : Int) := by rw [wrap_small _ (by omega)]; rfl
    have ih := ref_same_go l hl m (i + 1) k (by omega) (by omega)
    simp only [concordanceref01_Same.l0]
    rw [if_pos (by omega), if_pos (by omega), if_pos (by omega), if_pos trivial, hi, ih]
theorem ref_same (l : List Int) (hl : l.length ≤ 1000000) : ∃ k, concordanceref01_Same.f k l l = some true := by
  refine ⟨l.length + 1, ?_⟩
  unfold concordanceref01_Same.f
  rw [if_pos rfl]
  exact ref_same_go l hl l.length 0 _ (by omega) (by omega)
end Go.Proofs.YtfoheajcahiceaaDoor
