/- Sets of numbers as bits: plain facts on numbers. No program in sight. No condition. -/
import Derived.Test.YtfoheajcahiceaaDoorRows
import Derived.Laws.Bits64b
import Derived.Lib.TrailingZeros
namespace Go.Proofs.YtfoheajcahiceaaDoor

/-- Truths as a number, the first one least. -/
def pack (f : Nat → Bool) : Nat → Nat
  | 0 => 0
  | n + 1 => (f 0).toNat + 2 * pack (fun j => f (j + 1)) n
theorem pack_lt : ∀ (n : Nat) (f : Nat → Bool), pack f n < 2 ^ n
  | 0, f => by simp [pack]
  | n + 1, f => by
    have := pack_lt n (fun j => f (j + 1))
    have h2 : (f 0).toNat ≤ 1 := Bool.toNat_le _
    unfold pack; rw [Nat.pow_succ]; omega
theorem pack_bit : ∀ (n : Nat) (f : Nat → Bool) (j : Nat), (pack f n).testBit j = (decide (j < n) && f j)
  | 0, f, j => by simp [pack]
  | n + 1, f, j => by
    unfold pack
    cases j with
    | zero =>
      rw [Nat.testBit_zero]
      have h2 : (f 0).toNat ≤ 1 := Bool.toNat_le _
      cases f 0 <;> simp <;> omega
    | succ j =>
      rw [Nat.testBit_succ]
      have h2 : (f 0).toNat ≤ 1 := Bool.toNat_le _
      have e : ((f 0).toNat + 2 * pack (fun j => f (j + 1)) n) / 2 = pack (fun j => f (j + 1)) n := by omega
      rw [e, pack_bit n]
      simp
theorem pack_eq {n x : Nat} {f : Nat → Bool} (hx : x < 2 ^ n) (h : ∀ j, j < n → x.testBit j = f j) : x = pack f n := by
  apply Nat.eq_of_testBit_eq
  intro j
  rw [pack_bit]
  by_cases hj : j < n
  · rw [h j hj]; simp [hj]
  · rw [Nat.testBit_lt_two_pow (Nat.lt_of_lt_of_le hx (Nat.pow_le_pow_right (by decide) (by omega)))]; simp [hj]
theorem pack_ext {n : Nat} {f g : Nat → Bool} (h : ∀ j, j < n → f j = g j) : pack f n = pack g n :=
  pack_eq (pack_lt n f) (fun j hj => by rw [pack_bit]; simp [hj, h j hj])

/-- A set's bit; beyond its end false. -/
def bit (r : List Bool) (i : Nat) : Bool := r.getD i false
theorem bit_out {r : List Bool} {i : Nat} (h : r.length ≤ i) : bit r i = false := by unfold bit; simp [h]
theorem bit_set (r : List Bool) (i j : Nat) (b : Bool) (h : i < r.length) : bit (r.set i b) j = if j = i then b else bit r j := by
  unfold bit
  by_cases hj : j = i
  · subst hj; simp [h]
  · rw [if_neg hj]
    simp [List.getD_eq_getElem?_getD, Ne.symm hj]
/-- A word of a set. -/
def wordN (r : List Bool) (k : Nat) : Nat := pack (fun j => bit r (64 * k + j)) 64
def nW (n : Nat) : Nat := (n + 63) / 64
def wordsOf (r : List Bool) : List Int := (List.range (nW r.length)).map (fun k => ((wordN r k : Nat) : Int))
theorem wordsOf_len (r : List Bool) : (wordsOf r).length = nW r.length := by unfold wordsOf; simp
theorem wordN_lt (r : List Bool) (k : Nat) : wordN r k < 18446744073709551616 := pack_lt 64 _
theorem wordN_bit (r : List Bool) (k j : Nat) (h : j < 64) : (wordN r k).testBit j = bit r (64 * k + j) := by unfold wordN; rw [pack_bit]; simp [h]
theorem wordsOf_get (r : List Bool) (k : Nat) (h : k < nW r.length) : (wordsOf r)[k]? = some ((wordN r k : Nat) : Int) := by unfold wordsOf; simp [h]
theorem wordN_out {r : List Bool} {k : Nat} (h : nW r.length ≤ k) : wordN r k = 0 := by
  have : ∀ j, j < 64 → (0 : Nat).testBit j = bit r (64 * k + j) := fun j hj => by
    rw [bit_out (by unfold nW at h; omega)]; simp
  exact (pack_eq (by decide) this).symm
/-- A list of words is a set's, if each is. -/
theorem wordsOf_eq {r : List Bool} {ws : List Int} (hl : ws.length = nW r.length) (h : ∀ k, k < nW r.length → ws[k]? = some ((wordN r k : Nat) : Int)) : ws = wordsOf r := by
  apply List.ext_getElem?
  intro k
  by_cases hk : k < nW r.length
  · rw [h k hk, wordsOf_get r k hk]
  · rw [List.getElem?_eq_none (by omega), List.getElem?_eq_none (by rw [wordsOf_len]; omega)]
theorem wordsOf_none (n : Nat) : List.replicate (nW n) (0 : Int) = wordsOf (List.replicate n false) := by
  apply wordsOf_eq
  · simp
  · intro k hk
    simp at hk
    have : wordN (List.replicate n false) k = 0 := by
      have : ∀ j, j < 64 → (0 : Nat).testBit j = bit (List.replicate n false) (64 * k + j) := fun j hj => by
        unfold bit
        simp [List.getElem?_replicate]
        split <;> simp
      exact (pack_eq (by decide) this).symm
    simp [hk, this]
theorem word_xor (r : List Bool) (i k : Nat) (h : i < r.length) (hk : k = i / 64) : wordN r k ^^^ 2 ^ (i % 64) = wordN (r.set i (!bit r i)) k := by
  apply pack_eq
  · exact Nat.xor_lt_two_pow (wordN_lt r k) (Nat.pow_lt_pow_right (by decide) (Nat.mod_lt i (by decide)))
  · intro j hj
    rw [Nat.testBit_xor, wordN_bit r k j hj, Nat.testBit_two_pow, bit_set _ _ _ _ h]
    by_cases hji : i % 64 = j
    · have : 64 * k + j = i := by omega
      simp [hji, this]
    · have : 64 * k + j ≠ i := by omega
      simp [hji, this]
theorem wordsOf_set (r : List Bool) (i : Nat) (h : i < r.length) : (wordsOf r).set (i / 64) (((wordN r (i / 64)) ^^^ 2 ^ (i % 64) : Nat) : Int) = wordsOf (r.set i (!bit r i)) := by
  apply wordsOf_eq
  · simp [wordsOf_len]
  · intro k hk
    rw [List.length_set] at hk
    rw [word_xor r i _ h rfl]
    rw [List.getElem?_set]
    by_cases hki : i / 64 = k
    · subst hki; simp [wordsOf_len, hk]
    · have e : wordN (r.set i (!bit r i)) k = wordN r k := pack_ext (fun j hj => by rw [bit_set _ _ _ _ h, if_neg (by omega)])
      rw [if_neg hki, wordsOf_get r k hk, e]

/-- How many are below i. -/
def cnt (r : List Bool) : Nat → Nat
  | 0 => 0
  | i + 1 => cnt r i + (bit r i).toNat
def sumB (f : Nat → Bool) : Nat → Nat
  | 0 => 0
  | n + 1 => (f 0).toNat + sumB (fun j => f (j + 1)) n
theorem sumB_ext : ∀ {n : Nat} {f g : Nat → Bool}, (∀ j, j < n → f j = g j) → sumB f n = sumB g n
  | 0, f, g, h => rfl
  | n + 1, f, g, h => by unfold sumB; rw [h 0 (by omega), sumB_ext (fun j hj => h (j + 1) (by omega))]
theorem sumB_add : ∀ (m n : Nat) (f : Nat → Bool), sumB f (m + n) = sumB f m + sumB (fun j => f (m + j)) n
  | 0, n, f => by simp [sumB]
  | m + 1, n, f => by
    rw [show m + 1 + n = (m + n) + 1 by omega]
    show (f 0).toNat + sumB (fun j => f (j + 1)) (m + n) = (f 0).toNat + sumB (fun j => f (j + 1)) m + _
    rw [sumB_add m n]
    have : sumB (fun j => f (m + j + 1)) n = sumB (fun j => f (m + 1 + j)) n := sumB_ext (fun j _ => by congr 1; omega)
    rw [this]; omega
theorem sumB_false : ∀ (n : Nat), sumB (fun _ => false) n = 0
  | 0 => rfl
  | n + 1 => by unfold sumB; rw [sumB_false n]; rfl
theorem cnt_sum (r : List Bool) : ∀ n, cnt r n = sumB (bit r) n
  | 0 => rfl
  | n + 1 => by
    rw [sumB_add n 1, ← cnt_sum r n]
    show cnt r n + (bit r n).toNat = _
    simp [sumB]
theorem cnt_word (r : List Bool) (a n : Nat) : cnt r (a + n) = cnt r a + sumB (fun j => bit r (a + j)) n := by rw [cnt_sum, cnt_sum, sumB_add]
theorem cnt_out (r : List Bool) (i : Nat) (h : r.length ≤ i) : cnt r i = cnt r r.length := by
  obtain ⟨m, rfl⟩ : ∃ m, i = r.length + m := ⟨i - r.length, by omega⟩
  rw [cnt_word]
  have : sumB (fun j => bit r (r.length + j)) m = sumB (fun _ => false) m := sumB_ext (fun j _ => bit_out (by omega))
  rw [this, sumB_false]; rfl
theorem cnt_le (r : List Bool) : ∀ i, cnt r i ≤ i
  | 0 => Nat.le_refl _
  | i + 1 => by have := cnt_le r i; have h2 : (bit r i).toNat ≤ 1 := Bool.toNat_le _; unfold cnt; omega
end Go.Proofs.YtfoheajcahiceaaDoor
