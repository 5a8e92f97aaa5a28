/- Names of lists, plain: put one by one, or sorted, each once: one list. No condition. -/
import Derived.Test.YtlghcfhmfbdidaaSorted
import Derived.Test.YtlghcfhmfbdidaaDictPlain
namespace Go.Proofs.Ytlghcfhmfbdidaa
open Go.RowKit Go.Shelf Go.Sort Go.Proofs.Ytlghcfhmfbdidaa.PAll Go.Proofs.YtlghcfhmfbdidaaW.PrintWords Go.Proofs.YtlghcfhmfbdidaaW.PrintLast

theorem less_lt : ∀ (x y : List UInt8), Op.bytesLess x y = decide (x < y)
  | [], [] => by simp [Op.bytesLess]
  | [], _ :: _ => by simp [Op.bytesLess]
  | _ :: _, [] => by simp [Op.bytesLess]
  | a :: x, b :: y => by
    have ih := less_lt x y
    unfold Op.bytesLess
    rw [ih, Bool.eq_iff_iff]
    simp [List.cons_lt_cons_iff]
theorem le_less (x y : List UInt8) : decide (x ≤ y) = !Op.bytesLess y x := by
  rw [less_lt, Bool.eq_iff_iff]
  simp [List.not_lt]
/-- Rising, each once. -/
def Rise (l : List (List UInt8)) : Prop := l.Pairwise (fun a b => Op.bytesLess a b = true)
theorem Rise.nodup {l : List (List UInt8)} (h : Rise l) : l.Nodup := by
  refine List.Pairwise.imp ?_ h
  intro a b hab e
  subst e
  rw [less_irr] at hab; cases hab
theorem Rise.unique {l m : List (List UInt8)} (h : Rise l) (k : Rise m) (hm : ∀ x, x ∈ l ↔ x ∈ m) : l = m := by
  have hp : l.Perm m := (List.perm_ext_iff_of_nodup h.nodup k.nodup).2 hm
  exact hp.eq_of_pairwise (fun a b _ _ h1 h2 => by rw [less_as h1] at h2; cases h2) h k
/-- A sorted list without its twins. -/
theorem compact_spec (zs : List (List UInt8)) (hs : zs.Pairwise (fun a b => decide (a ≤ b) = true)) : ∀ m, m ≤ zs.length →
    Rise (Lib.compactUpTo zs.toArray m) ∧ (∀ x, x ∈ Lib.compactUpTo zs.toArray m ↔ x ∈ zs.take m) ∧ (∀ (h : m - 1 < zs.length), 0 < m → ∀ x, x ∈ Lib.compactUpTo zs.toArray m → Op.bytesLess zs[m - 1] x = false)
  | 0, _ => ⟨by simp [Lib.compactUpTo, Rise], by simp [Lib.compactUpTo], fun _ h => by omega⟩
  | m + 1, hm => by
    obtain ⟨h1, h2, h3⟩ := compact_spec zs hs m (by omega)
    have hml : m < zs.length := by omega
    have hget : zs.toArray[m]! = zs[m] := by simp [getElem!_pos, hml]
    rw [Lib.compactUpTo_succ, hget]
    have hle : 0 < m → Op.bytesLess zs[m] (zs[m - 1]'(by omega)) = false := fun h0 => by
      have := List.pairwise_iff_getElem.1 hs (m - 1) m (by omega) hml (by omega)
      rw [le_less] at this
      simpa using this
    have htake : zs.take (m + 1) = zs.take m ++ [zs[m]] := List.take_succ_eq_append_getElem hml
    by_cases hk : Lib.keeps zs.toArray m = true
    · rw [if_pos hk]
      have hlt : ∀ x, x ∈ Lib.compactUpTo zs.toArray m → Op.bytesLess x zs[m] = true := by
        intro x hx
        have h0 : 0 < m := by
          rcases Nat.eq_zero_or_pos m with rfl | h
          · simp [Lib.compactUpTo] at hx
          · exact h
        have hne : zs[m] ≠ zs[m - 1]'(by omega) := by
          intro e
          have := Lib.keeps_neg (d := zs.toArray) h0 (by rw [hget, e]; simp [getElem!_pos, show m - 1 < zs.length by omega])
          rw [this] at hk; cases hk
        have h5 := h3 (by omega) h0 x hx
        have h6 : Op.bytesLess (zs[m - 1]'(by omega)) zs[m] = true := by
          cases hb : Op.bytesLess (zs[m - 1]'(by omega)) zs[m]
          · exact absurd (eq_of_less (hle h0) hb) hne
          · rfl
        cases hb : Op.bytesLess x zs[m]
        · exfalso
          by_cases e : x = zs[m]
          · rw [e] at h5; rw [h5] at h6; cases h6
          · have h7 : Op.bytesLess zs[m] x = true := by
              cases hb2 : Op.bytesLess zs[m] x
              · exact absurd (eq_of_less hb hb2) e
              · rfl
            have := less_tr h6 h7
            rw [this] at h5; cases h5
        · rfl
      refine ⟨List.pairwise_append.2 ⟨h1, by simp, fun a ha b hb => ?_⟩, fun x => ?_, fun _ _ x hx => ?_⟩
      · obtain rfl : b = zs[m] := by simpa using hb
        exact hlt a ha
      · rw [htake, List.mem_append, List.mem_append, h2]
      · rw [List.mem_append] at hx
        rcases hx with hx | hx
        · exact less_as (hlt x hx)
        · obtain rfl : x = zs[m] := by simpa using hx
          exact less_irr _
    · rw [if_neg hk, List.append_nil]
      have h0 : 0 < m := by
        rcases Nat.eq_zero_or_pos m with rfl | h
        · exact absurd (Lib.keeps_lt_one _ 0 (by omega)) hk
        · exact h
      have he : zs[m] = zs[m - 1]'(by omega) := by
        by_cases e : zs[m] = zs[m - 1]'(by omega)
        · exact e
        · exfalso
          apply hk
          apply Lib.keeps_pos
          rw [hget]
          simpa [getElem!_pos, show m - 1 < zs.length by omega] using e
      refine ⟨h1, fun x => ?_, fun _ _ x hx => ?_⟩
      · rw [htake, List.mem_append, h2, List.mem_singleton]
        constructor
        · exact .inl
        · rintro (h | h)
          · exact h
          · rw [h, he]
            rw [List.mem_take_iff_getElem]
            exact ⟨m - 1, by omega, rfl⟩
      · show Op.bytesLess zs[m] x = false
        rw [he]; exact h3 (by omega) h0 x hx
theorem sortedU_chars (l : List ByteArray) : Rise (chars (sortedU l)) ∧ ∀ x, x ∈ chars (sortedU l) ↔ x ∈ chars l := by
  unfold sortedU
  rw [chars_un]
  have hs : ((chars l).mergeSort fun x y => decide (x ≤ y)).Pairwise (fun a b => decide (a ≤ b) = true) := by
    apply List.pairwise_mergeSort
    · intro a b c h1 h2
      simp only [le_less, Bool.not_eq_true'] at *
      cases hb : Op.bytesLess c a
      · rfl
      · exfalso
        by_cases e : b = a
        · subst e; rw [hb] at h2; cases h2
        · have h3 : Op.bytesLess a b = true := by
            cases hb2 : Op.bytesLess a b
            · exact absurd (eq_of_less h1 hb2) e
            · rfl
          have := less_tr hb h3
          rw [this] at h2; cases h2
    · intro a b
      simp only [le_less]
      cases h1 : Op.bytesLess b a
      · rfl
      · rw [less_as h1]; rfl
  obtain ⟨h1, h2, _⟩ := compact_spec _ hs _ (Nat.le_refl _)
  refine ⟨h1, fun x => ?_⟩
  have := h2 x
  rw [List.take_length, List.mem_mergeSort] at this
  exact this

theorem toList_inj {a b : ByteArray} (h : a.data.toList = b.data.toList) : a = b := by
  obtain ⟨a⟩ := a; obtain ⟨b⟩ := b
  simp only at h
  congr 1
  exact Array.toList_inj.1 h
theorem toList_data (a : ByteArray) : a.toList = a.data.toList := Lib.toList_data a
theorem chars_inj {l m : List ByteArray} (h : chars l = chars m) : l = m := by
  have := congrArg unchars h
  rwa [un_chars, un_chars] at this
theorem Up.rise {l : List ByteArray} (h : Up l) : Rise (chars l) := by
  unfold Rise chars
  rw [List.pairwise_map, List.pairwise_iff_getElem]
  intro i j hi hj hij
  have := h i j hij hj
  rw [nth_eq l i hi, nth_eq l j hj] at this
  unfold lt at this
  rwa [toList_data, toList_data] at this
theorem putM_mem (l : List ByteArray) (n x : ByteArray) : x ∈ putM l n ↔ x = n ∨ x ∈ l := by
  unfold putM
  split
  · rename_i h
    rw [Bool.and_eq_true, decide_eq_true_iff, beq_iff_eq] at h
    constructor
    · exact .inr
    · rintro (rfl | h2)
      · obtain ⟨h4, h3⟩ := h
        rw [nth_eq l _ h4, toList_data, toList_data] at h3
        have h5 := List.getElem_mem h4
        rw [toList_inj h3] at h5
        exact h5
      · exact h2
  · rw [List.mem_append, List.mem_append, List.mem_singleton]
    conv => rhs; rw [← List.take_append_drop (plN l n) l, List.mem_append]
    constructor
    · rintro ((h | h) | h)
      · exact .inr (.inl h)
      · exact .inl h
      · exact .inr (.inr h)
    · rintro (h | h | h)
      · exact .inl (.inr h)
      · exact .inl (.inl h)
      · exact .inr h
/-- All put, one by one. -/
def putAll (l xs : List ByteArray) : List ByteArray := xs.foldl putM l
theorem putAll_up : ∀ (xs l : List ByteArray), Up l → Up (putAll l xs)
  | [], _, h => h
  | x :: xs, l, h => putAll_up xs (putM l x) (h.put x)
theorem putAll_mem : ∀ (xs l : List ByteArray) (x : ByteArray), x ∈ putAll l xs ↔ x ∈ l ∨ x ∈ xs
  | [], l, x => by simp [putAll]
  | y :: xs, l, x => by
    rw [show putAll l (y :: xs) = putAll (putM l y) xs from rfl, putAll_mem xs, putM_mem, List.mem_cons]
    constructor
    · rintro ((h | h) | h)
      · exact .inr (.inl h)
      · exact .inl h
      · exact .inr (.inr h)
    · rintro (h | h | h)
      · exact .inl (.inr h)
      · exact .inl (.inl h)
      · exact .inr h
theorem putAll_len : ∀ (xs l : List ByteArray), (putAll l xs).length ≤ l.length + xs.length
  | [], l => by simp [putAll]
  | y :: xs, l => by
    have h1 := putAll_len xs (putM l y)
    have h2 := (putM_len l y).1
    rw [show putAll l (y :: xs) = putAll (putM l y) xs from rfl, List.length_cons]; omega
theorem sorted_eq (xs : List ByteArray) : sortedU xs = putAll [] xs := by
  apply chars_inj
  obtain ⟨h1, h2⟩ := sortedU_chars xs
  refine h1.unique (Up.rise (putAll_up xs [] (fun i j _ h => by simp at h))) (fun x => ?_)
  rw [h2]
  unfold chars
  rw [List.mem_map, List.mem_map]
  constructor
  · rintro ⟨a, ha, rfl⟩
    exact ⟨a, (putAll_mem xs [] a).2 (.inr ha), rfl⟩
  · rintro ⟨a, ha, rfl⟩
    rcases (putAll_mem xs [] a).1 ha with h | h
    · cases h
    · exact ⟨a, h, rfl⟩
end Go.Proofs.Ytlghcfhmfbdidaa
