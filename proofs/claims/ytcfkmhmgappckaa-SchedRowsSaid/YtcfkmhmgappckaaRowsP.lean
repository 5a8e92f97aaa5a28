/- Tasks that come one behind the other, plain. No condition. -/
import Derived.Test.YtcfkmhmgappckaaSchedI
namespace Go.Proofs.Ytcfkmhmgappckaa.Sc
/-- The task that comes in round i. -/
def tOf (z : List Int) (len n i : Nat) : Nat := if i < len then (if z.getD i 0 < 0 then (-(z.getD i 0 + 1)).toNat else (z.getD i 0).toNat) % n else i % n
theorem tOf_lt (z : List Int) (len n i : Nat) (hn : 0 < n) : tOf z len n i < n := by unfold tOf; split <;> exact Nat.mod_lt _ hn
/-- Who has come. -/
def rowAt (z : List Int) (len n : Nat) : Nat → List Nat
  | 0 => []
  | i + 1 => if tOf z len n i ∈ rowAt z len n i then rowAt z len n i else rowAt z len n i ++ [tOf z len n i]
theorem rowAt_ok (z : List Int) (len n : Nat) (hn : 0 < n) : ∀ i, (rowAt z len n i).Nodup ∧ (∀ t ∈ rowAt z len n i, t < n) ∧ ∀ j, j < i → tOf z len n j ∈ rowAt z len n i
  | 0 => ⟨List.nodup_nil, fun t ht => by simp [rowAt] at ht, fun j hj => by omega⟩
  | i + 1 => by
    obtain ⟨h1, h2, h3⟩ := rowAt_ok z len n hn i
    unfold rowAt
    by_cases e : tOf z len n i ∈ rowAt z len n i
    · rw [if_pos e]
      refine ⟨h1, h2, fun j hj => ?_⟩
      rcases Nat.lt_succ_iff_lt_or_eq.1 hj with h | rfl
      · exact h3 j h
      · exact e
    · rw [if_neg e]
      refine ⟨List.nodup_append.2 ⟨h1, by simp, fun a ha b hb => ?_⟩, fun t ht => ?_, fun j hj => ?_⟩
      · have : b = tOf z len n i := by simpa using hb
        intro e2; rw [e2, this] at ha; exact e ha
      · rcases List.mem_append.1 ht with h | h
        · exact h2 t h
        · have : t = tOf z len n i := by simpa using h
          rw [this]; exact tOf_lt z len n i hn
      · rcases Nat.lt_succ_iff_lt_or_eq.1 hj with h | rfl
        · exact List.mem_append.2 (.inl (h3 j h))
        · exact List.mem_append.2 (.inr (by simp))
theorem rowAt_all (z : List Int) (len n : Nat) (hn : 0 < n) : (rowAt z len n (len + n)).Perm (List.range n) := by
  obtain ⟨h1, h2, h3⟩ := rowAt_ok z len n hn (len + n)
  rw [List.perm_ext_iff_of_nodup h1 List.nodup_range]
  intro t
  rw [List.mem_range]
  refine ⟨h2 t, fun ht => ?_⟩
  -- a round behind the list's that is of this task
  have hj := h3 (len + (t + n - len % n) % n) (by have := Nat.mod_lt (t + n - len % n) hn; omega)
  have e : tOf z len n (len + (t + n - len % n) % n) = t := by
    unfold tOf
    rw [if_neg (by omega), Nat.add_mod, Nat.mod_mod, ← Nat.add_mod]
    have hm := Nat.mod_lt len hn
    have hd := Nat.mod_add_div len n
    have e2 : len + (t + n - len % n) = t + n * (len / n + 1) := by
      rw [Nat.mul_add, Nat.mul_one]; omega
    rw [e2, Nat.add_mul_mod_self_left, Nat.mod_eq_of_lt ht]
  rw [e] at hj
  exact hj
theorem rows_len (n : Nat) (r : List Nat) (h1 : r.Nodup) (h2 : ∀ t ∈ r, t < n) : r.length ≤ n := by
  have h := few_of n (nums r) (fun t => ?_) (fun t ht => ?_)
  · simpa [nums] using h
  · have hn : (nums r).Nodup := by
      unfold nums
      rw [List.Nodup, List.pairwise_map]
      exact h1.imp (fun h e => h (by exact_mod_cast e))
    exact List.nodup_iff_count.1 hn t
  · obtain ⟨u, hu, rfl⟩ := List.mem_map.1 ht
    have := h2 u hu; omega
end Go.Proofs.Ytcfkmhmgappckaa.Sc
