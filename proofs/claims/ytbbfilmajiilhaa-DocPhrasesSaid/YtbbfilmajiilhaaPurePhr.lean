/- Words that stand side by side: how often at least and at most, and numbers cut to a length. No condition. -/
import Derived.Test.YtbbfilmajiilhaaBnd1
set_option linter.unusedVariables false
set_option linter.unusedSimpArgs false
namespace Go.Proofs.Ytbbfilmajiilhaa
open Go.RowKit Go.Proofs.Ytbbfilmajiilhaa.PAll Go.Proofs.YtbbfilmajiilhaaW.PrintWords Go.Proofs.YtbbfilmajiilhaaW.PrintLast

theorem phr_ub (ws : List ByteArray) : ∀ L : List ByteArray, phr ws L + ws.length ≤ L.length + 1 ∨ phr ws L = 0
  | [] => .inr rfl
  | x :: L => by
    by_cases h : (x :: L).length < ws.length
    · exact .inr (phr_short ws _ h)
    · rw [phr_cons]
      rw [List.length_cons] at h ⊢
      rcases phr_ub ws L with e | e
      · left; split <;> omega
      · left; rw [e]; split <;> omega
theorem phr_lb (ws : List ByteArray) : ∀ (L : List ByteArray) (k : Nat), k < L.length → (L.drop k).take ws.length = ws → 1 ≤ phr ws L
  | [], k, h, _ => absurd h (Nat.not_lt_zero _)
  | x :: L, 0, _, h => by
    rw [phr_cons, if_pos (by simpa using h)]
    omega
  | x :: L, k + 1, h, e => by
    have := phr_lb ws L k (by rw [List.length_cons] at h; omega) (by simpa using e)
    rw [phr_cons]
    omega
theorem tmod_nat {a : Int} (ha : 0 ≤ a) {m : Nat} (hm : 0 < m) : ∃ k : Nat, Int.tmod a (m : Int) = (k : Int) ∧ k < m := by
  obtain ⟨x, rfl⟩ := Int.eq_ofNat_of_zero_le ha
  exact ⟨x % m, rfl, Nat.mod_lt _ hm⟩
theorem nonneg_of (a : Int) (h : -9223372036854775808 ≤ a ∧ a ≤ 9223372036854775807) (hn : a < 0) : 0 ≤ wrap64 (-(wrap64 (a + 1))) := by
  rw [wrap_small (a + 1) (by omega), wrap_small (-(a + 1)) (by omega)]
  omega
end Go.Proofs.Ytbbfilmajiilhaa
