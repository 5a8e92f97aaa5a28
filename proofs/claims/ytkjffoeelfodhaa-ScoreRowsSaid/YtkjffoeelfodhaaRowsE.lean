/- ScoreRows: the printed function answers true. Condition: the numbers are of 64 bits. -/
import Derived.Test.YtkjffoeelfodhaaOpenRanks
import Derived.Test.YtkjffoeelfodhaaPAllx6
namespace Go.Proofs.Ytkjffoeelfodhaa
open Go.RowKit Go.Proofs.Ytkjffoeelfodhaa.Sc Go.Proofs.Ytkjffoeelfodhaa.PAll Go.Proofs.YtkjffoeelfodhaaW.PrintWords Go.Proofs.YtkjffoeelfodhaaW.PrintLast

/-- The last so many, the last one first. -/
def backL (x : List S28) : Nat → List S28
  | 0 => []
  | d + 1 => (x.drop (x.length - (d + 1))).reverse
theorem rev_step (x : List S28) (i : Nat) (h : i < x.length) : (x.drop (i + 1)).reverse ++ [x[i]] = (x.drop i).reverse := by
  conv => rhs; rw [List.drop_eq_getElem_cons h, List.reverse_cons]
theorem rows_loop (x : List S28) (hx : x.length ≤ 30) (at_ : Nat) (hat : at_ ≤ x.length) (k : Int) (hk : k ≤ 20) : ∀ i : Nat, i ≤ x.length →
    Ev (fun n => concordancelaw14_ScoreRows.l0 n (at_ : Int) k x (x.drop i).reverse ((i : Int) - 1)) true
  | 0, _ => by
    refine Ev.step (fun n => by rw [concordancelaw14_ScoreRows.l0]) (Ev.neg (by omega) ?_)
    exact rows_end x hx at_ hat k hk _ (by rw [List.drop_zero]; exact List.reverse_perm x)
  | i + 1, hi => by
    have ih := rows_loop x hx at_ hat k hk i (by omega)
    rw [← rev_step x i (by omega)] at ih
    have e1 : ((i + 1 : Nat) : Int) - 1 = (i : Int) := by omega
    refine Ev.step (fun n => by rw [e1, concordancelaw14_ScoreRows.l0, wrap_small (i - 1) (by omega), rd28_at x i (by omega)]) ?_
    exact Ev.pos (by omega) (Ev.pos (by omega) (Ev.pos (by omega) (Ev.pos (by rw [List.length_reverse, List.length_drop]; omega) ih)))
theorem rows_j (x : List S28) (hx : x.length ≤ 30) (a : Int) (ha : 0 ≤ a) (k : Int) (hk : k ≤ 20) : Ev (fun n => concordancelaw14_ScoreRows.j0 n a k x) true := by
  have e1 : Int.tmod a ((x.length : Int) + 1) = ((a.toNat % (x.length + 1) : Nat) : Int) := by
    rw [Int.tmod_eq_emod_of_nonneg ha, Int.natCast_emod, Int.toNat_of_nonneg ha, Int.natCast_add]; rfl
  have hm := Nat.mod_lt a.toNat (show 0 < x.length + 1 by omega)
  refine Ev.step (fun n => by rw [concordancelaw14_ScoreRows.j0, wrap_small ((x.length : Int) + 1) (by omega), wrap_small ((x.length : Int) - 1) (by omega), e1]) (Ev.neg (by omega) ?_)
  have := rows_loop x hx (a.toNat % (x.length + 1)) (by omega) k hk x.length (Nat.le_refl _)
  rw [List.drop_length, List.reverse_nil] at this
  exact this
theorem rows_ev (l : List S23) (a k : Int) (ha1 : -9223372036854775808 ≤ a) (hk1 : -9223372036854775808 ≤ k) (hk2 : k ≤ 9223372036854775807) : Ev (fun n => concordancelaw14_ScoreRows.f n l a k) true := by
  obtain ⟨m, hm, hm1, hm2⟩ := size_f k hk1 hk2
  unfold concordancelaw14_ScoreRows.f
  refine Ev.bind (few_ev l) (Ev.const hm ?_)
  by_cases h : a < 0
  · refine Ev.pos h ?_
    rw [wrap_small (a + 1) (by omega), wrap_small _ (by omega)]
    exact rows_j _ (fewL_len l) _ (by omega) m (by omega)
  · exact Ev.neg h (rows_j _ (fewL_len l) _ (by omega) m (by omega))
theorem i64_bounds {n : Int} (h : (Lit.int .i64 n).wf = true) : -9223372036854775808 ≤ n ∧ n ≤ 9223372036854775807 := by
  have hnb : IntKind.i64.min ≤ n ∧ n ≤ IntKind.i64.max := by simpa [Lit.wf] using h
  exact hnb
theorem scoreRows_walk (A0 : Option Addr) (c0 : Nat) (l : List S23) (a k : Int) (w : World) (hr0 : Kd.C k23 w A0 l.length l) (hc0 : l.length ≤ c0) (ha : (Lit.int .i64 a).wf = true) (hk : (Lit.int .i64 k).wf = true) :
    Calls Try.prog 4 #[.slice A0 l.length c0, .int .i64 a, .int .i64 k] w fun e w' => e = .returned (.bool true) ∧ Below w.heap.size w w' := by
  obtain ⟨n, hn⟩ := (rows_ev l a k (i64_bounds ha).1 (i64_bounds hk).1 (i64_bounds hk).2).rounds
  exact concordancelaw14_ScoreRows.calls n A0 c0 l a k true w hr0 hc0 hn
end Go.Proofs.Ytkjffoeelfodhaa
