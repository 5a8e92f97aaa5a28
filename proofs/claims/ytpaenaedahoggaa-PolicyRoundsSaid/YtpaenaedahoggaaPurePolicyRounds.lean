/- PolicyRounds: how many runs there are hangs on how many sizes there are alone; the pure statement behind the walk. No condition beyond the row's own. -/
import Derived.Test.YtpaenaedahoggaaPurePolicyPlans
import Derived.Test.YtpaenaedahoggaaPAllx5
namespace Go.Proofs.Ytpaenaedahoggaa.Pure
open Go.RowKit Go.Proofs.Ytpaenaedahoggaa.PAll Go.Proofs.YtpaenaedahoggaaW.PrintWords Go.Proofs.YtpaenaedahoggaaW.PrintLast

theorem zeros_small (n : Nat) (h : n ≤ 1000) : Small (List.replicate n (0 : Int)) := by
  refine ⟨by rw [List.length_replicate]; exact h, fun x hx => by rw [(List.mem_replicate.mp hx).2]; omega, ?_⟩
  have : ∀ m : Nat, (List.replicate m (0 : Int)).sum = 0 := by
    intro m
    induction m with
    | zero => rfl
    | succ m ih => rw [List.replicate_succ, List.sum_cons, ih]; rfl
  rw [this]; omega
theorem rounds_f (n : Int) (a b : Int) (h : n ≤ 1000) : policy_Rounds.f n a b = some ((rds n.toNat n.toNat a b : Nat) : Int) := by
  unfold policy_Rounds.f
  have e : mx n 0 = (n.toNat : Int) := by rw [mx_eq]; omega
  rw [e, if_pos (by omega), Int.toNat_natCast, if_pos (by omega), plan_ok _ a b (zeros_small n.toNat (by omega)), Option.bind_some, plan_rds, List.length_replicate]
theorem rrounds_ev (n : Int) (a b : Int) (h : n ≤ 1000) : Ev (fun k => concordanceref17_Rounds.f k n a b) ((rds n.toNat n.toNat a b : Nat) : Int) := by
  by_cases h0 : 0 ≤ n
  · have := rounds_ev a b n.toNat (by omega)
    rw [Int.toNat_of_nonneg h0] at this
    exact this
  · unfold concordanceref17_Rounds.f
    have e : n.toNat = 0 := by omega
    rw [e]
    refine Ev.step (fun k => by rw [concordanceref17_Rounds.l0, mx_eq a 1]) ?_
    exact Ev.neg (show ¬ (n > max a 1) by omega) (Ev.ret rfl)
theorem rounds_j0 (x a b : Int) (l g : List Int) (hg : Few g) (he : Ev (fun k => concordanceref17_Good.f k l 20) g) : Ev (fun k => concordancelaw17_PolicyRounds.j0 k x a b l) true := by
  have hx : Int.tmod x 41 ≤ 1000 := by
    rcases Int.le_total 0 x with h | h
    · rw [Int.tmod_eq_emod_of_nonneg h]; omega
    · have h1 := Int.neg_tmod (-x) 41
      rw [Int.neg_neg, Int.tmod_eq_emod_of_nonneg (show 0 ≤ -x by omega)] at h1
      omega
  have hlen := hg.1
  refine Ev.step (fun k => by rw [concordancelaw17_PolicyRounds.j0]) (Ev.bind he (Ev.const (rounds_f _ a b hx) (Ev.bind (rrounds_ev _ a b hx) (Ev.pos rfl ?_))))
  refine Ev.const (plan_ok g a b hg.small) (Ev.const (rounds_f _ a b (by omega)) (Ev.pos ?_ (Ev.const lives_ok (Ev.ret rfl))))
  rw [plan_rds, Int.toNat_natCast]
theorem PolicyRounds : concordancelaw17_PolicyRounds.Pure := by
  intro n a b l _ _ _ hl _ hwf
  obtain ⟨g, hg, he⟩ := good_ev l hl hwf
  apply Ev.rounds
  unfold concordancelaw17_PolicyRounds.f
  by_cases h : n < 0
  · exact Ev.pos h (rounds_j0 _ a b l g hg he)
  · exact Ev.neg h (rounds_j0 _ a b l g hg he)
end Go.Proofs.Ytpaenaedahoggaa.Pure
