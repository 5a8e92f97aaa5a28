/- PolicyPlans: a plan's runs are those that are picked, one behind the other; the pure statement behind the walk. No condition beyond the row's own. -/
import Derived.Test.YtpaenaedahoggaaPurePolicyAfter
import Derived.Test.YtpaenaedahoggaaPlan
import Derived.Test.YtpaenaedahoggaaPAllx3
import Derived.Test.YtpaenaedahoggaaPAllx5
namespace Go.Proofs.Ytpaenaedahoggaa.Pure
open Go.RowKit Go.Proofs.Ytpaenaedahoggaa.PAll Go.Proofs.YtpaenaedahoggaaW.PrintWords Go.Proofs.YtpaenaedahoggaaW.PrintLast

theorem plan_ok (l : List Int) (a b : Int) (h : Small l) : policy_Plan.f l a b = some (plan l a b) := if_pos h
/-- How many rounds so many sizes want. -/
def rds : Nat → Nat → Int → Int → Nat
  | 0, _, _, _ => 0
  | f + 1, n, a, b => if (n : Int) > max a 1 then rds f (n - wide n b + 1) a b + 1 else 0
theorem pick_iff (l : List Int) (a b : Int) : (pickM l a b).2.2 = true ↔ (l.length : Int) > max a 1 := by
  unfold pickM
  by_cases h : (l.length : Int) ≤ max a 1
  · rw [if_pos h]; simp; omega
  · rw [if_neg h]; simp; omega
theorem planF_rds : ∀ (f : Nat) (l : List Int) (a b : Int), (planF f l a b).length = rds f l.length a b
  | 0, _, _, _ => rfl
  | f + 1, l, a, b => by
    simp only [planF, rds]
    by_cases h : (pickM l a b).2.2 = true
    · have hn := (pick_iff l a b).mp h
      obtain ⟨e1, e2, e3⟩ := pick_run l a b (by omega)
      have hal := after_length l (pickM l a b).1 (pickM l a b).2.1 (by omega)
      have hw := wide_le l.length b
      rw [if_pos h, if_pos hn, List.length_cons, planF_rds f, show (afterM l (pickM l a b).1 (pickM l a b).2.1).length = l.length - wide l.length b + 1 by omega]
    · rw [if_neg h, if_neg (fun hh => h ((pick_iff l a b).mpr hh))]
      rfl
theorem plan_rds (l : List Int) (a b : Int) : (plan l a b).length = rds l.length l.length a b := planF_rds _ _ _ _
theorem rounds_loop (a b : Int) : ∀ (f n acc : Nat), n ≤ f → n ≤ 1000 → acc + n ≤ 100000 → Ev (fun k => concordanceref17_Rounds.l0 k (n : Int) a b (acc : Int)) ((acc + rds f n a b : Nat) : Int)
  | 0, n, acc, hf, _, _ => by
    refine Ev.step (fun k => by rw [concordanceref17_Rounds.l0, mx_eq a 1]) ?_
    exact Ev.neg (show ¬ ((n : Int) > max a 1) by omega) (Ev.ret rfl)
  | f + 1, n, acc, hf, h1, h2 => by
    simp only [rds]
    by_cases h : (n : Int) > max a 1
    · have hw := wide_le n b
      have hw2 : 2 ≤ wide n b := by unfold wide; omega
      have e : mn (mx b 2) (n : Int) = (wide n b : Int) := by rw [mx_eq, mn_eq]; unfold wide; omega
      rw [if_pos h]
      have hg := rounds_loop a b f (n - wide n b + 1) (acc + 1) (by omega) (by omega) (by omega)
      rw [show acc + 1 + rds f (n - wide n b + 1) a b = acc + (rds f (n - wide n b + 1) a b + 1) by omega, show ((n - wide n b + 1 : Nat) : Int) = (n : Int) - (wide n b : Int) + 1 by omega] at hg
      refine Ev.step (fun k => by rw [concordanceref17_Rounds.l0, mx_eq a 1, e, wrap_small ((n : Int) - (wide n b : Int)) (by omega), wrap_small ((n : Int) - (wide n b : Int) + 1) (by omega), wrap_small ((acc : Int) + 1) (by omega)]) (Ev.pos h ?_)
      exact_mod_cast hg
    · rw [if_neg h]
      refine Ev.step (fun k => by rw [concordanceref17_Rounds.l0, mx_eq a 1]) ?_
      exact Ev.neg h (Ev.ret rfl)
theorem rounds_ev (a b : Int) (n : Nat) (h : n ≤ 1000) : Ev (fun k => concordanceref17_Rounds.f k (n : Int) a b) ((rds n n a b : Nat) : Int) := by
  unfold concordanceref17_Rounds.f
  have := rounds_loop a b n n 0 (Nat.le_refl _) h (by omega)
  rw [Nat.zero_add] at this
  exact_mod_cast this
theorem rdT_nat (l : List S25) (i : Nat) (h : i < l.length) : rd_T25 l i = l[i] := by unfold rd_T25; simp; rw [List.getElem?_eq_getElem h]; rfl

theorem plans_loop (g : List Int) (a b : Int) (hg : Few g) (d : Nat) : ∀ (cur : List Int) (i : Nat), (plan cur a b).length = d → (plan g a b).drop i = plan cur a b → i ≤ (plan g a b).length → Small cur → cur.length ≤ 20 → cur.sum = g.sum →
    Ev (fun k => concordancelaw17_PolicyPlans.l0 k a b g cur (plan g a b) (i : Int)) true := by
  have hlen := hg.1
  have hpl := plan_len g a b
  induction d with
  | zero =>
    intro cur i hd hdr hi hs hl hsum
    have hq : (plan g a b).length ≤ i := by
      have := congrArg List.length hdr
      rw [List.length_drop, hd] at this
      omega
    have hnp : (pickM cur a b).2.2 = false := by
      cases hp : (pickM cur a b).2.2 with
      | false => rfl
      | true => rw [plan_step hp] at hd; simp at hd
    have hle : ¬ ((cur.length : Int) > max a 1) := fun hh => by have := (pick_iff cur a b).mpr hh; rw [hnp] at this; cases this
    refine Ev.step (fun k => by rw [concordancelaw17_PolicyPlans.l0]) (Ev.neg (by omega) (Ev.bind (refP_ev cur a b hs.fits) ?_))
    refine Ev.neg (show ¬ ((pickM cur a b).2.2 = true) by rw [hnp]; decide) (Ev.pos (show (cur.length : Int) ≤ mx a 1 by rw [mx_eq]; omega) ?_)
    refine Ev.bind (refW_ev cur 0 20 hs.fits) (Ev.bind (refW_ev g 0 20 hg.fits) (Ev.pos (by rw [wIn_all cur hl, wIn_all g hlen, hsum]) ?_))
    refine Ev.bind (rounds_ev a b g.length (by omega)) (Ev.pos (by rw [plan_rds]) (Ev.const lives_ok (Ev.ret rfl)))
  | succ d ih =>
    intro cur i hd hdr hi hs hl hsum
    have hp : (pickM cur a b).2.2 = true := by
      cases hp : (pickM cur a b).2.2 with
      | true => rfl
      | false => rw [plan_stop hp] at hd; simp at hd
    have hst := plan_step hp
    have hmore := pick_more hp
    have hlt : i < (plan g a b).length := by
      have := congrArg List.length hdr
      rw [List.length_drop, hd] at this
      omega
    rw [List.drop_eq_getElem_cons hlt, hst] at hdr
    injection hdr with h1 h2
    rw [hst, List.length_cons] at hd
    have hg2 := ih (afterM cur (pickM cur a b).1 (pickM cur a b).2.1) (i + 1) (by omega) h2 (by omega) (hs.after _ _) (by omega) (by rw [after_sum]; exact hsum)
    refine Ev.step (fun k => by rw [concordancelaw17_PolicyPlans.l0, rdT_nat _ i hlt, h1, wrap_small (i + 1) (by omega)]) (Ev.pos (by omega) (Ev.bind (refP_ev cur a b hs.fits) ?_))
    refine Ev.pos hp ?_
    refine Ev.pos (show (0 : Int) ≤ (i : Int) by omega) (Ev.pos rfl (Ev.pos rfl ?_))
    refine Ev.bind (refA_ev cur _ _ hs.fits) ?_
    exact_mod_cast hg2
theorem PolicyPlans : concordancelaw17_PolicyPlans.Pure := by
  intro l a b hl _ hwf _ _
  obtain ⟨g, hg, he⟩ := good_ev l hl hwf
  apply Ev.rounds
  unfold concordancelaw17_PolicyPlans.f
  refine Ev.bind he (Ev.const (plan_ok g a b hg.small) ?_)
  exact plans_loop g a b hg _ g 0 rfl rfl (Nat.zero_le _) hg.small hg.1 rfl
end Go.Proofs.Ytpaenaedahoggaa.Pure
