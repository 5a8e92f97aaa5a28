/- PolicyLeast: no run as long is lighter than the one that is picked, and none as light stands ahead of it; the pure statement behind the walk. No condition beyond the row's own. -/
import Derived.Test.YtpaenaedahoggaaPurePolicyPicks
import Derived.Test.YtpaenaedahoggaaPAllx3
namespace Go.Proofs.Ytpaenaedahoggaa.Pure
open Go.RowKit Go.Proofs.Ytpaenaedahoggaa.PAll Go.Proofs.YtpaenaedahoggaaW.PrintWords Go.Proofs.YtpaenaedahoggaaW.PrintLast

theorem least_loop (g : List Int) (w : Nat) (hl : Fits g) (hw : w ≤ g.length) (d : Nat) : ∀ i : Nat, i + d = g.length - w + 1 →
    Ev (fun k => concordancelaw17_PolicyLeast.l0 k g (w : Int) (wt g w (best g w (g.length - w + 1))) (i : Int) (best g w (g.length - w + 1) : Int) ((best g w (g.length - w + 1) : Int) + (w : Int))) true := by
  have hlen := hl.1
  induction d with
  | zero =>
    intro i hi
    refine Ev.step (fun k => by rw [concordancelaw17_PolicyLeast.l0, wrap_small ((i : Int) + w) (by omega)]) (Ev.neg (by omega) (Ev.const lives_ok (Ev.ret rfl)))
  | succ d ih =>
    intro i hi
    have hg := ih (i + 1) (by omega)
    have hb := best_is g w (g.length - w + 1) i (by omega)
    refine Ev.step (fun k => by rw [concordancelaw17_PolicyLeast.l0, wrap_small ((i : Int) + w) (by omega), wrap_small (i + 1) (by omega)]) (Ev.pos (by omega) ?_)
    refine Ev.bind (polW_ev g _ _ hl) ?_
    rw [wIn_wt g w i (by omega)]
    refine Ev.neg (by omega) ?_
    by_cases hq : wt g w i = wt g w (best g w (g.length - w + 1))
    · exact Ev.pos hq (Ev.neg (by omega) (by exact_mod_cast hg))
    · exact Ev.neg hq (by exact_mod_cast hg)

theorem PolicyLeast : concordancelaw17_PolicyLeast.Pure := by
  intro l a b hl _ hwf _ _
  obtain ⟨g, hg, he⟩ := good_ev l hl hwf
  have hf := hg.fits
  have hlen := hg.1
  apply Ev.rounds
  unfold concordancelaw17_PolicyLeast.f
  refine Ev.bind he (Ev.const (pick_ok g a b hf) ?_)
  unfold pickM
  by_cases h : (g.length : Int) ≤ max a 1
  · rw [if_pos h]
    refine Ev.neg (by decide) (Ev.pos (by rw [mx_eq]; exact h) (Ev.pos rfl (Ev.pos rfl (Ev.const lives_ok (Ev.ret rfl)))))
  · rw [if_neg h]
    have hw := wide_le g.length b
    have hw2 : 2 ≤ wide g.length b := by unfold wide; omega
    have hw3 : (wide g.length b : Int) ≤ max b 2 := by unfold wide; omega
    have hb := best_lt g (wide g.length b) (g.length - wide g.length b + 1) (by omega)
    have hwr : wrap64 ((best g (wide g.length b) (g.length - wide g.length b + 1) : Int) + (wide g.length b : Int) - (best g (wide g.length b) (g.length - wide g.length b + 1) : Int)) = (wide g.length b : Int) := by
      rw [wrap_small _ (by omega)]; omega
    have hj : Ev (fun k => concordancelaw17_PolicyLeast.j0 k g (wide g.length b : Int) false (best g (wide g.length b) (g.length - wide g.length b + 1) : Int) ((best g (wide g.length b) (g.length - wide g.length b + 1) : Int) + (wide g.length b : Int))) true := by
      refine Ev.step (fun k => by rw [concordancelaw17_PolicyLeast.j0]) (Ev.neg (by decide) ?_)
      refine Ev.bind (polW_ev g _ _ hf) ?_
      rw [wIn_wt g (wide g.length b) _ (by omega)]
      have := least_loop g (wide g.length b) hf hw (g.length - wide g.length b + 1) 0 (by omega)
      exact_mod_cast this
    simp only [hwr]
    refine Ev.pos (by simp) (Ev.neg (by omega) (Ev.neg (by omega) (Ev.neg (by omega) ?_)))
    have hd : decide ((wide g.length b : Int) > mx b 2) = false := by rw [mx_eq]; exact decide_eq_false (by omega)
    simp only [hd]
    exact hj
end Go.Proofs.Ytpaenaedahoggaa.Pure
