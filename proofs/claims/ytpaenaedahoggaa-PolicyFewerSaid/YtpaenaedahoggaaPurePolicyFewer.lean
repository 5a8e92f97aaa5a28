/- PolicyFewer: behind a merge there are as many sizes fewer as its run has, less one; the pure statement behind the walk. No condition beyond the row's own. -/
import Derived.Test.YtpaenaedahoggaaPurePolicyAfter
import Derived.Test.YtpaenaedahoggaaPAllx4
namespace Go.Proofs.Ytpaenaedahoggaa.Pure
open Go.RowKit Go.Proofs.Ytpaenaedahoggaa.PAll Go.Proofs.YtpaenaedahoggaaW.PrintWords Go.Proofs.YtpaenaedahoggaaW.PrintLast

theorem PolicyFewer : concordancelaw17_PolicyFewer.Pure := by
  intro l a b hl _ hwf _ _
  obtain ⟨g, hg, he⟩ := good_ev l hl hwf
  have hf := hg.fits
  have hlen := hg.1
  apply Ev.rounds
  unfold concordancelaw17_PolicyFewer.f
  refine Ev.bind he (Ev.const (pick_ok g a b hf) ?_)
  by_cases h : (g.length : Int) ≤ max a 1
  · have hp : pickM g a b = (0, 0, false) := if_pos h
    rw [hp]
    exact Ev.neg (by decide) (Ev.const lives_ok (Ev.ret rfl))
  · obtain ⟨e1, e2, e3⟩ := pick_run g a b h
    have hp : (pickM g a b).2.2 = true := by unfold pickM; rw [if_neg h]
    have hw := wide_le g.length b
    have hb := best_lt g (wide g.length b) (g.length - wide g.length b + 1) (by omega)
    have hr1 : (pickM g a b).1 = (best g (wide g.length b) (g.length - wide g.length b + 1) : Int) := by unfold pickM; rw [if_neg h]
    have hr2 : (pickM g a b).2.1 = (best g (wide g.length b) (g.length - wide g.length b + 1) : Int) + (wide g.length b : Int) := by unfold pickM; rw [if_neg h]
    have hal := after_length g (pickM g a b).1 (pickM g a b).2.1 (by omega)
    rw [e1, e2] at hal
    have hsa := hg.small.after (pickM g a b).1 (pickM g a b).2.1
    have hsum := after_sum g (pickM g a b).1 (pickM g a b).2.1
    refine Ev.pos hp (Ev.const (after_ok g _ _ hf) ?_)
    generalize afterM g (pickM g a b).1 (pickM g a b).2.1 = out at *
    have hw1 : wrap64 ((pickM g a b).2.1 - (pickM g a b).1) = (wide g.length b : Int) := by rw [hr1, hr2, wrap_small _ (by omega)]; omega
    have hw2 : wrap64 ((g.length : Int) - (wide g.length b : Int)) = (g.length : Int) - (wide g.length b : Int) := wrap_small _ (by omega)
    have hw3 : wrap64 ((g.length : Int) - (wide g.length b : Int) + 1) = (out.length : Int) := by rw [wrap_small _ (by omega)]; omega
    rw [hw1, hw2, hw3]
    refine Ev.pos rfl (Ev.bind (refW_ev out 0 20 hsa.fits) (Ev.bind (refW_ev g 0 20 hf) (Ev.pos ?_ (Ev.const lives_ok (Ev.ret rfl)))))
    rw [wIn_all out (by omega), wIn_all g hlen, hsum]
end Go.Proofs.Ytpaenaedahoggaa.Pure
