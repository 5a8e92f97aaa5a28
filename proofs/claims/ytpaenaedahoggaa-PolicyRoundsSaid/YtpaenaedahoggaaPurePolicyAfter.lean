/- PolicyAfter: a run's weight, and the sizes behind its merge, are the document's; the pure statement behind the walk. No condition beyond the row's own. -/
import Derived.Test.YtpaenaedahoggaaPurePolicyPicks
import Derived.Test.YtpaenaedahoggaaPolAfterE
import Derived.Test.YtpaenaedahoggaaPAllx4
namespace Go.Proofs.Ytpaenaedahoggaa.Pure
open Go.RowKit Go.Proofs.Ytpaenaedahoggaa.PAll Go.Proofs.YtpaenaedahoggaaW.PrintWords Go.Proofs.YtpaenaedahoggaaW.PrintLast

theorem after_ok (l : List Int) (a b : Int) (h : Fits l) : policy_After.f l a b = some (afterM l a b) := if_pos h
theorem PolicyAfter : concordancelaw17_PolicyAfter.Pure := by
  intro l a b hl _ hwf _ _
  obtain ⟨g, hg, he⟩ := good_ev l hl hwf
  have hsm := (hg.small.after a b).1
  apply Ev.rounds
  unfold concordancelaw17_PolicyAfter.f
  refine Ev.bind he (Ev.bind (polW_ev g a b hg.fits) (Ev.bind (refW_ev g a b hg.fits) (Ev.pos rfl ?_)))
  refine Ev.const (after_ok g a b hg.fits) (Ev.bind (refA_ev g a b hg.fits) (Ev.bind (same_ev _ _ (by omega)) ?_))
  exact Ev.pos (by simp) (Ev.const lives_ok (Ev.ret rfl))
end Go.Proofs.Ytpaenaedahoggaa.Pure
