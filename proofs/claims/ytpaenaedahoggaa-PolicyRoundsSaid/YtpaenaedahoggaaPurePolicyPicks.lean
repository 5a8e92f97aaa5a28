/- PolicyPicks: the run that is merged is the document's; the pure statement behind the walk. No condition beyond the row's own. -/
import Derived.Test.YtpaenaedahoggaaPolRefs
import Derived.Test.YtpaenaedahoggaaPick
import Derived.Test.YtpaenaedahoggaaPAllx4
namespace Go.Proofs.Ytpaenaedahoggaa.Pure
open Go.RowKit Go.Proofs.Ytpaenaedahoggaa.PAll Go.Proofs.YtpaenaedahoggaaW.PrintWords Go.Proofs.YtpaenaedahoggaaW.PrintLast

theorem pick_ok (l : List Int) (a b : Int) (h : Fits l) : policy_Pick.f l a b = some (pickM l a b) := if_pos h
theorem lives_ok : concordancelaw17_lives.f = some true := by
  unfold concordancelaw17_lives.f
  rw [pick_ok _ _ _ ⟨by decide, by decide⟩]
  decide +kernel

theorem PolicyPicks : concordancelaw17_PolicyPicks.Pure := by
  intro l a b hl _ hwf _ _
  obtain ⟨g, hg, he⟩ := good_ev l hl hwf
  apply Ev.rounds
  unfold concordancelaw17_PolicyPicks.f
  refine Ev.bind he (Ev.const (pick_ok g a b hg.fits) (Ev.bind (refP_ev g a b hg.fits) ?_))
  refine Ev.pos rfl (Ev.pos rfl (Ev.pos (by simp) (Ev.const lives_ok (Ev.ret rfl))))
end Go.Proofs.Ytpaenaedahoggaa.Pure
