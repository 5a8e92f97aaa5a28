import Derived.Test.YtpaenaedahoggaaEv
import Derived.Test.YtpaenaedahoggaaPolPlain
import Derived.Test.YtpaenaedahoggaaPAllx2
namespace Go.Proofs.Ytpaenaedahoggaa
open Go.RowKit Go.Proofs.Ytpaenaedahoggaa.PAll Go.Proofs.YtpaenaedahoggaaW.PrintWords Go.Proofs.YtpaenaedahoggaaW.PrintLast

theorem sums_loop (l : List Int) (hl : Fits l) (d : Nat) : ∀ i : Nat, i + d = l.length →
    Ev (fun k => policy_sums.l0 k ((List.range (i + 1)).map (pre l)) l (l.length : Int) (i : Int)) (sumsM l) := by
  have hlen := hl.1
  induction d with
  | zero =>
    intro i hi
    refine Ev.step (fun k => by rw [policy_sums.l0]) (Ev.neg (by omega) (Ev.ret ?_))
    rw [show i = l.length by omega]; rfl
  | succ d ih =>
    intro i hi
    have hll : ((List.range (i + 1)).map (pre l)).length = i + 1 := by simp
    have hw : wrap64 ((((List.range (i + 1)).map (pre l)).length : Int) - 1) = (i : Int) := by rw [hll, wrap_small _ (by omega)]; omega
    have hr1 : rd ((List.range (i + 1)).map (pre l)) (i : Int) = pre l i := by
      rw [rd_getD, List.getD_eq_getElem?_getD, List.getElem?_map, List.getElem?_range (by omega)]; rfl
    have hr2 : rd l (i : Int) = l[i] := rd_nat l i (by omega)
    have hp := pre_succ l i (by omega)
    have hpr := pre_range l hl (i + 1)
    have hs : wrap64 (pre l i + l[i]) = pre l (i + 1) := by rw [← hp]; exact wrap_small _ (by omega)
    refine Ev.step (fun k => by rw [policy_sums.l0, hw, hr1, hr2, hs, wrap_small (i + 1) (by omega)]) ?_
    refine Ev.pos (by omega) (Ev.pos (by omega) (Ev.pos (by omega) (Ev.pos (by omega) (Ev.pos (by omega) (Ev.pos (by omega) ?_)))))
    have := ih (i + 1) (by omega)
    rw [List.range_succ, List.map_append] at this
    exact this
theorem sums_ev (l : List Int) (hl : Fits l) : Ev (fun k => policy_sums.f k l) (sumsM l) := by
  unfold policy_sums.f
  exact sums_loop l hl l.length 0 (by omega)
end Go.Proofs.Ytpaenaedahoggaa
