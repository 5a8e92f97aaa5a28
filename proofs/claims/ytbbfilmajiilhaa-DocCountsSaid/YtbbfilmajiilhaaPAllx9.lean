-- written by a program of this session (wip/px): the walk of printed functions
import Derived.Test.YtbbfilmajiilhaaPAllx0
import Derived.Test.YtbbfilmajiilhaaPAllx5
namespace Go.Proofs.Ytbbfilmajiilhaa.PAll
open Go.RowKit Go.Proofs.YtbbfilmajiilhaaW.PrintWords Go.Proofs.YtbbfilmajiilhaaW.PrintLast Go.Proofs.YtbbfilmajiilhaaW.PrintMore
attribute [local go_sem] max2_int min2_int max_two min_two max_three min_three max_four min_four   -- for this text's walks alone
set_option linter.unusedVariables false
set_option linter.unusedSimpArgs false

/-! ### concordanceref08_Weight: function 17 -/
def concordanceref08_Weight.l0 : Nat → Int → Int → Int → List (S29) → Option (Int)
  | 0, _, _, _, _ => none
  | k + 1, x3, x4, x329000, x329001 => if x4 < (x329001.length : Int) then (if 0 ≤ x4 then ((concordanceref08_Words.f k x329000 x329001 ((rd_T29 x329001 x4).f0)).bind fun t330 => (concordanceref08_Weight.l0 k (wrap64 (x3 + (t330.length : Int))) (wrap64 (x4 + 1)) x329000 x329001)) else (none)) else (some x3)
def concordanceref08_Weight.f (k : Nat) (a0_0 : Int) (l0_1 : List (S29)) : Option (Int) := concordanceref08_Weight.l0 k 0 0 a0_0 l0_1
theorem concordanceref08_Weight.mono_l : ∀ k, (∀ y0 y1 y2 y3, LeO (concordanceref08_Weight.l0 k y0 y1 y2 y3) (concordanceref08_Weight.l0 (k + 1) y0 y1 y2 y3))
  | 0 => fun _ _ _ _ r h => by simp [concordanceref08_Weight.l0] at h
  | k + 1 => by
    have ih0 := concordanceref08_Weight.mono_l k
    · intro y0 y1 y2 y3
      unfold concordanceref08_Weight.l0
      repeat' first
      | (with_reducible exact ih0 _ _ _ _)
      | (with_reducible exact concordanceref08_Words.mono _ _ _ _)
      | (with_reducible exact LeO.refl _)
      | (with_reducible exact LeO.none _)
      | (with_reducible refine LeO.ite ?_ ?_)
      | (with_reducible refine LeO.bind ?_ (fun _ => ?_))
      | exact ih0 _ _ _ _
      | exact concordanceref08_Words.mono _ _ _ _
      | exact LeO.none _
      | refine LeO.ite ?_ ?_
      | refine LeO.bind ?_ (fun _ => ?_)
theorem concordanceref08_Weight.mono : ∀ a0 a1 k, LeO (concordanceref08_Weight.f k a0 a1) (concordanceref08_Weight.f (k + 1) a0 a1) := by
  intro a0 a1 k
  have ih0 := concordanceref08_Weight.mono_l k
  unfold concordanceref08_Weight.f
  repeat' first
      | (with_reducible exact ih0 _ _ _ _)
      | (with_reducible exact concordanceref08_Words.mono _ _ _ _)
      | (with_reducible exact LeO.refl _)
      | (with_reducible exact LeO.none _)
      | (with_reducible refine LeO.ite ?_ ?_)
      | (with_reducible refine LeO.bind ?_ (fun _ => ?_))
      | exact ih0 _ _ _ _
      | exact concordanceref08_Words.mono _ _ _ _
      | exact LeO.none _
      | refine LeO.ite ?_ ?_
      | refine LeO.bind ?_ (fun _ => ?_)

-- EXTERN: function 18 (doc_Count): module Bnd0

end Go.Proofs.Ytbbfilmajiilhaa.PAll
