-- written by a program of this session (wip/px): the walk of printed functions
import Derived.Test.YteidebllianiiaaGreatDoorPAllx0
import Derived.Test.YteidebllianiiaaGreatDoorPAllx14
namespace Go.Proofs.YteidebllianiiaaGreatDoor.PAll
open Go.RowKit Go.Proofs.YteidebllianiiaaGreatDoorW.PrintWords Go.Proofs.YteidebllianiiaaGreatDoorW.PrintLast Go.Proofs.YteidebllianiiaaGreatDoorW.PrintMore
attribute [local go_sem] max2_int min2_int max_two min_two max_three min_three max_four min_four   -- for this text's walks alone
set_option linter.unusedVariables false
set_option linter.unusedSimpArgs false

/-! ### concordanceref09_Same: function 19 -/
def concordanceref09_Same.l0 : Nat → List (S33) → List (S33) → Int → Option (Bool)
  | 0, _, _, _ => none
  | k + 1, x0, x1, x5 => if x5 < (x0.length : Int) then (if 0 ≤ x5 then (if x5 < (x1.length : Int) then ((concordanceref08_Same.f k ((rd_T33 x0 x5).f0.f0) ((rd_T33 x0 x5).f0.f1) ((rd_T33 x1 x5).f0.f0) ((rd_T33 x1 x5).f0.f1)).bind fun t369 => (if ((rd_T33 x0 x5).f1) = ((rd_T33 x1 x5).f1) then (if t369 = true then (concordanceref09_Same.l0 k x0 x1 (wrap64 (x5 + 1))) else (some false)) else (some false))) else (none)) else (none)) else (some true)
def concordanceref09_Same.f (k : Nat) (l0 : List (S33)) (l1 : List (S33)) : Option (Bool) := if (l0.length : Int) = (l1.length : Int) then (concordanceref09_Same.l0 k l0 l1 0) else (some false)
theorem concordanceref09_Same.mono_l : ∀ k, (∀ y0 y1 y2, LeO (concordanceref09_Same.l0 k y0 y1 y2) (concordanceref09_Same.l0 (k + 1) y0 y1 y2))
  | 0 => fun _ _ _ r h => by simp [concordanceref09_Same.l0] at h
  | k + 1 => by
    have ih0 := concordanceref09_Same.mono_l k
    · intro y0 y1 y2
      unfold concordanceref09_Same.l0
      repeat' first
      | (with_reducible exact ih0 _ _ _)
      | (with_reducible exact concordanceref08_Same.mono _ _ _ _ _)
      | (with_reducible exact LeO.refl _)
      | (with_reducible exact LeO.none _)
      | (with_reducible refine LeO.ite ?_ ?_)
      | (with_reducible refine LeO.bind ?_ (fun _ => ?_))
      | exact ih0 _ _ _
      | exact concordanceref08_Same.mono _ _ _ _ _
      | exact LeO.none _
      | refine LeO.ite ?_ ?_
      | refine LeO.bind ?_ (fun _ => ?_)
theorem concordanceref09_Same.mono : ∀ a0 a1 k, LeO (concordanceref09_Same.f k a0 a1) (concordanceref09_Same.f (k + 1) a0 a1) := by
  intro a0 a1 k
  have ih0 := concordanceref09_Same.mono_l k
  unfold concordanceref09_Same.f
  repeat' first
      | (with_reducible exact ih0 _ _ _)
      | (with_reducible exact concordanceref08_Same.mono _ _ _ _ _)
      | (with_reducible exact LeO.refl _)
      | (with_reducible exact LeO.none _)
      | (with_reducible refine LeO.ite ?_ ?_)
      | (with_reducible refine LeO.bind ?_ (fun _ => ?_))
      | exact ih0 _ _ _
      | exact concordanceref08_Same.mono _ _ _ _ _
      | exact LeO.none _
      | refine LeO.ite ?_ ?_
      | refine LeO.bind ?_ (fun _ => ?_)

def concordanceref09_Same.B6 : List Nat := [0, 0, 3, 7, 15, 0, 0, 96, 224, 480, 1023, 2047]

end Go.Proofs.YteidebllianiiaaGreatDoor.PAll
