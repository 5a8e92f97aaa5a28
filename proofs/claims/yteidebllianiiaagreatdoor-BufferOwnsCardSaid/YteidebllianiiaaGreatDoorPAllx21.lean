-- written by a program of this session (wip/px): the walk of printed functions
import Derived.Test.YteidebllianiiaaGreatDoorPAllx0
import Derived.Test.YteidebllianiiaaGreatDoorSq
import Derived.Test.YteidebllianiiaaGreatDoorPAllx5
namespace Go.Proofs.YteidebllianiiaaGreatDoor.PAll
open Go.RowKit Go.Proofs.YteidebllianiiaaGreatDoorW.PrintWords Go.Proofs.YteidebllianiiaaGreatDoorW.PrintLast Go.Proofs.YteidebllianiiaaGreatDoorW.PrintMore
attribute [local go_sem] max2_int min2_int max_two min_two max_three min_three max_four min_four   -- for this text's walks alone
set_option linter.unusedVariables false
set_option linter.unusedSimpArgs false

/-! ### concordancelaw09_few: function 22 -/
def concordancelaw09_few.l0 : Nat → Int → Int → List (S50) → Int → List (S50) → Option (Int × (List (S50)))
 | 0, _, _, _, _, _ => none
 | k + 1, x4, x485000, x485001, x487000, x487001 => if x4 < (x485001.length : Int) then (if x4 < 10 then (if 0 ≤ x4 then (if 0 ≤ (mn (((rd_T50 x485001 x4).f0).size : Int) 20) then (if (mn (((rd_T50 x485001 x4).f0).size : Int) 20) ≤ (((rd_T50 x485001 x4).f0).size : Int) then (if 0 ≤ (mn (((rd_T50 x485001 x4).f1).size : Int) 60) then (if (mn (((rd_T50 x485001 x4).f1).size : Int) 60) ≤ (((rd_T50 x485001 x4).f1).size : Int) then (if x487001.length < 4398046511104 then (concordancelaw09_few.l0 k (wrap64 (x4 + 1)) x485000 x485001 x487000 (x487001 ++ [(⟨((rd_T50 x485001 x4).f0).extract 0 ((mn (((rd_T50 x485001 x4).f0).size : Int) 20) : Int).toNat, ((rd_T50 x485001 x4).f1).extract 0 ((mn (((rd_T50 x485001 x4).f1).size : Int) 60) : Int).toNat⟩ : S50)])) else (none)) else (none)) else (none)) else (none)) else (none)) else (none)) else (some (x487000, x487001))) else (some (x487000, x487001))
def concordancelaw09_few.f (k : Nat) (a0_0 : Int) (l0_1 : List (S50)) : Option (Int × (List (S50))) := concordancelaw09_few.l0 k 0 a0_0 l0_1 a0_0 ([] : List (S50))
theorem concordancelaw09_few.mono_l : ∀ k, (∀ y0 y1 y2 y3 y4, LeO (concordancelaw09_few.l0 k y0 y1 y2 y3 y4) (concordancelaw09_few.l0 (k + 1) y0 y1 y2 y3 y4))
 | 0 => fun _ _ _ _ _ r h => by simp [concordancelaw09_few.l0] at h
 | k + 1 => by
  have ih0 := concordancelaw09_few.mono_l k
  ·intro y0 y1 y2 y3 y4
   unfold concordancelaw09_few.l0
   repeat' first
   | (with_reducible exact ih0 _ _ _ _ _)
   | (with_reducible exact LeO.refl _)
   | (with_reducible exact LeO.none _)
   | (with_reducible refine LeO.ite ?_ ?_)
   | (with_reducible refine LeO.bind ?_ (fun _ => ?_))
   | exact ih0 _ _ _ _ _
   | exact LeO.none _
   | refine LeO.ite ?_ ?_
   | refine LeO.bind ?_ (fun _ => ?_)
theorem concordancelaw09_few.mono : ∀ a0 a1 k, LeO (concordancelaw09_few.f k a0 a1) (concordancelaw09_few.f (k + 1) a0 a1) := by
 intro a0 a1 k
 have ih0 := concordancelaw09_few.mono_l k
 unfold concordancelaw09_few.f
 repeat' first
   | (with_reducible exact ih0 _ _ _ _ _)
   | (with_reducible exact LeO.refl _)
   | (with_reducible exact LeO.none _)
   | (with_reducible refine LeO.ite ?_ ?_)
   | (with_reducible refine LeO.bind ?_ (fun _ => ?_))
   | exact ih0 _ _ _ _ _
   | exact LeO.none _
   | refine LeO.ite ?_ ?_
   | refine LeO.bind ?_ (fun _ => ?_)

/-! ### concordanceref09_Add: function 24 -/
def concordanceref09_Add.f (k : Nat) (l0_0 : List (S33)) (a0_1 : Int) (a1_0 : Int) (l1_1 : List (S50)) (a1_2 : Int) : Option ((List (S33)) × Int × Int) := (concordanceref08_May.f k a1_0 l1_1).bind fun t495 => (if t495 = 0 then (if a1_2 < 0 then (some (l0_0, a0_1, 12)) else (if a1_2 ≤ a0_1 then (some (l0_0, a0_1, 12)) else (if ([] : List (S33)).length + l0_0.length < 3518437208883 then ((some (([] : List (S33)) ++ l0_0 : List (S33))).bind fun y496 => (if y496.length < 3518437208883 then (some ((y496 ++ [(⟨(⟨a1_0, l1_1⟩ : S31), a1_2⟩ : S33)]), a1_2, 0)) else (none))) else (none)))) else (some (l0_0, a0_1, t495)))
theorem concordanceref09_Add.mono : ∀ a0 a1 a2 a3 a4 k, LeO (concordanceref09_Add.f k a0 a1 a2 a3 a4) (concordanceref09_Add.f (k + 1) a0 a1 a2 a3 a4) := by
 intro a0 a1 a2 a3 a4 k
 unfold concordanceref09_Add.f
 repeat' first
   | (with_reducible exact concordanceref08_May.mono _ _ _)
   | (with_reducible exact LeO.refl _)
   | (with_reducible exact LeO.none _)
   | (with_reducible refine LeO.ite ?_ ?_)
   | (with_reducible refine LeO.bind ?_ (fun _ => ?_))
   | exact concordanceref08_May.mono _ _ _
   | exact LeO.none _
   | refine LeO.ite ?_ ?_
   | refine LeO.bind ?_ (fun _ => ?_)

def concordanceref09_Add.B8 : List Nat := [0, 0, 2, 7, 0, 16, 63, 127, 255]

-- EXTERN: function 64 (word_Words): module Bnd0

-- EXTERN: function 65 (strings_Trim): module TrimC

end Go.Proofs.YteidebllianiiaaGreatDoor.PAll
