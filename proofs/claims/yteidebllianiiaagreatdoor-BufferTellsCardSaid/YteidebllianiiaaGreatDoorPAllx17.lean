-- written by a program of this session (wip/px): the walk of printed functions
import Derived.Test.YteidebllianiiaaGreatDoorPAllx0
import Derived.Test.YteidebllianiiaaGreatDoorPAllx2
import Derived.Test.YteidebllianiiaaGreatDoorPAllx16
namespace Go.Proofs.YteidebllianiiaaGreatDoor.PAll
open Go.RowKit Go.Proofs.YteidebllianiiaaGreatDoorW.PrintWords Go.Proofs.YteidebllianiiaaGreatDoorW.PrintLast Go.Proofs.YteidebllianiiaaGreatDoorW.PrintMore
attribute [local go_sem] max2_int min2_int max_two min_two max_three min_three max_four min_four   -- for this text's walks alone
set_option linter.unusedVariables false
set_option linter.unusedSimpArgs false

attribute [local go_sem high] eqA70
/-! ### concordanceref08_PutTerm: function 76 -/
def concordanceref08_PutTerm.l0 : Nat → List (S70) → Int → ByteArray → ByteArray → Option ((List (S70)))
  | 0, _, _, _, _ => none
  | k + 1, x0, x5, x374000, x374001 => if x5 > 0 then ((concordanceref02_Key.f x374000 x374001).bind fun t374 => (if 0 ≤ (wrap64 (x5 - 1)) then (if (wrap64 (x5 - 1)) < (x0.length : Int) then ((concordanceref02_Key.f ((rd_T70 x0 (wrap64 (x5 - 1))).f0) ((rd_T70 x0 (wrap64 (x5 - 1))).f1)).bind fun t376 => (if (Op.bytesLess t374.toList t376.toList) = true then (concordanceref08_PutTerm.l0 k x0 (wrap64 (x5 - 1)) x374000 x374001) else (if ((((rd_T70 x0 (wrap64 (x5 - 1))).f0).toList) == x374000.toList && ((((rd_T70 x0 (wrap64 (x5 - 1))).f1).toList) == x374001.toList)) = true then (some x0) else (if 0 ≤ x5 then (if x5 ≤ (x0.length : Int) then ((some (x0.take (x5 : Int).toNat : List (S70))).bind fun y378 => (if ([] : List (S70)).length + y378.length < 4398046511104 then ((some (([] : List (S70)) ++ y378 : List (S70))).bind fun y382 => (if y382.length < 4398046511104 then ((some (y382 ++ [(⟨x374000, x374001⟩ : S70)] : List (S70))).bind fun y385 => ((some (x0.drop (x5 : Int).toNat : List (S70))).bind fun y388 => (if y385.length + y388.length < 4398046511104 then (some (y385 ++ y388)) else (none)))) else (none))) else (none))) else (none)) else (none))))) else (none)) else (none))) else (if 0 ≤ x5 then (if x5 ≤ (x0.length : Int) then ((some (x0.take (x5 : Int).toNat : List (S70))).bind fun y395 => (if ([] : List (S70)).length + y395.length < 4398046511104 then ((some (([] : List (S70)) ++ y395 : List (S70))).bind fun y399 => (if y399.length < 4398046511104 then ((some (y399 ++ [(⟨x374000, x374001⟩ : S70)] : List (S70))).bind fun y402 => ((some (x0.drop (x5 : Int).toNat : List (S70))).bind fun y405 => (if y402.length + y405.length < 4398046511104 then (some (y402 ++ y405)) else (none)))) else (none))) else (none))) else (none)) else (none))
def concordanceref08_PutTerm.f (k : Nat) (l0 : List (S70)) (a1_0 : ByteArray) (a1_1 : ByteArray) : Option ((List (S70))) := concordanceref08_PutTerm.l0 k l0 (l0.length : Int) a1_0 a1_1
theorem concordanceref08_PutTerm.mono_l : ∀ k, (∀ y0 y1 y2 y3, LeO (concordanceref08_PutTerm.l0 k y0 y1 y2 y3) (concordanceref08_PutTerm.l0 (k + 1) y0 y1 y2 y3))
  | 0 => fun _ _ _ _ r h => by simp [concordanceref08_PutTerm.l0] at h
  | k + 1 => by
    have ih0 := concordanceref08_PutTerm.mono_l k
    · intro y0 y1 y2 y3
      unfold concordanceref08_PutTerm.l0
      repeat' first
      | (with_reducible exact ih0 _ _ _ _)
      | (with_reducible exact LeO.refl _)
      | (with_reducible exact LeO.none _)
      | (with_reducible refine LeO.ite ?_ ?_)
      | (with_reducible refine LeO.bind ?_ (fun _ => ?_))
      | exact ih0 _ _ _ _
      | exact LeO.none _
      | refine LeO.ite ?_ ?_
      | refine LeO.bind ?_ (fun _ => ?_)
theorem concordanceref08_PutTerm.mono : ∀ a0 a1 a2 k, LeO (concordanceref08_PutTerm.f k a0 a1 a2) (concordanceref08_PutTerm.f (k + 1) a0 a1 a2) := by
  intro a0 a1 a2 k
  have ih0 := concordanceref08_PutTerm.mono_l k
  unfold concordanceref08_PutTerm.f
  repeat' first
      | (with_reducible exact ih0 _ _ _ _)
      | (with_reducible exact LeO.refl _)
      | (with_reducible exact LeO.none _)
      | (with_reducible refine LeO.ite ?_ ?_)
      | (with_reducible refine LeO.bind ?_ (fun _ => ?_))
      | exact ih0 _ _ _ _
      | exact LeO.none _
      | refine LeO.ite ?_ ?_
      | refine LeO.bind ?_ (fun _ => ?_)

def concordanceref08_PutTerm.B2 : List Nat := [0, 1, 3, 7, 15, 7, 7, 71, 231, 487, 1023, 2047, 4095]

def concordanceref08_PutTerm.B4 : List Nat := [0, 1, 3, 7, 7, 23, 63, 127, 7, 511, 1023]

end Go.Proofs.YteidebllianiiaaGreatDoor.PAll
