-- written by a program of this session (wip/px): the walk of printed functions
import Derived.Test.YteidebllianiiaaGreatDoorPAllx0
import Derived.Test.YteidebllianiiaaGreatDoorLeq
import Derived.Test.YteidebllianiiaaGreatDoorPAllx13
import Derived.Test.YteidebllianiiaaGreatDoorPAllx17
namespace Go.Proofs.YteidebllianiiaaGreatDoor.PAll
open Go.RowKit Go.Proofs.YteidebllianiiaaGreatDoorW.PrintWords Go.Proofs.YteidebllianiiaaGreatDoorW.PrintLast Go.Proofs.YteidebllianiiaaGreatDoorW.PrintMore
attribute [local go_sem] max2_int min2_int max_two min_two max_three min_three max_four min_four   -- for this text's walks alone
set_option linter.unusedVariables false
set_option linter.unusedSimpArgs false

/-! ### concordanceref08_Terms: function 58 -/
mutual
def concordanceref08_Terms.l0 : Nat → List (S70) → Int → Int → List (S50) → Option ((List (S70)))
  | 0, _, _, _, _ => none
  | k + 1, x3, x4, x413000, x413001 => if x4 < (x413001.length : Int) then (if 0 ≤ x4 then ((concordanceref08_Words.f k x413000 x413001 ((rd_T50 x413001 x4).f0)).bind fun t414 => (concordanceref08_Terms.l1 k x3 x4 t414 0 x413000 x413001)) else (none)) else (some x3)
def concordanceref08_Terms.l1 : Nat → List (S70) → Int → List ByteArray → Int → Int → List (S50) → Option ((List (S70)))
  | 0, _, _, _, _, _, _ => none
  | k + 1, x3, x4, x5, x6, x413000, x413001 => if x6 < (x5.length : Int) then (if 0 ≤ x4 then (if x4 < (x413001.length : Int) then (if 0 ≤ x6 then ((concordanceref08_PutTerm.f k x3 ((rd_T50 x413001 x4).f0) (rdOf ByteArray.empty x5 x6)).bind fun t419 => (concordanceref08_Terms.l1 k t419 x4 x5 (wrap64 (x6 + 1)) x413000 x413001)) else (none)) else (none)) else (none)) else (concordanceref08_Terms.l0 k x3 (wrap64 (x4 + 1)) x413000 x413001)
end
def concordanceref08_Terms.f (k : Nat) (a0_0 : Int) (l0_1 : List (S50)) : Option ((List (S70))) := concordanceref08_Terms.l0 k ([] : List (S70)) 0 a0_0 l0_1
theorem concordanceref08_Terms.mono_l : ∀ k, (∀ y0 y1 y2 y3, LeO (concordanceref08_Terms.l0 k y0 y1 y2 y3) (concordanceref08_Terms.l0 (k + 1) y0 y1 y2 y3)) ∧ (∀ y0 y1 y2 y3 y4 y5, LeO (concordanceref08_Terms.l1 k y0 y1 y2 y3 y4 y5) (concordanceref08_Terms.l1 (k + 1) y0 y1 y2 y3 y4 y5))
  | 0 => ⟨fun _ _ _ _ r h => by simp [concordanceref08_Terms.l0] at h, fun _ _ _ _ _ _ r h => by simp [concordanceref08_Terms.l1] at h⟩
  | k + 1 => by
    obtain ⟨ih0, ih1⟩ := concordanceref08_Terms.mono_l k
    refine ⟨?_, ?_⟩
    · intro y0 y1 y2 y3
      unfold concordanceref08_Terms.l0
      repeat' first
      | (with_reducible exact ih0 _ _ _ _)
      | (with_reducible exact ih1 _ _ _ _ _ _)
      | (with_reducible exact concordanceref08_PutTerm.mono _ _ _ _)
      | (with_reducible exact concordanceref08_Words.mono _ _ _ _)
      | (with_reducible exact LeO.refl _)
      | (with_reducible exact LeO.none _)
      | (with_reducible refine LeO.ite ?_ ?_)
      | (with_reducible refine LeO.bind ?_ (fun _ => ?_))
      | exact ih0 _ _ _ _
      | exact ih1 _ _ _ _ _ _
      | exact concordanceref08_PutTerm.mono _ _ _ _
      | exact concordanceref08_Words.mono _ _ _ _
      | exact LeO.none _
      | refine LeO.ite ?_ ?_
      | refine LeO.bind ?_ (fun _ => ?_)
    · intro y0 y1 y2 y3 y4 y5
      unfold concordanceref08_Terms.l1
      repeat' first
      | (with_reducible exact ih0 _ _ _ _)
      | (with_reducible exact ih1 _ _ _ _ _ _)
      | (with_reducible exact concordanceref08_PutTerm.mono _ _ _ _)
      | (with_reducible exact concordanceref08_Words.mono _ _ _ _)
      | (with_reducible exact LeO.refl _)
      | (with_reducible exact LeO.none _)
      | (with_reducible refine LeO.ite ?_ ?_)
      | (with_reducible refine LeO.bind ?_ (fun _ => ?_))
      | exact ih0 _ _ _ _
      | exact ih1 _ _ _ _ _ _
      | exact concordanceref08_PutTerm.mono _ _ _ _
      | exact concordanceref08_Words.mono _ _ _ _
      | exact LeO.none _
      | refine LeO.ite ?_ ?_
      | refine LeO.bind ?_ (fun _ => ?_)
theorem concordanceref08_Terms.mono : ∀ a0 a1 k, LeO (concordanceref08_Terms.f k a0 a1) (concordanceref08_Terms.f (k + 1) a0 a1) := by
  intro a0 a1 k
  obtain ⟨ih0, ih1⟩ := concordanceref08_Terms.mono_l k
  unfold concordanceref08_Terms.f
  repeat' first
      | (with_reducible exact ih0 _ _ _ _)
      | (with_reducible exact ih1 _ _ _ _ _ _)
      | (with_reducible exact concordanceref08_PutTerm.mono _ _ _ _)
      | (with_reducible exact concordanceref08_Words.mono _ _ _ _)
      | (with_reducible exact LeO.refl _)
      | (with_reducible exact LeO.none _)
      | (with_reducible refine LeO.ite ?_ ?_)
      | (with_reducible refine LeO.bind ?_ (fun _ => ?_))
      | exact ih0 _ _ _ _
      | exact ih1 _ _ _ _ _ _
      | exact concordanceref08_PutTerm.mono _ _ _ _
      | exact concordanceref08_Words.mono _ _ _ _
      | exact LeO.none _
      | refine LeO.ite ?_ ?_
      | refine LeO.bind ?_ (fun _ => ?_)

def concordanceref08_Terms.B5 : List Nat := [0, 0, 2, 0, 14, 30, 62, 127, 255]

/-! ### concordanceref07_Place: function 77 -/
def concordanceref07_Place.l0 : Nat → List ByteArray → ByteArray → Int → Option (Int × Bool)
  | 0, _, _, _ => none
  | k + 1, x0, x1, x6 => if x6 < (x0.length : Int) then (if 0 ≤ x6 then (if ((Op.bytesLess ((rdOf ByteArray.empty x0 x6).toList) x1.toList) = true) then (concordanceref07_Place.l0 k x0 x1 (wrap64 (x6 + 1))) else (some (x6, ((rdOf ByteArray.empty x0 x6).toList == x1.toList)))) else (none)) else (some ((x0.length : Int), false))
def concordanceref07_Place.f (k : Nat) (l0 : List ByteArray) (a1 : ByteArray) : Option (Int × Bool) := concordanceref07_Place.l0 k l0 a1 0
theorem concordanceref07_Place.mono_l : ∀ k, (∀ y0 y1 y2, LeO (concordanceref07_Place.l0 k y0 y1 y2) (concordanceref07_Place.l0 (k + 1) y0 y1 y2))
  | 0 => fun _ _ _ r h => by simp [concordanceref07_Place.l0] at h
  | k + 1 => by
    have ih0 := concordanceref07_Place.mono_l k
    · intro y0 y1 y2
      unfold concordanceref07_Place.l0
      repeat' first
      | (with_reducible exact ih0 _ _ _)
      | (with_reducible exact LeO.refl _)
      | (with_reducible exact LeO.none _)
      | (with_reducible refine LeO.ite ?_ ?_)
      | (with_reducible refine LeO.bind ?_ (fun _ => ?_))
      | exact ih0 _ _ _
      | exact LeO.none _
      | refine LeO.ite ?_ ?_
      | refine LeO.bind ?_ (fun _ => ?_)
theorem concordanceref07_Place.mono : ∀ a0 a1 k, LeO (concordanceref07_Place.f k a0 a1) (concordanceref07_Place.f (k + 1) a0 a1) := by
  intro a0 a1 k
  have ih0 := concordanceref07_Place.mono_l k
  unfold concordanceref07_Place.f
  repeat' first
      | (with_reducible exact ih0 _ _ _)
      | (with_reducible exact LeO.refl _)
      | (with_reducible exact LeO.none _)
      | (with_reducible refine LeO.ite ?_ ?_)
      | (with_reducible refine LeO.bind ?_ (fun _ => ?_))
      | exact ih0 _ _ _
      | exact LeO.none _
      | refine LeO.ite ?_ ?_
      | refine LeO.bind ?_ (fun _ => ?_)

/-! ### concordanceref07_Put: function 59 -/
def concordanceref07_Put.f (k : Nat) (l0 : List ByteArray) (a1 : ByteArray) : Option (List ByteArray) := (concordanceref07_Place.f k l0 a1).bind fun bt424 => (if bt424.2 = true then (some l0) else (if 0 ≤ bt424.1 then (if bt424.1 ≤ (l0.length : Int) then ((some (l0.take (bt424.1 : Int).toNat : List ByteArray)).bind fun y426 => (if ([] : List ByteArray).length + y426.length < 8796093022208 then ((some (([] : List ByteArray) ++ y426 : List ByteArray)).bind fun y430 => (if y430.length < 8796093022208 then ((some (y430 ++ [a1] : List ByteArray)).bind fun y433 => ((some (l0.drop (bt424.1 : Int).toNat : List ByteArray)).bind fun y436 => (if y433.length + y436.length < 8796093022208 then (some (y433 ++ y436)) else (none)))) else (none))) else (none))) else (none)) else (none)))
theorem concordanceref07_Put.mono : ∀ a0 a1 k, LeO (concordanceref07_Put.f k a0 a1) (concordanceref07_Put.f (k + 1) a0 a1) := by
  intro a0 a1 k
  unfold concordanceref07_Put.f
  repeat' first
      | (with_reducible exact concordanceref07_Place.mono _ _ _)
      | (with_reducible exact LeO.refl _)
      | (with_reducible exact LeO.none _)
      | (with_reducible refine LeO.ite ?_ ?_)
      | (with_reducible refine LeO.bind ?_ (fun _ => ?_))
      | exact concordanceref07_Place.mono _ _ _
      | exact LeO.none _
      | refine LeO.ite ?_ ?_
      | refine LeO.bind ?_ (fun _ => ?_)

end Go.Proofs.YteidebllianiiaaGreatDoor.PAll
