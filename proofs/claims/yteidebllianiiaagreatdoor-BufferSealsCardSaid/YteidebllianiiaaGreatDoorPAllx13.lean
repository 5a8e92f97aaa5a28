-- written by a program of this session (wip/px): the walk of printed functions
import Derived.Test.YteidebllianiiaaGreatDoorPAllx0
import Derived.Test.YteidebllianiiaaGreatDoorPAllx5
namespace Go.Proofs.YteidebllianiiaaGreatDoor.PAll
open Go.RowKit Go.Proofs.YteidebllianiiaaGreatDoorW.PrintWords Go.Proofs.YteidebllianiiaaGreatDoorW.PrintLast Go.Proofs.YteidebllianiiaaGreatDoorW.PrintMore
attribute [local go_sem] max2_int min2_int max_two min_two max_three min_three max_four min_four   -- for this text's walks alone
set_option linter.unusedVariables false
set_option linter.unusedSimpArgs false

-- NOT PRINTED: function 102 (slices_partitionOrdered_string)

-- NOT PRINTED: function 73 (slices_pdqsortOrdered_string)

-- NOT PRINTED: function 55 (slices_Sort_string_string)

-- NOT PRINTED: function 30 (slices_Sorted_string)

-- NOT PRINTED: function 31 (api_Posting)

-- NOT PRINTED: function 10 (buffer_Buffer_Keys)

-- NOT PRINTED: function 32 (slices_Clone_int_int)

-- NOT PRINTED: function 11 (buffer_Buffer_Postings)

/-! ### concordanceref04_Rises: function 33 -/
def concordanceref04_Rises.l0 : Nat → List Int → Int → Option (Bool)
  | 0, _, _ => none
  | k + 1, x0, x3 => if x3 < (x0.length : Int) then (if 0 ≤ x3 then (if (rd x0 x3) < 0 then (some false) else (if x3 > 0 then (if 0 ≤ (wrap64 (x3 - 1)) then (if (wrap64 (x3 - 1)) < (x0.length : Int) then (if (rd x0 x3) ≤ (rd x0 (wrap64 (x3 - 1))) then (some false) else (concordanceref04_Rises.l0 k x0 (wrap64 (x3 + 1)))) else (none)) else (none)) else (concordanceref04_Rises.l0 k x0 (wrap64 (x3 + 1))))) else (none)) else (some true)
def concordanceref04_Rises.f (k : Nat) (l0 : List Int) : Option (Bool) := concordanceref04_Rises.l0 k l0 0
theorem concordanceref04_Rises.mono_l : ∀ k, (∀ y0 y1, LeO (concordanceref04_Rises.l0 k y0 y1) (concordanceref04_Rises.l0 (k + 1) y0 y1))
  | 0 => fun _ _ r h => by simp [concordanceref04_Rises.l0] at h
  | k + 1 => by
    have ih0 := concordanceref04_Rises.mono_l k
    · intro y0 y1
      unfold concordanceref04_Rises.l0
      repeat' first
      | (with_reducible exact ih0 _ _)
      | (with_reducible exact LeO.refl _)
      | (with_reducible exact LeO.none _)
      | (with_reducible refine LeO.ite ?_ ?_)
      | (with_reducible refine LeO.bind ?_ (fun _ => ?_))
      | exact ih0 _ _
      | exact LeO.none _
      | refine LeO.ite ?_ ?_
      | refine LeO.bind ?_ (fun _ => ?_)
theorem concordanceref04_Rises.mono : ∀ a0 k, LeO (concordanceref04_Rises.f k a0) (concordanceref04_Rises.f (k + 1) a0) := by
  intro a0 k
  have ih0 := concordanceref04_Rises.mono_l k
  unfold concordanceref04_Rises.f
  repeat' first
      | (with_reducible exact ih0 _ _)
      | (with_reducible exact LeO.refl _)
      | (with_reducible exact LeO.none _)
      | (with_reducible refine LeO.ite ?_ ?_)
      | (with_reducible refine LeO.bind ?_ (fun _ => ?_))
      | exact ih0 _ _
      | exact LeO.none _
      | refine LeO.ite ?_ ?_
      | refine LeO.bind ?_ (fun _ => ?_)

/-! ### concordanceref05_May: function 12 -/
def concordanceref05_May.l0 : Nat → List (S41) → Int → Option (Bool)
  | 0, _, _ => none
  | k + 1, x0, x3 => if x3 < (x0.length : Int) then (if 0 ≤ x3 then ((concordanceref04_Rises.f k ((rd_T41 x0 x3).f1)).bind fun t337 => (if ((rd_T41 x0 x3).f0) < 0 then (some false) else (if ((rd_T41 x0 x3).f0) ≥ 2147483648 then (some false) else (if x3 > 0 then (if 0 ≤ (wrap64 (x3 - 1)) then (if (wrap64 (x3 - 1)) < (x0.length : Int) then (if ((rd_T41 x0 x3).f0) ≤ ((rd_T41 x0 (wrap64 (x3 - 1))).f0) then (some false) else (if (((rd_T41 x0 x3).f1).length : Int) = 0 then (some false) else (if t337 = true then (if 0 ≤ (wrap64 ((((rd_T41 x0 x3).f1).length : Int) - 1)) then (if (wrap64 ((((rd_T41 x0 x3).f1).length : Int) - 1)) < (((rd_T41 x0 x3).f1).length : Int) then (if (rd ((rd_T41 x0 x3).f1) (wrap64 ((((rd_T41 x0 x3).f1).length : Int) - 1))) ≥ 2147483648 then (some false) else (concordanceref05_May.l0 k x0 (wrap64 (x3 + 1)))) else (none)) else (none)) else (some false)))) else (none)) else (none)) else (if (((rd_T41 x0 x3).f1).length : Int) = 0 then (some false) else (if t337 = true then (if 0 ≤ (wrap64 ((((rd_T41 x0 x3).f1).length : Int) - 1)) then (if (wrap64 ((((rd_T41 x0 x3).f1).length : Int) - 1)) < (((rd_T41 x0 x3).f1).length : Int) then (if (rd ((rd_T41 x0 x3).f1) (wrap64 ((((rd_T41 x0 x3).f1).length : Int) - 1))) ≥ 2147483648 then (some false) else (concordanceref05_May.l0 k x0 (wrap64 (x3 + 1)))) else (none)) else (none)) else (some false))))))) else (none)) else (some true)
def concordanceref05_May.f (k : Nat) (l0 : List (S41)) : Option (Bool) := concordanceref05_May.l0 k l0 0
theorem concordanceref05_May.mono_l : ∀ k, (∀ y0 y1, LeO (concordanceref05_May.l0 k y0 y1) (concordanceref05_May.l0 (k + 1) y0 y1))
  | 0 => fun _ _ r h => by simp [concordanceref05_May.l0] at h
  | k + 1 => by
    have ih0 := concordanceref05_May.mono_l k
    · intro y0 y1
      unfold concordanceref05_May.l0
      repeat' first
      | (with_reducible exact ih0 _ _)
      | (with_reducible exact concordanceref04_Rises.mono _ _)
      | (with_reducible exact LeO.refl _)
      | (with_reducible exact LeO.none _)
      | (with_reducible refine LeO.ite ?_ ?_)
      | (with_reducible refine LeO.bind ?_ (fun _ => ?_))
      | exact ih0 _ _
      | exact concordanceref04_Rises.mono _ _
      | exact LeO.none _
      | refine LeO.ite ?_ ?_
      | refine LeO.bind ?_ (fun _ => ?_)
theorem concordanceref05_May.mono : ∀ a0 k, LeO (concordanceref05_May.f k a0) (concordanceref05_May.f (k + 1) a0) := by
  intro a0 k
  have ih0 := concordanceref05_May.mono_l k
  unfold concordanceref05_May.f
  repeat' first
      | (with_reducible exact ih0 _ _)
      | (with_reducible exact concordanceref04_Rises.mono _ _)
      | (with_reducible exact LeO.refl _)
      | (with_reducible exact LeO.none _)
      | (with_reducible refine LeO.ite ?_ ?_)
      | (with_reducible refine LeO.bind ?_ (fun _ => ?_))
      | exact ih0 _ _
      | exact concordanceref04_Rises.mono _ _
      | exact LeO.none _
      | refine LeO.ite ?_ ?_
      | refine LeO.bind ?_ (fun _ => ?_)

-- NOT PRINTED: function 13 (buffer_Buffer_Words)

/-! ### concordanceref08_Words: function 57 -/
def concordanceref08_Words.l0 : Nat → ByteArray → Int → Int → List (S50) → Option (List ByteArray)
  | 0, _, _, _, _ => none
  | k + 1, x1, x5, x351000, x351001 => if x5 < (x351001.length : Int) then (if 0 ≤ x5 then (if ((rd_T50 x351001 x5).f0).toList = x1.toList then ((concordanceref02_Words.f k ((rd_T50 x351001 x5).f1)).bind fun t353 => (some t353)) else (concordanceref08_Words.l0 k x1 (wrap64 (x5 + 1)) x351000 x351001)) else (none)) else (some ([] : List ByteArray))
def concordanceref08_Words.f (k : Nat) (a0_0 : Int) (l0_1 : List (S50)) (a1 : ByteArray) : Option (List ByteArray) := concordanceref08_Words.l0 k a1 0 a0_0 l0_1
theorem concordanceref08_Words.mono_l : ∀ k, (∀ y0 y1 y2 y3, LeO (concordanceref08_Words.l0 k y0 y1 y2 y3) (concordanceref08_Words.l0 (k + 1) y0 y1 y2 y3))
  | 0 => fun _ _ _ _ r h => by simp [concordanceref08_Words.l0] at h
  | k + 1 => by
    have ih0 := concordanceref08_Words.mono_l k
    · intro y0 y1 y2 y3
      unfold concordanceref08_Words.l0
      repeat' first
      | (with_reducible exact ih0 _ _ _ _)
      | (with_reducible exact concordanceref02_Words.mono _ _)
      | (with_reducible exact LeO.refl _)
      | (with_reducible exact LeO.none _)
      | (with_reducible refine LeO.ite ?_ ?_)
      | (with_reducible refine LeO.bind ?_ (fun _ => ?_))
      | exact ih0 _ _ _ _
      | exact concordanceref02_Words.mono _ _
      | exact LeO.none _
      | refine LeO.ite ?_ ?_
      | refine LeO.bind ?_ (fun _ => ?_)
theorem concordanceref08_Words.mono : ∀ a0 a1 a2 k, LeO (concordanceref08_Words.f k a0 a1 a2) (concordanceref08_Words.f (k + 1) a0 a1 a2) := by
  intro a0 a1 a2 k
  have ih0 := concordanceref08_Words.mono_l k
  unfold concordanceref08_Words.f
  repeat' first
      | (with_reducible exact ih0 _ _ _ _)
      | (with_reducible exact concordanceref02_Words.mono _ _)
      | (with_reducible exact LeO.refl _)
      | (with_reducible exact LeO.none _)
      | (with_reducible refine LeO.ite ?_ ?_)
      | (with_reducible refine LeO.bind ?_ (fun _ => ?_))
      | exact ih0 _ _ _ _
      | exact concordanceref02_Words.mono _ _
      | exact LeO.none _
      | refine LeO.ite ?_ ?_
      | refine LeO.bind ?_ (fun _ => ?_)

end Go.Proofs.YteidebllianiiaaGreatDoor.PAll
