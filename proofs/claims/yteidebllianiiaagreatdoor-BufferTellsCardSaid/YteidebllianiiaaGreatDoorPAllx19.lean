-- written by a program of this session (wip/px): the walk of printed functions
import Derived.Test.YteidebllianiiaaGreatDoorPAllx0
import Derived.Test.YteidebllianiiaaGreatDoorPAllx13
import Derived.Test.YteidebllianiiaaGreatDoorPAllx16
import Derived.Test.YteidebllianiiaaGreatDoorPAllx18
namespace Go.Proofs.YteidebllianiiaaGreatDoor.PAll
open Go.RowKit Go.Proofs.YteidebllianiiaaGreatDoorW.PrintWords Go.Proofs.YteidebllianiiaaGreatDoorW.PrintLast Go.Proofs.YteidebllianiiaaGreatDoorW.PrintMore
attribute [local go_sem] max2_int min2_int max_two min_two max_three min_three max_four min_four   -- for this text's walks alone
set_option linter.unusedVariables false
set_option linter.unusedSimpArgs false

/-! ### concordanceref09_Keys: function 36 -/
mutual
def concordanceref09_Keys.l0 : Nat → List (S33) → List ByteArray → Int → Option (List ByteArray)
  | 0, _, _, _ => none
  | k + 1, x0, x3, x4 => if x4 < (x0.length : Int) then (if 0 ≤ x4 then ((concordanceref08_Terms.f k ((rd_T33 x0 x4).f0.f0) ((rd_T33 x0 x4).f0.f1)).bind fun t444 => (concordanceref09_Keys.l1 k x0 x3 x4 t444 0)) else (none)) else (some x3)
def concordanceref09_Keys.l1 : Nat → List (S33) → List ByteArray → Int → List (S70) → Int → Option (List ByteArray)
  | 0, _, _, _, _, _ => none
  | k + 1, x0, x3, x4, x5, x6 => if x6 < (x5.length : Int) then (if 0 ≤ x6 then ((concordanceref02_Key.f ((rd_T70 x5 x6).f0) ((rd_T70 x5 x6).f1)).bind fun t448 => ((concordanceref07_Put.f k x3 t448).bind fun t449 => (concordanceref09_Keys.l1 k x0 t449 x4 x5 (wrap64 (x6 + 1))))) else (none)) else (concordanceref09_Keys.l0 k x0 x3 (wrap64 (x4 + 1)))
end
def concordanceref09_Keys.f (k : Nat) (l0 : List (S33)) : Option (List ByteArray) := concordanceref09_Keys.l0 k l0 ([] : List ByteArray) 0
theorem concordanceref09_Keys.mono_l : ∀ k, (∀ y0 y1 y2, LeO (concordanceref09_Keys.l0 k y0 y1 y2) (concordanceref09_Keys.l0 (k + 1) y0 y1 y2)) ∧ (∀ y0 y1 y2 y3 y4, LeO (concordanceref09_Keys.l1 k y0 y1 y2 y3 y4) (concordanceref09_Keys.l1 (k + 1) y0 y1 y2 y3 y4))
  | 0 => ⟨fun _ _ _ r h => by simp [concordanceref09_Keys.l0] at h, fun _ _ _ _ _ r h => by simp [concordanceref09_Keys.l1] at h⟩
  | k + 1 => by
    obtain ⟨ih0, ih1⟩ := concordanceref09_Keys.mono_l k
    refine ⟨?_, ?_⟩
    · intro y0 y1 y2
      unfold concordanceref09_Keys.l0
      repeat' first
      | (with_reducible exact ih0 _ _ _)
      | (with_reducible exact ih1 _ _ _ _ _)
      | (with_reducible exact concordanceref07_Put.mono _ _ _)
      | (with_reducible exact concordanceref08_Terms.mono _ _ _)
      | (with_reducible exact LeO.refl _)
      | (with_reducible exact LeO.none _)
      | (with_reducible refine LeO.ite ?_ ?_)
      | (with_reducible refine LeO.bind ?_ (fun _ => ?_))
      | exact ih0 _ _ _
      | exact ih1 _ _ _ _ _
      | exact concordanceref07_Put.mono _ _ _
      | exact concordanceref08_Terms.mono _ _ _
      | exact LeO.none _
      | refine LeO.ite ?_ ?_
      | refine LeO.bind ?_ (fun _ => ?_)
    · intro y0 y1 y2 y3 y4
      unfold concordanceref09_Keys.l1
      repeat' first
      | (with_reducible exact ih0 _ _ _)
      | (with_reducible exact ih1 _ _ _ _ _)
      | (with_reducible exact concordanceref07_Put.mono _ _ _)
      | (with_reducible exact concordanceref08_Terms.mono _ _ _)
      | (with_reducible exact LeO.refl _)
      | (with_reducible exact LeO.none _)
      | (with_reducible refine LeO.ite ?_ ?_)
      | (with_reducible refine LeO.bind ?_ (fun _ => ?_))
      | exact ih0 _ _ _
      | exact ih1 _ _ _ _ _
      | exact concordanceref07_Put.mono _ _ _
      | exact concordanceref08_Terms.mono _ _ _
      | exact LeO.none _
      | refine LeO.ite ?_ ?_
      | refine LeO.bind ?_ (fun _ => ?_)
theorem concordanceref09_Keys.mono : ∀ a0 k, LeO (concordanceref09_Keys.f k a0) (concordanceref09_Keys.f (k + 1) a0) := by
  intro a0 k
  obtain ⟨ih0, ih1⟩ := concordanceref09_Keys.mono_l k
  unfold concordanceref09_Keys.f
  repeat' first
      | (with_reducible exact ih0 _ _ _)
      | (with_reducible exact ih1 _ _ _ _ _)
      | (with_reducible exact concordanceref07_Put.mono _ _ _)
      | (with_reducible exact concordanceref08_Terms.mono _ _ _)
      | (with_reducible exact LeO.refl _)
      | (with_reducible exact LeO.none _)
      | (with_reducible refine LeO.ite ?_ ?_)
      | (with_reducible refine LeO.bind ?_ (fun _ => ?_))
      | exact ih0 _ _ _
      | exact ih1 _ _ _ _ _
      | exact concordanceref07_Put.mono _ _ _
      | exact concordanceref08_Terms.mono _ _ _
      | exact LeO.none _
      | refine LeO.ite ?_ ?_
      | refine LeO.bind ?_ (fun _ => ?_)

/-! ### concordanceref02_Same: function 37 -/
def concordanceref02_Same.l0 : Nat → List ByteArray → List ByteArray → Int → Option (Bool)
  | 0, _, _, _ => none
  | k + 1, x0, x1, x5 => if x5 < (x0.length : Int) then (if 0 ≤ x5 then (if x5 < (x1.length : Int) then (if (rdOf ByteArray.empty x0 x5).toList = (rdOf ByteArray.empty x1 x5).toList then (concordanceref02_Same.l0 k x0 x1 (wrap64 (x5 + 1))) else (some false)) else (none)) else (none)) else (some true)
def concordanceref02_Same.f (k : Nat) (l0 : List ByteArray) (l1 : List ByteArray) : Option (Bool) := if (l0.length : Int) = (l1.length : Int) then (concordanceref02_Same.l0 k l0 l1 0) else (some false)
theorem concordanceref02_Same.mono_l : ∀ k, (∀ y0 y1 y2, LeO (concordanceref02_Same.l0 k y0 y1 y2) (concordanceref02_Same.l0 (k + 1) y0 y1 y2))
  | 0 => fun _ _ _ r h => by simp [concordanceref02_Same.l0] at h
  | k + 1 => by
    have ih0 := concordanceref02_Same.mono_l k
    · intro y0 y1 y2
      unfold concordanceref02_Same.l0
      repeat' first
      | (with_reducible exact ih0 _ _ _)
      | (with_reducible exact LeO.refl _)
      | (with_reducible exact LeO.none _)
      | (with_reducible refine LeO.ite ?_ ?_)
      | (with_reducible refine LeO.bind ?_ (fun _ => ?_))
      | exact ih0 _ _ _
      | exact LeO.none _
      | refine LeO.ite ?_ ?_
      | refine LeO.bind ?_ (fun _ => ?_)
theorem concordanceref02_Same.mono : ∀ a0 a1 k, LeO (concordanceref02_Same.f k a0 a1) (concordanceref02_Same.f (k + 1) a0 a1) := by
  intro a0 a1 k
  have ih0 := concordanceref02_Same.mono_l k
  unfold concordanceref02_Same.f
  repeat' first
      | (with_reducible exact ih0 _ _ _)
      | (with_reducible exact LeO.refl _)
      | (with_reducible exact LeO.none _)
      | (with_reducible refine LeO.ite ?_ ?_)
      | (with_reducible refine LeO.bind ?_ (fun _ => ?_))
      | exact ih0 _ _ _
      | exact LeO.none _
      | refine LeO.ite ?_ ?_
      | refine LeO.bind ?_ (fun _ => ?_)

/-! ### concordanceref01_Same: function 61 -/
def concordanceref01_Same.l0 : Nat → List Int → List Int → Int → Option (Bool)
  | 0, _, _, _ => none
  | k + 1, x0, x1, x5 => if x5 < (x0.length : Int) then (if 0 ≤ x5 then (if x5 < (x1.length : Int) then (if (rd x0 x5) = (rd x1 x5) then (concordanceref01_Same.l0 k x0 x1 (wrap64 (x5 + 1))) else (some false)) else (none)) else (none)) else (some true)
def concordanceref01_Same.f (k : Nat) (l0 : List Int) (l1 : List Int) : Option (Bool) := if (l0.length : Int) = (l1.length : Int) then (concordanceref01_Same.l0 k l0 l1 0) else (some false)
theorem concordanceref01_Same.mono_l : ∀ k, (∀ y0 y1 y2, LeO (concordanceref01_Same.l0 k y0 y1 y2) (concordanceref01_Same.l0 (k + 1) y0 y1 y2))
  | 0 => fun _ _ _ r h => by simp [concordanceref01_Same.l0] at h
  | k + 1 => by
    have ih0 := concordanceref01_Same.mono_l k
    · intro y0 y1 y2
      unfold concordanceref01_Same.l0
      repeat' first
      | (with_reducible exact ih0 _ _ _)
      | (with_reducible exact LeO.refl _)
      | (with_reducible exact LeO.none _)
      | (with_reducible refine LeO.ite ?_ ?_)
      | (with_reducible refine LeO.bind ?_ (fun _ => ?_))
      | exact ih0 _ _ _
      | exact LeO.none _
      | refine LeO.ite ?_ ?_
      | refine LeO.bind ?_ (fun _ => ?_)
theorem concordanceref01_Same.mono : ∀ a0 a1 k, LeO (concordanceref01_Same.f k a0 a1) (concordanceref01_Same.f (k + 1) a0 a1) := by
  intro a0 a1 k
  have ih0 := concordanceref01_Same.mono_l k
  unfold concordanceref01_Same.f
  repeat' first
      | (with_reducible exact ih0 _ _ _)
      | (with_reducible exact LeO.refl _)
      | (with_reducible exact LeO.none _)
      | (with_reducible refine LeO.ite ?_ ?_)
      | (with_reducible refine LeO.bind ?_ (fun _ => ?_))
      | exact ih0 _ _ _
      | exact LeO.none _
      | refine LeO.ite ?_ ?_
      | refine LeO.bind ?_ (fun _ => ?_)

/-! ### concordanceref05_Same: function 38 -/
def concordanceref05_Same.l0 : Nat → List (S41) → List (S41) → Int → Option (Bool)
  | 0, _, _, _ => none
  | k + 1, x0, x1, x5 => if x5 < (x0.length : Int) then (if 0 ≤ x5 then (if x5 < (x1.length : Int) then ((concordanceref01_Same.f k ((rd_T41 x0 x5).f1) ((rd_T41 x1 x5).f1)).bind fun t458 => (if ((rd_T41 x0 x5).f0) = ((rd_T41 x1 x5).f0) then (if t458 = true then (concordanceref05_Same.l0 k x0 x1 (wrap64 (x5 + 1))) else (some false)) else (some false))) else (none)) else (none)) else (some true)
def concordanceref05_Same.f (k : Nat) (l0 : List (S41)) (l1 : List (S41)) : Option (Bool) := if (l0.length : Int) = (l1.length : Int) then (concordanceref05_Same.l0 k l0 l1 0) else (some false)
theorem concordanceref05_Same.mono_l : ∀ k, (∀ y0 y1 y2, LeO (concordanceref05_Same.l0 k y0 y1 y2) (concordanceref05_Same.l0 (k + 1) y0 y1 y2))
  | 0 => fun _ _ _ r h => by simp [concordanceref05_Same.l0] at h
  | k + 1 => by
    have ih0 := concordanceref05_Same.mono_l k
    · intro y0 y1 y2
      unfold concordanceref05_Same.l0
      repeat' first
      | (with_reducible exact ih0 _ _ _)
      | (with_reducible exact concordanceref01_Same.mono _ _ _)
      | (with_reducible exact LeO.refl _)
      | (with_reducible exact LeO.none _)
      | (with_reducible refine LeO.ite ?_ ?_)
      | (with_reducible refine LeO.bind ?_ (fun _ => ?_))
      | exact ih0 _ _ _
      | exact concordanceref01_Same.mono _ _ _
      | exact LeO.none _
      | refine LeO.ite ?_ ?_
      | refine LeO.bind ?_ (fun _ => ?_)
theorem concordanceref05_Same.mono : ∀ a0 a1 k, LeO (concordanceref05_Same.f k a0 a1) (concordanceref05_Same.f (k + 1) a0 a1) := by
  intro a0 a1 k
  have ih0 := concordanceref05_Same.mono_l k
  unfold concordanceref05_Same.f
  repeat' first
      | (with_reducible exact ih0 _ _ _)
      | (with_reducible exact concordanceref01_Same.mono _ _ _)
      | (with_reducible exact LeO.refl _)
      | (with_reducible exact LeO.none _)
      | (with_reducible refine LeO.ite ?_ ?_)
      | (with_reducible refine LeO.bind ?_ (fun _ => ?_))
      | exact ih0 _ _ _
      | exact concordanceref01_Same.mono _ _ _
      | exact LeO.none _
      | refine LeO.ite ?_ ?_
      | refine LeO.bind ?_ (fun _ => ?_)

/-! ### concordanceref08_Places: function 62 -/
def concordanceref08_Places.l0 : Nat → List Int → List ByteArray → Int → ByteArray → ByteArray → Option (List Int)
  | 0, _, _, _, _, _ => none
  | k + 1, x5, x6, x7, x463000, x463001 => if x7 < (x6.length : Int) then (if 0 ≤ x7 then (if (rdOf ByteArray.empty x6 x7).toList = x463001.toList then (if x5.length < 17592186044416 then (concordanceref08_Places.l0 k (x5 ++ [x7]) x6 (wrap64 (x7 + 1)) x463000 x463001) else (none)) else (concordanceref08_Places.l0 k x5 x6 (wrap64 (x7 + 1)) x463000 x463001)) else (none)) else (some x5)
def concordanceref08_Places.f (k : Nat) (a0_0 : Int) (l0_1 : List (S50)) (a1_0 : ByteArray) (a1_1 : ByteArray) : Option (List Int) := (concordanceref08_Words.f k a0_0 l0_1 a1_0).bind fun t463 => (concordanceref08_Places.l0 k ([] : List Int) t463 0 a1_0 a1_1)
theorem concordanceref08_Places.mono_l : ∀ k, (∀ y0 y1 y2 y3 y4, LeO (concordanceref08_Places.l0 k y0 y1 y2 y3 y4) (concordanceref08_Places.l0 (k + 1) y0 y1 y2 y3 y4))
  | 0 => fun _ _ _ _ _ r h => by simp [concordanceref08_Places.l0] at h
  | k + 1 => by
    have ih0 := concordanceref08_Places.mono_l k
    · intro y0 y1 y2 y3 y4
      unfold concordanceref08_Places.l0
      repeat' first
      | (with_reducible exact ih0 _ _ _ _ _)
      | (with_reducible exact concordanceref08_Words.mono _ _ _ _)
      | (with_reducible exact LeO.refl _)
      | (with_reducible exact LeO.none _)
      | (with_reducible refine LeO.ite ?_ ?_)
      | (with_reducible refine LeO.bind ?_ (fun _ => ?_))
      | exact ih0 _ _ _ _ _
      | exact concordanceref08_Words.mono _ _ _ _
      | exact LeO.none _
      | refine LeO.ite ?_ ?_
      | refine LeO.bind ?_ (fun _ => ?_)
theorem concordanceref08_Places.mono : ∀ a0 a1 a2 a3 k, LeO (concordanceref08_Places.f k a0 a1 a2 a3) (concordanceref08_Places.f (k + 1) a0 a1 a2 a3) := by
  intro a0 a1 a2 a3 k
  have ih0 := concordanceref08_Places.mono_l k
  unfold concordanceref08_Places.f
  repeat' first
      | (with_reducible exact ih0 _ _ _ _ _)
      | (with_reducible exact concordanceref08_Words.mono _ _ _ _)
      | (with_reducible exact LeO.refl _)
      | (with_reducible exact LeO.none _)
      | (with_reducible refine LeO.ite ?_ ?_)
      | (with_reducible refine LeO.bind ?_ (fun _ => ?_))
      | exact ih0 _ _ _ _ _
      | exact concordanceref08_Words.mono _ _ _ _
      | exact LeO.none _
      | refine LeO.ite ?_ ?_
      | refine LeO.bind ?_ (fun _ => ?_)

end Go.Proofs.YteidebllianiiaaGreatDoor.PAll
