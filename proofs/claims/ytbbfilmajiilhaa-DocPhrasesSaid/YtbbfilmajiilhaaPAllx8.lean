-- written by a program of this session (wip/px): the walk of printed functions
import Derived.Test.YtbbfilmajiilhaaPAllx0
import Derived.Test.YtbbfilmajiilhaaPAllx5
import Derived.Test.YtbbfilmajiilhaaPAllx7
namespace Go.Proofs.Ytbbfilmajiilhaa.PAll
open Go.RowKit Go.Proofs.YtbbfilmajiilhaaW.PrintWords Go.Proofs.YtbbfilmajiilhaaW.PrintLast Go.Proofs.YtbbfilmajiilhaaW.PrintMore
attribute [local go_sem] max2_int min2_int max_two min_two max_three min_three max_four min_four   -- for this text's walks alone
set_option linter.unusedVariables false
set_option linter.unusedSimpArgs false

/-! ### concordanceref08_Terms: function 13 -/
mutual
def concordanceref08_Terms.l0 : Nat → List (S39) → Int → Int → List (S29) → Option ((List (S39)))
  | 0, _, _, _, _ => none
  | k + 1, x3, x4, x308000, x308001 => if x4 < (x308001.length : Int) then (if 0 ≤ x4 then ((concordanceref08_Words.f k x308000 x308001 ((rd_T29 x308001 x4).f0)).bind fun t309 => (concordanceref08_Terms.l1 k x3 x4 t309 0 x308000 x308001)) else (none)) else (some x3)
def concordanceref08_Terms.l1 : Nat → List (S39) → Int → List ByteArray → Int → Int → List (S29) → Option ((List (S39)))
  | 0, _, _, _, _, _, _ => none
  | k + 1, x3, x4, x5, x6, x308000, x308001 => if x6 < (x5.length : Int) then (if 0 ≤ x4 then (if x4 < (x308001.length : Int) then (if 0 ≤ x6 then ((concordanceref08_PutTerm.f k x3 ((rd_T29 x308001 x4).f0) (rdOf ByteArray.empty x5 x6)).bind fun t314 => (concordanceref08_Terms.l1 k t314 x4 x5 (wrap64 (x6 + 1)) x308000 x308001)) else (none)) else (none)) else (none)) else (concordanceref08_Terms.l0 k x3 (wrap64 (x4 + 1)) x308000 x308001)
end
def concordanceref08_Terms.f (k : Nat) (a0_0 : Int) (l0_1 : List (S29)) : Option ((List (S39))) := concordanceref08_Terms.l0 k ([] : List (S39)) 0 a0_0 l0_1
theorem concordanceref08_Terms.mono_l : ∀ k, (∀ y0 y1 y2 y3, LeO (concordanceref08_Terms.l0 k y0 y1 y2 y3) (concordanceref08_Terms.l0 (k + 1) y0 y1 y2 y3)) ∧ (∀ y0 y1 y2 y3 y4 y5, LeO (concordanceref08_Terms.l1 k y0 y1 y2 y3 y4 y5) (concordanceref08_Terms.l1 (k + 1) y0 y1 y2 y3 y4 y5))
  | 0 => ⟨fun _ _ _ _ r h => by simp [concordanceref08_Terms.l0] at h, fun _ _ _ _ _ _ r h => by simp [concordanceref08_Terms.l1] at h⟩
  | k + 1 => by
    obtain ⟨ih0, ih1⟩ := concordanceref08_Terms.mono_l k
    refine ⟨?_, ?_⟩
    · intro y0 y1 y2 y3
      unfold concordanceref08_Terms.l0
      repeat' first
      | (with_reducible exact ih0 _ _ _ _)
      | (with_reducible exact ih1 _ _ _ _ _ _)
      | (with_reducible exact concordanceref08_PutTerm.mono _ _ _ _)
      | (with_reducible exact concordanceref08_Words.mono _ _ _ _)
      | (with_reducible exact LeO.refl _)
      | (with_reducible exact LeO.none _)
      | (with_reducible refine LeO.ite ?_ ?_)
      | (with_reducible refine LeO.bind ?_ (fun _ => ?_))
      | exact ih0 _ _ _ _
      | exact ih1 _ _ _ _ _ _
      | exact concordanceref08_PutTerm.mono _ _ _ _
      | exact concordanceref08_Words.mono _ _ _ _
      | exact LeO.none _
      | refine LeO.ite ?_ ?_
      | refine LeO.bind ?_ (fun _ => ?_)
    · intro y0 y1 y2 y3 y4 y5
      unfold concordanceref08_Terms.l1
      repeat' first
      | (with_reducible exact ih0 _ _ _ _)
      | (with_reducible exact ih1 _ _ _ _ _ _)
      | (with_reducible exact concordanceref08_PutTerm.mono _ _ _ _)
      | (with_reducible exact concordanceref08_Words.mono _ _ _ _)
      | (with_reducible exact LeO.refl _)
      | (with_reducible exact LeO.none _)
      | (with_reducible refine LeO.ite ?_ ?_)
      | (with_reducible refine LeO.bind ?_ (fun _ => ?_))
      | exact ih0 _ _ _ _
      | exact ih1 _ _ _ _ _ _
      | exact concordanceref08_PutTerm.mono _ _ _ _
      | exact concordanceref08_Words.mono _ _ _ _
      | exact LeO.none _
      | refine LeO.ite ?_ ?_
      | refine LeO.bind ?_ (fun _ => ?_)
theorem concordanceref08_Terms.mono : ∀ a0 a1 k, LeO (concordanceref08_Terms.f k a0 a1) (concordanceref08_Terms.f (k + 1) a0 a1) := by
  intro a0 a1 k
  obtain ⟨ih0, ih1⟩ := concordanceref08_Terms.mono_l k
  unfold concordanceref08_Terms.f
  repeat' first
      | (with_reducible exact ih0 _ _ _ _)
      | (with_reducible exact ih1 _ _ _ _ _ _)
      | (with_reducible exact concordanceref08_PutTerm.mono _ _ _ _)
      | (with_reducible exact concordanceref08_Words.mono _ _ _ _)
      | (with_reducible exact LeO.refl _)
      | (with_reducible exact LeO.none _)
      | (with_reducible refine LeO.ite ?_ ?_)
      | (with_reducible refine LeO.bind ?_ (fun _ => ?_))
      | exact ih0 _ _ _ _
      | exact ih1 _ _ _ _ _ _
      | exact concordanceref08_PutTerm.mono _ _ _ _
      | exact concordanceref08_Words.mono _ _ _ _
      | exact LeO.none _
      | refine LeO.ite ?_ ?_
      | refine LeO.bind ?_ (fun _ => ?_)

/-! ### concordanceref01_Same: function 14 -/
def concordanceref01_Same.l0 : Nat → List Int → List Int → Int → Option (Bool)
  | 0, _, _, _ => none
  | k + 1, x0, x1, x5 => if x5 < (x0.length : Int) then (if 0 ≤ x5 then (if x5 < (x1.length : Int) then (if (rd x0 x5) = (rd x1 x5) then (concordanceref01_Same.l0 k x0 x1 (wrap64 (x5 + 1))) else (some false)) else (none)) else (none)) else (some true)
def concordanceref01_Same.f (k : Nat) (l0 : List Int) (l1 : List Int) : Option (Bool) := if (l0.length : Int) = (l1.length : Int) then (concordanceref01_Same.l0 k l0 l1 0) else (some false)
theorem concordanceref01_Same.mono_l : ∀ k, (∀ y0 y1 y2, LeO (concordanceref01_Same.l0 k y0 y1 y2) (concordanceref01_Same.l0 (k + 1) y0 y1 y2))
  | 0 => fun _ _ _ r h => by simp [concordanceref01_Same.l0] at h
  | k + 1 => by
    have ih0 := concordanceref01_Same.mono_l k
    · intro y0 y1 y2
      unfold concordanceref01_Same.l0
      repeat' first
      | (with_reducible exact ih0 _ _ _)
      | (with_reducible exact LeO.refl _)
      | (with_reducible exact LeO.none _)
      | (with_reducible refine LeO.ite ?_ ?_)
      | (with_reducible refine LeO.bind ?_ (fun _ => ?_))
      | exact ih0 _ _ _
      | exact LeO.none _
      | refine LeO.ite ?_ ?_
      | refine LeO.bind ?_ (fun _ => ?_)
theorem concordanceref01_Same.mono : ∀ a0 a1 k, LeO (concordanceref01_Same.f k a0 a1) (concordanceref01_Same.f (k + 1) a0 a1) := by
  intro a0 a1 k
  have ih0 := concordanceref01_Same.mono_l k
  unfold concordanceref01_Same.f
  repeat' first
      | (with_reducible exact ih0 _ _ _)
      | (with_reducible exact LeO.refl _)
      | (with_reducible exact LeO.none _)
      | (with_reducible refine LeO.ite ?_ ?_)
      | (with_reducible refine LeO.bind ?_ (fun _ => ?_))
      | exact ih0 _ _ _
      | exact LeO.none _
      | refine LeO.ite ?_ ?_
      | refine LeO.bind ?_ (fun _ => ?_)

/-! ### concordanceref08_Places: function 15 -/
def concordanceref08_Places.l0 : Nat → List Int → List ByteArray → Int → ByteArray → ByteArray → Option (List Int)
  | 0, _, _, _, _, _ => none
  | k + 1, x5, x6, x7, x321000, x321001 => if x7 < (x6.length : Int) then (if 0 ≤ x7 then (if (rdOf ByteArray.empty x6 x7).toList = x321001.toList then (if x5.length < 17592186044416 then (concordanceref08_Places.l0 k (x5 ++ [x7]) x6 (wrap64 (x7 + 1)) x321000 x321001) else (none)) else (concordanceref08_Places.l0 k x5 x6 (wrap64 (x7 + 1)) x321000 x321001)) else (none)) else (some x5)
def concordanceref08_Places.f (k : Nat) (a0_0 : Int) (l0_1 : List (S29)) (a1_0 : ByteArray) (a1_1 : ByteArray) : Option (List Int) := (concordanceref08_Words.f k a0_0 l0_1 a1_0).bind fun t321 => (concordanceref08_Places.l0 k ([] : List Int) t321 0 a1_0 a1_1)
theorem concordanceref08_Places.mono_l : ∀ k, (∀ y0 y1 y2 y3 y4, LeO (concordanceref08_Places.l0 k y0 y1 y2 y3 y4) (concordanceref08_Places.l0 (k + 1) y0 y1 y2 y3 y4))
  | 0 => fun _ _ _ _ _ r h => by simp [concordanceref08_Places.l0] at h
  | k + 1 => by
    have ih0 := concordanceref08_Places.mono_l k
    · intro y0 y1 y2 y3 y4
      unfold concordanceref08_Places.l0
      repeat' first
      | (with_reducible exact ih0 _ _ _ _ _)
      | (with_reducible exact concordanceref08_Words.mono _ _ _ _)
      | (with_reducible exact LeO.refl _)
      | (with_reducible exact LeO.none _)
      | (with_reducible refine LeO.ite ?_ ?_)
      | (with_reducible refine LeO.bind ?_ (fun _ => ?_))
      | exact ih0 _ _ _ _ _
      | exact concordanceref08_Words.mono _ _ _ _
      | exact LeO.none _
      | refine LeO.ite ?_ ?_
      | refine LeO.bind ?_ (fun _ => ?_)
theorem concordanceref08_Places.mono : ∀ a0 a1 a2 a3 k, LeO (concordanceref08_Places.f k a0 a1 a2 a3) (concordanceref08_Places.f (k + 1) a0 a1 a2 a3) := by
  intro a0 a1 a2 a3 k
  have ih0 := concordanceref08_Places.mono_l k
  unfold concordanceref08_Places.f
  repeat' first
      | (with_reducible exact ih0 _ _ _ _ _)
      | (with_reducible exact concordanceref08_Words.mono _ _ _ _)
      | (with_reducible exact LeO.refl _)
      | (with_reducible exact LeO.none _)
      | (with_reducible refine LeO.ite ?_ ?_)
      | (with_reducible refine LeO.bind ?_ (fun _ => ?_))
      | exact ih0 _ _ _ _ _
      | exact concordanceref08_Words.mono _ _ _ _
      | exact LeO.none _
      | refine LeO.ite ?_ ?_
      | refine LeO.bind ?_ (fun _ => ?_)

-- EXTERN: function 16 (doc_Weight): module Bnd0

end Go.Proofs.Ytbbfilmajiilhaa.PAll
