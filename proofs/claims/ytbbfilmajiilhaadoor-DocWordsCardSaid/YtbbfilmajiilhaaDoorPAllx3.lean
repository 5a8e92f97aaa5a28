-- written by a program of this session (wip/px): the walk of printed functions
import Derived.Test.YtbbfilmajiilhaaDoorPAllx0
namespace Go.Proofs.YtbbfilmajiilhaaDoor.PAll
open Go.RowKit Go.Proofs.YtbbfilmajiilhaaDoorW.PrintWords Go.Proofs.YtbbfilmajiilhaaDoorW.PrintLast Go.Proofs.YtbbfilmajiilhaaDoorW.PrintMore
attribute [local go_sem] max2_int min2_int max_two min_two max_three min_three max_four min_four   -- for this text's walks alone
set_option linter.unusedVariables false
set_option linter.unusedSimpArgs false

/-! ### concordanceref01_one: function 70 -/
mutual
def concordanceref01_one.j0 : Nat → ByteArray → Int → Int → Int → Int → Bool → Option (Int × Int)
  | 0, _, _, _, _, _, _ => none
  | k + 1, x0, x4, x5, x6, x7, x21 => if x21 = true then (concordanceref01_one.j2 k x0 2 128 (wrap64 (x4 - 192))) else (if x4 ≥ 224 then (concordanceref01_one.j1 k x0 x4 x5 x6 x7 (decide (x4 < 240))) else (concordanceref01_one.j1 k x0 x4 x5 x6 x7 false))
def concordanceref01_one.j2 : Nat → ByteArray → Int → Int → Int → Option (Int × Int)
  | 0, _, _, _, _ => none
  | k + 1, x0, x5, x6, x7 => if x5 = 0 then (concordanceref01_one.j3 k x0 x5 x6 x7 true) else (concordanceref01_one.j3 k x0 x5 x6 x7 (decide ((x0.size : Int) < x5)))
def concordanceref01_one.j3 : Nat → ByteArray → Int → Int → Int → Bool → Option (Int × Int)
  | 0, _, _, _, _, _ => none
  | k + 1, x0, x5, x6, x7, x47 => if x47 = true then (some (65533, 1)) else (concordanceref01_one.l0 k x0 x5 x6 x7 1)
def concordanceref01_one.l0 : Nat → ByteArray → Int → Int → Int → Int → Option (Int × Int)
  | 0, _, _, _, _, _ => none
  | k + 1, x0, x5, x6, x7, x8 => if x8 < x5 then (if 0 ≤ x8 then (if x8 < (x0.size : Int) then (if (wrap64 (bt x0 x8)) < 128 then (some (65533, 1)) else (if (wrap64 (bt x0 x8)) ≥ 192 then (some (65533, 1)) else (concordanceref01_one.l0 k x0 x5 x6 (wrap64 ((wrap64 ((wrap64 (64 * x7)) + (wrap64 (bt x0 x8)))) - 128)) (wrap64 (x8 + 1))))) else (none)) else (none)) else (if x7 < x6 then (some (65533, 1)) else (if x7 > 1114111 then (some (65533, 1)) else (if x7 ≥ 55296 then (if x7 ≤ 57343 then (some (65533, 1)) else (some (x7, x5))) else (some (x7, x5)))))
def concordanceref01_one.j1 : Nat → ByteArray → Int → Int → Int → Int → Bool → Option (Int × Int)
  | 0, _, _, _, _, _, _ => none
  | k + 1, x0, x4, x5, x6, x7, x29 => if x29 = true then (concordanceref01_one.j2 k x0 3 2048 (wrap64 (x4 - 224))) else (if x4 ≥ 240 then (if x4 < 245 then (concordanceref01_one.j2 k x0 4 65536 (wrap64 (x4 - 240))) else (concordanceref01_one.j2 k x0 x5 x6 x7)) else (concordanceref01_one.j2 k x0 x5 x6 x7))
end
def concordanceref01_one.f (k : Nat) (a0 : ByteArray) : Option (Int × Int) := if 0 < (a0.size : Int) then (if (wrap64 (bt a0 0)) < 128 then (some (wrap64 (bt a0 0), 1)) else (if (wrap64 (bt a0 0)) ≥ 194 then (concordanceref01_one.j0 k a0 (wrap64 (bt a0 0)) 0 0 0 (decide ((wrap64 (bt a0 0)) < 224))) else (concordanceref01_one.j0 k a0 (wrap64 (bt a0 0)) 0 0 0 false))) else (none)
theorem concordanceref01_one.mono_l : ∀ k, (∀ y0 y1 y2 y3 y4 y5, LeO (concordanceref01_one.j0 k y0 y1 y2 y3 y4 y5) (concordanceref01_one.j0 (k + 1) y0 y1 y2 y3 y4 y5)) ∧ (∀ y0 y1 y2 y3, LeO (concordanceref01_one.j2 k y0 y1 y2 y3) (concordanceref01_one.j2 (k + 1) y0 y1 y2 y3)) ∧ (∀ y0 y1 y2 y3 y4, LeO (concordanceref01_one.j3 k y0 y1 y2 y3 y4) (concordanceref01_one.j3 (k + 1) y0 y1 y2 y3 y4)) ∧ (∀ y0 y1 y2 y3 y4, LeO (concordanceref01_one.l0 k y0 y1 y2 y3 y4) (concordanceref01_one.l0 (k + 1) y0 y1 y2 y3 y4)) ∧ (∀ y0 y1 y2 y3 y4 y5, LeO (concordanceref01_one.j1 k y0 y1 y2 y3 y4 y5) (concordanceref01_one.j1 (k + 1) y0 y1 y2 y3 y4 y5))
  | 0 => ⟨fun _ _ _ _ _ _ r h => by simp [concordanceref01_one.j0] at h, fun _ _ _ _ r h => by simp [concordanceref01_one.j2] at h, fun _ _ _ _ _ r h => by simp [concordanceref01_one.j3] at h, fun _ _ _ _ _ r h => by simp [concordanceref01_one.l0] at h, fun _ _ _ _ _ _ r h => by simp [concordanceref01_one.j1] at h⟩
  | k + 1 => by
    obtain ⟨ih0, ih1, ih2, ih3, ih4⟩ := concordanceref01_one.mono_l k
    refine ⟨?_, ?_, ?_, ?_, ?_⟩
    · intro y0 y1 y2 y3 y4 y5
      unfold concordanceref01_one.j0
      repeat' first
      | (with_reducible exact ih0 _ _ _ _ _ _)
      | (with_reducible exact ih1 _ _ _ _)
      | (with_reducible exact ih2 _ _ _ _ _)
      | (with_reducible exact ih3 _ _ _ _ _)
      | (with_reducible exact ih4 _ _ _ _ _ _)
      | (with_reducible exact LeO.refl _)
      | (with_reducible exact LeO.none _)
      | (with_reducible refine LeO.ite ?_ ?_)
      | (with_reducible refine LeO.bind ?_ (fun _ => ?_))
      | exact ih0 _ _ _ _ _ _
      | exact ih1 _ _ _ _
      | exact ih2 _ _ _ _ _
      | exact ih3 _ _ _ _ _
      | exact ih4 _ _ _ _ _ _
      | exact LeO.none _
      | refine LeO.ite ?_ ?_
      | refine LeO.bind ?_ (fun _ => ?_)
    · intro y0 y1 y2 y3
      unfold concordanceref01_one.j2
      repeat' first
      | (with_reducible exact ih0 _ _ _ _ _ _)
      | (with_reducible exact ih1 _ _ _ _)
      | (with_reducible exact ih2 _ _ _ _ _)
      | (with_reducible exact ih3 _ _ _ _ _)
      | (with_reducible exact ih4 _ _ _ _ _ _)
      | (with_reducible exact LeO.refl _)
      | (with_reducible exact LeO.none _)
      | (with_reducible refine LeO.ite ?_ ?_)
      | (with_reducible refine LeO.bind ?_ (fun _ => ?_))
      | exact ih0 _ _ _ _ _ _
      | exact ih1 _ _ _ _
      | exact ih2 _ _ _ _ _
      | exact ih3 _ _ _ _ _
      | exact ih4 _ _ _ _ _ _
      | exact LeO.none _
      | refine LeO.ite ?_ ?_
      | refine LeO.bind ?_ (fun _ => ?_)
    · intro y0 y1 y2 y3 y4
      unfold concordanceref01_one.j3
      repeat' first
      | (with_reducible exact ih0 _ _ _ _ _ _)
      | (with_reducible exact ih1 _ _ _ _)
      | (with_reducible exact ih2 _ _ _ _ _)
      | (with_reducible exact ih3 _ _ _ _ _)
      | (with_reducible exact ih4 _ _ _ _ _ _)
      | (with_reducible exact LeO.refl _)
      | (with_reducible exact LeO.none _)
      | (with_reducible refine LeO.ite ?_ ?_)
      | (with_reducible refine LeO.bind ?_ (fun _ => ?_))
      | exact ih0 _ _ _ _ _ _
      | exact ih1 _ _ _ _
      | exact ih2 _ _ _ _ _
      | exact ih3 _ _ _ _ _
      | exact ih4 _ _ _ _ _ _
      | exact LeO.none _
      | refine LeO.ite ?_ ?_
      | refine LeO.bind ?_ (fun _ => ?_)
    · intro y0 y1 y2 y3 y4
      unfold concordanceref01_one.l0
      repeat' first
      | (with_reducible exact ih0 _ _ _ _ _ _)
      | (with_reducible exact ih1 _ _ _ _)
      | (with_reducible exact ih2 _ _ _ _ _)
      | (with_reducible exact ih3 _ _ _ _ _)
      | (with_reducible exact ih4 _ _ _ _ _ _)
      | (with_reducible exact LeO.refl _)
      | (with_reducible exact LeO.none _)
      | (with_reducible refine LeO.ite ?_ ?_)
      | (with_reducible refine LeO.bind ?_ (fun _ => ?_))
      | exact ih0 _ _ _ _ _ _
      | exact ih1 _ _ _ _
      | exact ih2 _ _ _ _ _
      | exact ih3 _ _ _ _ _
      | exact ih4 _ _ _ _ _ _
      | exact LeO.none _
      | refine LeO.ite ?_ ?_
      | refine LeO.bind ?_ (fun _ => ?_)
    · intro y0 y1 y2 y3 y4 y5
      unfold concordanceref01_one.j1
      repeat' first
      | (with_reducible exact ih0 _ _ _ _ _ _)
      | (with_reducible exact ih1 _ _ _ _)
      | (with_reducible exact ih2 _ _ _ _ _)
      | (with_reducible exact ih3 _ _ _ _ _)
      | (with_reducible exact ih4 _ _ _ _ _ _)
      | (with_reducible exact LeO.refl _)
      | (with_reducible exact LeO.none _)
      | (with_reducible refine LeO.ite ?_ ?_)
      | (with_reducible refine LeO.bind ?_ (fun _ => ?_))
      | exact ih0 _ _ _ _ _ _
      | exact ih1 _ _ _ _
      | exact ih2 _ _ _ _ _
      | exact ih3 _ _ _ _ _
      | exact ih4 _ _ _ _ _ _
      | exact LeO.none _
      | refine LeO.ite ?_ ?_
      | refine LeO.bind ?_ (fun _ => ?_)
theorem concordanceref01_one.mono : ∀ a0 k, LeO (concordanceref01_one.f k a0) (concordanceref01_one.f (k + 1) a0) := by
  intro a0 k
  obtain ⟨ih0, ih1, ih2, ih3, ih4⟩ := concordanceref01_one.mono_l k
  unfold concordanceref01_one.f
  repeat' first
      | (with_reducible exact ih0 _ _ _ _ _ _)
      | (with_reducible exact ih1 _ _ _ _)
      | (with_reducible exact ih2 _ _ _ _ _)
      | (with_reducible exact ih3 _ _ _ _ _)
      | (with_reducible exact ih4 _ _ _ _ _ _)
      | (with_reducible exact LeO.refl _)
      | (with_reducible exact LeO.none _)
      | (with_reducible refine LeO.ite ?_ ?_)
      | (with_reducible refine LeO.bind ?_ (fun _ => ?_))
      | exact ih0 _ _ _ _ _ _
      | exact ih1 _ _ _ _
      | exact ih2 _ _ _ _ _
      | exact ih3 _ _ _ _ _
      | exact ih4 _ _ _ _ _ _
      | exact LeO.none _
      | refine LeO.ite ?_ ?_
      | refine LeO.bind ?_ (fun _ => ?_)

/-! ### concordanceref01_Signs: function 55 -/
def concordanceref01_Signs.l0 : Nat → ByteArray → List Int → Option (List Int)
  | 0, _, _ => none
  | k + 1, x0, x3 => if (x0.size : Int) > 0 then ((concordanceref01_one.f k x0).bind fun bt152 => (if x3.length < 17592186044416 then (if 0 ≤ bt152.2 then (if bt152.2 ≤ (x0.size : Int) then (concordanceref01_Signs.l0 k (x0.extract (bt152.2 : Int).toNat x0.size) (x3 ++ [bt152.1])) else (none)) else (none)) else (none))) else (some x3)
def concordanceref01_Signs.f (k : Nat) (a0 : ByteArray) : Option (List Int) := concordanceref01_Signs.l0 k a0 ([] : List Int)
theorem concordanceref01_Signs.mono_l : ∀ k, (∀ y0 y1, LeO (concordanceref01_Signs.l0 k y0 y1) (concordanceref01_Signs.l0 (k + 1) y0 y1))
  | 0 => fun _ _ r h => by simp [concordanceref01_Signs.l0] at h
  | k + 1 => by
    have ih0 := concordanceref01_Signs.mono_l k
    · intro y0 y1
      unfold concordanceref01_Signs.l0
      repeat' first
      | (with_reducible exact ih0 _ _)
      | (with_reducible exact concordanceref01_one.mono _ _)
      | (with_reducible exact LeO.refl _)
      | (with_reducible exact LeO.none _)
      | (with_reducible refine LeO.ite ?_ ?_)
      | (with_reducible refine LeO.bind ?_ (fun _ => ?_))
      | exact ih0 _ _
      | exact concordanceref01_one.mono _ _
      | exact LeO.none _
      | refine LeO.ite ?_ ?_
      | refine LeO.bind ?_ (fun _ => ?_)
theorem concordanceref01_Signs.mono : ∀ a0 k, LeO (concordanceref01_Signs.f k a0) (concordanceref01_Signs.f (k + 1) a0) := by
  intro a0 k
  have ih0 := concordanceref01_Signs.mono_l k
  unfold concordanceref01_Signs.f
  repeat' first
      | (with_reducible exact ih0 _ _)
      | (with_reducible exact concordanceref01_one.mono _ _)
      | (with_reducible exact LeO.refl _)
      | (with_reducible exact LeO.none _)
      | (with_reducible refine LeO.ite ?_ ?_)
      | (with_reducible refine LeO.bind ?_ (fun _ => ?_))
      | exact ih0 _ _
      | exact concordanceref01_one.mono _ _
      | exact LeO.none _
      | refine LeO.ite ?_ ?_
      | refine LeO.bind ?_ (fun _ => ?_)

end Go.Proofs.YtbbfilmajiilhaaDoor.PAll
