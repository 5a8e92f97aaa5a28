-- written by a program of this session (wip/px): the walk of printed functions
import Derived.Test.YtbbfilmajiilhaaDoorPAllx0
namespace Go.Proofs.YtbbfilmajiilhaaDoor.PAll
open Go.RowKit Go.Proofs.YtbbfilmajiilhaaDoorW.PrintWords Go.Proofs.YtbbfilmajiilhaaDoorW.PrintLast Go.Proofs.YtbbfilmajiilhaaDoorW.PrintMore
attribute [local go_sem] max2_int min2_int max_two min_two max_three min_three max_four min_four   -- for this text's walks alone
set_option linter.unusedVariables false
set_option linter.unusedSimpArgs false

/-! ### concordanceref01_Letter: function 71 -/
def concordanceref01_Letter.f (a0 : Int) : Option (Bool) := if a0 ≥ 97 then (if a0 ≤ 122 then (some true) else (if a0 ≥ 65 then (if a0 ≤ 90 then (some true) else (if a0 ≥ 192 then (if a0 ≤ 591 then (if a0 = 215 then (some false) else (some (a0 != 247))) else (some false)) else (some false))) else (if a0 ≥ 192 then (if a0 ≤ 591 then (if a0 = 215 then (some false) else (some (a0 != 247))) else (some false)) else (some false)))) else (if a0 ≥ 65 then (if a0 ≤ 90 then (some true) else (if a0 ≥ 192 then (if a0 ≤ 591 then (if a0 = 215 then (some false) else (some (a0 != 247))) else (some false)) else (some false))) else (if a0 ≥ 192 then (if a0 ≤ 591 then (if a0 = 215 then (some false) else (some (a0 != 247))) else (some false)) else (some false)))

/-! ### concordanceref02_in: function 56 -/
def concordanceref02_in.f (a0 : Int) : Option (Bool) := (concordanceref01_Letter.f a0).bind fun t157 => (if t157 = true then (some true) else (if a0 ≥ 48 then (some (decide (a0 ≤ 57))) else (some false)))

/-! ### concordanceref01_Fold: function 57 -/
def concordanceref01_Fold.f (a0 : Int) : Option (Int) := if a0 ≥ 65 then (if a0 ≤ 90 then (some (wrap64 (a0 + 32))) else (if a0 ≥ 192 then (if a0 ≤ 214 then (some (wrap64 (a0 + 32))) else (if a0 ≥ 216 then (if a0 ≤ 222 then (some (wrap64 (a0 + 32))) else (some a0)) else (some a0))) else (if a0 ≥ 216 then (if a0 ≤ 222 then (some (wrap64 (a0 + 32))) else (some a0)) else (some a0)))) else (if a0 ≥ 192 then (if a0 ≤ 214 then (some (wrap64 (a0 + 32))) else (if a0 ≥ 216 then (if a0 ≤ 222 then (some (wrap64 (a0 + 32))) else (some a0)) else (some a0))) else (if a0 ≥ 216 then (if a0 ≤ 222 then (some (wrap64 (a0 + 32))) else (some a0)) else (some a0)))

/-! ### concordanceref01_Text: function 58 -/
mutual
def concordanceref01_Text.l0 : Nat → List Int → List Int → Int → Option (ByteArray)
  | 0, _, _, _ => none
  | k + 1, x0, x3, x4 => if x4 < (x0.length : Int) then (if 0 ≤ x4 then (if (rd x0 x4) < 0 then (concordanceref01_Text.j1 k x0 x3 x4 (rd x0 x4) true) else (if (rd x0 x4) > 1114111 then (concordanceref01_Text.j1 k x0 x3 x4 (rd x0 x4) true) else (if (rd x0 x4) ≥ 55296 then (concordanceref01_Text.j1 k x0 x3 x4 (rd x0 x4) (decide ((rd x0 x4) ≤ 57343))) else (concordanceref01_Text.j1 k x0 x3 x4 (rd x0 x4) false)))) else (none)) else (some (strOfNums x3))
def concordanceref01_Text.j1 : Nat → List Int → List Int → Int → Int → Bool → Option (ByteArray)
  | 0, _, _, _, _, _ => none
  | k + 1, x0, x3, x4, x5, x29 => if x29 = true then (concordanceref01_Text.j2 k x0 x3 x4 65533) else (concordanceref01_Text.j2 k x0 x3 x4 x5)
def concordanceref01_Text.j2 : Nat → List Int → List Int → Int → Int → Option (ByteArray)
  | 0, _, _, _, _ => none
  | k + 1, x0, x3, x4, x5 => if x5 < 128 then (if x3.length < 140737488355328 then (concordanceref01_Text.l0 k x0 (x3 ++ [(x5) % 256]) (wrap64 (x4 + 1))) else (none)) else (if x5 < 2048 then ((some (([(wrap64 (192 + (wrap64 (Int.tdiv x5 64)))) % 256, (wrap64 (128 + (Int.tmod x5 64))) % 256] : List Int) : List Int)).bind fun y162 => (if x3.length + y162.length < 140737488355328 then (concordanceref01_Text.l0 k x0 (x3 ++ y162) (wrap64 (x4 + 1))) else (none))) else (if x5 < 65536 then ((some (([(wrap64 (224 + (wrap64 (Int.tdiv x5 4096)))) % 256, (wrap64 (128 + (Int.tmod (wrap64 (Int.tdiv x5 64)) 64))) % 256, (wrap64 (128 + (Int.tmod x5 64))) % 256] : List Int) : List Int)).bind fun y168 => (if x3.length + y168.length < 140737488355328 then (concordanceref01_Text.l0 k x0 (x3 ++ y168) (wrap64 (x4 + 1))) else (none))) else ((some (([(wrap64 (240 + (wrap64 (Int.tdiv x5 262144)))) % 256, (wrap64 (128 + (Int.tmod (wrap64 (Int.tdiv x5 4096)) 64))) % 256, (wrap64 (128 + (Int.tmod (wrap64 (Int.tdiv x5 64)) 64))) % 256, (wrap64 (128 + (Int.tmod x5 64))) % 256] : List Int) : List Int)).bind fun y174 => (if x3.length + y174.length < 140737488355328 then (concordanceref01_Text.l0 k x0 (x3 ++ y174) (wrap64 (x4 + 1))) else (none)))))
end
def concordanceref01_Text.f (k : Nat) (l0 : List Int) : Option (ByteArray) := concordanceref01_Text.l0 k l0 ([] : List Int) 0
theorem concordanceref01_Text.mono_l : ∀ k, (∀ y0 y1 y2, LeO (concordanceref01_Text.l0 k y0 y1 y2) (concordanceref01_Text.l0 (k + 1) y0 y1 y2)) ∧ (∀ y0 y1 y2 y3 y4, LeO (concordanceref01_Text.j1 k y0 y1 y2 y3 y4) (concordanceref01_Text.j1 (k + 1) y0 y1 y2 y3 y4)) ∧ (∀ y0 y1 y2 y3, LeO (concordanceref01_Text.j2 k y0 y1 y2 y3) (concordanceref01_Text.j2 (k + 1) y0 y1 y2 y3))
  | 0 => ⟨fun _ _ _ r h => by simp [concordanceref01_Text.l0] at h, fun _ _ _ _ _ r h => by simp [concordanceref01_Text.j1] at h, fun _ _ _ _ r h => by simp [concordanceref01_Text.j2] at h⟩
  | k + 1 => by
    obtain ⟨ih0, ih1, ih2⟩ := concordanceref01_Text.mono_l k
    refine ⟨?_, ?_, ?_⟩
    · intro y0 y1 y2
      unfold concordanceref01_Text.l0
      repeat' first
      | (with_reducible exact ih0 _ _ _)
      | (with_reducible exact ih1 _ _ _ _ _)
      | (with_reducible exact ih2 _ _ _ _)
      | (with_reducible exact LeO.refl _)
      | (with_reducible exact LeO.none _)
      | (with_reducible refine LeO.ite ?_ ?_)
      | (with_reducible refine LeO.bind ?_ (fun _ => ?_))
      | exact ih0 _ _ _
      | exact ih1 _ _ _ _ _
      | exact ih2 _ _ _ _
      | exact LeO.none _
      | refine LeO.ite ?_ ?_
      | refine LeO.bind ?_ (fun _ => ?_)
    · intro y0 y1 y2 y3 y4
      unfold concordanceref01_Text.j1
      repeat' first
      | (with_reducible exact ih0 _ _ _)
      | (with_reducible exact ih1 _ _ _ _ _)
      | (with_reducible exact ih2 _ _ _ _)
      | (with_reducible exact LeO.refl _)
      | (with_reducible exact LeO.none _)
      | (with_reducible refine LeO.ite ?_ ?_)
      | (with_reducible refine LeO.bind ?_ (fun _ => ?_))
      | exact ih0 _ _ _
      | exact ih1 _ _ _ _ _
      | exact ih2 _ _ _ _
      | exact LeO.none _
      | refine LeO.ite ?_ ?_
      | refine LeO.bind ?_ (fun _ => ?_)
    · intro y0 y1 y2 y3
      unfold concordanceref01_Text.j2
      repeat' first
      | (with_reducible exact ih0 _ _ _)
      | (with_reducible exact ih1 _ _ _ _ _)
      | (with_reducible exact ih2 _ _ _ _)
      | (with_reducible exact LeO.refl _)
      | (with_reducible exact LeO.none _)
      | (with_reducible refine LeO.ite ?_ ?_)
      | (with_reducible refine LeO.bind ?_ (fun _ => ?_))
      | exact ih0 _ _ _
      | exact ih1 _ _ _ _ _
      | exact ih2 _ _ _ _
      | exact LeO.none _
      | refine LeO.ite ?_ ?_
      | refine LeO.bind ?_ (fun _ => ?_)
theorem concordanceref01_Text.mono : ∀ a0 k, LeO (concordanceref01_Text.f k a0) (concordanceref01_Text.f (k + 1) a0) := by
  intro a0 k
  obtain ⟨ih0, ih1, ih2⟩ := concordanceref01_Text.mono_l k
  unfold concordanceref01_Text.f
  repeat' first
      | (with_reducible exact ih0 _ _ _)
      | (with_reducible exact ih1 _ _ _ _ _)
      | (with_reducible exact ih2 _ _ _ _)
      | (with_reducible exact LeO.refl _)
      | (with_reducible exact LeO.none _)
      | (with_reducible refine LeO.ite ?_ ?_)
      | (with_reducible refine LeO.bind ?_ (fun _ => ?_))
      | exact ih0 _ _ _
      | exact ih1 _ _ _ _ _
      | exact ih2 _ _ _ _
      | exact LeO.none _
      | refine LeO.ite ?_ ?_
      | refine LeO.bind ?_ (fun _ => ?_)

end Go.Proofs.YtbbfilmajiilhaaDoor.PAll
