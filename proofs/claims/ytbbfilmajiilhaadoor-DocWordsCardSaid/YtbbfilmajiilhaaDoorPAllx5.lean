-- written by a program of this session (wip/px): the walk of printed functions
import Derived.Test.YtbbfilmajiilhaaDoorPAllx0
import Derived.Test.YtbbfilmajiilhaaDoorPAllx2
import Derived.Test.YtbbfilmajiilhaaDoorPAllx3
import Derived.Test.YtbbfilmajiilhaaDoorPAllx4
namespace Go.Proofs.YtbbfilmajiilhaaDoor.PAll
open Go.RowKit Go.Proofs.YtbbfilmajiilhaaDoorW.PrintWords Go.Proofs.YtbbfilmajiilhaaDoorW.PrintLast Go.Proofs.YtbbfilmajiilhaaDoorW.PrintMore
attribute [local go_sem] max2_int min2_int max_two min_two max_three min_three max_four min_four   -- for this text's walks alone
set_option linter.unusedVariables false
set_option linter.unusedSimpArgs false

/-! ### concordanceref02_Words: function 37 -/
mutual
def concordanceref02_Words.l0 : Nat → List Int → List ByteArray → Int → Option (List ByteArray)
  | 0, _, _, _ => none
  | k + 1, x3, x4, x5 => if x5 < (x3.length : Int) then (if 0 ≤ x5 then ((concordanceref02_in.f (rd x3 x5)).bind fun t184 => (if t184 = true then (concordanceref02_Words.l1 k x3 x4 x5 ([] : List Int)) else (concordanceref02_Words.l0 k x3 x4 (wrap64 (x5 + 1))))) else (none)) else (some x4)
def concordanceref02_Words.l1 : Nat → List Int → List ByteArray → Int → List Int → Option (List ByteArray)
  | 0, _, _, _, _ => none
  | k + 1, x3, x4, x5, x7 => if x5 < (x3.length : Int) then (if 0 ≤ x5 then ((concordanceref02_in.f (rd x3 x5)).bind fun t186 => (if t186 = true then ((concordanceref01_Fold.f (rd x3 x5)).bind fun t188 => (if x7.length < 17592186044416 then (concordanceref02_Words.l1 k x3 x4 (wrap64 (x5 + 1)) (x7 ++ [t188])) else (none))) else ((concordanceref01_Text.f k x7).bind fun t192 => (if x4.length < 8796093022208 then (concordanceref02_Words.l0 k x3 (x4 ++ [t192]) (wrap64 (x5 + 1))) else (none))))) else (none)) else ((concordanceref01_Text.f k x7).bind fun t196 => (if x4.length < 8796093022208 then (concordanceref02_Words.l0 k x3 (x4 ++ [t196]) (wrap64 (x5 + 1))) else (none)))
end
def concordanceref02_Words.f (k : Nat) (a0 : ByteArray) : Option (List ByteArray) := (concordanceref01_Signs.f k a0).bind fun t180 => (concordanceref02_Words.l0 k t180 ([] : List ByteArray) 0)
theorem concordanceref02_Words.mono_l : ∀ k, (∀ y0 y1 y2, LeO (concordanceref02_Words.l0 k y0 y1 y2) (concordanceref02_Words.l0 (k + 1) y0 y1 y2)) ∧ (∀ y0 y1 y2 y3, LeO (concordanceref02_Words.l1 k y0 y1 y2 y3) (concordanceref02_Words.l1 (k + 1) y0 y1 y2 y3))
  | 0 => ⟨fun _ _ _ r h => by simp [concordanceref02_Words.l0] at h, fun _ _ _ _ r h => by simp [concordanceref02_Words.l1] at h⟩
  | k + 1 => by
    obtain ⟨ih0, ih1⟩ := concordanceref02_Words.mono_l k
    refine ⟨?_, ?_⟩
    · intro y0 y1 y2
      unfold concordanceref02_Words.l0
      repeat' first
      | (with_reducible exact ih0 _ _ _)
      | (with_reducible exact ih1 _ _ _ _)
      | (with_reducible exact concordanceref01_Signs.mono _ _)
      | (with_reducible exact concordanceref01_Text.mono _ _)
      | (with_reducible exact LeO.refl _)
      | (with_reducible exact LeO.none _)
      | (with_reducible refine LeO.ite ?_ ?_)
      | (with_reducible refine LeO.bind ?_ (fun _ => ?_))
      | exact ih0 _ _ _
      | exact ih1 _ _ _ _
      | exact concordanceref01_Signs.mono _ _
      | exact concordanceref01_Text.mono _ _
      | exact LeO.none _
      | refine LeO.ite ?_ ?_
      | refine LeO.bind ?_ (fun _ => ?_)
    · intro y0 y1 y2 y3
      unfold concordanceref02_Words.l1
      repeat' first
      | (with_reducible exact ih0 _ _ _)
      | (with_reducible exact ih1 _ _ _ _)
      | (with_reducible exact concordanceref01_Signs.mono _ _)
      | (with_reducible exact concordanceref01_Text.mono _ _)
      | (with_reducible exact LeO.refl _)
      | (with_reducible exact LeO.none _)
      | (with_reducible refine LeO.ite ?_ ?_)
      | (with_reducible refine LeO.bind ?_ (fun _ => ?_))
      | exact ih0 _ _ _
      | exact ih1 _ _ _ _
      | exact concordanceref01_Signs.mono _ _
      | exact concordanceref01_Text.mono _ _
      | exact LeO.none _
      | refine LeO.ite ?_ ?_
      | refine LeO.bind ?_ (fun _ => ?_)
theorem concordanceref02_Words.mono : ∀ a0 k, LeO (concordanceref02_Words.f k a0) (concordanceref02_Words.f (k + 1) a0) := by
  intro a0 k
  obtain ⟨ih0, ih1⟩ := concordanceref02_Words.mono_l k
  unfold concordanceref02_Words.f
  repeat' first
      | (with_reducible exact ih0 _ _ _)
      | (with_reducible exact ih1 _ _ _ _)
      | (with_reducible exact concordanceref01_Signs.mono _ _)
      | (with_reducible exact concordanceref01_Text.mono _ _)
      | (with_reducible exact LeO.refl _)
      | (with_reducible exact LeO.none _)
      | (with_reducible refine LeO.ite ?_ ?_)
      | (with_reducible refine LeO.bind ?_ (fun _ => ?_))
      | exact ih0 _ _ _
      | exact ih1 _ _ _ _
      | exact concordanceref01_Signs.mono _ _
      | exact concordanceref01_Text.mono _ _
      | exact LeO.none _
      | refine LeO.ite ?_ ?_
      | refine LeO.bind ?_ (fun _ => ?_)

/-! ### concordanceref02_Tokens: function 25 -/
def concordanceref02_Tokens.l0 : Nat → List ByteArray → List (S59) → Int → Option ((List (S59)) × Int)
  | 0, _, _, _ => none
  | k + 1, x4, x5, x6 => if x6 < (x4.length : Int) then (if 0 ≤ x6 then (if ((rdOf ByteArray.empty x4 x6).size : Int) > 30 then (some (([] : List (S59)), 3)) else (if x6 ≥ 500 then (some (([] : List (S59)), 7)) else (if x5.length < 5864062014805 then (concordanceref02_Tokens.l0 k x4 (x5 ++ [(⟨rdOf ByteArray.empty x4 x6, x6⟩ : S59)]) (wrap64 (x6 + 1))) else (none)))) else (none)) else (some (x5, 0))
def concordanceref02_Tokens.f (k : Nat) (a0 : ByteArray) : Option ((List (S59)) × Int) := (concordanceref02_Words.f k a0).bind fun t200 => (concordanceref02_Tokens.l0 k t200 ([] : List (S59)) 0)
theorem concordanceref02_Tokens.mono_l : ∀ k, (∀ y0 y1 y2, LeO (concordanceref02_Tokens.l0 k y0 y1 y2) (concordanceref02_Tokens.l0 (k + 1) y0 y1 y2))
  | 0 => fun _ _ _ r h => by simp [concordanceref02_Tokens.l0] at h
  | k + 1 => by
    have ih0 := concordanceref02_Tokens.mono_l k
    · intro y0 y1 y2
      unfold concordanceref02_Tokens.l0
      repeat' first
      | (with_reducible exact ih0 _ _ _)
      | (with_reducible exact concordanceref02_Words.mono _ _)
      | (with_reducible exact LeO.refl _)
      | (with_reducible exact LeO.none _)
      | (with_reducible refine LeO.ite ?_ ?_)
      | (with_reducible refine LeO.bind ?_ (fun _ => ?_))
      | exact ih0 _ _ _
      | exact concordanceref02_Words.mono _ _
      | exact LeO.none _
      | refine LeO.ite ?_ ?_
      | refine LeO.bind ?_ (fun _ => ?_)
theorem concordanceref02_Tokens.mono : ∀ a0 k, LeO (concordanceref02_Tokens.f k a0) (concordanceref02_Tokens.f (k + 1) a0) := by
  intro a0 k
  have ih0 := concordanceref02_Tokens.mono_l k
  unfold concordanceref02_Tokens.f
  repeat' first
      | (with_reducible exact ih0 _ _ _)
      | (with_reducible exact concordanceref02_Words.mono _ _)
      | (with_reducible exact LeO.refl _)
      | (with_reducible exact LeO.none _)
      | (with_reducible refine LeO.ite ?_ ?_)
      | (with_reducible refine LeO.bind ?_ (fun _ => ?_))
      | exact ih0 _ _ _
      | exact concordanceref02_Words.mono _ _
      | exact LeO.none _
      | refine LeO.ite ?_ ?_
      | refine LeO.bind ?_ (fun _ => ?_)

/-! ### concordanceref08_May: function 11 -/
mutual
def concordanceref08_May.l0 : Nat → Int → Int → Int → List (S24) → Option (Int)
  | 0, _, _, _, _ => none
  | k + 1, x3, x4, x209000, x209001 => if x4 < (x209001.length : Int) then (if 0 ≤ x4 then ((concordanceref08_Name.f k ((rd_T24 x209001 x4).f0)).bind fun t210 => (if t210 = true then (concordanceref08_May.l1 k x3 x4 0 x209000 x209001) else (some 4))) else (none)) else (if x3 > 500 then (some 7) else (some 0))
def concordanceref08_May.l1 : Nat → Int → Int → Int → Int → List (S24) → Option (Int)
  | 0, _, _, _, _, _ => none
  | k + 1, x3, x4, x6, x209000, x209001 => if x6 < x4 then (if 0 ≤ x6 then (if x6 < (x209001.length : Int) then (if 0 ≤ x4 then (if x4 < (x209001.length : Int) then (if ((rd_T24 x209001 x6).f0).toList = ((rd_T24 x209001 x4).f0).toList then (some 5) else (concordanceref08_May.l1 k x3 x4 (wrap64 (x6 + 1)) x209000 x209001)) else (none)) else (none)) else (none)) else (none)) else (if 0 ≤ x4 then (if x4 < (x209001.length : Int) then ((concordanceref02_Tokens.f k ((rd_T24 x209001 x4).f1)).bind fun bt214 => (if bt214.2 = 0 then (concordanceref08_May.l0 k (wrap64 (x3 + (bt214.1.length : Int))) (wrap64 (x4 + 1)) x209000 x209001) else (some bt214.2))) else (none)) else (none))
end
def concordanceref08_May.f (k : Nat) (a0_0 : Int) (l0_1 : List (S24)) : Option (Int) := if (l0_1.length : Int) > 8 then (some 7) else (concordanceref08_May.l0 k 0 0 a0_0 l0_1)
theorem concordanceref08_May.mono_l : ∀ k, (∀ y0 y1 y2 y3, LeO (concordanceref08_May.l0 k y0 y1 y2 y3) (concordanceref08_May.l0 (k + 1) y0 y1 y2 y3)) ∧ (∀ y0 y1 y2 y3 y4, LeO (concordanceref08_May.l1 k y0 y1 y2 y3 y4) (concordanceref08_May.l1 (k + 1) y0 y1 y2 y3 y4))
  | 0 => ⟨fun _ _ _ _ r h => by simp [concordanceref08_May.l0] at h, fun _ _ _ _ _ r h => by simp [concordanceref08_May.l1] at h⟩
  | k + 1 => by
    obtain ⟨ih0, ih1⟩ := concordanceref08_May.mono_l k
    refine ⟨?_, ?_⟩
    · intro y0 y1 y2 y3
      unfold concordanceref08_May.l0
      repeat' first
      | (with_reducible exact ih0 _ _ _ _)
      | (with_reducible exact ih1 _ _ _ _ _)
      | (with_reducible exact concordanceref02_Tokens.mono _ _)
      | (with_reducible exact concordanceref08_Name.mono _ _)
      | (with_reducible exact LeO.refl _)
      | (with_reducible exact LeO.none _)
      | (with_reducible refine LeO.ite ?_ ?_)
      | (with_reducible refine LeO.bind ?_ (fun _ => ?_))
      | exact ih0 _ _ _ _
      | exact ih1 _ _ _ _ _
      | exact concordanceref02_Tokens.mono _ _
      | exact concordanceref08_Name.mono _ _
      | exact LeO.none _
      | refine LeO.ite ?_ ?_
      | refine LeO.bind ?_ (fun _ => ?_)
    · intro y0 y1 y2 y3 y4
      unfold concordanceref08_May.l1
      repeat' first
      | (with_reducible exact ih0 _ _ _ _)
      | (with_reducible exact ih1 _ _ _ _ _)
      | (with_reducible exact concordanceref02_Tokens.mono _ _)
      | (with_reducible exact concordanceref08_Name.mono _ _)
      | (with_reducible exact LeO.refl _)
      | (with_reducible exact LeO.none _)
      | (with_reducible refine LeO.ite ?_ ?_)
      | (with_reducible refine LeO.bind ?_ (fun _ => ?_))
      | exact ih0 _ _ _ _
      | exact ih1 _ _ _ _ _
      | exact concordanceref02_Tokens.mono _ _
      | exact concordanceref08_Name.mono _ _
      | exact LeO.none _
      | refine LeO.ite ?_ ?_
      | refine LeO.bind ?_ (fun _ => ?_)
theorem concordanceref08_May.mono : ∀ a0 a1 k, LeO (concordanceref08_May.f k a0 a1) (concordanceref08_May.f (k + 1) a0 a1) := by
  intro a0 a1 k
  obtain ⟨ih0, ih1⟩ := concordanceref08_May.mono_l k
  unfold concordanceref08_May.f
  repeat' first
      | (with_reducible exact ih0 _ _ _ _)
      | (with_reducible exact ih1 _ _ _ _ _)
      | (with_reducible exact concordanceref02_Tokens.mono _ _)
      | (with_reducible exact concordanceref08_Name.mono _ _)
      | (with_reducible exact LeO.refl _)
      | (with_reducible exact LeO.none _)
      | (with_reducible refine LeO.ite ?_ ?_)
      | (with_reducible refine LeO.bind ?_ (fun _ => ?_))
      | exact ih0 _ _ _ _
      | exact ih1 _ _ _ _ _
      | exact concordanceref02_Tokens.mono _ _
      | exact concordanceref08_Name.mono _ _
      | exact LeO.none _
      | refine LeO.ite ?_ ?_
      | refine LeO.bind ?_ (fun _ => ?_)

end Go.Proofs.YtbbfilmajiilhaaDoor.PAll
