-- written by a program of this session (wip/px): the walk of printed functions
import Derived.Test.YtbbfilmajiilhaaPAllx0
import Derived.Test.YtbbfilmajiilhaaPAllx1
import Derived.Test.YtbbfilmajiilhaaPAllx6
namespace Go.Proofs.Ytbbfilmajiilhaa.PAll
open Go.RowKit Go.Proofs.YtbbfilmajiilhaaW.PrintWords Go.Proofs.YtbbfilmajiilhaaW.PrintLast Go.Proofs.YtbbfilmajiilhaaW.PrintMore
attribute [local go_sem] max2_int min2_int max_two min_two max_three min_three max_four min_four   -- for this text's walks alone
set_option linter.unusedVariables false
set_option linter.unusedSimpArgs false

attribute [local go_sem high] eqA39
/-! ### concordanceref08_PutTerm: function 33 -/
def concordanceref08_PutTerm.l0 : Nat → List (S39) → Int → ByteArray → ByteArray → Option ((List (S39)))
  | 0, _, _, _, _ => none
  | k + 1, x0, x5, x269000, x269001 => if x5 > 0 then ((concordanceref02_Key.f x269000 x269001).bind fun t269 => (if 0 ≤ (wrap64 (x5 - 1)) then (if (wrap64 (x5 - 1)) < (x0.length : Int) then ((concordanceref02_Key.f ((rd_T39 x0 (wrap64 (x5 - 1))).f0) ((rd_T39 x0 (wrap64 (x5 - 1))).f1)).bind fun t271 => (if (Op.bytesLess t269.toList t271.toList) = true then (concordanceref08_PutTerm.l0 k x0 (wrap64 (x5 - 1)) x269000 x269001) else (if ((((rd_T39 x0 (wrap64 (x5 - 1))).f0).toList) == x269000.toList && ((((rd_T39 x0 (wrap64 (x5 - 1))).f1).toList) == x269001.toList)) = true then (some x0) else (if 0 ≤ x5 then (if x5 ≤ (x0.length : Int) then ((some (x0.take (x5 : Int).toNat : List (S39))).bind fun y273 => (if ([] : List (S39)).length + y273.length < 4398046511104 then ((some (([] : List (S39)) ++ y273 : List (S39))).bind fun y277 => (if y277.length < 4398046511104 then ((some (y277 ++ [(⟨x269000, x269001⟩ : S39)] : List (S39))).bind fun y280 => ((some (x0.drop (x5 : Int).toNat : List (S39))).bind fun y283 => (if y280.length + y283.length < 4398046511104 then (some (y280 ++ y283)) else (none)))) else (none))) else (none))) else (none)) else (none))))) else (none)) else (none))) else (if 0 ≤ x5 then (if x5 ≤ (x0.length : Int) then ((some (x0.take (x5 : Int).toNat : List (S39))).bind fun y290 => (if ([] : List (S39)).length + y290.length < 4398046511104 then ((some (([] : List (S39)) ++ y290 : List (S39))).bind fun y294 => (if y294.length < 4398046511104 then ((some (y294 ++ [(⟨x269000, x269001⟩ : S39)] : List (S39))).bind fun y297 => ((some (x0.drop (x5 : Int).toNat : List (S39))).bind fun y300 => (if y297.length + y300.length < 4398046511104 then (some (y297 ++ y300)) else (none)))) else (none))) else (none))) else (none)) else (none))
def concordanceref08_PutTerm.f (k : Nat) (l0 : List (S39)) (a1_0 : ByteArray) (a1_1 : ByteArray) : Option ((List (S39))) := concordanceref08_PutTerm.l0 k l0 (l0.length : Int) a1_0 a1_1
theorem concordanceref08_PutTerm.mono_l : ∀ k, (∀ y0 y1 y2 y3, LeO (concordanceref08_PutTerm.l0 k y0 y1 y2 y3) (concordanceref08_PutTerm.l0 (k + 1) y0 y1 y2 y3))
  | 0 => fun _ _ _ _ r h => by simp [concordanceref08_PutTerm.l0] at h
  | k + 1 => by
    have ih0 := concordanceref08_PutTerm.mono_l k
    · intro y0 y1 y2 y3
      unfold concordanceref08_PutTerm.l0
      repeat' first
      | (with_reducible exact ih0 _ _ _ _)
      | (with_reducible exact LeO.refl _)
      | (with_reducible exact LeO.none _)
      | (with_reducible refine LeO.ite ?_ ?_)
      | (with_reducible refine LeO.bind ?_ (fun _ => ?_))
      | exact ih0 _ _ _ _
      | exact LeO.none _
      | refine LeO.ite ?_ ?_
      | refine LeO.bind ?_ (fun _ => ?_)
theorem concordanceref08_PutTerm.mono : ∀ a0 a1 a2 k, LeO (concordanceref08_PutTerm.f k a0 a1 a2) (concordanceref08_PutTerm.f (k + 1) a0 a1 a2) := by
  intro a0 a1 a2 k
  have ih0 := concordanceref08_PutTerm.mono_l k
  unfold concordanceref08_PutTerm.f
  repeat' first
      | (with_reducible exact ih0 _ _ _ _)
      | (with_reducible exact LeO.refl _)
      | (with_reducible exact LeO.none _)
      | (with_reducible refine LeO.ite ?_ ?_)
      | (with_reducible refine LeO.bind ?_ (fun _ => ?_))
      | exact ih0 _ _ _ _
      | exact LeO.none _
      | refine LeO.ite ?_ ?_
      | refine LeO.bind ?_ (fun _ => ?_)

def concordanceref08_PutTerm.B2 : List Nat := [0, 1, 3, 7, 15, 7, 7, 71, 231, 487, 1023, 2047, 4095]

end Go.Proofs.Ytbbfilmajiilhaa.PAll
