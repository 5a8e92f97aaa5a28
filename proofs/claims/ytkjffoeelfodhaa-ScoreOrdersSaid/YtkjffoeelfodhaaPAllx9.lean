-- written by a program of this session (wip/px): the walk of printed functions
import Derived.Test.YtkjffoeelfodhaaPAllx0
import Derived.Test.YtkjffoeelfodhaaPAllx1
import Derived.Test.YtkjffoeelfodhaaPAllx2
import Derived.Test.YtkjffoeelfodhaaPAllx3
import Derived.Test.YtkjffoeelfodhaaPAllx4
import Derived.Test.YtkjffoeelfodhaaPAllx5
import Derived.Test.YtkjffoeelfodhaaBetter
namespace Go.Proofs.Ytkjffoeelfodhaa.PAll
open Go.RowKit Go.Proofs.YtkjffoeelfodhaaW.PrintWords Go.Proofs.YtkjffoeelfodhaaW.PrintLast Go.Proofs.YtkjffoeelfodhaaW.PrintMore
attribute [local go_sem] max2_int min2_int max_two min_two max_three min_three max_four min_four   -- for this text's walks alone
set_option linter.unusedVariables false
set_option linter.unusedSimpArgs false

attribute [local go_sem high] eqA23
/-! ### concordancelaw14_ScoreOrders: function 3 -/
def concordancelaw14_ScoreOrders.f (k : Nat) (a0_0 : Int) (a0_1 : Int) (a0_2 : Int) (a1_0 : Int) (a1_1 : Int) (a1_2 : Int) (a2_0 : Int) (a2_1 : Int) (a2_2 : Int) : Option (Bool) := (concordancelaw14_few.f k (([(⟨a0_0, a0_1, a0_2⟩ : S23), (⟨a1_0, a1_1, a1_2⟩ : S23), (⟨a2_0, a2_1, a2_2⟩ : S23)] : List (S23)))).bind fun t123 => (if 0 < (t123.length : Int) then (if 1 < (t123.length : Int) then ((score_Better.f ((rd_T28 t123 0).f0) ((rd_T28 t123 0).f1) ((rd_T28 t123 0).f2) ((rd_T28 t123 1).f0) ((rd_T28 t123 1).f1) ((rd_T28 t123 1).f2)).bind fun t128 => ((score_Better.f ((rd_T28 t123 1).f0) ((rd_T28 t123 1).f1) ((rd_T28 t123 1).f2) ((rd_T28 t123 0).f0) ((rd_T28 t123 0).f1) ((rd_T28 t123 0).f2)).bind fun t131 => (if 2 < (t123.length : Int) then ((score_Better.f ((rd_T28 t123 1).f0) ((rd_T28 t123 1).f1) ((rd_T28 t123 1).f2) ((rd_T28 t123 2).f0) ((rd_T28 t123 2).f1) ((rd_T28 t123 2).f2)).bind fun t134 => ((score_Better.f ((rd_T28 t123 0).f0) ((rd_T28 t123 0).f1) ((rd_T28 t123 0).f2) ((rd_T28 t123 2).f0) ((rd_T28 t123 2).f1) ((rd_T28 t123 2).f2)).bind fun t137 => ((concordanceref14_Better.f a0_0 a0_1 a0_2 a1_0 a1_1 a1_2).bind fun t138 => (if (t128 == t138) = true then (if t128 = true then (if (true == (!(a0_0 == a1_0) || (!(a0_1 == a1_1) || (!(a0_2 == a1_2))))) = true then (if t131 = true then (some false) else (if t134 = true then (if t137 = true then ((concordancelaw14_lives.f).bind fun t139 => (some t139)) else (some false)) else ((concordancelaw14_lives.f).bind fun t140 => (some t140)))) else (some false)) else (if (t131 == (!(a0_0 == a1_0) || (!(a0_1 == a1_1) || (!(a0_2 == a1_2))))) = true then ((concordancelaw14_lives.f).bind fun t141 => (some t141)) else (some false))) else (some false))))) else (none)))) else (none)) else (none))
theorem concordancelaw14_ScoreOrders.mono : ∀ a0 a1 a2 a3 a4 a5 a6 a7 a8 k, LeO (concordancelaw14_ScoreOrders.f k a0 a1 a2 a3 a4 a5 a6 a7 a8) (concordancelaw14_ScoreOrders.f (k + 1) a0 a1 a2 a3 a4 a5 a6 a7 a8) := by
  intro a0 a1 a2 a3 a4 a5 a6 a7 a8 k
  unfold concordancelaw14_ScoreOrders.f
  repeat' first
      | (with_reducible exact concordancelaw14_few.mono _ _)
      | (with_reducible exact LeO.refl _)
      | (with_reducible exact LeO.none _)
      | (with_reducible refine LeO.ite ?_ ?_)
      | (with_reducible refine LeO.bind ?_ (fun _ => ?_))
      | exact concordancelaw14_few.mono _ _
      | exact LeO.none _
      | refine LeO.ite ?_ ?_
      | refine LeO.bind ?_ (fun _ => ?_)
def concordancelaw14_ScoreOrders.T2 : Bool × List (List Nat × List Nat) := (true, [([], []), ([0], [0]), ([1], [1]), ([], []), ([3], [3]), ([4], [4]), ([2, 5], [2, 5]), ([6, 6, 0, 1, 2, 3, 4, 5, 6], [6])])
def concordancelaw14_ScoreOrders.B2 : List Nat := [0, 1, 3, 0, 8, 24, 63, 127]
theorem concordancelaw14_ScoreOrders.tab2 : rtab .any (opsOf Try.f3 2) = concordancelaw14_ScoreOrders.T2 := by kernel_rfl
theorem concordancelaw14_ScoreOrders.bits2 : waitsOk concordancelaw14_ScoreOrders.T2.2 concordancelaw14_ScoreOrders.B2 = true := by kernel_rfl
def concordancelaw14_ScoreOrders.T3 : Bool × List (List Nat × List Nat) := (true, [([], []), ([0], [0]), ([1], [1]), ([], []), ([3], [3]), ([4], [4]), ([2, 5], [2, 5]), ([6, 6, 0, 1, 2, 3, 4, 5, 6], [6])])
def concordancelaw14_ScoreOrders.B3 : List Nat := [0, 1, 3, 0, 8, 24, 63, 127]
theorem concordancelaw14_ScoreOrders.tab3 : rtab .any (opsOf Try.f3 3) = concordancelaw14_ScoreOrders.T3 := by kernel_rfl
theorem concordancelaw14_ScoreOrders.bits3 : waitsOk concordancelaw14_ScoreOrders.T3.2 concordancelaw14_ScoreOrders.B3 = true := by kernel_rfl
def concordancelaw14_ScoreOrders.T4 : Bool × List (List Nat × List Nat) := (true, [([], []), ([0], [0]), ([1], [1]), ([], []), ([3], [3]), ([4], [4]), ([2, 5], [2, 5]), ([6, 6, 0, 1, 2, 3, 4, 5, 6], [6])])
def concordancelaw14_ScoreOrders.B4 : List Nat := [0, 1, 3, 0, 8, 24, 63, 127]
theorem concordancelaw14_ScoreOrders.tab4 : rtab .any (opsOf Try.f3 4) = concordancelaw14_ScoreOrders.T4 := by kernel_rfl
theorem concordancelaw14_ScoreOrders.bits4 : waitsOk concordancelaw14_ScoreOrders.T4.2 concordancelaw14_ScoreOrders.B4 = true := by kernel_rfl
def concordancelaw14_ScoreOrders.T5 : Bool × List (List Nat × List Nat) := (true, [([], []), ([0], [0]), ([1], [1]), ([], []), ([3], [3]), ([4], [4]), ([2, 5], [2, 5]), ([6, 6, 0, 1, 2, 3, 4, 5, 6], [6])])
def concordancelaw14_ScoreOrders.B5 : List Nat := [0, 1, 3, 0, 8, 24, 63, 127]
theorem concordancelaw14_ScoreOrders.tab5 : rtab .any (opsOf Try.f3 5) = concordancelaw14_ScoreOrders.T5 := by kernel_rfl
theorem concordancelaw14_ScoreOrders.bits5 : waitsOk concordancelaw14_ScoreOrders.T5.2 concordancelaw14_ScoreOrders.B5 = true := by kernel_rfl
set_option maxHeartbeats 8000000 in
set_option maxRecDepth 100000 in
theorem concordancelaw14_ScoreOrders.calls (k : Nat) (a0_0 : Int) (a0_1 : Int) (a0_2 : Int) (a1_0 : Int) (a1_1 : Int) (a1_2 : Int) (a2_0 : Int) (a2_1 : Int) (a2_2 : Int) (r : Bool) (w : World) (hrt : r = true) (h : concordancelaw14_ScoreOrders.f k a0_0 a0_1 a0_2 a1_0 a1_1 a1_2 a2_0 a2_1 a2_2 = some r) :
    Calls Try.prog 3 #[.agg #[.int .i64 a0_0, .int .i64 a0_1, .int .i64 a0_2], .agg #[.int .i64 a1_0, .int .i64 a1_1, .int .i64 a1_2], .agg #[.int .i64 a2_0, .int .i64 a2_1, .int .i64 a2_2]] w fun e w' => e = .returned (.bool r) ∧ Below w.heap.size w w' := by
  have hu23 := Try.underlying23
  have hu28 := Try.underlying28
  have HB := Aside0.mk (Below.refl w.heap.size w)
  have H : ((concordancelaw14_few.f k (([(⟨a0_0, a0_1, a0_2⟩ : S23), (⟨a1_0, a1_1, a1_2⟩ : S23), (⟨a2_0, a2_1, a2_2⟩ : S23)] : List (S23)))).bind fun t123 => (if 0 < (t123.length : Int) then (if 1 < (t123.length : Int) then ((score_Better.f ((rd_T28 t123 0).f0) ((rd_T28 t123 0).f1) ((rd_T28 t123 0).f2) ((rd_T28 t123 1).f0) ((rd_T28 t123 1).f1) ((rd_T28 t123 1).f2)).bind fun t128 => ((score_Better.f ((rd_T28 t123 1).f0) ((rd_T28 t123 1).f1) ((rd_T28 t123 1).f2) ((rd_T28 t123 0).f0) ((rd_T28 t123 0).f1) ((rd_T28 t123 0).f2)).bind fun t131 => (if 2 < (t123.length : Int) then ((score_Better.f ((rd_T28 t123 1).f0) ((rd_T28 t123 1).f1) ((rd_T28 t123 1).f2) ((rd_T28 t123 2).f0) ((rd_T28 t123 2).f1) ((rd_T28 t123 2).f2)).bind fun t134 => ((score_Better.f ((rd_T28 t123 0).f0) ((rd_T28 t123 0).f1) ((rd_T28 t123 0).f2) ((rd_T28 t123 2).f0) ((rd_T28 t123 2).f1) ((rd_T28 t123 2).f2)).bind fun t137 => ((concordanceref14_Better.f a0_0 a0_1 a0_2 a1_0 a1_1 a1_2).bind fun t138 => (if (t128 == t138) = true then (if t128 = true then (if (true == (!(a0_0 == a1_0) || (!(a0_1 == a1_1) || (!(a0_2 == a1_2))))) = true then (if t131 = true then (some false) else (if t134 = true then (if t137 = true then ((concordancelaw14_lives.f).bind fun t139 => (some t139)) else (some false)) else ((concordancelaw14_lives.f).bind fun t140 => (some t140)))) else (some false)) else (if (t131 == (!(a0_0 == a1_0) || (!(a0_1 == a1_1) || (!(a0_2 == a1_2))))) = true then ((concordancelaw14_lives.f).bind fun t141 => (some t141)) else (some false))) else (some false))))) else (none)))) else (none)) else (none))) = some r := h
  clear h
  obtain ⟨y120, hy120⟩ : ∃ y_ : List (S23), y_ = (([(⟨a0_0, a0_1, a0_2⟩ : S23), (⟨a1_0, a1_1, a1_2⟩ : S23), (⟨a2_0, a2_1, a2_2⟩ : S23)] : List (S23))) := ⟨_, rfl⟩
  replace H : ((concordancelaw14_few.f k y120).bind fun t123 => (if 0 < (t123.length : Int) then (if 1 < (t123.length : Int) then ((score_Better.f ((rd_T28 t123 0).f0) ((rd_T28 t123 0).f1) ((rd_T28 t123 0).f2) ((rd_T28 t123 1).f0) ((rd_T28 t123 1).f1) ((rd_T28 t123 1).f2)).bind fun t128 => ((score_Better.f ((rd_T28 t123 1).f0) ((rd_T28 t123 1).f1) ((rd_T28 t123 1).f2) ((rd_T28 t123 0).f0) ((rd_T28 t123 0).f1) ((rd_T28 t123 0).f2)).bind fun t131 => (if 2 < (t123.length : Int) then ((score_Better.f ((rd_T28 t123 1).f0) ((rd_T28 t123 1).f1) ((rd_T28 t123 1).f2) ((rd_T28 t123 2).f0) ((rd_T28 t123 2).f1) ((rd_T28 t123 2).f2)).bind fun t134 => ((score_Better.f ((rd_T28 t123 0).f0) ((rd_T28 t123 0).f1) ((rd_T28 t123 0).f2) ((rd_T28 t123 2).f0) ((rd_T28 t123 2).f1) ((rd_T28 t123 2).f2)).bind fun t137 => ((concordanceref14_Better.f a0_0 a0_1 a0_2 a1_0 a1_1 a1_2).bind fun t138 => (if (t128 == t138) = true then (if t128 = true then (if (true == (!(a0_0 == a1_0) || (!(a0_1 == a1_1) || (!(a0_2 == a1_2))))) = true then (if t131 = true then (some false) else (if t134 = true then (if t137 = true then ((concordancelaw14_lives.f).bind fun t139 => (some t139)) else (some false)) else ((concordancelaw14_lives.f).bind fun t140 => (some t140)))) else (some false)) else (if (t131 == (!(a0_0 == a1_0) || (!(a0_1 == a1_1) || (!(a0_2 == a1_2))))) = true then ((concordancelaw14_lives.f).bind fun t141 => (some t141)) else (some false))) else (some false))))) else (none)))) else (none)) else (none))) = some r := by first | (rw [hy120]; with_reducible exact H) | (have H2_ := (Option.bind_some _ _).symm.trans H; rw [hy120]; with_reducible exact H2_) | (have H2_ := (Option.bind_some _ _).symm.trans H; with_reducible exact H2_) | with_reducible exact H | (rw [hy120]; exact H) | exact H
  have Ny120 := Aside0.mk hy120
  clear hy120
  replace H := Option.bind_eq_some_iff.mp H
  obtain ⟨t123, A40, H⟩ := H
  replace H : (if 0 < (t123.length : Int) then (if 1 < (t123.length : Int) then ((score_Better.f ((rd_T28 t123 0).f0) ((rd_T28 t123 0).f1) ((rd_T28 t123 0).f2) ((rd_T28 t123 1).f0) ((rd_T28 t123 1).f1) ((rd_T28 t123 1).f2)).bind fun t128 => ((score_Better.f ((rd_T28 t123 1).f0) ((rd_T28 t123 1).f1) ((rd_T28 t123 1).f2) ((rd_T28 t123 0).f0) ((rd_T28 t123 0).f1) ((rd_T28 t123 0).f2)).bind fun t131 => (if 2 < (t123.length : Int) then ((score_Better.f ((rd_T28 t123 1).f0) ((rd_T28 t123 1).f1) ((rd_T28 t123 1).f2) ((rd_T28 t123 2).f0) ((rd_T28 t123 2).f1) ((rd_T28 t123 2).f2)).bind fun t134 => ((score_Better.f ((rd_T28 t123 0).f0) ((rd_T28 t123 0).f1) ((rd_T28 t123 0).f2) ((rd_T28 t123 2).f0) ((rd_T28 t123 2).f1) ((rd_T28 t123 2).f2)).bind fun t137 => ((concordanceref14_Better.f a0_0 a0_1 a0_2 a1_0 a1_1 a1_2).bind fun t138 => (if (t128 == t138) = true then (if t128 = true then (if (true == (!(a0_0 == a1_0) || (!(a0_1 == a1_1) || (!(a0_2 == a1_2))))) = true then (if t131 = true then (some false) else (if t134 = true then (if t137 = true then ((concordancelaw14_lives.f).bind fun t139 => (some t139)) else (some false)) else ((concordancelaw14_lives.f).bind fun t140 => (some t140)))) else (some false)) else (if (t131 == (!(a0_0 == a1_0) || (!(a0_1 == a1_1) || (!(a0_2 == a1_2))))) = true then ((concordancelaw14_lives.f).bind fun t141 => (some t141)) else (some false))) else (some false))))) else (none)))) else (none)) else (none)) = some r := H
  have A4 := Aside0.mk A40
  clear A40
  by_cases c5 : 0 < (t123.length : Int)
  · rw [if_pos c5] at H
    have c5b0 : decide (0 < (t123.length : Int)) = true := decide_eq_true c5
    have c5b1 : decide (0 < t123.length) = true := decide_eq_true (by omega)
    clear c5
    by_cases c6 : 1 < (t123.length : Int)
    · rw [if_pos c6] at H
      have c6b0 : decide (1 < (t123.length : Int)) = true := decide_eq_true c6
      have c6b1 : decide (1 < t123.length) = true := decide_eq_true (by omega)
      clear c6
      replace H := Option.bind_eq_some_iff.mp H
      obtain ⟨t128, A70, H⟩ := H
      replace H : ((score_Better.f ((rd_T28 t123 1).f0) ((rd_T28 t123 1).f1) ((rd_T28 t123 1).f2) ((rd_T28 t123 0).f0) ((rd_T28 t123 0).f1) ((rd_T28 t123 0).f2)).bind fun t131 => (if 2 < (t123.length : Int) then ((score_Better.f ((rd_T28 t123 1).f0) ((rd_T28 t123 1).f1) ((rd_T28 t123 1).f2) ((rd_T28 t123 2).f0) ((rd_T28 t123 2).f1) ((rd_T28 t123 2).f2)).bind fun t134 => ((score_Better.f ((rd_T28 t123 0).f0) ((rd_T28 t123 0).f1) ((rd_T28 t123 0).f2) ((rd_T28 t123 2).f0) ((rd_T28 t123 2).f1) ((rd_T28 t123 2).f2)).bind fun t137 => ((concordanceref14_Better.f a0_0 a0_1 a0_2 a1_0 a1_1 a1_2).bind fun t138 => (if (t128 == t138) = true then (if t128 = true then (if (true == (!(a0_0 == a1_0) || (!(a0_1 == a1_1) || (!(a0_2 == a1_2))))) = true then (if t131 = true then (some false) else (if t134 = true then (if t137 = true then ((concordancelaw14_lives.f).bind fun t139 => (some t139)) else (some false)) else ((concordancelaw14_lives.f).bind fun t140 => (some t140)))) else (some false)) else (if (t131 == (!(a0_0 == a1_0) || (!(a0_1 == a1_1) || (!(a0_2 == a1_2))))) = true then ((concordancelaw14_lives.f).bind fun t141 => (some t141)) else (some false))) else (some false))))) else (none))) = some r := H
      have A7 := Aside0.mk A70
      clear A70
      replace H := Option.bind_eq_some_iff.mp H
      obtain ⟨t131, A80, H⟩ := H
      replace H : (if 2 < (t123.length : Int) then ((score_Better.f ((rd_T28 t123 1).f0) ((rd_T28 t123 1).f1) ((rd_T28 t123 1).f2) ((rd_T28 t123 2).f0) ((rd_T28 t123 2).f1) ((rd_T28 t123 2).f2)).bind fun t134 => ((score_Better.f ((rd_T28 t123 0).f0) ((rd_T28 t123 0).f1) ((rd_T28 t123 0).f2) ((rd_T28 t123 2).f0) ((rd_T28 t123 2).f1) ((rd_T28 t123 2).f2)).bind fun t137 => ((concordanceref14_Better.f a0_0 a0_1 a0_2 a1_0 a1_1 a1_2).bind fun t138 => (if (t128 == t138) = true then (if t128 = true then (if (true == (!(a0_0 == a1_0) || (!(a0_1 == a1_1) || (!(a0_2 == a1_2))))) = true then (if t131 = true then (some false) else (if t134 = true then (if t137 = true then ((concordancelaw14_lives.f).bind fun t139 => (some t139)) else (some false)) else ((concordancelaw14_lives.f).bind fun t140 => (some t140)))) else (some false)) else (if (t131 == (!(a0_0 == a1_0) || (!(a0_1 == a1_1) || (!(a0_2 == a1_2))))) = true then ((concordancelaw14_lives.f).bind fun t141 => (some t141)) else (some false))) else (some false))))) else (none)) = some r := H
      have A8 := Aside0.mk A80
      clear A80
      by_cases c9 : 2 < (t123.length : Int)
      · rw [if_pos c9] at H
        have c9b0 : decide (2 < (t123.length : Int)) = true := decide_eq_true c9
        have c9b1 : decide (2 < t123.length) = true := decide_eq_true (by omega)
        clear c9
        replace H := Option.bind_eq_some_iff.mp H
        obtain ⟨t134, A100, H⟩ := H
        replace H : ((score_Better.f ((rd_T28 t123 0).f0) ((rd_T28 t123 0).f1) ((rd_T28 t123 0).f2) ((rd_T28 t123 2).f0) ((rd_T28 t123 2).f1) ((rd_T28 t123 2).f2)).bind fun t137 => ((concordanceref14_Better.f a0_0 a0_1 a0_2 a1_0 a1_1 a1_2).bind fun t138 => (if (t128 == t138) = true then (if t128 = true then (if (true == (!(a0_0 == a1_0) || (!(a0_1 == a1_1) || (!(a0_2 == a1_2))))) = true then (if t131 = true then (some false) else (if t134 = true then (if t137 = true then ((concordancelaw14_lives.f).bind fun t139 => (some t139)) else (some false)) else ((concordancelaw14_lives.f).bind fun t140 => (some t140)))) else (some false)) else (if (t131 == (!(a0_0 == a1_0) || (!(a0_1 == a1_1) || (!(a0_2 == a1_2))))) = true then ((concordancelaw14_lives.f).bind fun t141 => (some t141)) else (some false))) else (some false)))) = some r := H
        have A10 := Aside0.mk A100
        clear A100
        replace H := Option.bind_eq_some_iff.mp H
        obtain ⟨t137, A110, H⟩ := H
        replace H : ((concordanceref14_Better.f a0_0 a0_1 a0_2 a1_0 a1_1 a1_2).bind fun t138 => (if (t128 == t138) = true then (if t128 = true then (if (true == (!(a0_0 == a1_0) || (!(a0_1 == a1_1) || (!(a0_2 == a1_2))))) = true then (if t131 = true then (some false) else (if t134 = true then (if t137 = true then ((concordancelaw14_lives.f).bind fun t139 => (some t139)) else (some false)) else ((concordancelaw14_lives.f).bind fun t140 => (some t140)))) else (some false)) else (if (t131 == (!(a0_0 == a1_0) || (!(a0_1 == a1_1) || (!(a0_2 == a1_2))))) = true then ((concordancelaw14_lives.f).bind fun t141 => (some t141)) else (some false))) else (some false))) = some r := H
        have A11 := Aside0.mk A110
        clear A110
        replace H := Option.bind_eq_some_iff.mp H
        obtain ⟨t138, A120, H⟩ := H
        replace H : (if (t128 == t138) = true then (if t128 = true then (if (true == (!(a0_0 == a1_0) || (!(a0_1 == a1_1) || (!(a0_2 == a1_2))))) = true then (if t131 = true then (some false) else (if t134 = true then (if t137 = true then ((concordancelaw14_lives.f).bind fun t139 => (some t139)) else (some false)) else ((concordancelaw14_lives.f).bind fun t140 => (some t140)))) else (some false)) else (if (t131 == (!(a0_0 == a1_0) || (!(a0_1 == a1_1) || (!(a0_2 == a1_2))))) = true then ((concordancelaw14_lives.f).bind fun t141 => (some t141)) else (some false))) else (some false)) = some r := H
        have A12 := Aside0.mk A120
        clear A120
        by_cases c13 : (t128 == t138) = true
        · rw [if_pos c13] at H
          have c13b0 : (t128 == t138) = true := c13
          (try (have c13b1 : decide (t128 = t138) = true := by simpa using c13))
          (try (have c13b2 : (t128 == t138) = true := by simpa using c13))
          clear c13
          by_cases c14 : t128 = true
          · subst c14
            have H1 : (if (true == (!(a0_0 == a1_0) || (!(a0_1 == a1_1) || (!(a0_2 == a1_2))))) = true then (if t131 = true then (some false) else (if t134 = true then (if t137 = true then ((concordancelaw14_lives.f).bind fun t139 => (some t139)) else (some false)) else ((concordancelaw14_lives.f).bind fun t140 => (some t140)))) else (some false)) = some r := by rw [if_pos rfl] at H; exact H
            clear H
            have H := H1
            clear H1
            by_cases c15 : (true == (!(a0_0 == a1_0) || (!(a0_1 == a1_1) || (!(a0_2 == a1_2))))) = true
            · rw [if_pos c15] at H
              have c15b0 : (true == (!(a0_0 == a1_0) || (!(a0_1 == a1_1) || (!(a0_2 == a1_2))))) = true := c15
              (try (have c15b1 : decide (true = (!(a0_0 == a1_0) || (!(a0_1 == a1_1) || (!(a0_2 == a1_2))))) = true := by simpa using c15))
              (try (have c15b2 : (true == (!(a0_0 == a1_0) || (!(a0_1 == a1_1) || (!(a0_2 == a1_2))))) = true := by simpa using c15))
              clear c15
              by_cases c16 : t131 = true
              · subst c16
                have H1 : (some false) = some r := by rw [if_pos rfl] at H; exact H
                clear H
                have H := H1
                clear H1
                obtain rfl := Option.some.inj H
                cases hrt
              · replace c16 := Bool.eq_false_iff.mpr c16
                subst c16
                have H1 : (if t134 = true then (if t137 = true then ((concordancelaw14_lives.f).bind fun t139 => (some t139)) else (some false)) else ((concordancelaw14_lives.f).bind fun t140 => (some t140))) = some r := by rw [if_neg (show ¬ (false = true) by decide)] at H; exact H
                clear H
                have H := H1
                clear H1
                by_cases c44 : t134 = true
                · subst c44
                  have H1 : (if t137 = true then ((concordancelaw14_lives.f).bind fun t139 => (some t139)) else (some false)) = some r := by rw [if_pos rfl] at H; exact H
                  clear H
                  have H := H1
                  clear H1
                  by_cases c45 : t137 = true
                  · subst c45
                    have H1 : ((concordancelaw14_lives.f).bind fun t139 => (some t139)) = some r := by rw [if_pos rfl] at H; exact H
                    clear H
                    have H := H1
                    clear H1
                    replace H := Option.bind_eq_some_iff.mp H
                    obtain ⟨t139, A460, H⟩ := H
                    replace H : (some t139) = some r := H
                    have A46 := Aside0.mk A460
                    clear A460
                    obtain rfl := Option.some.inj H
                    clear hrt
                    go_enter Try.func3, Try.ntmps3
                    try go_wp2_with (first | ((with_reducible refine gate_dst (N := 3) rfl ?_); refine box_event ?hg (N := 3) ?hd (cs := #[.int .i64 a0_0, .int .i64 a0_1, .int .i64 a0_2]) (t := 23) ?hr ?_; (case hd => rfl); (case hg => rfl); (case hr => first | (go_simp; done) | (go_simp; rfl)); intro gb117 hg w47 hbox hb; have n0_ := Aside0.mk (below_step (by repeat (first | (with_reducible first | exact HB.out | apply below_alloc | apply pw_below_drewN | apply below_drew1) | exact HB.out)) hb); have n1_ := Aside0.mk (hbox); have n2_ := Aside0.mk ((by rw [hg]; exact (below_size (by repeat (first | (with_reducible first | exact HB.out | apply below_alloc | apply pw_below_drewN | apply below_drew1) | exact HB.out))) : w.heap.size ≤ gb117)); have n3_ := Aside0.mk ((by rw [hg]; exact (below_size (by repeat (first | (with_reducible first | exact HB.out | apply below_alloc | apply pw_below_drewN | apply below_drew1) | exact HB.out))) : w.heap.size ≤ gb117)); clear HB; have HB := n0_; have BK117 := n1_; have GW117 := n2_; have GE117 := n3_; clear n0_ n1_ n2_ n3_; clear hb hbox hg) | ((with_reducible refine gate_dst (N := 4) rfl ?_); refine box_event ?hg (N := 4) ?hd (cs := #[.int .i64 a1_0, .int .i64 a1_1, .int .i64 a1_2]) (t := 23) ?hr ?_; (case hd => rfl); (case hg => rfl); (case hr => first | (go_simp; done) | (go_simp; rfl)); intro gb118 hg w48 hbox hb; have n0_ := Aside0.mk (blk_below (g := gb117) (o := .cells #[.int .i64 a0_0, .int .i64 a0_1, .int .i64 a0_2] 23 (0, 0)) (by (with_reducible repeat (first | refine blk_drewN ?_ _ | refine blk_drew ?_ | refine blk_alloc ?_ _)); exact BK117.out) hb); have n1_ := Aside0.mk (below_step (by repeat (first | (with_reducible first | exact HB.out | apply below_alloc | apply pw_below_drewN | apply below_drew1 | refine below_set ?_ GE117.out) | exact HB.out)) hb); have n2_ := Aside0.mk (hbox); have n3_ := Aside0.mk ((by rw [hg]; exact (below_size (by repeat (first | (with_reducible first | exact HB.out | apply below_alloc | apply pw_below_drewN | apply below_drew1 | refine below_set ?_ GE117.out) | exact HB.out))) : w.heap.size ≤ gb118)); have n4_ := Aside0.mk ((by rw [hg]; exact (below_size (by repeat (first | (with_reducible first | exact HB.out | apply below_alloc | apply pw_below_drewN | apply below_drew1 | refine below_set ?_ GE117.out) | exact HB.out))) : w.heap.size ≤ gb118)); have n5_ := Aside0.mk ((by rw [hg]; exact Nat.ne_of_lt (blk_lt (g := gb117) (o := .cells #[.int .i64 a0_0, .int .i64 a0_1, .int .i64 a0_2] 23 (0, 0)) (by (with_reducible repeat (first | refine blk_drewN ?_ _ | refine blk_drew ?_ | refine blk_alloc ?_ _)); exact BK117.out)) : gb117 ≠ gb118)); have n6_ := Aside0.mk ((by rw [hg]; exact Nat.ne_of_gt (blk_lt (g := gb117) (o := .cells #[.int .i64 a0_0, .int .i64 a0_1, .int .i64 a0_2] 23 (0, 0)) (by (with_reducible repeat (first | refine blk_drewN ?_ _ | refine blk_drew ?_ | refine blk_alloc ?_ _)); exact BK117.out)) : gb118 ≠ gb117)); clear BK117; clear HB; have BK117 := n0_; have HB := n1_; have BK118 := n2_; have GW118 := n3_; have GE118 := n4_; have NB117_118 := n5_; have NB118_117 := n6_; clear n0_ n1_ n2_ n3_ n4_ n5_ n6_; clear hb hbox hg) | ((with_reducible refine gate_dst (N := 5) rfl ?_); refine box_event ?hg (N := 5) ?hd (cs := #[.int .i64 a2_0, .int .i64 a2_1, .int .i64 a2_2]) (t := 23) ?hr ?_; (case hd => rfl); (case hg => rfl); (case hr => first | (go_simp; done) | (go_simp; rfl)); intro gb119 hg w49 hbox hb; have n0_ := Aside0.mk (blk_below (g := gb117) (o := .cells #[.int .i64 a0_0, .int .i64 a0_1, .int .i64 a0_2] 23 (0, 0)) (by (with_reducible repeat (first | refine blk_drewN ?_ _ | refine blk_drew ?_ | refine blk_alloc ?_ _)); exact BK117.out) hb); have n1_ := Aside0.mk (blk_below (g := gb118) (o := .cells #[.int .i64 a1_0, .int .i64 a1_1, .int .i64 a1_2] 23 (0, 0)) (by (with_reducible repeat (first | refine blk_drewN ?_ _ | refine blk_drew ?_ | refine blk_alloc ?_ _)); exact BK118.out) hb); have n2_ := Aside0.mk (below_step (by repeat (first | (with_reducible first | exact HB.out | apply below_alloc | apply pw_below_drewN | apply below_drew1 | refine below_set ?_ GE117.out | refine below_set ?_ GE118.out) | exact HB.out)) hb); have n3_ := Aside0.mk (hbox); have n4_ := Aside0.mk ((by rw [hg]; exact (below_size (by repeat (first | (with_reducible first | exact HB.out | apply below_alloc | apply pw_below_drewN | apply below_drew1 | refine below_set ?_ GE117.out | refine below_set ?_ GE118.out) | exact HB.out))) : w.heap.size ≤ gb119)); have n5_ := Aside0.mk ((by rw [hg]; exact (below_size (by repeat (first | (with_reducible first | exact HB.out | apply below_alloc | apply pw_below_drewN | apply below_drew1 | refine below_set ?_ GE117.out | refine below_set ?_ GE118.out) | exact HB.out))) : w.heap.size ≤ gb119)); have n6_ := Aside0.mk ((by rw [hg]; exact Nat.ne_of_lt (blk_lt (g := gb117) (o := .cells #[.int .i64 a0_0, .int .i64 a0_1, .int .i64 a0_2] 23 (0, 0)) (by (with_reducible repeat (first | refine blk_drewN ?_ _ | refine blk_drew ?_ | refine blk_alloc ?_ _)); exact BK117.out)) : gb117 ≠ gb119)); have n7_ := Aside0.mk ((by rw [hg]; exact Nat.ne_of_gt (blk_lt (g := gb117) (o := .cells #[.int .i64 a0_0, .int .i64 a0_1, .int .i64 a0_2] 23 (0, 0)) (by (with_reducible repeat (first | refine blk_drewN ?_ _ | refine blk_drew ?_ | refine blk_alloc ?_ _)); exact BK117.out)) : gb119 ≠ gb117)); have n8_ := Aside0.mk ((by rw [hg]; exact Nat.ne_of_lt (blk_lt (g := gb118) (o := .cells #[.int .i64 a1_0, .int .i64 a1_1, .int .i64 a1_2] 23 (0, 0)) (by (with_reducible repeat (first | refine blk_drewN ?_ _ | refine blk_drew ?_ | refine blk_alloc ?_ _)); exact BK118.out)) : gb118 ≠ gb119)); have n9_ := Aside0.mk ((by rw [hg]; exact Nat.ne_of_gt (blk_lt (g := gb118) (o := .cells #[.int .i64 a1_0, .int .i64 a1_1, .int .i64 a1_2] 23 (0, 0)) (by (with_reducible repeat (first | refine blk_drewN ?_ _ | refine blk_drew ?_ | refine blk_alloc ?_ _)); exact BK118.out)) : gb119 ≠ gb118)); clear BK117; clear BK118; clear HB; have BK117 := n0_; have BK118 := n1_; have HB := n2_; have BK119 := n3_; have GW119 := n4_; have GE119 := n5_; have NB117_119 := n6_; have NB119_117 := n7_; have NB118_119 := n8_; have NB119_118 := n9_; clear n0_ n1_ n2_ n3_ n4_ n5_ n6_ n7_ n8_ n9_; clear hb hbox hg; have hnb50 := NB117_118.out; have hnc50 := NB118_117.out; have hnb51 := NB117_119.out; have hnc51 := NB119_117.out; have hcz52_0 : w49.cell? ⟨gb117, 0, none⟩ = some (.int .i64 a0_0) := (blk_cell BK117.out 0).trans rfl; have hcz52_1 : w49.cell? ⟨gb117, 1, none⟩ = some (.int .i64 a0_1) := (blk_cell BK117.out 1).trans rfl; have hcz52_2 : w49.cell? ⟨gb117, 2, none⟩ = some (.int .i64 a0_2) := (blk_cell BK117.out 2).trans rfl; have hfz52_0 := blk_frozen BK117.out 0; have hfz52_1 := blk_frozen BK117.out 1; have hfz52_2 := blk_frozen BK117.out 2; have hnb53 := NB118_119.out; have hnc53 := NB119_118.out; have hcz54_0 : w49.cell? ⟨gb118, 0, none⟩ = some (.int .i64 a1_0) := (blk_cell BK118.out 0).trans rfl; have hcz54_1 : w49.cell? ⟨gb118, 1, none⟩ = some (.int .i64 a1_1) := (blk_cell BK118.out 1).trans rfl; have hcz54_2 : w49.cell? ⟨gb118, 2, none⟩ = some (.int .i64 a1_2) := (blk_cell BK118.out 2).trans rfl; have hfz54_0 := blk_frozen BK118.out 0; have hfz54_1 := blk_frozen BK118.out 1; have hfz54_2 := blk_frozen BK118.out 2; have hcz55_0 : w49.cell? ⟨gb119, 0, none⟩ = some (.int .i64 a2_0) := (blk_cell BK119.out 0).trans rfl; have hcz55_1 : w49.cell? ⟨gb119, 1, none⟩ = some (.int .i64 a2_1) := (blk_cell BK119.out 1).trans rfl; have hcz55_2 : w49.cell? ⟨gb119, 2, none⟩ = some (.int .i64 a2_2) := (blk_cell BK119.out 2).trans rfl; have hfz55_0 := blk_frozen BK119.out 0; have hfz55_1 := blk_frozen BK119.out 1; have hfz55_2 := blk_frozen BK119.out 2) | ((with_reducible refine gate_dst (N := 15) rfl ?_); refine Kd.R_lit k23 _ 23 ?hg (N := 15) ?hd (xs := ([(⟨a0_0, a0_1, a0_2⟩ : S23), (⟨a1_0, a1_1, a1_2⟩ : S23), (⟨a2_0, a2_1, a2_2⟩ : S23)] : List (S23))) (inner := [.int .i64 a0_0, .int .i64 a0_1, .int .i64 a0_2, .int .i64 a1_0, .int .i64 a1_1, .int .i64 a1_2, .int .i64 a2_0, .int .i64 a2_1, .int .i64 a2_2]) (ok := fun _ => True) (okp := fun _ => True) ?hr ?hp (fun _ hk => hk) trivial (Below.refl _ _) (Nat.le_refl _) (by simp) ?_; (case hd => rfl); (case hg => rfl); (case hr => first | (go_simp; done) | (go_simp; rfl)); (case hp => exact (Reps.c3 (show Kd.M k23 _ _ _ (⟨a0_0, a0_1, a0_2⟩ : S23) [.int .i64 a0_0, .int .i64 a0_1, .int .i64 a0_2] from (k23_mkM _ _ _ (⟨a0_0, a0_1, a0_2⟩ : S23) )) (Reps.c3 (show Kd.M k23 _ _ _ (⟨a1_0, a1_1, a1_2⟩ : S23) [.int .i64 a1_0, .int .i64 a1_1, .int .i64 a1_2] from (k23_mkM _ _ _ (⟨a1_0, a1_1, a1_2⟩ : S23) )) (Reps.c3 (show Kd.M k23 _ _ _ (⟨a2_0, a2_1, a2_2⟩ : S23) [.int .i64 a2_0, .int .i64 a2_1, .int .i64 a2_2] from (k23_mkM _ _ _ (⟨a2_0, a2_1, a2_2⟩ : S23) )) (Reps.none _ _))))); intro v121 w56 ho57 hb hg_ hnew_; clear hg_ hnew_; (first | rw [← Ny120.out] at ho57 | (simp only [Int.reduceToNat] at ho57; rw [← Ny120.out] at ho57)); have n0_ := Aside0.mk (Kd.R_lower (Kd.R_newB (Kd.R_newB (Kd.R_newB ho57 (g := gb117) (o := .cells #[.int .i64 a0_0, .int .i64 a0_1, .int .i64 a0_2] 23 (0, 0)) (by (with_reducible repeat (first | refine blk_drewN ?_ _ | refine blk_drew ?_ | refine blk_alloc ?_ _)); exact BK117.out)) (g := gb118) (o := .cells #[.int .i64 a1_0, .int .i64 a1_1, .int .i64 a1_2] 23 (0, 0)) (by (with_reducible repeat (first | refine blk_drewN ?_ _ | refine blk_drew ?_ | refine blk_alloc ?_ _)); exact BK118.out)) (g := gb119) (o := .cells #[.int .i64 a2_0, .int .i64 a2_1, .int .i64 a2_2] 23 (0, 0)) (by (with_reducible repeat (first | refine blk_drewN ?_ _ | refine blk_drew ?_ | refine blk_alloc ?_ _)); exact BK119.out)) (below_size (by repeat (first | (with_reducible first | exact HB.out | apply below_alloc | apply pw_below_drewN | apply below_drew1 | refine below_set ?_ GE117.out | refine below_set ?_ GE118.out | refine below_set ?_ GE119.out) | exact HB.out)))); have n1_ := Aside0.mk (blk_below (g := gb117) (o := .cells #[.int .i64 a0_0, .int .i64 a0_1, .int .i64 a0_2] 23 (0, 0)) (by (with_reducible repeat (first | refine blk_drewN ?_ _ | refine blk_drew ?_ | refine blk_alloc ?_ _)); exact BK117.out) hb); have n2_ := Aside0.mk (blk_below (g := gb118) (o := .cells #[.int .i64 a1_0, .int .i64 a1_1, .int .i64 a1_2] 23 (0, 0)) (by (with_reducible repeat (first | refine blk_drewN ?_ _ | refine blk_drew ?_ | refine blk_alloc ?_ _)); exact BK118.out) hb); have n3_ := Aside0.mk (blk_below (g := gb119) (o := .cells #[.int .i64 a2_0, .int .i64 a2_1, .int .i64 a2_2] 23 (0, 0)) (by (with_reducible repeat (first | refine blk_drewN ?_ _ | refine blk_drew ?_ | refine blk_alloc ?_ _)); exact BK119.out) hb); have n4_ := Aside0.mk (below_step (by repeat (first | (with_reducible first | exact HB.out | apply below_alloc | apply pw_below_drewN | apply below_drew1 | refine below_set ?_ GE117.out | refine below_set ?_ GE118.out | refine below_set ?_ GE119.out) | exact HB.out)) hb); clear BK117; clear BK118; clear BK119; clear HB; have HO122 := n0_; have BK117 := n1_; have BK118 := n2_; have BK119 := n3_; have HB := n4_; clear n0_ n1_ n2_ n3_ n4_; clear hb ho57; obtain ⟨Ao58, co58, eo58⟩ := Kd.R_slice HO122.out; subst eo58) | ((with_reducible refine gate_callee (f := 7) rfl ?_); refine goesL_ (some 16) rfl rfl Try.func7 (by kernel_rfl) rfl #[.slice Ao58 y120.length co58] rfl (by (try simp only [List.map_toArray, List.map_cons, List.map_nil]); first | done | rfl | (simp only [List.length_drop, List.length_take]; rfl)) ?_; (with_reducible refine (concordancelaw14_few.calls k _ _ y120 t123 _ ?side1 ?side2 A4.out).mono ?_); (case side1 => repeat (first | exact (Kd.R_reads' HO122.out).2.2 | (with_reducible refine Kd.C_alloc ?_ _) | (with_reducible refine Kd.C_drewN ?_ _) | (with_reducible refine Kd.C_drew ?_))); (case side2 => exact (Kd.R_reads' HO122.out).2.1); rintro e w59 ⟨v124, rfl, ho0, hb⟩; refine ⟨_, rfl, ?_⟩; have n0_ := Aside0.mk (Kd.R_below (by (with_reducible repeat (first | apply Kd.R_alloc | apply Kd.R_drewN | apply Kd.R_drew)); exact HO122.out) hb); have n1_ := Aside0.mk (Kd.R_lower ho0 (below_size (by repeat (first | (with_reducible first | exact HB.out | apply below_alloc | apply pw_below_drewN | apply below_drew1 | refine below_set ?_ GE117.out | refine below_set ?_ GE118.out | refine below_set ?_ GE119.out) | exact HB.out)))); have n2_ := Aside0.mk (blk_below (g := gb117) (o := .cells #[.int .i64 a0_0, .int .i64 a0_1, .int .i64 a0_2] 23 (0, 0)) (by (with_reducible repeat (first | refine blk_drewN ?_ _ | refine blk_drew ?_ | refine blk_alloc ?_ _)); exact BK117.out) hb); have n3_ := Aside0.mk (blk_below (g := gb118) (o := .cells #[.int .i64 a1_0, .int .i64 a1_1, .int .i64 a1_2] 23 (0, 0)) (by (with_reducible repeat (first | refine blk_drewN ?_ _ | refine blk_drew ?_ | refine blk_alloc ?_ _)); exact BK118.out) hb); have n4_ := Aside0.mk (blk_below (g := gb119) (o := .cells #[.int .i64 a2_0, .int .i64 a2_1, .int .i64 a2_2] 23 (0, 0)) (by (with_reducible repeat (first | refine blk_drewN ?_ _ | refine blk_drew ?_ | refine blk_alloc ?_ _)); exact BK119.out) hb); have n5_ := Aside0.mk (below_step (by repeat (first | (with_reducible first | exact HB.out | apply below_alloc | apply pw_below_drewN | apply below_drew1 | refine below_set ?_ GE117.out | refine below_set ?_ GE118.out | refine below_set ?_ GE119.out) | exact HB.out)) hb); clear HO122; clear BK117; clear BK118; clear BK119; clear HB; have HO122 := n0_; have HO125 := n1_; have BK117 := n2_; have BK118 := n3_; have BK119 := n4_; have HB := n5_; clear n0_ n1_ n2_ n3_ n4_ n5_; (try clear hb); (try clear hb2); (try clear hk); (try clear hi); (try clear ho0)))
                    have n0_ := Aside0.mk (Kd.R_drew HO122.out)
                    have n1_ := Aside0.mk (Kd.R_drew HO125.out)
                    have n2_ := Aside0.mk (blk_drew BK117.out)
                    have n3_ := Aside0.mk (blk_drew BK118.out)
                    have n4_ := Aside0.mk (blk_drew BK119.out)
                    have n5_ := Aside0.mk (below_drew1 HB.out)
                    clear HO122
                    clear HO125
                    clear BK117
                    clear BK118
                    clear BK119
                    clear HB
                    have HO122 := n0_
                    have HO125 := n1_
                    have BK117 := n2_
                    have BK118 := n3_
                    have BK119 := n4_
                    have HB := n5_
                    clear n0_ n1_ n2_ n3_ n4_ n5_
                    obtain ⟨Ao61, co61, eo61⟩ := Kd.R_slice HO125.out
                    (first | subst eo61 | (injection eo61 with f1_ f2_ f3_; have f4_ := f1_.symm; have f5_ := f3_.symm; clear f1_ f2_ f3_; subst f4_; subst f5_))
                    have p126 : 0 ≤ (0 : Int) := (by omega)
                    have q126 : 0 < (t123.length : Int) := of_decide_eq_true (by first | (with_reducible assumption) | assumption)
                    obtain ⟨ad126, e126, hx126_0, hx126_1, hx126_2⟩ := at_T28 (Kd.R_reads' HO125.out).2.2 0 p126 q126
                    cases e126
                    have qi126 : (0 < t123.length) = True := eq_true (by omega)
                    (try rw [show ((0 : Int)).toNat = 0 from rfl] at hx126_0)
                    (try rw [show 0 * 3 = 0 from rfl] at hx126_0)
                    (try rw [Addr.add_zero'] at hx126_0)
                    (try rw [show ((0 : Int)).toNat = 0 from rfl] at hx126_1)
                    (try rw [show 0 * 3 = 0 from rfl] at hx126_1)
                    (try rw [Addr.add_zero'] at hx126_1)
                    (try rw [show ((0 : Int)).toNat = 0 from rfl] at hx126_2)
                    (try rw [show 0 * 3 = 0 from rfl] at hx126_2)
                    (try rw [Addr.add_zero'] at hx126_2)
                    replace p126 := eq_true p126
                    replace q126 := eq_true q126
                    have p127 : 0 ≤ (1 : Int) := (by omega)
                    have q127 : 1 < (t123.length : Int) := of_decide_eq_true (by first | (with_reducible assumption) | assumption)
                    obtain ⟨ad127, e127, hx127_0, hx127_1, hx127_2⟩ := at_T28 (Kd.R_reads' HO125.out).2.2 1 p127 q127
                    obtain rfl : ad126 = ad127 := (by injection e127)
                    (try simp only [show (1 : Int).toNat = 1 from rfl, Nat.reduceMul, Nat.reduceEqDiff, Go.Addr.add, ↓reduceIte] at hx127_0)
                    (try simp only [show (1 : Int).toNat = 1 from rfl, Nat.reduceMul, Nat.reduceEqDiff, Go.Addr.add, ↓reduceIte] at hx127_1)
                    (try simp only [show (1 : Int).toNat = 1 from rfl, Nat.reduceMul, Nat.reduceEqDiff, Go.Addr.add, ↓reduceIte] at hx127_2)
                    have qi127 : (1 < t123.length) = True := eq_true (by omega)
                    (try rw [show ((1 : Int)).toNat = 1 from rfl] at hx127_0)
                    (try rw [show 1 * 3 = 3 from rfl] at hx127_0)
                    (try rw [show ((1 : Int)).toNat = 1 from rfl] at hx127_1)
                    (try rw [show 1 * 3 = 3 from rfl] at hx127_1)
                    (try rw [show ((1 : Int)).toNat = 1 from rfl] at hx127_2)
                    (try rw [show 1 * 3 = 3 from rfl] at hx127_2)
                    replace p127 := eq_true p127
                    replace q127 := eq_true q127
                    refine start_ (n := 8) (S := fun w' => w'.cell? ad126 = some (.int .i64 ((rd_T28 t123 0).f0)) ∧ w'.cell? ⟨ad126.block, ad126.off + 1, none⟩ = some (.int .i64 ((rd_T28 t123 0).f1)) ∧ w'.cell? ⟨ad126.block, ad126.off + 2, none⟩ = some (.int .i64 ((rd_T28 t123 0).f2)) ∧ w'.cell? ⟨ad126.block, ad126.off + 3, none⟩ = some (.int .i64 ((rd_T28 t123 1).f0)) ∧ w'.cell? ⟨ad126.block, ad126.off + 3 + 1, none⟩ = some (.int .i64 ((rd_T28 t123 1).f1)) ∧ w'.cell? ⟨ad126.block, ad126.off + 3 + 2, none⟩ = some (.int .i64 ((rd_T28 t123 1).f2))) (ds := []) #[false, false, false, false, false, false, false, false] (by kernel_rfl) rfl rfl ⟨hx126_0, hx126_1, hx126_2, hx127_0, hx127_1, hx127_2⟩ (fun hHeld => ?_); refine with_tabW concordancelaw14_ScoreOrders.tab2 concordancelaw14_ScoreOrders.bits2 (fun HT_ HW_ => ?_)
                    generalize w59.drew = w60 at HO122 HO125 BK117 BK118 BK119 HB hx126_0 hx126_1 hx126_2 hx127_0 hx127_1 hx127_2 hHeld ⊢
                    refine pure_ (i := 0) (N := some 17) (v := ?_) (a' := ?_) #[true, false, false, false, false, false, false, false] rfl rfl (any_of HT_.out (by kernel_rfl)) (fun _ _ _ h => h) (Or.inl ⟨by rfl, ?_⟩) ?_ ?_
                    rotate_left
                    · intro w'
                      go_simp
                      with_reducible rfl
                    rotate_left
                    · simp only [Act.put, List.setIfInBounds_toArray, List.set_cons_zero, List.set_cons_succ, i64_w, i32_w]
                      rfl
                    refine pure_ (i := 1) (N := some 18) (v := ?_) (a' := ?_) #[true, true, false, false, false, false, false, false] rfl rfl (any_of HT_.out (by kernel_rfl)) (fun _ _ _ h => h) (Or.inl ⟨by rfl, ?_⟩) ?_ ?_
                    rotate_left
                    · intro w'
                      go_simp
                      with_reducible rfl
                    rotate_left
                    · simp only [Act.put, List.setIfInBounds_toArray, List.set_cons_zero, List.set_cons_succ, i64_w, i32_w]
                      rfl
                    refine pure_ (i := 3) (N := some 20) (v := ?_) (a' := ?_) #[true, true, false, true, false, false, false, false] rfl rfl (any_of HT_.out (by kernel_rfl)) (fun _ _ _ h => h) (Or.inl ⟨by rfl, ?_⟩) ?_ ?_
                    rotate_left
                    · intro w'
                      go_simp
                      with_reducible rfl
                    rotate_left
                    · simp only [Act.put, List.setIfInBounds_toArray, List.set_cons_zero, List.set_cons_succ, i64_w, i32_w]
                      rfl
                    refine pure_ (i := 4) (N := some 21) (v := ?_) (a' := ?_) #[true, true, false, true, true, false, false, false] rfl rfl (any_of HT_.out (by kernel_rfl)) (fun _ _ _ h => h) (Or.inl ⟨by rfl, ?_⟩) ?_ ?_
                    rotate_left
                    · intro w'
                      go_simp
                      with_reducible rfl
                    rotate_left
                    · simp only [Act.put, List.setIfInBounds_toArray, List.set_cons_zero, List.set_cons_succ, i64_w, i32_w]
                      rfl
                    refine take_ (i := 2) (N := some 19) (v := ?_) (a' := ?_) #[true, true, true, true, true, false, false, false] rfl rfl (take_ofW HT_.out HW_.out (by kernel_rfl)) (fun _ _ _ h => h) (Or.inl ⟨by rfl, ?_⟩) hHeld ?_ ?_
                    rotate_left
                    · rintro w' ⟨s0, s1, s2, s3, s4, s5⟩
                      go_simp
                      with_reducible rfl
                    rotate_left
                    · simp only [Act.put, List.setIfInBounds_toArray, List.set_cons_zero, List.set_cons_succ, i64_w, i32_w]
                      rfl
                    refine take_ (i := 5) (N := some 22) (v := ?_) (a' := ?_) #[true, true, true, true, true, true, false, false] rfl rfl (take_ofW HT_.out HW_.out (by kernel_rfl)) (fun _ _ _ h => h) (Or.inl ⟨by rfl, ?_⟩) hHeld ?_ ?_
                    rotate_left
                    · rintro w' ⟨s0, s1, s2, s3, s4, s5⟩
                      go_simp
                      with_reducible rfl
                    rotate_left
                    · simp only [Act.put, List.setIfInBounds_toArray, List.set_cons_zero, List.set_cons_succ, i64_w, i32_w]
                      rfl
                    refine one_ (i := 6) (N := some 23) #[true, true, true, true, true, true, true, false] rfl rfl (one_of HT_.out (by kernel_rfl)) (by decide) (fun K hK => ?_)
                    refine goes_ Try.func8 (by kernel_rfl) rfl #[.agg #[.int .i64 ((rd_T28 t123 0).f0), .int .i64 ((rd_T28 t123 0).f1), .int .i64 ((rd_T28 t123 0).f2)], .agg #[.int .i64 ((rd_T28 t123 1).f0), .int .i64 ((rd_T28 t123 1).f1), .int .i64 ((rd_T28 t123 1).f2)]] (by rfl) rfl rfl (by (try simp only [List.map_toArray, List.map_cons, List.map_nil]); first | done | rfl | (simp only [List.length_drop, List.length_take]; rfl)) ?_
                    with_reducible refine (score_Better.calls ((rd_T28 t123 0).f0) ((rd_T28 t123 0).f1) ((rd_T28 t123 0).f2) ((rd_T28 t123 1).f0) ((rd_T28 t123 1).f1) ((rd_T28 t123 1).f2) true _ A7.out).mono ?_
                    rintro e w62 ⟨rfl, hb⟩
                    have HS0_ := (hb.cell (World.block_lt_of_cell? _ _ (hHeld.1))).trans (hHeld.1)
                    have HS1_ := (hb.cell (World.block_lt_of_cell? _ _ (hHeld.2.1))).trans (hHeld.2.1)
                    have HS2_ := (hb.cell (World.block_lt_of_cell? _ _ (hHeld.2.2.1))).trans (hHeld.2.2.1)
                    have HS3_ := (hb.cell (World.block_lt_of_cell? _ _ (hHeld.2.2.2.1))).trans (hHeld.2.2.2.1)
                    have HS4_ := (hb.cell (World.block_lt_of_cell? _ _ (hHeld.2.2.2.2.1))).trans (hHeld.2.2.2.2.1)
                    have HS5_ := (hb.cell (World.block_lt_of_cell? _ _ (hHeld.2.2.2.2.2))).trans (hHeld.2.2.2.2.2)
                    refine ⟨_, rfl, ?_⟩
                    have n0_ := Aside0.mk (Kd.R_below (by (with_reducible repeat (first | apply Kd.R_alloc | apply Kd.R_drewN | apply Kd.R_drew)); exact HO122.out) hb)
                    have n1_ := Aside0.mk (Kd.R_below (by (with_reducible repeat (first | apply Kd.R_alloc | apply Kd.R_drewN | apply Kd.R_drew)); exact HO125.out) hb)
                    have n2_ := Aside0.mk (blk_below (g := gb117) (o := .cells #[.int .i64 a0_0, .int .i64 a0_1, .int .i64 a0_2] 23 (0, 0)) (by (with_reducible repeat (first | refine blk_drewN ?_ _ | refine blk_drew ?_ | refine blk_alloc ?_ _)); exact BK117.out) hb)
                    have n3_ := Aside0.mk (blk_below (g := gb118) (o := .cells #[.int .i64 a1_0, .int .i64 a1_1, .int .i64 a1_2] 23 (0, 0)) (by (with_reducible repeat (first | refine blk_drewN ?_ _ | refine blk_drew ?_ | refine blk_alloc ?_ _)); exact BK118.out) hb)
                    have n4_ := Aside0.mk (blk_below (g := gb119) (o := .cells #[.int .i64 a2_0, .int .i64 a2_1, .int .i64 a2_2] 23 (0, 0)) (by (with_reducible repeat (first | refine blk_drewN ?_ _ | refine blk_drew ?_ | refine blk_alloc ?_ _)); exact BK119.out) hb)
                    have n5_ := Aside0.mk (below_step (by repeat (first | (with_reducible first | exact HB.out | apply below_alloc | apply pw_below_drewN | apply below_drew1 | refine below_set ?_ GE117.out | refine below_set ?_ GE118.out | refine below_set ?_ GE119.out) | exact HB.out)) hb)
                    clear HO122
                    clear HO125
                    clear BK117
                    clear BK118
                    clear BK119
                    clear HB
                    have HO122 := n0_
                    have HO125 := n1_
                    have BK117 := n2_
                    have BK118 := n3_
                    have BK119 := n4_
                    have HB := n5_
                    clear n0_ n1_ n2_ n3_ n4_ n5_
                    (try clear hb)
                    (try clear hb2)
                    (try clear hk)
                    (try clear hi)
                    refine hK.out _ _ ⟨HS0_, HS1_, HS2_, HS3_, HS4_, HS5_⟩ (fun hHeld => ?_)
                    clear hK K
                    refine norm_ (a' := ?_) ?_ ?_
                    rotate_left
                    · show Act.put _ (some 23) _ = _
                      simp only [Act.put, List.setIfInBounds_toArray, List.set_cons_zero, List.set_cons_succ, i64_w, i32_w]
                      rfl
                    refine pure_ (i := 7) (N := some 8) (v := ?_) (a' := ?_) #[true, true, true, true, true, true, true, true] rfl rfl (any_of HT_.out (by kernel_rfl)) (fun _ _ _ h => h) (Or.inl ⟨by rfl, ?_⟩) ?_ ?_
                    rotate_left
                    · intro w'
                      go_simp
                      with_reducible rfl
                    rotate_left
                    · simp only [Act.put, List.setIfInBounds_toArray, List.set_cons_zero, List.set_cons_succ, i64_w, i32_w]
                      rfl
                    refine done_ (done_of HT_.out (by kernel_rfl)) ?_
                    try go_wp2
                    have n0_ := Aside0.mk (Kd.R_drew HO122.out)
                    have n1_ := Aside0.mk (Kd.R_drew HO125.out)
                    have n2_ := Aside0.mk (blk_drew BK117.out)
                    have n3_ := Aside0.mk (blk_drew BK118.out)
                    have n4_ := Aside0.mk (blk_drew BK119.out)
                    have n5_ := Aside0.mk (below_drew1 HB.out)
                    clear HO122
                    clear HO125
                    clear BK117
                    clear BK118
                    clear BK119
                    clear HB
                    have HO122 := n0_
                    have HO125 := n1_
                    have BK117 := n2_
                    have BK118 := n3_
                    have BK119 := n4_
                    have HB := n5_
                    clear n0_ n1_ n2_ n3_ n4_ n5_
                    have p129 : 0 ≤ (1 : Int) := (by omega)
                    have q129 : 1 < (t123.length : Int) := of_decide_eq_true (by first | (with_reducible assumption) | assumption)
                    obtain ⟨ad129, e129, hx129_0, hx129_1, hx129_2⟩ := at_T28 (Kd.R_reads' HO125.out).2.2 1 p129 q129
                    obtain rfl : ad126 = ad129 := (by injection e129)
                    (try simp only [show (1 : Int).toNat = 1 from rfl, Nat.reduceMul, Nat.reduceEqDiff, Go.Addr.add, ↓reduceIte] at hx129_0)
                    (try simp only [show (1 : Int).toNat = 1 from rfl, Nat.reduceMul, Nat.reduceEqDiff, Go.Addr.add, ↓reduceIte] at hx129_1)
                    (try simp only [show (1 : Int).toNat = 1 from rfl, Nat.reduceMul, Nat.reduceEqDiff, Go.Addr.add, ↓reduceIte] at hx129_2)
                    have qi129 : (1 < t123.length) = True := eq_true (by omega)
                    (try rw [show ((1 : Int)).toNat = 1 from rfl] at hx129_0)
                    (try rw [show 1 * 3 = 3 from rfl] at hx129_0)
                    (try rw [show ((1 : Int)).toNat = 1 from rfl] at hx129_1)
                    (try rw [show 1 * 3 = 3 from rfl] at hx129_1)
                    (try rw [show ((1 : Int)).toNat = 1 from rfl] at hx129_2)
                    (try rw [show 1 * 3 = 3 from rfl] at hx129_2)
                    replace p129 := eq_true p129
                    replace q129 := eq_true q129
                    have p130 : 0 ≤ (0 : Int) := (by omega)
                    have q130 : 0 < (t123.length : Int) := of_decide_eq_true (by first | (with_reducible assumption) | assumption)
                    obtain ⟨ad130, e130, hx130_0, hx130_1, hx130_2⟩ := at_T28 (Kd.R_reads' HO125.out).2.2 0 p130 q130
                    obtain rfl : ad126 = ad130 := (by injection e130)
                    have qi130 : (0 < t123.length) = True := eq_true (by omega)
                    (try rw [show ((0 : Int)).toNat = 0 from rfl] at hx130_0)
                    (try rw [show 0 * 3 = 0 from rfl] at hx130_0)
                    (try rw [Addr.add_zero'] at hx130_0)
                    (try rw [show ((0 : Int)).toNat = 0 from rfl] at hx130_1)
                    (try rw [show 0 * 3 = 0 from rfl] at hx130_1)
                    (try rw [Addr.add_zero'] at hx130_1)
                    (try rw [show ((0 : Int)).toNat = 0 from rfl] at hx130_2)
                    (try rw [show 0 * 3 = 0 from rfl] at hx130_2)
                    (try rw [Addr.add_zero'] at hx130_2)
                    replace p130 := eq_true p130
                    replace q130 := eq_true q130
                    refine start_ (n := 8) (S := fun w' => w'.cell? ⟨ad126.block, ad126.off + 3, none⟩ = some (.int .i64 ((rd_T28 t123 1).f0)) ∧ w'.cell? ⟨ad126.block, ad126.off + 3 + 1, none⟩ = some (.int .i64 ((rd_T28 t123 1).f1)) ∧ w'.cell? ⟨ad126.block, ad126.off + 3 + 2, none⟩ = some (.int .i64 ((rd_T28 t123 1).f2)) ∧ w'.cell? ad126 = some (.int .i64 ((rd_T28 t123 0).f0)) ∧ w'.cell? ⟨ad126.block, ad126.off + 1, none⟩ = some (.int .i64 ((rd_T28 t123 0).f1)) ∧ w'.cell? ⟨ad126.block, ad126.off + 2, none⟩ = some (.int .i64 ((rd_T28 t123 0).f2))) (ds := []) #[false, false, false, false, false, false, false, false] (by kernel_rfl) rfl rfl ⟨hx129_0, hx129_1, hx129_2, hx130_0, hx130_1, hx130_2⟩ (fun hHeld => ?_); refine with_tabW concordancelaw14_ScoreOrders.tab3 concordancelaw14_ScoreOrders.bits3 (fun HT_ HW_ => ?_)
                    generalize w62.drew = w63 at HO122 HO125 BK117 BK118 BK119 HB hx129_0 hx129_1 hx129_2 hx130_0 hx130_1 hx130_2 hHeld ⊢
                    refine pure_ (i := 0) (N := some 24) (v := ?_) (a' := ?_) #[true, false, false, false, false, false, false, false] rfl rfl (any_of HT_.out (by kernel_rfl)) (fun _ _ _ h => h) (Or.inl ⟨by rfl, ?_⟩) ?_ ?_
                    rotate_left
                    · intro w'
                      go_simp
                      with_reducible rfl
                    rotate_left
                    · simp only [Act.put, List.setIfInBounds_toArray, List.set_cons_zero, List.set_cons_succ, i64_w, i32_w]
                      rfl
                    refine pure_ (i := 1) (N := some 25) (v := ?_) (a' := ?_) #[true, true, false, false, false, false, false, false] rfl rfl (any_of HT_.out (by kernel_rfl)) (fun _ _ _ h => h) (Or.inl ⟨by rfl, ?_⟩) ?_ ?_
                    rotate_left
                    · intro w'
                      go_simp
                      with_reducible rfl
                    rotate_left
                    · simp only [Act.put, List.setIfInBounds_toArray, List.set_cons_zero, List.set_cons_succ, i64_w, i32_w]
                      rfl
                    refine pure_ (i := 3) (N := some 27) (v := ?_) (a' := ?_) #[true, true, false, true, false, false, false, false] rfl rfl (any_of HT_.out (by kernel_rfl)) (fun _ _ _ h => h) (Or.inl ⟨by rfl, ?_⟩) ?_ ?_
                    rotate_left
                    · intro w'
                      go_simp
                      with_reducible rfl
                    rotate_left
                    · simp only [Act.put, List.setIfInBounds_toArray, List.set_cons_zero, List.set_cons_succ, i64_w, i32_w]
                      rfl
                    refine pure_ (i := 4) (N := some 28) (v := ?_) (a' := ?_) #[true, true, false, true, true, false, false, false] rfl rfl (any_of HT_.out (by kernel_rfl)) (fun _ _ _ h => h) (Or.inl ⟨by rfl, ?_⟩) ?_ ?_
                    rotate_left
                    · intro w'
                      go_simp
                      with_reducible rfl
                    rotate_left
                    · simp only [Act.put, List.setIfInBounds_toArray, List.set_cons_zero, List.set_cons_succ, i64_w, i32_w]
                      rfl
                    refine take_ (i := 2) (N := some 26) (v := ?_) (a' := ?_) #[true, true, true, true, true, false, false, false] rfl rfl (take_ofW HT_.out HW_.out (by kernel_rfl)) (fun _ _ _ h => h) (Or.inl ⟨by rfl, ?_⟩) hHeld ?_ ?_
                    rotate_left
                    · rintro w' ⟨s0, s1, s2, s3, s4, s5⟩
                      go_simp
                      with_reducible rfl
                    rotate_left
                    · simp only [Act.put, List.setIfInBounds_toArray, List.set_cons_zero, List.set_cons_succ, i64_w, i32_w]
                      rfl
                    refine take_ (i := 5) (N := some 29) (v := ?_) (a' := ?_) #[true, true, true, true, true, true, false, false] rfl rfl (take_ofW HT_.out HW_.out (by kernel_rfl)) (fun _ _ _ h => h) (Or.inl ⟨by rfl, ?_⟩) hHeld ?_ ?_
                    rotate_left
                    · rintro w' ⟨s0, s1, s2, s3, s4, s5⟩
                      go_simp
                      with_reducible rfl
                    rotate_left
                    · simp only [Act.put, List.setIfInBounds_toArray, List.set_cons_zero, List.set_cons_succ, i64_w, i32_w]
                      rfl
                    refine one_ (i := 6) (N := some 30) #[true, true, true, true, true, true, true, false] rfl rfl (one_of HT_.out (by kernel_rfl)) (by decide) (fun K hK => ?_)
                    refine goes_ Try.func8 (by kernel_rfl) rfl #[.agg #[.int .i64 ((rd_T28 t123 1).f0), .int .i64 ((rd_T28 t123 1).f1), .int .i64 ((rd_T28 t123 1).f2)], .agg #[.int .i64 ((rd_T28 t123 0).f0), .int .i64 ((rd_T28 t123 0).f1), .int .i64 ((rd_T28 t123 0).f2)]] (by rfl) rfl rfl (by (try simp only [List.map_toArray, List.map_cons, List.map_nil]); first | done | rfl | (simp only [List.length_drop, List.length_take]; rfl)) ?_
                    with_reducible refine (score_Better.calls ((rd_T28 t123 1).f0) ((rd_T28 t123 1).f1) ((rd_T28 t123 1).f2) ((rd_T28 t123 0).f0) ((rd_T28 t123 0).f1) ((rd_T28 t123 0).f2) false _ A8.out).mono ?_
                    rintro e w64 ⟨rfl, hb⟩
                    have HS0_ := (hb.cell (World.block_lt_of_cell? _ _ (hHeld.1))).trans (hHeld.1)
                    have HS1_ := (hb.cell (World.block_lt_of_cell? _ _ (hHeld.2.1))).trans (hHeld.2.1)
                    have HS2_ := (hb.cell (World.block_lt_of_cell? _ _ (hHeld.2.2.1))).trans (hHeld.2.2.1)
                    have HS3_ := (hb.cell (World.block_lt_of_cell? _ _ (hHeld.2.2.2.1))).trans (hHeld.2.2.2.1)
                    have HS4_ := (hb.cell (World.block_lt_of_cell? _ _ (hHeld.2.2.2.2.1))).trans (hHeld.2.2.2.2.1)
                    have HS5_ := (hb.cell (World.block_lt_of_cell? _ _ (hHeld.2.2.2.2.2))).trans (hHeld.2.2.2.2.2)
                    refine ⟨_, rfl, ?_⟩
                    have n0_ := Aside0.mk (Kd.R_below (by (with_reducible repeat (first | apply Kd.R_alloc | apply Kd.R_drewN | apply Kd.R_drew)); exact HO122.out) hb)
                    have n1_ := Aside0.mk (Kd.R_below (by (with_reducible repeat (first | apply Kd.R_alloc | apply Kd.R_drewN | apply Kd.R_drew)); exact HO125.out) hb)
                    have n2_ := Aside0.mk (blk_below (g := gb117) (o := .cells #[.int .i64 a0_0, .int .i64 a0_1, .int .i64 a0_2] 23 (0, 0)) (by (with_reducible repeat (first | refine blk_drewN ?_ _ | refine blk_drew ?_ | refine blk_alloc ?_ _)); exact BK117.out) hb)
                    have n3_ := Aside0.mk (blk_below (g := gb118) (o := .cells #[.int .i64 a1_0, .int .i64 a1_1, .int .i64 a1_2] 23 (0, 0)) (by (with_reducible repeat (first | refine blk_drewN ?_ _ | refine blk_drew ?_ | refine blk_alloc ?_ _)); exact BK118.out) hb)
                    have n4_ := Aside0.mk (blk_below (g := gb119) (o := .cells #[.int .i64 a2_0, .int .i64 a2_1, .int .i64 a2_2] 23 (0, 0)) (by (with_reducible repeat (first | refine blk_drewN ?_ _ | refine blk_drew ?_ | refine blk_alloc ?_ _)); exact BK119.out) hb)
                    have n5_ := Aside0.mk (below_step (by repeat (first | (with_reducible first | exact HB.out | apply below_alloc | apply pw_below_drewN | apply below_drew1 | refine below_set ?_ GE117.out | refine below_set ?_ GE118.out | refine below_set ?_ GE119.out) | exact HB.out)) hb)
                    clear HO122
                    clear HO125
                    clear BK117
                    clear BK118
                    clear BK119
                    clear HB
                    have HO122 := n0_
                    have HO125 := n1_
                    have BK117 := n2_
                    have BK118 := n3_
                    have BK119 := n4_
                    have HB := n5_
                    clear n0_ n1_ n2_ n3_ n4_ n5_
                    (try clear hb)
                    (try clear hb2)
                    (try clear hk)
                    (try clear hi)
                    refine hK.out _ _ ⟨HS0_, HS1_, HS2_, HS3_, HS4_, HS5_⟩ (fun hHeld => ?_)
                    clear hK K
                    refine norm_ (a' := ?_) ?_ ?_
                    rotate_left
                    · show Act.put _ (some 30) _ = _
                      simp only [Act.put, List.setIfInBounds_toArray, List.set_cons_zero, List.set_cons_succ, i64_w, i32_w]
                      rfl
                    refine pure_ (i := 7) (N := some 9) (v := ?_) (a' := ?_) #[true, true, true, true, true, true, true, true] rfl rfl (any_of HT_.out (by kernel_rfl)) (fun _ _ _ h => h) (Or.inl ⟨by rfl, ?_⟩) ?_ ?_
                    rotate_left
                    · intro w'
                      go_simp
                      with_reducible rfl
                    rotate_left
                    · simp only [Act.put, List.setIfInBounds_toArray, List.set_cons_zero, List.set_cons_succ, i64_w, i32_w]
                      rfl
                    refine done_ (done_of HT_.out (by kernel_rfl)) ?_
                    try go_wp2
                    have n0_ := Aside0.mk (Kd.R_drew HO122.out)
                    have n1_ := Aside0.mk (Kd.R_drew HO125.out)
                    have n2_ := Aside0.mk (blk_drew BK117.out)
                    have n3_ := Aside0.mk (blk_drew BK118.out)
                    have n4_ := Aside0.mk (blk_drew BK119.out)
                    have n5_ := Aside0.mk (below_drew1 HB.out)
                    clear HO122
                    clear HO125
                    clear BK117
                    clear BK118
                    clear BK119
                    clear HB
                    have HO122 := n0_
                    have HO125 := n1_
                    have BK117 := n2_
                    have BK118 := n3_
                    have BK119 := n4_
                    have HB := n5_
                    clear n0_ n1_ n2_ n3_ n4_ n5_
                    have p132 : 0 ≤ (1 : Int) := (by omega)
                    have q132 : 1 < (t123.length : Int) := of_decide_eq_true (by first | (with_reducible assumption) | assumption)
                    obtain ⟨ad132, e132, hx132_0, hx132_1, hx132_2⟩ := at_T28 (Kd.R_reads' HO125.out).2.2 1 p132 q132
                    obtain rfl : ad126 = ad132 := (by injection e132)
                    (try simp only [show (1 : Int).toNat = 1 from rfl, Nat.reduceMul, Nat.reduceEqDiff, Go.Addr.add, ↓reduceIte] at hx132_0)
                    (try simp only [show (1 : Int).toNat = 1 from rfl, Nat.reduceMul, Nat.reduceEqDiff, Go.Addr.add, ↓reduceIte] at hx132_1)
                    (try simp only [show (1 : Int).toNat = 1 from rfl, Nat.reduceMul, Nat.reduceEqDiff, Go.Addr.add, ↓reduceIte] at hx132_2)
                    have qi132 : (1 < t123.length) = True := eq_true (by omega)
                    (try rw [show ((1 : Int)).toNat = 1 from rfl] at hx132_0)
                    (try rw [show 1 * 3 = 3 from rfl] at hx132_0)
                    (try rw [show ((1 : Int)).toNat = 1 from rfl] at hx132_1)
                    (try rw [show 1 * 3 = 3 from rfl] at hx132_1)
                    (try rw [show ((1 : Int)).toNat = 1 from rfl] at hx132_2)
                    (try rw [show 1 * 3 = 3 from rfl] at hx132_2)
                    replace p132 := eq_true p132
                    replace q132 := eq_true q132
                    have p133 : 0 ≤ (2 : Int) := (by omega)
                    have q133 : 2 < (t123.length : Int) := of_decide_eq_true (by first | (with_reducible assumption) | assumption)
                    obtain ⟨ad133, e133, hx133_0, hx133_1, hx133_2⟩ := at_T28 (Kd.R_reads' HO125.out).2.2 2 p133 q133
                    obtain rfl : ad126 = ad133 := (by injection e133)
                    (try simp only [show (2 : Int).toNat = 2 from rfl, Nat.reduceMul, Nat.reduceEqDiff, Go.Addr.add, ↓reduceIte] at hx133_0)
                    (try simp only [show (2 : Int).toNat = 2 from rfl, Nat.reduceMul, Nat.reduceEqDiff, Go.Addr.add, ↓reduceIte] at hx133_1)
                    (try simp only [show (2 : Int).toNat = 2 from rfl, Nat.reduceMul, Nat.reduceEqDiff, Go.Addr.add, ↓reduceIte] at hx133_2)
                    have qi133 : (2 < t123.length) = True := eq_true (by omega)
                    (try rw [show ((2 : Int)).toNat = 2 from rfl] at hx133_0)
                    (try rw [show 2 * 3 = 6 from rfl] at hx133_0)
                    (try rw [show ((2 : Int)).toNat = 2 from rfl] at hx133_1)
                    (try rw [show 2 * 3 = 6 from rfl] at hx133_1)
                    (try rw [show ((2 : Int)).toNat = 2 from rfl] at hx133_2)
                    (try rw [show 2 * 3 = 6 from rfl] at hx133_2)
                    replace p133 := eq_true p133
                    replace q133 := eq_true q133
                    refine start_ (n := 8) (S := fun w' => w'.cell? ⟨ad126.block, ad126.off + 3, none⟩ = some (.int .i64 ((rd_T28 t123 1).f0)) ∧ w'.cell? ⟨ad126.block, ad126.off + 3 + 1, none⟩ = some (.int .i64 ((rd_T28 t123 1).f1)) ∧ w'.cell? ⟨ad126.block, ad126.off + 3 + 2, none⟩ = some (.int .i64 ((rd_T28 t123 1).f2)) ∧ w'.cell? ⟨ad126.block, ad126.off + 6, none⟩ = some (.int .i64 ((rd_T28 t123 2).f0)) ∧ w'.cell? ⟨ad126.block, ad126.off + 6 + 1, none⟩ = some (.int .i64 ((rd_T28 t123 2).f1)) ∧ w'.cell? ⟨ad126.block, ad126.off + 6 + 2, none⟩ = some (.int .i64 ((rd_T28 t123 2).f2))) (ds := []) #[false, false, false, false, false, false, false, false] (by kernel_rfl) rfl rfl ⟨hx132_0, hx132_1, hx132_2, hx133_0, hx133_1, hx133_2⟩ (fun hHeld => ?_); refine with_tabW concordancelaw14_ScoreOrders.tab4 concordancelaw14_ScoreOrders.bits4 (fun HT_ HW_ => ?_)
                    generalize w64.drew = w65 at HO122 HO125 BK117 BK118 BK119 HB hx132_0 hx132_1 hx132_2 hx133_0 hx133_1 hx133_2 hHeld ⊢
                    refine pure_ (i := 0) (N := some 31) (v := ?_) (a' := ?_) #[true, false, false, false, false, false, false, false] rfl rfl (any_of HT_.out (by kernel_rfl)) (fun _ _ _ h => h) (Or.inl ⟨by rfl, ?_⟩) ?_ ?_
                    rotate_left
                    · intro w'
                      go_simp
                      with_reducible rfl
                    rotate_left
                    · simp only [Act.put, List.setIfInBounds_toArray, List.set_cons_zero, List.set_cons_succ, i64_w, i32_w]
                      rfl
                    refine pure_ (i := 1) (N := some 32) (v := ?_) (a' := ?_) #[true, true, false, false, false, false, false, false] rfl rfl (any_of HT_.out (by kernel_rfl)) (fun _ _ _ h => h) (Or.inl ⟨by rfl, ?_⟩) ?_ ?_
                    rotate_left
                    · intro w'
                      go_simp
                      with_reducible rfl
                    rotate_left
                    · simp only [Act.put, List.setIfInBounds_toArray, List.set_cons_zero, List.set_cons_succ, i64_w, i32_w]
                      rfl
                    refine pure_ (i := 3) (N := some 34) (v := ?_) (a' := ?_) #[true, true, false, true, false, false, false, false] rfl rfl (any_of HT_.out (by kernel_rfl)) (fun _ _ _ h => h) (Or.inl ⟨by rfl, ?_⟩) ?_ ?_
                    rotate_left
                    · intro w'
                      go_simp
                      with_reducible rfl
                    rotate_left
                    · simp only [Act.put, List.setIfInBounds_toArray, List.set_cons_zero, List.set_cons_succ, i64_w, i32_w]
                      rfl
                    refine pure_ (i := 4) (N := some 35) (v := ?_) (a' := ?_) #[true, true, false, true, true, false, false, false] rfl rfl (any_of HT_.out (by kernel_rfl)) (fun _ _ _ h => h) (Or.inl ⟨by rfl, ?_⟩) ?_ ?_
                    rotate_left
                    · intro w'
                      go_simp
                      with_reducible rfl
                    rotate_left
                    · simp only [Act.put, List.setIfInBounds_toArray, List.set_cons_zero, List.set_cons_succ, i64_w, i32_w]
                      rfl
                    refine take_ (i := 2) (N := some 33) (v := ?_) (a' := ?_) #[true, true, true, true, true, false, false, false] rfl rfl (take_ofW HT_.out HW_.out (by kernel_rfl)) (fun _ _ _ h => h) (Or.inl ⟨by rfl, ?_⟩) hHeld ?_ ?_
                    rotate_left
                    · rintro w' ⟨s0, s1, s2, s3, s4, s5⟩
                      go_simp
                      with_reducible rfl
                    rotate_left
                    · simp only [Act.put, List.setIfInBounds_toArray, List.set_cons_zero, List.set_cons_succ, i64_w, i32_w]
                      rfl
                    refine take_ (i := 5) (N := some 36) (v := ?_) (a' := ?_) #[true, true, true, true, true, true, false, false] rfl rfl (take_ofW HT_.out HW_.out (by kernel_rfl)) (fun _ _ _ h => h) (Or.inl ⟨by rfl, ?_⟩) hHeld ?_ ?_
                    rotate_left
                    · rintro w' ⟨s0, s1, s2, s3, s4, s5⟩
                      go_simp
                      with_reducible rfl
                    rotate_left
                    · simp only [Act.put, List.setIfInBounds_toArray, List.set_cons_zero, List.set_cons_succ, i64_w, i32_w]
                      rfl
                    refine one_ (i := 6) (N := some 37) #[true, true, true, true, true, true, true, false] rfl rfl (one_of HT_.out (by kernel_rfl)) (by decide) (fun K hK => ?_)
                    refine goes_ Try.func8 (by kernel_rfl) rfl #[.agg #[.int .i64 ((rd_T28 t123 1).f0), .int .i64 ((rd_T28 t123 1).f1), .int .i64 ((rd_T28 t123 1).f2)], .agg #[.int .i64 ((rd_T28 t123 2).f0), .int .i64 ((rd_T28 t123 2).f1), .int .i64 ((rd_T28 t123 2).f2)]] (by rfl) rfl rfl (by (try simp only [List.map_toArray, List.map_cons, List.map_nil]); first | done | rfl | (simp only [List.length_drop, List.length_take]; rfl)) ?_
                    with_reducible refine (score_Better.calls ((rd_T28 t123 1).f0) ((rd_T28 t123 1).f1) ((rd_T28 t123 1).f2) ((rd_T28 t123 2).f0) ((rd_T28 t123 2).f1) ((rd_T28 t123 2).f2) true _ A10.out).mono ?_
                    rintro e w66 ⟨rfl, hb⟩
                    have HS0_ := (hb.cell (World.block_lt_of_cell? _ _ (hHeld.1))).trans (hHeld.1)
                    have HS1_ := (hb.cell (World.block_lt_of_cell? _ _ (hHeld.2.1))).trans (hHeld.2.1)
                    have HS2_ := (hb.cell (World.block_lt_of_cell? _ _ (hHeld.2.2.1))).trans (hHeld.2.2.1)
                    have HS3_ := (hb.cell (World.block_lt_of_cell? _ _ (hHeld.2.2.2.1))).trans (hHeld.2.2.2.1)
                    have HS4_ := (hb.cell (World.block_lt_of_cell? _ _ (hHeld.2.2.2.2.1))).trans (hHeld.2.2.2.2.1)
                    have HS5_ := (hb.cell (World.block_lt_of_cell? _ _ (hHeld.2.2.2.2.2))).trans (hHeld.2.2.2.2.2)
                    refine ⟨_, rfl, ?_⟩
                    have n0_ := Aside0.mk (Kd.R_below (by (with_reducible repeat (first | apply Kd.R_alloc | apply Kd.R_drewN | apply Kd.R_drew)); exact HO122.out) hb)
                    have n1_ := Aside0.mk (Kd.R_below (by (with_reducible repeat (first | apply Kd.R_alloc | apply Kd.R_drewN | apply Kd.R_drew)); exact HO125.out) hb)
                    have n2_ := Aside0.mk (blk_below (g := gb117) (o := .cells #[.int .i64 a0_0, .int .i64 a0_1, .int .i64 a0_2] 23 (0, 0)) (by (with_reducible repeat (first | refine blk_drewN ?_ _ | refine blk_drew ?_ | refine blk_alloc ?_ _)); exact BK117.out) hb)
                    have n3_ := Aside0.mk (blk_below (g := gb118) (o := .cells #[.int .i64 a1_0, .int .i64 a1_1, .int .i64 a1_2] 23 (0, 0)) (by (with_reducible repeat (first | refine blk_drewN ?_ _ | refine blk_drew ?_ | refine blk_alloc ?_ _)); exact BK118.out) hb)
                    have n4_ := Aside0.mk (blk_below (g := gb119) (o := .cells #[.int .i64 a2_0, .int .i64 a2_1, .int .i64 a2_2] 23 (0, 0)) (by (with_reducible repeat (first | refine blk_drewN ?_ _ | refine blk_drew ?_ | refine blk_alloc ?_ _)); exact BK119.out) hb)
                    have n5_ := Aside0.mk (below_step (by repeat (first | (with_reducible first | exact HB.out | apply below_alloc | apply pw_below_drewN | apply below_drew1 | refine below_set ?_ GE117.out | refine below_set ?_ GE118.out | refine below_set ?_ GE119.out) | exact HB.out)) hb)
                    clear HO122
                    clear HO125
                    clear BK117
                    clear BK118
                    clear BK119
                    clear HB
                    have HO122 := n0_
                    have HO125 := n1_
                    have BK117 := n2_
                    have BK118 := n3_
                    have BK119 := n4_
                    have HB := n5_
                    clear n0_ n1_ n2_ n3_ n4_ n5_
                    (try clear hb)
                    (try clear hb2)
                    (try clear hk)
                    (try clear hi)
                    refine hK.out _ _ ⟨HS0_, HS1_, HS2_, HS3_, HS4_, HS5_⟩ (fun hHeld => ?_)
                    clear hK K
                    refine norm_ (a' := ?_) ?_ ?_
                    rotate_left
                    · show Act.put _ (some 37) _ = _
                      simp only [Act.put, List.setIfInBounds_toArray, List.set_cons_zero, List.set_cons_succ, i64_w, i32_w]
                      rfl
                    refine pure_ (i := 7) (N := some 10) (v := ?_) (a' := ?_) #[true, true, true, true, true, true, true, true] rfl rfl (any_of HT_.out (by kernel_rfl)) (fun _ _ _ h => h) (Or.inl ⟨by rfl, ?_⟩) ?_ ?_
                    rotate_left
                    · intro w'
                      go_simp
                      with_reducible rfl
                    rotate_left
                    · simp only [Act.put, List.setIfInBounds_toArray, List.set_cons_zero, List.set_cons_succ, i64_w, i32_w]
                      rfl
                    refine done_ (done_of HT_.out (by kernel_rfl)) ?_
                    try go_wp2
                    have n0_ := Aside0.mk (Kd.R_drew HO122.out)
                    have n1_ := Aside0.mk (Kd.R_drew HO125.out)
                    have n2_ := Aside0.mk (blk_drew BK117.out)
                    have n3_ := Aside0.mk (blk_drew BK118.out)
                    have n4_ := Aside0.mk (blk_drew BK119.out)
                    have n5_ := Aside0.mk (below_drew1 HB.out)
                    clear HO122
                    clear HO125
                    clear BK117
                    clear BK118
                    clear BK119
                    clear HB
                    have HO122 := n0_
                    have HO125 := n1_
                    have BK117 := n2_
                    have BK118 := n3_
                    have BK119 := n4_
                    have HB := n5_
                    clear n0_ n1_ n2_ n3_ n4_ n5_
                    have p135 : 0 ≤ (0 : Int) := (by omega)
                    have q135 : 0 < (t123.length : Int) := of_decide_eq_true (by first | (with_reducible assumption) | assumption)
                    obtain ⟨ad135, e135, hx135_0, hx135_1, hx135_2⟩ := at_T28 (Kd.R_reads' HO125.out).2.2 0 p135 q135
                    obtain rfl : ad126 = ad135 := (by injection e135)
                    have qi135 : (0 < t123.length) = True := eq_true (by omega)
                    (try rw [show ((0 : Int)).toNat = 0 from rfl] at hx135_0)
                    (try rw [show 0 * 3 = 0 from rfl] at hx135_0)
                    (try rw [Addr.add_zero'] at hx135_0)
                    (try rw [show ((0 : Int)).toNat = 0 from rfl] at hx135_1)
                    (try rw [show 0 * 3 = 0 from rfl] at hx135_1)
                    (try rw [Addr.add_zero'] at hx135_1)
                    (try rw [show ((0 : Int)).toNat = 0 from rfl] at hx135_2)
                    (try rw [show 0 * 3 = 0 from rfl] at hx135_2)
                    (try rw [Addr.add_zero'] at hx135_2)
                    replace p135 := eq_true p135
                    replace q135 := eq_true q135
                    have p136 : 0 ≤ (2 : Int) := (by omega)
                    have q136 : 2 < (t123.length : Int) := of_decide_eq_true (by first | (with_reducible assumption) | assumption)
                    obtain ⟨ad136, e136, hx136_0, hx136_1, hx136_2⟩ := at_T28 (Kd.R_reads' HO125.out).2.2 2 p136 q136
                    obtain rfl : ad126 = ad136 := (by injection e136)
                    (try simp only [show (2 : Int).toNat = 2 from rfl, Nat.reduceMul, Nat.reduceEqDiff, Go.Addr.add, ↓reduceIte] at hx136_0)
                    (try simp only [show (2 : Int).toNat = 2 from rfl, Nat.reduceMul, Nat.reduceEqDiff, Go.Addr.add, ↓reduceIte] at hx136_1)
                    (try simp only [show (2 : Int).toNat = 2 from rfl, Nat.reduceMul, Nat.reduceEqDiff, Go.Addr.add, ↓reduceIte] at hx136_2)
                    have qi136 : (2 < t123.length) = True := eq_true (by omega)
                    (try rw [show ((2 : Int)).toNat = 2 from rfl] at hx136_0)
                    (try rw [show 2 * 3 = 6 from rfl] at hx136_0)
                    (try rw [show ((2 : Int)).toNat = 2 from rfl] at hx136_1)
                    (try rw [show 2 * 3 = 6 from rfl] at hx136_1)
                    (try rw [show ((2 : Int)).toNat = 2 from rfl] at hx136_2)
                    (try rw [show 2 * 3 = 6 from rfl] at hx136_2)
                    replace p136 := eq_true p136
                    replace q136 := eq_true q136
                    refine start_ (n := 8) (S := fun w' => w'.cell? ad126 = some (.int .i64 ((rd_T28 t123 0).f0)) ∧ w'.cell? ⟨ad126.block, ad126.off + 1, none⟩ = some (.int .i64 ((rd_T28 t123 0).f1)) ∧ w'.cell? ⟨ad126.block, ad126.off + 2, none⟩ = some (.int .i64 ((rd_T28 t123 0).f2)) ∧ w'.cell? ⟨ad126.block, ad126.off + 6, none⟩ = some (.int .i64 ((rd_T28 t123 2).f0)) ∧ w'.cell? ⟨ad126.block, ad126.off + 6 + 1, none⟩ = some (.int .i64 ((rd_T28 t123 2).f1)) ∧ w'.cell? ⟨ad126.block, ad126.off + 6 + 2, none⟩ = some (.int .i64 ((rd_T28 t123 2).f2))) (ds := []) #[false, false, false, false, false, false, false, false] (by kernel_rfl) rfl rfl ⟨hx135_0, hx135_1, hx135_2, hx136_0, hx136_1, hx136_2⟩ (fun hHeld => ?_); refine with_tabW concordancelaw14_ScoreOrders.tab5 concordancelaw14_ScoreOrders.bits5 (fun HT_ HW_ => ?_)
                    generalize w66.drew = w67 at HO122 HO125 BK117 BK118 BK119 HB hx135_0 hx135_1 hx135_2 hx136_0 hx136_1 hx136_2 hHeld ⊢
                    refine pure_ (i := 0) (N := some 38) (v := ?_) (a' := ?_) #[true, false, false, false, false, false, false, false] rfl rfl (any_of HT_.out (by kernel_rfl)) (fun _ _ _ h => h) (Or.inl ⟨by rfl, ?_⟩) ?_ ?_
                    rotate_left
                    · intro w'
                      go_simp
                      with_reducible rfl
                    rotate_left
                    · simp only [Act.put, List.setIfInBounds_toArray, List.set_cons_zero, List.set_cons_succ, i64_w, i32_w]
                      rfl
                    refine pure_ (i := 1) (N := some 39) (v := ?_) (a' := ?_) #[true, true, false, false, false, false, false, false] rfl rfl (any_of HT_.out (by kernel_rfl)) (fun _ _ _ h => h) (Or.inl ⟨by rfl, ?_⟩) ?_ ?_
                    rotate_left
                    · intro w'
                      go_simp
                      with_reducible rfl
                    rotate_left
                    · simp only [Act.put, List.setIfInBounds_toArray, List.set_cons_zero, List.set_cons_succ, i64_w, i32_w]
                      rfl
                    refine pure_ (i := 3) (N := some 41) (v := ?_) (a' := ?_) #[true, true, false, true, false, false, false, false] rfl rfl (any_of HT_.out (by kernel_rfl)) (fun _ _ _ h => h) (Or.inl ⟨by rfl, ?_⟩) ?_ ?_
                    rotate_left
                    · intro w'
                      go_simp
                      with_reducible rfl
                    rotate_left
                    · simp only [Act.put, List.setIfInBounds_toArray, List.set_cons_zero, List.set_cons_succ, i64_w, i32_w]
                      rfl
                    refine pure_ (i := 4) (N := some 42) (v := ?_) (a' := ?_) #[true, true, false, true, true, false, false, false] rfl rfl (any_of HT_.out (by kernel_rfl)) (fun _ _ _ h => h) (Or.inl ⟨by rfl, ?_⟩) ?_ ?_
                    rotate_left
                    · intro w'
                      go_simp
                      with_reducible rfl
                    rotate_left
                    · simp only [Act.put, List.setIfInBounds_toArray, List.set_cons_zero, List.set_cons_succ, i64_w, i32_w]
                      rfl
                    refine take_ (i := 2) (N := some 40) (v := ?_) (a' := ?_) #[true, true, true, true, true, false, false, false] rfl rfl (take_ofW HT_.out HW_.out (by kernel_rfl)) (fun _ _ _ h => h) (Or.inl ⟨by rfl, ?_⟩) hHeld ?_ ?_
                    rotate_left
                    · rintro w' ⟨s0, s1, s2, s3, s4, s5⟩
                      go_simp
                      with_reducible rfl
                    rotate_left
                    · simp only [Act.put, List.setIfInBounds_toArray, List.set_cons_zero, List.set_cons_succ, i64_w, i32_w]
                      rfl
                    refine take_ (i := 5) (N := some 43) (v := ?_) (a' := ?_) #[true, true, true, true, true, true, false, false] rfl rfl (take_ofW HT_.out HW_.out (by kernel_rfl)) (fun _ _ _ h => h) (Or.inl ⟨by rfl, ?_⟩) hHeld ?_ ?_
                    rotate_left
                    · rintro w' ⟨s0, s1, s2, s3, s4, s5⟩
                      go_simp
                      with_reducible rfl
                    rotate_left
                    · simp only [Act.put, List.setIfInBounds_toArray, List.set_cons_zero, List.set_cons_succ, i64_w, i32_w]
                      rfl
                    refine one_ (i := 6) (N := some 44) #[true, true, true, true, true, true, true, false] rfl rfl (one_of HT_.out (by kernel_rfl)) (by decide) (fun K hK => ?_)
                    refine goes_ Try.func8 (by kernel_rfl) rfl #[.agg #[.int .i64 ((rd_T28 t123 0).f0), .int .i64 ((rd_T28 t123 0).f1), .int .i64 ((rd_T28 t123 0).f2)], .agg #[.int .i64 ((rd_T28 t123 2).f0), .int .i64 ((rd_T28 t123 2).f1), .int .i64 ((rd_T28 t123 2).f2)]] (by rfl) rfl rfl (by (try simp only [List.map_toArray, List.map_cons, List.map_nil]); first | done | rfl | (simp only [List.length_drop, List.length_take]; rfl)) ?_
                    with_reducible refine (score_Better.calls ((rd_T28 t123 0).f0) ((rd_T28 t123 0).f1) ((rd_T28 t123 0).f2) ((rd_T28 t123 2).f0) ((rd_T28 t123 2).f1) ((rd_T28 t123 2).f2) true _ A11.out).mono ?_
                    rintro e w68 ⟨rfl, hb⟩
                    have HS0_ := (hb.cell (World.block_lt_of_cell? _ _ (hHeld.1))).trans (hHeld.1)
                    have HS1_ := (hb.cell (World.block_lt_of_cell? _ _ (hHeld.2.1))).trans (hHeld.2.1)
                    have HS2_ := (hb.cell (World.block_lt_of_cell? _ _ (hHeld.2.2.1))).trans (hHeld.2.2.1)
                    have HS3_ := (hb.cell (World.block_lt_of_cell? _ _ (hHeld.2.2.2.1))).trans (hHeld.2.2.2.1)
                    have HS4_ := (hb.cell (World.block_lt_of_cell? _ _ (hHeld.2.2.2.2.1))).trans (hHeld.2.2.2.2.1)
                    have HS5_ := (hb.cell (World.block_lt_of_cell? _ _ (hHeld.2.2.2.2.2))).trans (hHeld.2.2.2.2.2)
                    refine ⟨_, rfl, ?_⟩
                    have n0_ := Aside0.mk (Kd.R_below (by (with_reducible repeat (first | apply Kd.R_alloc | apply Kd.R_drewN | apply Kd.R_drew)); exact HO122.out) hb)
                    have n1_ := Aside0.mk (Kd.R_below (by (with_reducible repeat (first | apply Kd.R_alloc | apply Kd.R_drewN | apply Kd.R_drew)); exact HO125.out) hb)
                    have n2_ := Aside0.mk (blk_below (g := gb117) (o := .cells #[.int .i64 a0_0, .int .i64 a0_1, .int .i64 a0_2] 23 (0, 0)) (by (with_reducible repeat (first | refine blk_drewN ?_ _ | refine blk_drew ?_ | refine blk_alloc ?_ _)); exact BK117.out) hb)
                    have n3_ := Aside0.mk (blk_below (g := gb118) (o := .cells #[.int .i64 a1_0, .int .i64 a1_1, .int .i64 a1_2] 23 (0, 0)) (by (with_reducible repeat (first | refine blk_drewN ?_ _ | refine blk_drew ?_ | refine blk_alloc ?_ _)); exact BK118.out) hb)
                    have n4_ := Aside0.mk (blk_below (g := gb119) (o := .cells #[.int .i64 a2_0, .int .i64 a2_1, .int .i64 a2_2] 23 (0, 0)) (by (with_reducible repeat (first | refine blk_drewN ?_ _ | refine blk_drew ?_ | refine blk_alloc ?_ _)); exact BK119.out) hb)
                    have n5_ := Aside0.mk (below_step (by repeat (first | (with_reducible first | exact HB.out | apply below_alloc | apply pw_below_drewN | apply below_drew1 | refine below_set ?_ GE117.out | refine below_set ?_ GE118.out | refine below_set ?_ GE119.out) | exact HB.out)) hb)
                    clear HO122
                    clear HO125
                    clear BK117
                    clear BK118
                    clear BK119
                    clear HB
                    have HO122 := n0_
                    have HO125 := n1_
                    have BK117 := n2_
                    have BK118 := n3_
                    have BK119 := n4_
                    have HB := n5_
                    clear n0_ n1_ n2_ n3_ n4_ n5_
                    (try clear hb)
                    (try clear hb2)
                    (try clear hk)
                    (try clear hi)
                    refine hK.out _ _ ⟨HS0_, HS1_, HS2_, HS3_, HS4_, HS5_⟩ (fun hHeld => ?_)
                    clear hK K
                    refine norm_ (a' := ?_) ?_ ?_
                    rotate_left
                    · show Act.put _ (some 44) _ = _
                      simp only [Act.put, List.setIfInBounds_toArray, List.set_cons_zero, List.set_cons_succ, i64_w, i32_w]
                      rfl
                    refine pure_ (i := 7) (N := some 11) (v := ?_) (a' := ?_) #[true, true, true, true, true, true, true, true] rfl rfl (any_of HT_.out (by kernel_rfl)) (fun _ _ _ h => h) (Or.inl ⟨by rfl, ?_⟩) ?_ ?_
                    rotate_left
                    · intro w'
                      go_simp
                      with_reducible rfl
                    rotate_left
                    · simp only [Act.put, List.setIfInBounds_toArray, List.set_cons_zero, List.set_cons_succ, i64_w, i32_w]
                      rfl
                    refine done_ (done_of HT_.out (by kernel_rfl)) ?_
                    have hcz69_0 : w68.cell? ⟨gb117, 0, none⟩ = some (.int .i64 a0_0) := (blk_cell BK117.out 0).trans rfl
                    have hcz69_1 : w68.cell? ⟨gb117, 1, none⟩ = some (.int .i64 a0_1) := (blk_cell BK117.out 1).trans rfl
                    have hcz69_2 : w68.cell? ⟨gb117, 2, none⟩ = some (.int .i64 a0_2) := (blk_cell BK117.out 2).trans rfl
                    have hfz69_0 := blk_frozen BK117.out 0
                    have hfz69_1 := blk_frozen BK117.out 1
                    have hfz69_2 := blk_frozen BK117.out 2
                    have hcz70_0 : w68.cell? ⟨gb118, 0, none⟩ = some (.int .i64 a1_0) := (blk_cell BK118.out 0).trans rfl
                    have hcz70_1 : w68.cell? ⟨gb118, 1, none⟩ = some (.int .i64 a1_1) := (blk_cell BK118.out 1).trans rfl
                    have hcz70_2 : w68.cell? ⟨gb118, 2, none⟩ = some (.int .i64 a1_2) := (blk_cell BK118.out 2).trans rfl
                    have hfz70_0 := blk_frozen BK118.out 0
                    have hfz70_1 := blk_frozen BK118.out 1
                    have hfz70_2 := blk_frozen BK118.out 2
                    try go_wp2_with (first | ((with_reducible refine gate_callee (f := 9) rfl ?_); refine goesL_ (some 48) rfl rfl Try.func9 (by kernel_rfl) rfl #[.agg #[.int .i64 a0_0, .int .i64 a0_1, .int .i64 a0_2], .agg #[.int .i64 a1_0, .int .i64 a1_1, .int .i64 a1_2]] rfl (by (try simp only [List.map_toArray, List.map_cons, List.map_nil]); first | done | rfl | (simp only [List.length_drop, List.length_take]; rfl)) ?_; (with_reducible refine (concordanceref14_Better.calls a0_0 a0_1 a0_2 a1_0 a1_1 a1_2 t138 _ A12.out).mono ?_); rintro e w71 ⟨rfl, hb⟩; refine ⟨_, rfl, ?_⟩; have n0_ := Aside0.mk (Kd.R_below (by (with_reducible repeat (first | apply Kd.R_alloc | apply Kd.R_drewN | apply Kd.R_drew)); exact HO122.out) hb); have n1_ := Aside0.mk (Kd.R_below (by (with_reducible repeat (first | apply Kd.R_alloc | apply Kd.R_drewN | apply Kd.R_drew)); exact HO125.out) hb); have n2_ := Aside0.mk (blk_below (g := gb117) (o := .cells #[.int .i64 a0_0, .int .i64 a0_1, .int .i64 a0_2] 23 (0, 0)) (by (with_reducible repeat (first | refine blk_drewN ?_ _ | refine blk_drew ?_ | refine blk_alloc ?_ _)); exact BK117.out) hb); have n3_ := Aside0.mk (blk_below (g := gb118) (o := .cells #[.int .i64 a1_0, .int .i64 a1_1, .int .i64 a1_2] 23 (0, 0)) (by (with_reducible repeat (first | refine blk_drewN ?_ _ | refine blk_drew ?_ | refine blk_alloc ?_ _)); exact BK118.out) hb); have n4_ := Aside0.mk (blk_below (g := gb119) (o := .cells #[.int .i64 a2_0, .int .i64 a2_1, .int .i64 a2_2] 23 (0, 0)) (by (with_reducible repeat (first | refine blk_drewN ?_ _ | refine blk_drew ?_ | refine blk_alloc ?_ _)); exact BK119.out) hb); have n5_ := Aside0.mk (below_step (by repeat (first | (with_reducible first | exact HB.out | apply below_alloc | apply pw_below_drewN | apply below_drew1 | refine below_set ?_ GE117.out | refine below_set ?_ GE118.out | refine below_set ?_ GE119.out) | exact HB.out)) hb); clear HO122; clear HO125; clear BK117; clear BK118; clear BK119; clear HB; have HO122 := n0_; have HO125 := n1_; have BK117 := n2_; have BK118 := n3_; have BK119 := n4_; have HB := n5_; clear n0_ n1_ n2_ n3_ n4_ n5_; (try clear hb); (try clear hb2); (try clear hk); (try clear hi); have hcz72_0 : w71.cell? ⟨gb117, 0, none⟩ = some (.int .i64 a0_0) := (blk_cell BK117.out 0).trans rfl; have hcz72_1 : w71.cell? ⟨gb117, 1, none⟩ = some (.int .i64 a0_1) := (blk_cell BK117.out 1).trans rfl; have hcz72_2 : w71.cell? ⟨gb117, 2, none⟩ = some (.int .i64 a0_2) := (blk_cell BK117.out 2).trans rfl; have hfz72_0 := blk_frozen BK117.out 0; have hfz72_1 := blk_frozen BK117.out 1; have hfz72_2 := blk_frozen BK117.out 2; have hcz73_0 : w71.cell? ⟨gb118, 0, none⟩ = some (.int .i64 a1_0) := (blk_cell BK118.out 0).trans rfl; have hcz73_1 : w71.cell? ⟨gb118, 1, none⟩ = some (.int .i64 a1_1) := (blk_cell BK118.out 1).trans rfl; have hcz73_2 : w71.cell? ⟨gb118, 2, none⟩ = some (.int .i64 a1_2) := (blk_cell BK118.out 2).trans rfl; have hfz73_0 := blk_frozen BK118.out 0; have hfz73_1 := blk_frozen BK118.out 1; have hfz73_2 := blk_frozen BK118.out 2) | (go_at_call 10; (with_reducible refine (concordancelaw14_lives.calls  t139 _ A46.out).mono ?_); rintro e w74 ⟨rfl, hb⟩; have n0_ := Aside0.mk (Kd.R_below (by (with_reducible repeat (first | apply Kd.R_alloc | apply Kd.R_drewN | apply Kd.R_drew)); exact HO122.out) hb); have n1_ := Aside0.mk (Kd.R_below (by (with_reducible repeat (first | apply Kd.R_alloc | apply Kd.R_drewN | apply Kd.R_drew)); exact HO125.out) hb); have n2_ := Aside0.mk (blk_below (g := gb117) (o := .cells #[.int .i64 a0_0, .int .i64 a0_1, .int .i64 a0_2] 23 (0, 0)) (by (with_reducible repeat (first | refine blk_drewN ?_ _ | refine blk_drew ?_ | refine blk_alloc ?_ _)); exact BK117.out) hb); have n3_ := Aside0.mk (blk_below (g := gb118) (o := .cells #[.int .i64 a1_0, .int .i64 a1_1, .int .i64 a1_2] 23 (0, 0)) (by (with_reducible repeat (first | refine blk_drewN ?_ _ | refine blk_drew ?_ | refine blk_alloc ?_ _)); exact BK118.out) hb); have n4_ := Aside0.mk (blk_below (g := gb119) (o := .cells #[.int .i64 a2_0, .int .i64 a2_1, .int .i64 a2_2] 23 (0, 0)) (by (with_reducible repeat (first | refine blk_drewN ?_ _ | refine blk_drew ?_ | refine blk_alloc ?_ _)); exact BK119.out) hb); have n5_ := Aside0.mk (below_step (by repeat (first | (with_reducible first | exact HB.out | apply below_alloc | apply pw_below_drewN | apply below_drew1 | refine below_set ?_ GE117.out | refine below_set ?_ GE118.out | refine below_set ?_ GE119.out) | exact HB.out)) hb); clear HO122; clear HO125; clear BK117; clear BK118; clear BK119; clear HB; have HO122 := n0_; have HO125 := n1_; have BK117 := n2_; have BK118 := n3_; have BK119 := n4_; have HB := n5_; clear n0_ n1_ n2_ n3_ n4_ n5_; (try clear hb); (try clear hb2); (try clear hk); (try clear hi)))
                    go_ret
                    exact ⟨by first | rfl | (simp [errW_none, errW_some] <;> rfl) | (simp [*, errW_none, errW_some] <;> rfl), by repeat (first | (with_reducible first | exact HB.out | apply below_alloc | apply pw_below_drewN | apply below_drew1 | refine below_set ?_ GE117.out | refine below_set ?_ GE118.out | refine below_set ?_ GE119.out) | exact HB.out)⟩
                  · replace c45 := Bool.eq_false_iff.mpr c45
                    subst c45
                    have H1 : (some false) = some r := by rw [if_neg (show ¬ (false = true) by decide)] at H; exact H
                    clear H
                    have H := H1
                    clear H1
                    obtain rfl := Option.some.inj H
                    cases hrt
                · replace c44 := Bool.eq_false_iff.mpr c44
                  subst c44
                  have H1 : ((concordancelaw14_lives.f).bind fun t140 => (some t140)) = some r := by rw [if_neg (show ¬ (false = true) by decide)] at H; exact H
                  clear H
                  have H := H1
                  clear H1
                  replace H := Option.bind_eq_some_iff.mp H
                  obtain ⟨t140, A1020, H⟩ := H
                  replace H : (some t140) = some r := H
                  have A102 := Aside0.mk A1020
                  clear A1020
                  obtain rfl := Option.some.inj H
                  clear hrt
                  go_enter Try.func3, Try.ntmps3
                  try go_wp2_with (first | ((with_reducible refine gate_dst (N := 3) rfl ?_); refine box_event ?hg (N := 3) ?hd (cs := #[.int .i64 a0_0, .int .i64 a0_1, .int .i64 a0_2]) (t := 23) ?hr ?_; (case hd => rfl); (case hg => rfl); (case hr => first | (go_simp; done) | (go_simp; rfl)); intro gb117 hg w103 hbox hb; have n0_ := Aside0.mk (below_step (by repeat (first | (with_reducible first | exact HB.out | apply below_alloc | apply pw_below_drewN | apply below_drew1) | exact HB.out)) hb); have n1_ := Aside0.mk (hbox); have n2_ := Aside0.mk ((by rw [hg]; exact (below_size (by repeat (first | (with_reducible first | exact HB.out | apply below_alloc | apply pw_below_drewN | apply below_drew1) | exact HB.out))) : w.heap.size ≤ gb117)); have n3_ := Aside0.mk ((by rw [hg]; exact (below_size (by repeat (first | (with_reducible first | exact HB.out | apply below_alloc | apply pw_below_drewN | apply below_drew1) | exact HB.out))) : w.heap.size ≤ gb117)); clear HB; have HB := n0_; have BK117 := n1_; have GW117 := n2_; have GE117 := n3_; clear n0_ n1_ n2_ n3_; clear hb hbox hg) | ((with_reducible refine gate_dst (N := 4) rfl ?_); refine box_event ?hg (N := 4) ?hd (cs := #[.int .i64 a1_0, .int .i64 a1_1, .int .i64 a1_2]) (t := 23) ?hr ?_; (case hd => rfl); (case hg => rfl); (case hr => first | (go_simp; done) | (go_simp; rfl)); intro gb118 hg w104 hbox hb; have n0_ := Aside0.mk (blk_below (g := gb117) (o := .cells #[.int .i64 a0_0, .int .i64 a0_1, .int .i64 a0_2] 23 (0, 0)) (by (with_reducible repeat (first | refine blk_drewN ?_ _ | refine blk_drew ?_ | refine blk_alloc ?_ _)); exact BK117.out) hb); have n1_ := Aside0.mk (below_step (by repeat (first | (with_reducible first | exact HB.out | apply below_alloc | apply pw_below_drewN | apply below_drew1 | refine below_set ?_ GE117.out) | exact HB.out)) hb); have n2_ := Aside0.mk (hbox); have n3_ := Aside0.mk ((by rw [hg]; exact (below_size (by repeat (first | (with_reducible first | exact HB.out | apply below_alloc | apply pw_below_drewN | apply below_drew1 | refine below_set ?_ GE117.out) | exact HB.out))) : w.heap.size ≤ gb118)); have n4_ := Aside0.mk ((by rw [hg]; exact (below_size (by repeat (first | (with_reducible first | exact HB.out | apply below_alloc | apply pw_below_drewN | apply below_drew1 | refine below_set ?_ GE117.out) | exact HB.out))) : w.heap.size ≤ gb118)); have n5_ := Aside0.mk ((by rw [hg]; exact Nat.ne_of_lt (blk_lt (g := gb117) (o := .cells #[.int .i64 a0_0, .int .i64 a0_1, .int .i64 a0_2] 23 (0, 0)) (by (with_reducible repeat (first | refine blk_drewN ?_ _ | refine blk_drew ?_ | refine blk_alloc ?_ _)); exact BK117.out)) : gb117 ≠ gb118)); have n6_ := Aside0.mk ((by rw [hg]; exact Nat.ne_of_gt (blk_lt (g := gb117) (o := .cells #[.int .i64 a0_0, .int .i64 a0_1, .int .i64 a0_2] 23 (0, 0)) (by (with_reducible repeat (first | refine blk_drewN ?_ _ | refine blk_drew ?_ | refine blk_alloc ?_ _)); exact BK117.out)) : gb118 ≠ gb117)); clear BK117; clear HB; have BK117 := n0_; have HB := n1_; have BK118 := n2_; have GW118 := n3_; have GE118 := n4_; have NB117_118 := n5_; have NB118_117 := n6_; clear n0_ n1_ n2_ n3_ n4_ n5_ n6_; clear hb hbox hg) | ((with_reducible refine gate_dst (N := 5) rfl ?_); refine box_event ?hg (N := 5) ?hd (cs := #[.int .i64 a2_0, .int .i64 a2_1, .int .i64 a2_2]) (t := 23) ?hr ?_; (case hd => rfl); (case hg => rfl); (case hr => first | (go_simp; done) | (go_simp; rfl)); intro gb119 hg w105 hbox hb; have n0_ := Aside0.mk (blk_below (g := gb117) (o := .cells #[.int .i64 a0_0, .int .i64 a0_1, .int .i64 a0_2] 23 (0, 0)) (by (with_reducible repeat (first | refine blk_drewN ?_ _ | refine blk_drew ?_ | refine blk_alloc ?_ _)); exact BK117.out) hb); have n1_ := Aside0.mk (blk_below (g := gb118) (o := .cells #[.int .i64 a1_0, .int .i64 a1_1, .int .i64 a1_2] 23 (0, 0)) (by (with_reducible repeat (first | refine blk_drewN ?_ _ | refine blk_drew ?_ | refine blk_alloc ?_ _)); exact BK118.out) hb); have n2_ := Aside0.mk (below_step (by repeat (first | (with_reducible first | exact HB.out | apply below_alloc | apply pw_below_drewN | apply below_drew1 | refine below_set ?_ GE117.out | refine below_set ?_ GE118.out) | exact HB.out)) hb); have n3_ := Aside0.mk (hbox); have n4_ := Aside0.mk ((by rw [hg]; exact (below_size (by repeat (first | (with_reducible first | exact HB.out | apply below_alloc | apply pw_below_drewN | apply below_drew1 | refine below_set ?_ GE117.out | refine below_set ?_ GE118.out) | exact HB.out))) : w.heap.size ≤ gb119)); have n5_ := Aside0.mk ((by rw [hg]; exact (below_size (by repeat (first | (with_reducible first | exact HB.out | apply below_alloc | apply pw_below_drewN | apply below_drew1 | refine below_set ?_ GE117.out | refine below_set ?_ GE118.out) | exact HB.out))) : w.heap.size ≤ gb119)); have n6_ := Aside0.mk ((by rw [hg]; exact Nat.ne_of_lt (blk_lt (g := gb117) (o := .cells #[.int .i64 a0_0, .int .i64 a0_1, .int .i64 a0_2] 23 (0, 0)) (by (with_reducible repeat (first | refine blk_drewN ?_ _ | refine blk_drew ?_ | refine blk_alloc ?_ _)); exact BK117.out)) : gb117 ≠ gb119)); have n7_ := Aside0.mk ((by rw [hg]; exact Nat.ne_of_gt (blk_lt (g := gb117) (o := .cells #[.int .i64 a0_0, .int .i64 a0_1, .int .i64 a0_2] 23 (0, 0)) (by (with_reducible repeat (first | refine blk_drewN ?_ _ | refine blk_drew ?_ | refine blk_alloc ?_ _)); exact BK117.out)) : gb119 ≠ gb117)); have n8_ := Aside0.mk ((by rw [hg]; exact Nat.ne_of_lt (blk_lt (g := gb118) (o := .cells #[.int .i64 a1_0, .int .i64 a1_1, .int .i64 a1_2] 23 (0, 0)) (by (with_reducible repeat (first | refine blk_drewN ?_ _ | refine blk_drew ?_ | refine blk_alloc ?_ _)); exact BK118.out)) : gb118 ≠ gb119)); have n9_ := Aside0.mk ((by rw [hg]; exact Nat.ne_of_gt (blk_lt (g := gb118) (o := .cells #[.int .i64 a1_0, .int .i64 a1_1, .int .i64 a1_2] 23 (0, 0)) (by (with_reducible repeat (first | refine blk_drewN ?_ _ | refine blk_drew ?_ | refine blk_alloc ?_ _)); exact BK118.out)) : gb119 ≠ gb118)); clear BK117; clear BK118; clear HB; have BK117 := n0_; have BK118 := n1_; have HB := n2_; have BK119 := n3_; have GW119 := n4_; have GE119 := n5_; have NB117_119 := n6_; have NB119_117 := n7_; have NB118_119 := n8_; have NB119_118 := n9_; clear n0_ n1_ n2_ n3_ n4_ n5_ n6_ n7_ n8_ n9_; clear hb hbox hg; have hnb106 := NB117_118.out; have hnc106 := NB118_117.out; have hnb107 := NB117_119.out; have hnc107 := NB119_117.out; have hcz108_0 : w105.cell? ⟨gb117, 0, none⟩ = some (.int .i64 a0_0) := (blk_cell BK117.out 0).trans rfl; have hcz108_1 : w105.cell? ⟨gb117, 1, none⟩ = some (.int .i64 a0_1) := (blk_cell BK117.out 1).trans rfl; have hcz108_2 : w105.cell? ⟨gb117, 2, none⟩ = some (.int .i64 a0_2) := (blk_cell BK117.out 2).trans rfl; have hfz108_0 := blk_frozen BK117.out 0; have hfz108_1 := blk_frozen BK117.out 1; have hfz108_2 := blk_frozen BK117.out 2; have hnb109 := NB118_119.out; have hnc109 := NB119_118.out; have hcz110_0 : w105.cell? ⟨gb118, 0, none⟩ = some (.int .i64 a1_0) := (blk_cell BK118.out 0).trans rfl; have hcz110_1 : w105.cell? ⟨gb118, 1, none⟩ = some (.int .i64 a1_1) := (blk_cell BK118.out 1).trans rfl; have hcz110_2 : w105.cell? ⟨gb118, 2, none⟩ = some (.int .i64 a1_2) := (blk_cell BK118.out 2).trans rfl; have hfz110_0 := blk_frozen BK118.out 0; have hfz110_1 := blk_frozen BK118.out 1; have hfz110_2 := blk_frozen BK118.out 2; have hcz111_0 : w105.cell? ⟨gb119, 0, none⟩ = some (.int .i64 a2_0) := (blk_cell BK119.out 0).trans rfl; have hcz111_1 : w105.cell? ⟨gb119, 1, none⟩ = some (.int .i64 a2_1) := (blk_cell BK119.out 1).trans rfl; have hcz111_2 : w105.cell? ⟨gb119, 2, none⟩ = some (.int .i64 a2_2) := (blk_cell BK119.out 2).trans rfl; have hfz111_0 := blk_frozen BK119.out 0; have hfz111_1 := blk_frozen BK119.out 1; have hfz111_2 := blk_frozen BK119.out 2) | ((with_reducible refine gate_dst (N := 15) rfl ?_); refine Kd.R_lit k23 _ 23 ?hg (N := 15) ?hd (xs := ([(⟨a0_0, a0_1, a0_2⟩ : S23), (⟨a1_0, a1_1, a1_2⟩ : S23), (⟨a2_0, a2_1, a2_2⟩ : S23)] : List (S23))) (inner := [.int .i64 a0_0, .int .i64 a0_1, .int .i64 a0_2, .int .i64 a1_0, .int .i64 a1_1, .int .i64 a1_2, .int .i64 a2_0, .int .i64 a2_1, .int .i64 a2_2]) (ok := fun _ => True) (okp := fun _ => True) ?hr ?hp (fun _ hk => hk) trivial (Below.refl _ _) (Nat.le_refl _) (by simp) ?_; (case hd => rfl); (case hg => rfl); (case hr => first | (go_simp; done) | (go_simp; rfl)); (case hp => exact (Reps.c3 (show Kd.M k23 _ _ _ (⟨a0_0, a0_1, a0_2⟩ : S23) [.int .i64 a0_0, .int .i64 a0_1, .int .i64 a0_2] from (k23_mkM _ _ _ (⟨a0_0, a0_1, a0_2⟩ : S23) )) (Reps.c3 (show Kd.M k23 _ _ _ (⟨a1_0, a1_1, a1_2⟩ : S23) [.int .i64 a1_0, .int .i64 a1_1, .int .i64 a1_2] from (k23_mkM _ _ _ (⟨a1_0, a1_1, a1_2⟩ : S23) )) (Reps.c3 (show Kd.M k23 _ _ _ (⟨a2_0, a2_1, a2_2⟩ : S23) [.int .i64 a2_0, .int .i64 a2_1, .int .i64 a2_2] from (k23_mkM _ _ _ (⟨a2_0, a2_1, a2_2⟩ : S23) )) (Reps.none _ _))))); intro v121 w112 ho113 hb hg_ hnew_; clear hg_ hnew_; (first | rw [← Ny120.out] at ho113 | (simp only [Int.reduceToNat] at ho113; rw [← Ny120.out] at ho113)); have n0_ := Aside0.mk (Kd.R_lower (Kd.R_newB (Kd.R_newB (Kd.R_newB ho113 (g := gb117) (o := .cells #[.int .i64 a0_0, .int .i64 a0_1, .int .i64 a0_2] 23 (0, 0)) (by (with_reducible repeat (first | refine blk_drewN ?_ _ | refine blk_drew ?_ | refine blk_alloc ?_ _)); exact BK117.out)) (g := gb118) (o := .cells #[.int .i64 a1_0, .int .i64 a1_1, .int .i64 a1_2] 23 (0, 0)) (by (with_reducible repeat (first | refine blk_drewN ?_ _ | refine blk_drew ?_ | refine blk_alloc ?_ _)); exact BK118.out)) (g := gb119) (o := .cells #[.int .i64 a2_0, .int .i64 a2_1, .int .i64 a2_2] 23 (0, 0)) (by (with_reducible repeat (first | refine blk_drewN ?_ _ | refine blk_drew ?_ | refine blk_alloc ?_ _)); exact BK119.out)) (below_size (by repeat (first | (with_reducible first | exact HB.out | apply below_alloc | apply pw_below_drewN | apply below_drew1 | refine below_set ?_ GE117.out | refine below_set ?_ GE118.out | refine below_set ?_ GE119.out) | exact HB.out)))); have n1_ := Aside0.mk (blk_below (g := gb117) (o := .cells #[.int .i64 a0_0, .int .i64 a0_1, .int .i64 a0_2] 23 (0, 0)) (by (with_reducible repeat (first | refine blk_drewN ?_ _ | refine blk_drew ?_ | refine blk_alloc ?_ _)); exact BK117.out) hb); have n2_ := Aside0.mk (blk_below (g := gb118) (o := .cells #[.int .i64 a1_0, .int .i64 a1_1, .int .i64 a1_2] 23 (0, 0)) (by (with_reducible repeat (first | refine blk_drewN ?_ _ | refine blk_drew ?_ | refine blk_alloc ?_ _)); exact BK118.out) hb); have n3_ := Aside0.mk (blk_below (g := gb119) (o := .cells #[.int .i64 a2_0, .int .i64 a2_1, .int .i64 a2_2] 23 (0, 0)) (by (with_reducible repeat (first | refine blk_drewN ?_ _ | refine blk_drew ?_ | refine blk_alloc ?_ _)); exact BK119.out) hb); have n4_ := Aside0.mk (below_step (by repeat (first | (with_reducible first | exact HB.out | apply below_alloc | apply pw_below_drewN | apply below_drew1 | refine below_set ?_ GE117.out | refine below_set ?_ GE118.out | refine below_set ?_ GE119.out) | exact HB.out)) hb); clear BK117; clear BK118; clear BK119; clear HB; have HO122 := n0_; have BK117 := n1_; have BK118 := n2_; have BK119 := n3_; have HB := n4_; clear n0_ n1_ n2_ n3_ n4_; clear hb ho113; obtain ⟨Ao114, co114, eo114⟩ := Kd.R_slice HO122.out; subst eo114) | ((with_reducible refine gate_callee (f := 7) rfl ?_); refine goesL_ (some 16) rfl rfl Try.func7 (by kernel_rfl) rfl #[.slice Ao114 y120.length co114] rfl (by (try simp only [List.map_toArray, List.map_cons, List.map_nil]); first | done | rfl | (simp only [List.length_drop, List.length_take]; rfl)) ?_; (with_reducible refine (concordancelaw14_few.calls k _ _ y120 t123 _ ?side1 ?side2 A4.out).mono ?_); (case side1 => repeat (first | exact (Kd.R_reads' HO122.out).2.2 | (with_reducible refine Kd.C_alloc ?_ _) | (with_reducible refine Kd.C_drewN ?_ _) | (with_reducible refine Kd.C_drew ?_))); (case side2 => exact (Kd.R_reads' HO122.out).2.1); rintro e w115 ⟨v124, rfl, ho0, hb⟩; refine ⟨_, rfl, ?_⟩; have n0_ := Aside0.mk (Kd.R_below (by (with_reducible repeat (first | apply Kd.R_alloc | apply Kd.R_drewN | apply Kd.R_drew)); exact HO122.out) hb); have n1_ := Aside0.mk (Kd.R_lower ho0 (below_size (by repeat (first | (with_reducible first | exact HB.out | apply below_alloc | apply pw_below_drewN | apply below_drew1 | refine below_set ?_ GE117.out | refine below_set ?_ GE118.out | refine below_set ?_ GE119.out) | exact HB.out)))); have n2_ := Aside0.mk (blk_below (g := gb117) (o := .cells #[.int .i64 a0_0, .int .i64 a0_1, .int .i64 a0_2] 23 (0, 0)) (by (with_reducible repeat (first | refine blk_drewN ?_ _ | refine blk_drew ?_ | refine blk_alloc ?_ _)); exact BK117.out) hb); have n3_ := Aside0.mk (blk_below (g := gb118) (o := .cells #[.int .i64 a1_0, .int .i64 a1_1, .int .i64 a1_2] 23 (0, 0)) (by (with_reducible repeat (first | refine blk_drewN ?_ _ | refine blk_drew ?_ | refine blk_alloc ?_ _)); exact BK118.out) hb); have n4_ := Aside0.mk (blk_below (g := gb119) (o := .cells #[.int .i64 a2_0, .int .i64 a2_1, .int .i64 a2_2] 23 (0, 0)) (by (with_reducible repeat (first | refine blk_drewN ?_ _ | refine blk_drew ?_ | refine blk_alloc ?_ _)); exact BK119.out) hb); have n5_ := Aside0.mk (below_step (by repeat (first | (with_reducible first | exact HB.out | apply below_alloc | apply pw_below_drewN | apply below_drew1 | refine below_set ?_ GE117.out | refine below_set ?_ GE118.out | refine below_set ?_ GE119.out) | exact HB.out)) hb); clear HO122; clear BK117; clear BK118; clear BK119; clear HB; have HO122 := n0_; have HO125 := n1_; have BK117 := n2_; have BK118 := n3_; have BK119 := n4_; have HB := n5_; clear n0_ n1_ n2_ n3_ n4_ n5_; (try clear hb); (try clear hb2); (try clear hk); (try clear hi); (try clear ho0)))
                  have n0_ := Aside0.mk (Kd.R_drew HO122.out)
                  have n1_ := Aside0.mk (Kd.R_drew HO125.out)
                  have n2_ := Aside0.mk (blk_drew BK117.out)
                  have n3_ := Aside0.mk (blk_drew BK118.out)
                  have n4_ := Aside0.mk (blk_drew BK119.out)
                  have n5_ := Aside0.mk (below_drew1 HB.out)
                  clear HO122
                  clear HO125
                  clear BK117
                  clear BK118
                  clear BK119
                  clear HB
                  have HO122 := n0_
                  have HO125 := n1_
                  have BK117 := n2_
                  have BK118 := n3_
                  have BK119 := n4_
                  have HB := n5_
                  clear n0_ n1_ n2_ n3_ n4_ n5_
                  obtain ⟨Ao117, co117, eo117⟩ := Kd.R_slice HO125.out
                  (first | subst eo117 | (injection eo117 with f1_ f2_ f3_; have f4_ := f1_.symm; have f5_ := f3_.symm; clear f1_ f2_ f3_; subst f4_; subst f5_))
                  have p126 : 0 ≤ (0 : Int) := (by omega)
                  have q126 : 0 < (t123.length : Int) := of_decide_eq_true (by first | (with_reducible assumption) | assumption)
                  obtain ⟨ad126, e126, hx126_0, hx126_1, hx126_2⟩ := at_T28 (Kd.R_reads' HO125.out).2.2 0 p126 q126
                  cases e126
                  have qi126 : (0 < t123.length) = True := eq_true (by omega)
                  (try rw [show ((0 : Int)).toNat = 0 from rfl] at hx126_0)
                  (try rw [show 0 * 3 = 0 from rfl] at hx126_0)
                  (try rw [Addr.add_zero'] at hx126_0)
                  (try rw [show ((0 : Int)).toNat = 0 from rfl] at hx126_1)
                  (try rw [show 0 * 3 = 0 from rfl] at hx126_1)
                  (try rw [Addr.add_zero'] at hx126_1)
                  (try rw [show ((0 : Int)).toNat = 0 from rfl] at hx126_2)
                  (try rw [show 0 * 3 = 0 from rfl] at hx126_2)
                  (try rw [Addr.add_zero'] at hx126_2)
                  replace p126 := eq_true p126
                  replace q126 := eq_true q126
                  have p127 : 0 ≤ (1 : Int) := (by omega)
                  have q127 : 1 < (t123.length : Int) := of_decide_eq_true (by first | (with_reducible assumption) | assumption)
                  obtain ⟨ad127, e127, hx127_0, hx127_1, hx127_2⟩ := at_T28 (Kd.R_reads' HO125.out).2.2 1 p127 q127
                  obtain rfl : ad126 = ad127 := (by injection e127)
                  (try simp only [show (1 : Int).toNat = 1 from rfl, Nat.reduceMul, Nat.reduceEqDiff, Go.Addr.add, ↓reduceIte] at hx127_0)
                  (try simp only [show (1 : Int).toNat = 1 from rfl, Nat.reduceMul, Nat.reduceEqDiff, Go.Addr.add, ↓reduceIte] at hx127_1)
                  (try simp only [show (1 : Int).toNat = 1 from rfl, Nat.reduceMul, Nat.reduceEqDiff, Go.Addr.add, ↓reduceIte] at hx127_2)
                  have qi127 : (1 < t123.length) = True := eq_true (by omega)
                  (try rw [show ((1 : Int)).toNat = 1 from rfl] at hx127_0)
                  (try rw [show 1 * 3 = 3 from rfl] at hx127_0)
                  (try rw [show ((1 : Int)).toNat = 1 from rfl] at hx127_1)
                  (try rw [show 1 * 3 = 3 from rfl] at hx127_1)
                  (try rw [show ((1 : Int)).toNat = 1 from rfl] at hx127_2)
                  (try rw [show 1 * 3 = 3 from rfl] at hx127_2)
                  replace p127 := eq_true p127
                  replace q127 := eq_true q127
                  refine start_ (n := 8) (S := fun w' => w'.cell? ad126 = some (.int .i64 ((rd_T28 t123 0).f0)) ∧ w'.cell? ⟨ad126.block, ad126.off + 1, none⟩ = some (.int .i64 ((rd_T28 t123 0).f1)) ∧ w'.cell? ⟨ad126.block, ad126.off + 2, none⟩ = some (.int .i64 ((rd_T28 t123 0).f2)) ∧ w'.cell? ⟨ad126.block, ad126.off + 3, none⟩ = some (.int .i64 ((rd_T28 t123 1).f0)) ∧ w'.cell? ⟨ad126.block, ad126.off + 3 + 1, none⟩ = some (.int .i64 ((rd_T28 t123 1).f1)) ∧ w'.cell? ⟨ad126.block, ad126.off + 3 + 2, none⟩ = some (.int .i64 ((rd_T28 t123 1).f2))) (ds := []) #[false, false, false, false, false, false, false, false] (by kernel_rfl) rfl rfl ⟨hx126_0, hx126_1, hx126_2, hx127_0, hx127_1, hx127_2⟩ (fun hHeld => ?_); refine with_tabW concordancelaw14_ScoreOrders.tab2 concordancelaw14_ScoreOrders.bits2 (fun HT_ HW_ => ?_)
                  generalize w115.drew = w116 at HO122 HO125 BK117 BK118 BK119 HB hx126_0 hx126_1 hx126_2 hx127_0 hx127_1 hx127_2 hHeld ⊢
                  refine pure_ (i := 0) (N := some 17) (v := ?_) (a' := ?_) #[true, false, false, false, false, false, false, false] rfl rfl (any_of HT_.out (by kernel_rfl)) (fun _ _ _ h => h) (Or.inl ⟨by rfl, ?_⟩) ?_ ?_
                  rotate_left
                  · intro w'
                    go_simp
                    with_reducible rfl
                  rotate_left
                  · simp only [Act.put, List.setIfInBounds_toArray, List.set_cons_zero, List.set_cons_succ, i64_w, i32_w]
                    rfl
                  refine pure_ (i := 1) (N := some 18) (v := ?_) (a' := ?_) #[true, true, false, false, false, false, false, false] rfl rfl (any_of HT_.out (by kernel_rfl)) (fun _ _ _ h => h) (Or.inl ⟨by rfl, ?_⟩) ?_ ?_
                  rotate_left
                  · intro w'
                    go_simp
                    with_reducible rfl
                  rotate_left
                  · simp only [Act.put, List.setIfInBounds_toArray, List.set_cons_zero, List.set_cons_succ, i64_w, i32_w]
                    rfl
                  refine pure_ (i := 3) (N := some 20) (v := ?_) (a' := ?_) #[true, true, false, true, false, false, false, false] rfl rfl (any_of HT_.out (by kernel_rfl)) (fun _ _ _ h => h) (Or.inl ⟨by rfl, ?_⟩) ?_ ?_
                  rotate_left
                  · intro w'
                    go_simp
                    with_reducible rfl
                  rotate_left
                  · simp only [Act.put, List.setIfInBounds_toArray, List.set_cons_zero, List.set_cons_succ, i64_w, i32_w]
                    rfl
                  refine pure_ (i := 4) (N := some 21) (v := ?_) (a' := ?_) #[true, true, false, true, true, false, false, false] rfl rfl (any_of HT_.out (by kernel_rfl)) (fun _ _ _ h => h) (Or.inl ⟨by rfl, ?_⟩) ?_ ?_
                  rotate_left
                  · intro w'
                    go_simp
                    with_reducible rfl
                  rotate_left
                  · simp only [Act.put, List.setIfInBounds_toArray, List.set_cons_zero, List.set_cons_succ, i64_w, i32_w]
                    rfl
                  refine take_ (i := 2) (N := some 19) (v := ?_) (a' := ?_) #[true, true, true, true, true, false, false, false] rfl rfl (take_ofW HT_.out HW_.out (by kernel_rfl)) (fun _ _ _ h => h) (Or.inl ⟨by rfl, ?_⟩) hHeld ?_ ?_
                  rotate_left
                  · rintro w' ⟨s0, s1, s2, s3, s4, s5⟩
                    go_simp
                    with_reducible rfl
                  rotate_left
                  · simp only [Act.put, List.setIfInBounds_toArray, List.set_cons_zero, List.set_cons_succ, i64_w, i32_w]
                    rfl
                  refine take_ (i := 5) (N := some 22) (v := ?_) (a' := ?_) #[true, true, true, true, true, true, false, false] rfl rfl (take_ofW HT_.out HW_.out (by kernel_rfl)) (fun _ _ _ h => h) (Or.inl ⟨by rfl, ?_⟩) hHeld ?_ ?_
                  rotate_left
                  · rintro w' ⟨s0, s1, s2, s3, s4, s5⟩
                    go_simp
                    with_reducible rfl
                  rotate_left
                  · simp only [Act.put, List.setIfInBounds_toArray, List.set_cons_zero, List.set_cons_succ, i64_w, i32_w]
                    rfl
                  refine one_ (i := 6) (N := some 23) #[true, true, true, true, true, true, true, false] rfl rfl (one_of HT_.out (by kernel_rfl)) (by decide) (fun K hK => ?_)
                  refine goes_ Try.func8 (by kernel_rfl) rfl #[.agg #[.int .i64 ((rd_T28 t123 0).f0), .int .i64 ((rd_T28 t123 0).f1), .int .i64 ((rd_T28 t123 0).f2)], .agg #[.int .i64 ((rd_T28 t123 1).f0), .int .i64 ((rd_T28 t123 1).f1), .int .i64 ((rd_T28 t123 1).f2)]] (by rfl) rfl rfl (by (try simp only [List.map_toArray, List.map_cons, List.map_nil]); first | done | rfl | (simp only [List.length_drop, List.length_take]; rfl)) ?_
                  with_reducible refine (score_Better.calls ((rd_T28 t123 0).f0) ((rd_T28 t123 0).f1) ((rd_T28 t123 0).f2) ((rd_T28 t123 1).f0) ((rd_T28 t123 1).f1) ((rd_T28 t123 1).f2) true _ A7.out).mono ?_
                  rintro e w118 ⟨rfl, hb⟩
                  have HS0_ := (hb.cell (World.block_lt_of_cell? _ _ (hHeld.1))).trans (hHeld.1)
                  have HS1_ := (hb.cell (World.block_lt_of_cell? _ _ (hHeld.2.1))).trans (hHeld.2.1)
                  have HS2_ := (hb.cell (World.block_lt_of_cell? _ _ (hHeld.2.2.1))).trans (hHeld.2.2.1)
                  have HS3_ := (hb.cell (World.block_lt_of_cell? _ _ (hHeld.2.2.2.1))).trans (hHeld.2.2.2.1)
                  have HS4_ := (hb.cell (World.block_lt_of_cell? _ _ (hHeld.2.2.2.2.1))).trans (hHeld.2.2.2.2.1)
                  have HS5_ := (hb.cell (World.block_lt_of_cell? _ _ (hHeld.2.2.2.2.2))).trans (hHeld.2.2.2.2.2)
                  refine ⟨_, rfl, ?_⟩
                  have n0_ := Aside0.mk (Kd.R_below (by (with_reducible repeat (first | apply Kd.R_alloc | apply Kd.R_drewN | apply Kd.R_drew)); exact HO122.out) hb)
                  have n1_ := Aside0.mk (Kd.R_below (by (with_reducible repeat (first | apply Kd.R_alloc | apply Kd.R_drewN | apply Kd.R_drew)); exact HO125.out) hb)
                  have n2_ := Aside0.mk (blk_below (g := gb117) (o := .cells #[.int .i64 a0_0, .int .i64 a0_1, .int .i64 a0_2] 23 (0, 0)) (by (with_reducible repeat (first | refine blk_drewN ?_ _ | refine blk_drew ?_ | refine blk_alloc ?_ _)); exact BK117.out) hb)
                  have n3_ := Aside0.mk (blk_below (g := gb118) (o := .cells #[.int .i64 a1_0, .int .i64 a1_1, .int .i64 a1_2] 23 (0, 0)) (by (with_reducible repeat (first | refine blk_drewN ?_ _ | refine blk_drew ?_ | refine blk_alloc ?_ _)); exact BK118.out) hb)
                  have n4_ := Aside0.mk (blk_below (g := gb119) (o := .cells #[.int .i64 a2_0, .int .i64 a2_1, .int .i64 a2_2] 23 (0, 0)) (by (with_reducible repeat (first | refine blk_drewN ?_ _ | refine blk_drew ?_ | refine blk_alloc ?_ _)); exact BK119.out) hb)
                  have n5_ := Aside0.mk (below_step (by repeat (first | (with_reducible first | exact HB.out | apply below_alloc | apply pw_below_drewN | apply below_drew1 | refine below_set ?_ GE117.out | refine below_set ?_ GE118.out | refine below_set ?_ GE119.out) | exact HB.out)) hb)
                  clear HO122
                  clear HO125
                  clear BK117
                  clear BK118
                  clear BK119
                  clear HB
                  have HO122 := n0_
                  have HO125 := n1_
                  have BK117 := n2_
                  have BK118 := n3_
                  have BK119 := n4_
                  have HB := n5_
                  clear n0_ n1_ n2_ n3_ n4_ n5_
                  (try clear hb)
                  (try clear hb2)
                  (try clear hk)
                  (try clear hi)
                  refine hK.out _ _ ⟨HS0_, HS1_, HS2_, HS3_, HS4_, HS5_⟩ (fun hHeld => ?_)
                  clear hK K
                  refine norm_ (a' := ?_) ?_ ?_
                  rotate_left
                  · show Act.put _ (some 23) _ = _
                    simp only [Act.put, List.setIfInBounds_toArray, List.set_cons_zero, List.set_cons_succ, i64_w, i32_w]
                    rfl
                  refine pure_ (i := 7) (N := some 8) (v := ?_) (a' := ?_) #[true, true, true, true, true, true, true, true] rfl rfl (any_of HT_.out (by kernel_rfl)) (fun _ _ _ h => h) (Or.inl ⟨by rfl, ?_⟩) ?_ ?_
                  rotate_left
                  · intro w'
                    go_simp
                    with_reducible rfl
                  rotate_left
                  · simp only [Act.put, List.setIfInBounds_toArray, List.set_cons_zero, List.set_cons_succ, i64_w, i32_w]
                    rfl
                  refine done_ (done_of HT_.out (by kernel_rfl)) ?_
                  try go_wp2
                  have n0_ := Aside0.mk (Kd.R_drew HO122.out)
                  have n1_ := Aside0.mk (Kd.R_drew HO125.out)
                  have n2_ := Aside0.mk (blk_drew BK117.out)
                  have n3_ := Aside0.mk (blk_drew BK118.out)
                  have n4_ := Aside0.mk (blk_drew BK119.out)
                  have n5_ := Aside0.mk (below_drew1 HB.out)
                  clear HO122
                  clear HO125
                  clear BK117
                  clear BK118
                  clear BK119
                  clear HB
                  have HO122 := n0_
                  have HO125 := n1_
                  have BK117 := n2_
                  have BK118 := n3_
                  have BK119 := n4_
                  have HB := n5_
                  clear n0_ n1_ n2_ n3_ n4_ n5_
                  have p129 : 0 ≤ (1 : Int) := (by omega)
                  have q129 : 1 < (t123.length : Int) := of_decide_eq_true (by first | (with_reducible assumption) | assumption)
                  obtain ⟨ad129, e129, hx129_0, hx129_1, hx129_2⟩ := at_T28 (Kd.R_reads' HO125.out).2.2 1 p129 q129
                  obtain rfl : ad126 = ad129 := (by injection e129)
                  (try simp only [show (1 : Int).toNat = 1 from rfl, Nat.reduceMul, Nat.reduceEqDiff, Go.Addr.add, ↓reduceIte] at hx129_0)
                  (try simp only [show (1 : Int).toNat = 1 from rfl, Nat.reduceMul, Nat.reduceEqDiff, Go.Addr.add, ↓reduceIte] at hx129_1)
                  (try simp only [show (1 : Int).toNat = 1 from rfl, Nat.reduceMul, Nat.reduceEqDiff, Go.Addr.add, ↓reduceIte] at hx129_2)
                  have qi129 : (1 < t123.length) = True := eq_true (by omega)
                  (try rw [show ((1 : Int)).toNat = 1 from rfl] at hx129_0)
                  (try rw [show 1 * 3 = 3 from rfl] at hx129_0)
                  (try rw [show ((1 : Int)).toNat = 1 from rfl] at hx129_1)
                  (try rw [show 1 * 3 = 3 from rfl] at hx129_1)
                  (try rw [show ((1 : Int)).toNat = 1 from rfl] at hx129_2)
                  (try rw [show 1 * 3 = 3 from rfl] at hx129_2)
                  replace p129 := eq_true p129
                  replace q129 := eq_true q129
                  have p130 : 0 ≤ (0 : Int) := (by omega)
                  have q130 : 0 < (t123.length : Int) := of_decide_eq_true (by first | (with_reducible assumption) | assumption)
                  obtain ⟨ad130, e130, hx130_0, hx130_1, hx130_2⟩ := at_T28 (Kd.R_reads' HO125.out).2.2 0 p130 q130
                  obtain rfl : ad126 = ad130 := (by injection e130)
                  have qi130 : (0 < t123.length) = True := eq_true (by omega)
                  (try rw [show ((0 : Int)).toNat = 0 from rfl] at hx130_0)
                  (try rw [show 0 * 3 = 0 from rfl] at hx130_0)
                  (try rw [Addr.add_zero'] at hx130_0)
                  (try rw [show ((0 : Int)).toNat = 0 from rfl] at hx130_1)
                  (try rw [show 0 * 3 = 0 from rfl] at hx130_1)
                  (try rw [Addr.add_zero'] at hx130_1)
                  (try rw [show ((0 : Int)).toNat = 0 from rfl] at hx130_2)
                  (try rw [show 0 * 3 = 0 from rfl] at hx130_2)
                  (try rw [Addr.add_zero'] at hx130_2)
                  replace p130 := eq_true p130
                  replace q130 := eq_true q130
                  refine start_ (n := 8) (S := fun w' => w'.cell? ⟨ad126.block, ad126.off + 3, none⟩ = some (.int .i64 ((rd_T28 t123 1).f0)) ∧ w'.cell? ⟨ad126.block, ad126.off + 3 + 1, none⟩ = some (.int .i64 ((rd_T28 t123 1).f1)) ∧ w'.cell? ⟨ad126.block, ad126.off + 3 + 2, none⟩ = some (.int .i64 ((rd_T28 t123 1).f2)) ∧ w'.cell? ad126 = some (.int .i64 ((rd_T28 t123 0).f0)) ∧ w'.cell? ⟨ad126.block, ad126.off + 1, none⟩ = some (.int .i64 ((rd_T28 t123 0).f1)) ∧ w'.cell? ⟨ad126.block, ad126.off + 2, none⟩ = some (.int .i64 ((rd_T28 t123 0).f2))) (ds := []) #[false, false, false, false, false, false, false, false] (by kernel_rfl) rfl rfl ⟨hx129_0, hx129_1, hx129_2, hx130_0, hx130_1, hx130_2⟩ (fun hHeld => ?_); refine with_tabW concordancelaw14_ScoreOrders.tab3 concordancelaw14_ScoreOrders.bits3 (fun HT_ HW_ => ?_)
                  generalize w118.drew = w119 at HO122 HO125 BK117 BK118 BK119 HB hx129_0 hx129_1 hx129_2 hx130_0 hx130_1 hx130_2 hHeld ⊢
                  refine pure_ (i := 0) (N := some 24) (v := ?_) (a' := ?_) #[true, false, false, false, false, false, false, false] rfl rfl (any_of HT_.out (by kernel_rfl)) (fun _ _ _ h => h) (Or.inl ⟨by rfl, ?_⟩) ?_ ?_
                  rotate_left
                  · intro w'
                    go_simp
                    with_reducible rfl
                  rotate_left
                  · simp only [Act.put, List.setIfInBounds_toArray, List.set_cons_zero, List.set_cons_succ, i64_w, i32_w]
                    rfl
                  refine pure_ (i := 1) (N := some 25) (v := ?_) (a' := ?_) #[true, true, false, false, false, false, false, false] rfl rfl (any_of HT_.out (by kernel_rfl)) (fun _ _ _ h => h) (Or.inl ⟨by rfl, ?_⟩) ?_ ?_
                  rotate_left
                  · intro w'
                    go_simp
                    with_reducible rfl
                  rotate_left
                  · simp only [Act.put, List.setIfInBounds_toArray, List.set_cons_zero, List.set_cons_succ, i64_w, i32_w]
                    rfl
                  refine pure_ (i := 3) (N := some 27) (v := ?_) (a' := ?_) #[true, true, false, true, false, false, false, false] rfl rfl (any_of HT_.out (by kernel_rfl)) (fun _ _ _ h => h) (Or.inl ⟨by rfl, ?_⟩) ?_ ?_
                  rotate_left
                  · intro w'
                    go_simp
                    with_reducible rfl
                  rotate_left
                  · simp only [Act.put, List.setIfInBounds_toArray, List.set_cons_zero, List.set_cons_succ, i64_w, i32_w]
                    rfl
                  refine pure_ (i := 4) (N := some 28) (v := ?_) (a' := ?_) #[true, true, false, true, true, false, false, false] rfl rfl (any_of HT_.out (by kernel_rfl)) (fun _ _ _ h => h) (Or.inl ⟨by rfl, ?_⟩) ?_ ?_
                  rotate_left
                  · intro w'
                    go_simp
                    with_reducible rfl
                  rotate_left
                  · simp only [Act.put, List.setIfInBounds_toArray, List.set_cons_zero, List.set_cons_succ, i64_w, i32_w]
                    rfl
                  refine take_ (i := 2) (N := some 26) (v := ?_) (a' := ?_) #[true, true, true, true, true, false, false, false] rfl rfl (take_ofW HT_.out HW_.out (by kernel_rfl)) (fun _ _ _ h => h) (Or.inl ⟨by rfl, ?_⟩) hHeld ?_ ?_
                  rotate_left
                  · rintro w' ⟨s0, s1, s2, s3, s4, s5⟩
                    go_simp
                    with_reducible rfl
                  rotate_left
                  · simp only [Act.put, List.setIfInBounds_toArray, List.set_cons_zero, List.set_cons_succ, i64_w, i32_w]
                    rfl
                  refine take_ (i := 5) (N := some 29) (v := ?_) (a' := ?_) #[true, true, true, true, true, true, false, false] rfl rfl (take_ofW HT_.out HW_.out (by kernel_rfl)) (fun _ _ _ h => h) (Or.inl ⟨by rfl, ?_⟩) hHeld ?_ ?_
                  rotate_left
                  · rintro w' ⟨s0, s1, s2, s3, s4, s5⟩
                    go_simp
                    with_reducible rfl
                  rotate_left
                  · simp only [Act.put, List.setIfInBounds_toArray, List.set_cons_zero, List.set_cons_succ, i64_w, i32_w]
                    rfl
                  refine one_ (i := 6) (N := some 30) #[true, true, true, true, true, true, true, false] rfl rfl (one_of HT_.out (by kernel_rfl)) (by decide) (fun K hK => ?_)
                  refine goes_ Try.func8 (by kernel_rfl) rfl #[.agg #[.int .i64 ((rd_T28 t123 1).f0), .int .i64 ((rd_T28 t123 1).f1), .int .i64 ((rd_T28 t123 1).f2)], .agg #[.int .i64 ((rd_T28 t123 0).f0), .int .i64 ((rd_T28 t123 0).f1), .int .i64 ((rd_T28 t123 0).f2)]] (by rfl) rfl rfl (by (try simp only [List.map_toArray, List.map_cons, List.map_nil]); first | done | rfl | (simp only [List.length_drop, List.length_take]; rfl)) ?_
                  with_reducible refine (score_Better.calls ((rd_T28 t123 1).f0) ((rd_T28 t123 1).f1) ((rd_T28 t123 1).f2) ((rd_T28 t123 0).f0) ((rd_T28 t123 0).f1) ((rd_T28 t123 0).f2) false _ A8.out).mono ?_
                  rintro e w120 ⟨rfl, hb⟩
                  have HS0_ := (hb.cell (World.block_lt_of_cell? _ _ (hHeld.1))).trans (hHeld.1)
                  have HS1_ := (hb.cell (World.block_lt_of_cell? _ _ (hHeld.2.1))).trans (hHeld.2.1)
                  have HS2_ := (hb.cell (World.block_lt_of_cell? _ _ (hHeld.2.2.1))).trans (hHeld.2.2.1)
                  have HS3_ := (hb.cell (World.block_lt_of_cell? _ _ (hHeld.2.2.2.1))).trans (hHeld.2.2.2.1)
                  have HS4_ := (hb.cell (World.block_lt_of_cell? _ _ (hHeld.2.2.2.2.1))).trans (hHeld.2.2.2.2.1)
                  have HS5_ := (hb.cell (World.block_lt_of_cell? _ _ (hHeld.2.2.2.2.2))).trans (hHeld.2.2.2.2.2)
                  refine ⟨_, rfl, ?_⟩
                  have n0_ := Aside0.mk (Kd.R_below (by (with_reducible repeat (first | apply Kd.R_alloc | apply Kd.R_drewN | apply Kd.R_drew)); exact HO122.out) hb)
                  have n1_ := Aside0.mk (Kd.R_below (by (with_reducible repeat (first | apply Kd.R_alloc | apply Kd.R_drewN | apply Kd.R_drew)); exact HO125.out) hb)
                  have n2_ := Aside0.mk (blk_below (g := gb117) (o := .cells #[.int .i64 a0_0, .int .i64 a0_1, .int .i64 a0_2] 23 (0, 0)) (by (with_reducible repeat (first | refine blk_drewN ?_ _ | refine blk_drew ?_ | refine blk_alloc ?_ _)); exact BK117.out) hb)
                  have n3_ := Aside0.mk (blk_below (g := gb118) (o := .cells #[.int .i64 a1_0, .int .i64 a1_1, .int .i64 a1_2] 23 (0, 0)) (by (with_reducible repeat (first | refine blk_drewN ?_ _ | refine blk_drew ?_ | refine blk_alloc ?_ _)); exact BK118.out) hb)
                  have n4_ := Aside0.mk (blk_below (g := gb119) (o := .cells #[.int .i64 a2_0, .int .i64 a2_1, .int .i64 a2_2] 23 (0, 0)) (by (with_reducible repeat (first | refine blk_drewN ?_ _ | refine blk_drew ?_ | refine blk_alloc ?_ _)); exact BK119.out) hb)
                  have n5_ := Aside0.mk (below_step (by repeat (first | (with_reducible first | exact HB.out | apply below_alloc | apply pw_below_drewN | apply below_drew1 | refine below_set ?_ GE117.out | refine below_set ?_ GE118.out | refine below_set ?_ GE119.out) | exact HB.out)) hb)
                  clear HO122
                  clear HO125
                  clear BK117
                  clear BK118
                  clear BK119
                  clear HB
                  have HO122 := n0_
                  have HO125 := n1_
                  have BK117 := n2_
                  have BK118 := n3_
                  have BK119 := n4_
                  have HB := n5_
                  clear n0_ n1_ n2_ n3_ n4_ n5_
                  (try clear hb)
                  (try clear hb2)
                  (try clear hk)
                  (try clear hi)
                  refine hK.out _ _ ⟨HS0_, HS1_, HS2_, HS3_, HS4_, HS5_⟩ (fun hHeld => ?_)
                  clear hK K
                  refine norm_ (a' := ?_) ?_ ?_
                  rotate_left
                  · show Act.put _ (some 30) _ = _
                    simp only [Act.put, List.setIfInBounds_toArray, List.set_cons_zero, List.set_cons_succ, i64_w, i32_w]
                    rfl
                  refine pure_ (i := 7) (N := some 9) (v := ?_) (a' := ?_) #[true, true, true, true, true, true, true, true] rfl rfl (any_of HT_.out (by kernel_rfl)) (fun _ _ _ h => h) (Or.inl ⟨by rfl, ?_⟩) ?_ ?_
                  rotate_left
                  · intro w'
                    go_simp
                    with_reducible rfl
                  rotate_left
                  · simp only [Act.put, List.setIfInBounds_toArray, List.set_cons_zero, List.set_cons_succ, i64_w, i32_w]
                    rfl
                  refine done_ (done_of HT_.out (by kernel_rfl)) ?_
                  try go_wp2
                  have n0_ := Aside0.mk (Kd.R_drew HO122.out)
                  have n1_ := Aside0.mk (Kd.R_drew HO125.out)
                  have n2_ := Aside0.mk (blk_drew BK117.out)
                  have n3_ := Aside0.mk (blk_drew BK118.out)
                  have n4_ := Aside0.mk (blk_drew BK119.out)
                  have n5_ := Aside0.mk (below_drew1 HB.out)
                  clear HO122
                  clear HO125
                  clear BK117
                  clear BK118
                  clear BK119
                  clear HB
                  have HO122 := n0_
                  have HO125 := n1_
                  have BK117 := n2_
                  have BK118 := n3_
                  have BK119 := n4_
                  have HB := n5_
                  clear n0_ n1_ n2_ n3_ n4_ n5_
                  have p132 : 0 ≤ (1 : Int) := (by omega)
                  have q132 : 1 < (t123.length : Int) := of_decide_eq_true (by first | (with_reducible assumption) | assumption)
                  obtain ⟨ad132, e132, hx132_0, hx132_1, hx132_2⟩ := at_T28 (Kd.R_reads' HO125.out).2.2 1 p132 q132
                  obtain rfl : ad126 = ad132 := (by injection e132)
                  (try simp only [show (1 : Int).toNat = 1 from rfl, Nat.reduceMul, Nat.reduceEqDiff, Go.Addr.add, ↓reduceIte] at hx132_0)
                  (try simp only [show (1 : Int).toNat = 1 from rfl, Nat.reduceMul, Nat.reduceEqDiff, Go.Addr.add, ↓reduceIte] at hx132_1)
                  (try simp only [show (1 : Int).toNat = 1 from rfl, Nat.reduceMul, Nat.reduceEqDiff, Go.Addr.add, ↓reduceIte] at hx132_2)
                  have qi132 : (1 < t123.length) = True := eq_true (by omega)
                  (try rw [show ((1 : Int)).toNat = 1 from rfl] at hx132_0)
                  (try rw [show 1 * 3 = 3 from rfl] at hx132_0)
                  (try rw [show ((1 : Int)).toNat = 1 from rfl] at hx132_1)
                  (try rw [show 1 * 3 = 3 from rfl] at hx132_1)
                  (try rw [show ((1 : Int)).toNat = 1 from rfl] at hx132_2)
                  (try rw [show 1 * 3 = 3 from rfl] at hx132_2)
                  replace p132 := eq_true p132
                  replace q132 := eq_true q132
                  have p133 : 0 ≤ (2 : Int) := (by omega)
                  have q133 : 2 < (t123.length : Int) := of_decide_eq_true (by first | (with_reducible assumption) | assumption)
                  obtain ⟨ad133, e133, hx133_0, hx133_1, hx133_2⟩ := at_T28 (Kd.R_reads' HO125.out).2.2 2 p133 q133
                  obtain rfl : ad126 = ad133 := (by injection e133)
                  (try simp only [show (2 : Int).toNat = 2 from rfl, Nat.reduceMul, Nat.reduceEqDiff, Go.Addr.add, ↓reduceIte] at hx133_0)
                  (try simp only [show (2 : Int).toNat = 2 from rfl, Nat.reduceMul, Nat.reduceEqDiff, Go.Addr.add, ↓reduceIte] at hx133_1)
                  (try simp only [show (2 : Int).toNat = 2 from rfl, Nat.reduceMul, Nat.reduceEqDiff, Go.Addr.add, ↓reduceIte] at hx133_2)
                  have qi133 : (2 < t123.length) = True := eq_true (by omega)
                  (try rw [show ((2 : Int)).toNat = 2 from rfl] at hx133_0)
                  (try rw [show 2 * 3 = 6 from rfl] at hx133_0)
                  (try rw [show ((2 : Int)).toNat = 2 from rfl] at hx133_1)
                  (try rw [show 2 * 3 = 6 from rfl] at hx133_1)
                  (try rw [show ((2 : Int)).toNat = 2 from rfl] at hx133_2)
                  (try rw [show 2 * 3 = 6 from rfl] at hx133_2)
                  replace p133 := eq_true p133
                  replace q133 := eq_true q133
                  refine start_ (n := 8) (S := fun w' => w'.cell? ⟨ad126.block, ad126.off + 3, none⟩ = some (.int .i64 ((rd_T28 t123 1).f0)) ∧ w'.cell? ⟨ad126.block, ad126.off + 3 + 1, none⟩ = some (.int .i64 ((rd_T28 t123 1).f1)) ∧ w'.cell? ⟨ad126.block, ad126.off + 3 + 2, none⟩ = some (.int .i64 ((rd_T28 t123 1).f2)) ∧ w'.cell? ⟨ad126.block, ad126.off + 6, none⟩ = some (.int .i64 ((rd_T28 t123 2).f0)) ∧ w'.cell? ⟨ad126.block, ad126.off + 6 + 1, none⟩ = some (.int .i64 ((rd_T28 t123 2).f1)) ∧ w'.cell? ⟨ad126.block, ad126.off + 6 + 2, none⟩ = some (.int .i64 ((rd_T28 t123 2).f2))) (ds := []) #[false, false, false, false, false, false, false, false] (by kernel_rfl) rfl rfl ⟨hx132_0, hx132_1, hx132_2, hx133_0, hx133_1, hx133_2⟩ (fun hHeld => ?_); refine with_tabW concordancelaw14_ScoreOrders.tab4 concordancelaw14_ScoreOrders.bits4 (fun HT_ HW_ => ?_)
                  generalize w120.drew = w121 at HO122 HO125 BK117 BK118 BK119 HB hx132_0 hx132_1 hx132_2 hx133_0 hx133_1 hx133_2 hHeld ⊢
                  refine pure_ (i := 0) (N := some 31) (v := ?_) (a' := ?_) #[true, false, false, false, false, false, false, false] rfl rfl (any_of HT_.out (by kernel_rfl)) (fun _ _ _ h => h) (Or.inl ⟨by rfl, ?_⟩) ?_ ?_
                  rotate_left
                  · intro w'
                    go_simp
                    with_reducible rfl
                  rotate_left
                  · simp only [Act.put, List.setIfInBounds_toArray, List.set_cons_zero, List.set_cons_succ, i64_w, i32_w]
                    rfl
                  refine pure_ (i := 1) (N := some 32) (v := ?_) (a' := ?_) #[true, true, false, false, false, false, false, false] rfl rfl (any_of HT_.out (by kernel_rfl)) (fun _ _ _ h => h) (Or.inl ⟨by rfl, ?_⟩) ?_ ?_
                  rotate_left
                  · intro w'
                    go_simp
                    with_reducible rfl
                  rotate_left
                  · simp only [Act.put, List.setIfInBounds_toArray, List.set_cons_zero, List.set_cons_succ, i64_w, i32_w]
                    rfl
                  refine pure_ (i := 3) (N := some 34) (v := ?_) (a' := ?_) #[true, true, false, true, false, false, false, false] rfl rfl (any_of HT_.out (by kernel_rfl)) (fun _ _ _ h => h) (Or.inl ⟨by rfl, ?_⟩) ?_ ?_
                  rotate_left
                  · intro w'
                    go_simp
                    with_reducible rfl
                  rotate_left
                  · simp only [Act.put, List.setIfInBounds_toArray, List.set_cons_zero, List.set_cons_succ, i64_w, i32_w]
                    rfl
                  refine pure_ (i := 4) (N := some 35) (v := ?_) (a' := ?_) #[true, true, false, true, true, false, false, false] rfl rfl (any_of HT_.out (by kernel_rfl)) (fun _ _ _ h => h) (Or.inl ⟨by rfl, ?_⟩) ?_ ?_
                  rotate_left
                  · intro w'
                    go_simp
                    with_reducible rfl
                  rotate_left
                  · simp only [Act.put, List.setIfInBounds_toArray, List.set_cons_zero, List.set_cons_succ, i64_w, i32_w]
                    rfl
                  refine take_ (i := 2) (N := some 33) (v := ?_) (a' := ?_) #[true, true, true, true, true, false, false, false] rfl rfl (take_ofW HT_.out HW_.out (by kernel_rfl)) (fun _ _ _ h => h) (Or.inl ⟨by rfl, ?_⟩) hHeld ?_ ?_
                  rotate_left
                  · rintro w' ⟨s0, s1, s2, s3, s4, s5⟩
                    go_simp
                    with_reducible rfl
                  rotate_left
                  · simp only [Act.put, List.setIfInBounds_toArray, List.set_cons_zero, List.set_cons_succ, i64_w, i32_w]
                    rfl
                  refine take_ (i := 5) (N := some 36) (v := ?_) (a' := ?_) #[true, true, true, true, true, true, false, false] rfl rfl (take_ofW HT_.out HW_.out (by kernel_rfl)) (fun _ _ _ h => h) (Or.inl ⟨by rfl, ?_⟩) hHeld ?_ ?_
                  rotate_left
                  · rintro w' ⟨s0, s1, s2, s3, s4, s5⟩
                    go_simp
                    with_reducible rfl
                  rotate_left
                  · simp only [Act.put, List.setIfInBounds_toArray, List.set_cons_zero, List.set_cons_succ, i64_w, i32_w]
                    rfl
                  refine one_ (i := 6) (N := some 37) #[true, true, true, true, true, true, true, false] rfl rfl (one_of HT_.out (by kernel_rfl)) (by decide) (fun K hK => ?_)
                  refine goes_ Try.func8 (by kernel_rfl) rfl #[.agg #[.int .i64 ((rd_T28 t123 1).f0), .int .i64 ((rd_T28 t123 1).f1), .int .i64 ((rd_T28 t123 1).f2)], .agg #[.int .i64 ((rd_T28 t123 2).f0), .int .i64 ((rd_T28 t123 2).f1), .int .i64 ((rd_T28 t123 2).f2)]] (by rfl) rfl rfl (by (try simp only [List.map_toArray, List.map_cons, List.map_nil]); first | done | rfl | (simp only [List.length_drop, List.length_take]; rfl)) ?_
                  with_reducible refine (score_Better.calls ((rd_T28 t123 1).f0) ((rd_T28 t123 1).f1) ((rd_T28 t123 1).f2) ((rd_T28 t123 2).f0) ((rd_T28 t123 2).f1) ((rd_T28 t123 2).f2) false _ A10.out).mono ?_
                  rintro e w122 ⟨rfl, hb⟩
                  have HS0_ := (hb.cell (World.block_lt_of_cell? _ _ (hHeld.1))).trans (hHeld.1)
                  have HS1_ := (hb.cell (World.block_lt_of_cell? _ _ (hHeld.2.1))).trans (hHeld.2.1)
                  have HS2_ := (hb.cell (World.block_lt_of_cell? _ _ (hHeld.2.2.1))).trans (hHeld.2.2.1)
                  have HS3_ := (hb.cell (World.block_lt_of_cell? _ _ (hHeld.2.2.2.1))).trans (hHeld.2.2.2.1)
                  have HS4_ := (hb.cell (World.block_lt_of_cell? _ _ (hHeld.2.2.2.2.1))).trans (hHeld.2.2.2.2.1)
                  have HS5_ := (hb.cell (World.block_lt_of_cell? _ _ (hHeld.2.2.2.2.2))).trans (hHeld.2.2.2.2.2)
                  refine ⟨_, rfl, ?_⟩
                  have n0_ := Aside0.mk (Kd.R_below (by (with_reducible repeat (first | apply Kd.R_alloc | apply Kd.R_drewN | apply Kd.R_drew)); exact HO122.out) hb)
                  have n1_ := Aside0.mk (Kd.R_below (by (with_reducible repeat (first | apply Kd.R_alloc | apply Kd.R_drewN | apply Kd.R_drew)); exact HO125.out) hb)
                  have n2_ := Aside0.mk (blk_below (g := gb117) (o := .cells #[.int .i64 a0_0, .int .i64 a0_1, .int .i64 a0_2] 23 (0, 0)) (by (with_reducible repeat (first | refine blk_drewN ?_ _ | refine blk_drew ?_ | refine blk_alloc ?_ _)); exact BK117.out) hb)
                  have n3_ := Aside0.mk (blk_below (g := gb118) (o := .cells #[.int .i64 a1_0, .int .i64 a1_1, .int .i64 a1_2] 23 (0, 0)) (by (with_reducible repeat (first | refine blk_drewN ?_ _ | refine blk_drew ?_ | refine blk_alloc ?_ _)); exact BK118.out) hb)
                  have n4_ := Aside0.mk (blk_below (g := gb119) (o := .cells #[.int .i64 a2_0, .int .i64 a2_1, .int .i64 a2_2] 23 (0, 0)) (by (with_reducible repeat (first | refine blk_drewN ?_ _ | refine blk_drew ?_ | refine blk_alloc ?_ _)); exact BK119.out) hb)
                  have n5_ := Aside0.mk (below_step (by repeat (first | (with_reducible first | exact HB.out | apply below_alloc | apply pw_below_drewN | apply below_drew1 | refine below_set ?_ GE117.out | refine below_set ?_ GE118.out | refine below_set ?_ GE119.out) | exact HB.out)) hb)
                  clear HO122
                  clear HO125
                  clear BK117
                  clear BK118
                  clear BK119
                  clear HB
                  have HO122 := n0_
                  have HO125 := n1_
                  have BK117 := n2_
                  have BK118 := n3_
                  have BK119 := n4_
                  have HB := n5_
                  clear n0_ n1_ n2_ n3_ n4_ n5_
                  (try clear hb)
                  (try clear hb2)
                  (try clear hk)
                  (try clear hi)
                  refine hK.out _ _ ⟨HS0_, HS1_, HS2_, HS3_, HS4_, HS5_⟩ (fun hHeld => ?_)
                  clear hK K
                  refine norm_ (a' := ?_) ?_ ?_
                  rotate_left
                  · show Act.put _ (some 37) _ = _
                    simp only [Act.put, List.setIfInBounds_toArray, List.set_cons_zero, List.set_cons_succ, i64_w, i32_w]
                    rfl
                  refine pure_ (i := 7) (N := some 10) (v := ?_) (a' := ?_) #[true, true, true, true, true, true, true, true] rfl rfl (any_of HT_.out (by kernel_rfl)) (fun _ _ _ h => h) (Or.inl ⟨by rfl, ?_⟩) ?_ ?_
                  rotate_left
                  · intro w'
                    go_simp
                    with_reducible rfl
                  rotate_left
                  · simp only [Act.put, List.setIfInBounds_toArray, List.set_cons_zero, List.set_cons_succ, i64_w, i32_w]
                    rfl
                  refine done_ (done_of HT_.out (by kernel_rfl)) ?_
                  try go_wp2
                  have n0_ := Aside0.mk (Kd.R_drew HO122.out)
                  have n1_ := Aside0.mk (Kd.R_drew HO125.out)
                  have n2_ := Aside0.mk (blk_drew BK117.out)
                  have n3_ := Aside0.mk (blk_drew BK118.out)
                  have n4_ := Aside0.mk (blk_drew BK119.out)
                  have n5_ := Aside0.mk (below_drew1 HB.out)
                  clear HO122
                  clear HO125
                  clear BK117
                  clear BK118
                  clear BK119
                  clear HB
                  have HO122 := n0_
                  have HO125 := n1_
                  have BK117 := n2_
                  have BK118 := n3_
                  have BK119 := n4_
                  have HB := n5_
                  clear n0_ n1_ n2_ n3_ n4_ n5_
                  have p135 : 0 ≤ (0 : Int) := (by omega)
                  have q135 : 0 < (t123.length : Int) := of_decide_eq_true (by first | (with_reducible assumption) | assumption)
                  obtain ⟨ad135, e135, hx135_0, hx135_1, hx135_2⟩ := at_T28 (Kd.R_reads' HO125.out).2.2 0 p135 q135
                  obtain rfl : ad126 = ad135 := (by injection e135)
                  have qi135 : (0 < t123.length) = True := eq_true (by omega)
                  (try rw [show ((0 : Int)).toNat = 0 from rfl] at hx135_0)
                  (try rw [show 0 * 3 = 0 from rfl] at hx135_0)
                  (try rw [Addr.add_zero'] at hx135_0)
                  (try rw [show ((0 : Int)).toNat = 0 from rfl] at hx135_1)
                  (try rw [show 0 * 3 = 0 from rfl] at hx135_1)
                  (try rw [Addr.add_zero'] at hx135_1)
                  (try rw [show ((0 : Int)).toNat = 0 from rfl] at hx135_2)
                  (try rw [show 0 * 3 = 0 from rfl] at hx135_2)
                  (try rw [Addr.add_zero'] at hx135_2)
                  replace p135 := eq_true p135
                  replace q135 := eq_true q135
                  have p136 : 0 ≤ (2 : Int) := (by omega)
                  have q136 : 2 < (t123.length : Int) := of_decide_eq_true (by first | (with_reducible assumption) | assumption)
                  obtain ⟨ad136, e136, hx136_0, hx136_1, hx136_2⟩ := at_T28 (Kd.R_reads' HO125.out).2.2 2 p136 q136
                  obtain rfl : ad126 = ad136 := (by injection e136)
                  (try simp only [show (2 : Int).toNat = 2 from rfl, Nat.reduceMul, Nat.reduceEqDiff, Go.Addr.add, ↓reduceIte] at hx136_0)
                  (try simp only [show (2 : Int).toNat = 2 from rfl, Nat.reduceMul, Nat.reduceEqDiff, Go.Addr.add, ↓reduceIte] at hx136_1)
                  (try simp only [show (2 : Int).toNat = 2 from rfl, Nat.reduceMul, Nat.reduceEqDiff, Go.Addr.add, ↓reduceIte] at hx136_2)
                  have qi136 : (2 < t123.length) = True := eq_true (by omega)
                  (try rw [show ((2 : Int)).toNat = 2 from rfl] at hx136_0)
                  (try rw [show 2 * 3 = 6 from rfl] at hx136_0)
                  (try rw [show ((2 : Int)).toNat = 2 from rfl] at hx136_1)
                  (try rw [show 2 * 3 = 6 from rfl] at hx136_1)
                  (try rw [show ((2 : Int)).toNat = 2 from rfl] at hx136_2)
                  (try rw [show 2 * 3 = 6 from rfl] at hx136_2)
                  replace p136 := eq_true p136
                  replace q136 := eq_true q136
                  refine start_ (n := 8) (S := fun w' => w'.cell? ad126 = some (.int .i64 ((rd_T28 t123 0).f0)) ∧ w'.cell? ⟨ad126.block, ad126.off + 1, none⟩ = some (.int .i64 ((rd_T28 t123 0).f1)) ∧ w'.cell? ⟨ad126.block, ad126.off + 2, none⟩ = some (.int .i64 ((rd_T28 t123 0).f2)) ∧ w'.cell? ⟨ad126.block, ad126.off + 6, none⟩ = some (.int .i64 ((rd_T28 t123 2).f0)) ∧ w'.cell? ⟨ad126.block, ad126.off + 6 + 1, none⟩ = some (.int .i64 ((rd_T28 t123 2).f1)) ∧ w'.cell? ⟨ad126.block, ad126.off + 6 + 2, none⟩ = some (.int .i64 ((rd_T28 t123 2).f2))) (ds := []) #[false, false, false, false, false, false, false, false] (by kernel_rfl) rfl rfl ⟨hx135_0, hx135_1, hx135_2, hx136_0, hx136_1, hx136_2⟩ (fun hHeld => ?_); refine with_tabW concordancelaw14_ScoreOrders.tab5 concordancelaw14_ScoreOrders.bits5 (fun HT_ HW_ => ?_)
                  generalize w122.drew = w123 at HO122 HO125 BK117 BK118 BK119 HB hx135_0 hx135_1 hx135_2 hx136_0 hx136_1 hx136_2 hHeld ⊢
                  refine pure_ (i := 0) (N := some 38) (v := ?_) (a' := ?_) #[true, false, false, false, false, false, false, false] rfl rfl (any_of HT_.out (by kernel_rfl)) (fun _ _ _ h => h) (Or.inl ⟨by rfl, ?_⟩) ?_ ?_
                  rotate_left
                  · intro w'
                    go_simp
                    with_reducible rfl
                  rotate_left
                  · simp only [Act.put, List.setIfInBounds_toArray, List.set_cons_zero, List.set_cons_succ, i64_w, i32_w]
                    rfl
                  refine pure_ (i := 1) (N := some 39) (v := ?_) (a' := ?_) #[true, true, false, false, false, false, false, false] rfl rfl (any_of HT_.out (by kernel_rfl)) (fun _ _ _ h => h) (Or.inl ⟨by rfl, ?_⟩) ?_ ?_
                  rotate_left
                  · intro w'
                    go_simp
                    with_reducible rfl
                  rotate_left
                  · simp only [Act.put, List.setIfInBounds_toArray, List.set_cons_zero, List.set_cons_succ, i64_w, i32_w]
                    rfl
                  refine pure_ (i := 3) (N := some 41) (v := ?_) (a' := ?_) #[true, true, false, true, false, false, false, false] rfl rfl (any_of HT_.out (by kernel_rfl)) (fun _ _ _ h => h) (Or.inl ⟨by rfl, ?_⟩) ?_ ?_
                  rotate_left
                  · intro w'
                    go_simp
                    with_reducible rfl
                  rotate_left
                  · simp only [Act.put, List.setIfInBounds_toArray, List.set_cons_zero, List.set_cons_succ, i64_w, i32_w]
                    rfl
                  refine pure_ (i := 4) (N := some 42) (v := ?_) (a' := ?_) #[true, true, false, true, true, false, false, false] rfl rfl (any_of HT_.out (by kernel_rfl)) (fun _ _ _ h => h) (Or.inl ⟨by rfl, ?_⟩) ?_ ?_
                  rotate_left
                  · intro w'
                    go_simp
                    with_reducible rfl
                  rotate_left
                  · simp only [Act.put, List.setIfInBounds_toArray, List.set_cons_zero, List.set_cons_succ, i64_w, i32_w]
                    rfl
                  refine take_ (i := 2) (N := some 40) (v := ?_) (a' := ?_) #[true, true, true, true, true, false, false, false] rfl rfl (take_ofW HT_.out HW_.out (by kernel_rfl)) (fun _ _ _ h => h) (Or.inl ⟨by rfl, ?_⟩) hHeld ?_ ?_
                  rotate_left
                  · rintro w' ⟨s0, s1, s2, s3, s4, s5⟩
                    go_simp
                    with_reducible rfl
                  rotate_left
                  · simp only [Act.put, List.setIfInBounds_toArray, List.set_cons_zero, List.set_cons_succ, i64_w, i32_w]
                    rfl
                  refine take_ (i := 5) (N := some 43) (v := ?_) (a' := ?_) #[true, true, true, true, true, true, false, false] rfl rfl (take_ofW HT_.out HW_.out (by kernel_rfl)) (fun _ _ _ h => h) (Or.inl ⟨by rfl, ?_⟩) hHeld ?_ ?_
                  rotate_left
                  · rintro w' ⟨s0, s1, s2, s3, s4, s5⟩
                    go_simp
                    with_reducible rfl
                  rotate_left
                  · simp only [Act.put, List.setIfInBounds_toArray, List.set_cons_zero, List.set_cons_succ, i64_w, i32_w]
                    rfl
                  refine one_ (i := 6) (N := some 44) #[true, true, true, true, true, true, true, false] rfl rfl (one_of HT_.out (by kernel_rfl)) (by decide) (fun K hK => ?_)
                  refine goes_ Try.func8 (by kernel_rfl) rfl #[.agg #[.int .i64 ((rd_T28 t123 0).f0), .int .i64 ((rd_T28 t123 0).f1), .int .i64 ((rd_T28 t123 0).f2)], .agg #[.int .i64 ((rd_T28 t123 2).f0), .int .i64 ((rd_T28 t123 2).f1), .int .i64 ((rd_T28 t123 2).f2)]] (by rfl) rfl rfl (by (try simp only [List.map_toArray, List.map_cons, List.map_nil]); first | done | rfl | (simp only [List.length_drop, List.length_take]; rfl)) ?_
                  with_reducible refine (score_Better.calls ((rd_T28 t123 0).f0) ((rd_T28 t123 0).f1) ((rd_T28 t123 0).f2) ((rd_T28 t123 2).f0) ((rd_T28 t123 2).f1) ((rd_T28 t123 2).f2) t137 _ A11.out).mono ?_
                  rintro e w124 ⟨rfl, hb⟩
                  have HS0_ := (hb.cell (World.block_lt_of_cell? _ _ (hHeld.1))).trans (hHeld.1)
                  have HS1_ := (hb.cell (World.block_lt_of_cell? _ _ (hHeld.2.1))).trans (hHeld.2.1)
                  have HS2_ := (hb.cell (World.block_lt_of_cell? _ _ (hHeld.2.2.1))).trans (hHeld.2.2.1)
                  have HS3_ := (hb.cell (World.block_lt_of_cell? _ _ (hHeld.2.2.2.1))).trans (hHeld.2.2.2.1)
                  have HS4_ := (hb.cell (World.block_lt_of_cell? _ _ (hHeld.2.2.2.2.1))).trans (hHeld.2.2.2.2.1)
                  have HS5_ := (hb.cell (World.block_lt_of_cell? _ _ (hHeld.2.2.2.2.2))).trans (hHeld.2.2.2.2.2)
                  refine ⟨_, rfl, ?_⟩
                  have n0_ := Aside0.mk (Kd.R_below (by (with_reducible repeat (first | apply Kd.R_alloc | apply Kd.R_drewN | apply Kd.R_drew)); exact HO122.out) hb)
                  have n1_ := Aside0.mk (Kd.R_below (by (with_reducible repeat (first | apply Kd.R_alloc | apply Kd.R_drewN | apply Kd.R_drew)); exact HO125.out) hb)
                  have n2_ := Aside0.mk (blk_below (g := gb117) (o := .cells #[.int .i64 a0_0, .int .i64 a0_1, .int .i64 a0_2] 23 (0, 0)) (by (with_reducible repeat (first | refine blk_drewN ?_ _ | refine blk_drew ?_ | refine blk_alloc ?_ _)); exact BK117.out) hb)
                  have n3_ := Aside0.mk (blk_below (g := gb118) (o := .cells #[.int .i64 a1_0, .int .i64 a1_1, .int .i64 a1_2] 23 (0, 0)) (by (with_reducible repeat (first | refine blk_drewN ?_ _ | refine blk_drew ?_ | refine blk_alloc ?_ _)); exact BK118.out) hb)
                  have n4_ := Aside0.mk (blk_below (g := gb119) (o := .cells #[.int .i64 a2_0, .int .i64 a2_1, .int .i64 a2_2] 23 (0, 0)) (by (with_reducible repeat (first | refine blk_drewN ?_ _ | refine blk_drew ?_ | refine blk_alloc ?_ _)); exact BK119.out) hb)
                  have n5_ := Aside0.mk (below_step (by repeat (first | (with_reducible first | exact HB.out | apply below_alloc | apply pw_below_drewN | apply below_drew1 | refine below_set ?_ GE117.out | refine below_set ?_ GE118.out | refine below_set ?_ GE119.out) | exact HB.out)) hb)
                  clear HO122
                  clear HO125
                  clear BK117
                  clear BK118
                  clear BK119
                  clear HB
                  have HO122 := n0_
                  have HO125 := n1_
                  have BK117 := n2_
                  have BK118 := n3_
                  have BK119 := n4_
                  have HB := n5_
                  clear n0_ n1_ n2_ n3_ n4_ n5_
                  (try clear hb)
                  (try clear hb2)
                  (try clear hk)
                  (try clear hi)
                  refine hK.out _ _ ⟨HS0_, HS1_, HS2_, HS3_, HS4_, HS5_⟩ (fun hHeld => ?_)
                  clear hK K
                  refine norm_ (a' := ?_) ?_ ?_
                  rotate_left
                  · show Act.put _ (some 44) _ = _
                    simp only [Act.put, List.setIfInBounds_toArray, List.set_cons_zero, List.set_cons_succ, i64_w, i32_w]
                    rfl
                  refine pure_ (i := 7) (N := some 11) (v := ?_) (a' := ?_) #[true, true, true, true, true, true, true, true] rfl rfl (any_of HT_.out (by kernel_rfl)) (fun _ _ _ h => h) (Or.inl ⟨by rfl, ?_⟩) ?_ ?_
                  rotate_left
                  · intro w'
                    go_simp
                    with_reducible rfl
                  rotate_left
                  · simp only [Act.put, List.setIfInBounds_toArray, List.set_cons_zero, List.set_cons_succ, i64_w, i32_w]
                    rfl
                  refine done_ (done_of HT_.out (by kernel_rfl)) ?_
                  have hcz125_0 : w124.cell? ⟨gb117, 0, none⟩ = some (.int .i64 a0_0) := (blk_cell BK117.out 0).trans rfl
                  have hcz125_1 : w124.cell? ⟨gb117, 1, none⟩ = some (.int .i64 a0_1) := (blk_cell BK117.out 1).trans rfl
                  have hcz125_2 : w124.cell? ⟨gb117, 2, none⟩ = some (.int .i64 a0_2) := (blk_cell BK117.out 2).trans rfl
                  have hfz125_0 := blk_frozen BK117.out 0
                  have hfz125_1 := blk_frozen BK117.out 1
                  have hfz125_2 := blk_frozen BK117.out 2
                  have hcz126_0 : w124.cell? ⟨gb118, 0, none⟩ = some (.int .i64 a1_0) := (blk_cell BK118.out 0).trans rfl
                  have hcz126_1 : w124.cell? ⟨gb118, 1, none⟩ = some (.int .i64 a1_1) := (blk_cell BK118.out 1).trans rfl
                  have hcz126_2 : w124.cell? ⟨gb118, 2, none⟩ = some (.int .i64 a1_2) := (blk_cell BK118.out 2).trans rfl
                  have hfz126_0 := blk_frozen BK118.out 0
                  have hfz126_1 := blk_frozen BK118.out 1
                  have hfz126_2 := blk_frozen BK118.out 2
                  try go_wp2_with (first | ((with_reducible refine gate_callee (f := 9) rfl ?_); refine goesL_ (some 48) rfl rfl Try.func9 (by kernel_rfl) rfl #[.agg #[.int .i64 a0_0, .int .i64 a0_1, .int .i64 a0_2], .agg #[.int .i64 a1_0, .int .i64 a1_1, .int .i64 a1_2]] rfl (by (try simp only [List.map_toArray, List.map_cons, List.map_nil]); first | done | rfl | (simp only [List.length_drop, List.length_take]; rfl)) ?_; (with_reducible refine (concordanceref14_Better.calls a0_0 a0_1 a0_2 a1_0 a1_1 a1_2 t138 _ A12.out).mono ?_); rintro e w127 ⟨rfl, hb⟩; refine ⟨_, rfl, ?_⟩; have n0_ := Aside0.mk (Kd.R_below (by (with_reducible repeat (first | apply Kd.R_alloc | apply Kd.R_drewN | apply Kd.R_drew)); exact HO122.out) hb); have n1_ := Aside0.mk (Kd.R_below (by (with_reducible repeat (first | apply Kd.R_alloc | apply Kd.R_drewN | apply Kd.R_drew)); exact HO125.out) hb); have n2_ := Aside0.mk (blk_below (g := gb117) (o := .cells #[.int .i64 a0_0, .int .i64 a0_1, .int .i64 a0_2] 23 (0, 0)) (by (with_reducible repeat (first | refine blk_drewN ?_ _ | refine blk_drew ?_ | refine blk_alloc ?_ _)); exact BK117.out) hb); have n3_ := Aside0.mk (blk_below (g := gb118) (o := .cells #[.int .i64 a1_0, .int .i64 a1_1, .int .i64 a1_2] 23 (0, 0)) (by (with_reducible repeat (first | refine blk_drewN ?_ _ | refine blk_drew ?_ | refine blk_alloc ?_ _)); exact BK118.out) hb); have n4_ := Aside0.mk (blk_below (g := gb119) (o := .cells #[.int .i64 a2_0, .int .i64 a2_1, .int .i64 a2_2] 23 (0, 0)) (by (with_reducible repeat (first | refine blk_drewN ?_ _ | refine blk_drew ?_ | refine blk_alloc ?_ _)); exact BK119.out) hb); have n5_ := Aside0.mk (below_step (by repeat (first | (with_reducible first | exact HB.out | apply below_alloc | apply pw_below_drewN | apply below_drew1 | refine below_set ?_ GE117.out | refine below_set ?_ GE118.out | refine below_set ?_ GE119.out) | exact HB.out)) hb); clear HO122; clear HO125; clear BK117; clear BK118; clear BK119; clear HB; have HO122 := n0_; have HO125 := n1_; have BK117 := n2_; have BK118 := n3_; have BK119 := n4_; have HB := n5_; clear n0_ n1_ n2_ n3_ n4_ n5_; (try clear hb); (try clear hb2); (try clear hk); (try clear hi); have hcz128_0 : w127.cell? ⟨gb117, 0, none⟩ = some (.int .i64 a0_0) := (blk_cell BK117.out 0).trans rfl; have hcz128_1 : w127.cell? ⟨gb117, 1, none⟩ = some (.int .i64 a0_1) := (blk_cell BK117.out 1).trans rfl; have hcz128_2 : w127.cell? ⟨gb117, 2, none⟩ = some (.int .i64 a0_2) := (blk_cell BK117.out 2).trans rfl; have hfz128_0 := blk_frozen BK117.out 0; have hfz128_1 := blk_frozen BK117.out 1; have hfz128_2 := blk_frozen BK117.out 2; have hcz129_0 : w127.cell? ⟨gb118, 0, none⟩ = some (.int .i64 a1_0) := (blk_cell BK118.out 0).trans rfl; have hcz129_1 : w127.cell? ⟨gb118, 1, none⟩ = some (.int .i64 a1_1) := (blk_cell BK118.out 1).trans rfl; have hcz129_2 : w127.cell? ⟨gb118, 2, none⟩ = some (.int .i64 a1_2) := (blk_cell BK118.out 2).trans rfl; have hfz129_0 := blk_frozen BK118.out 0; have hfz129_1 := blk_frozen BK118.out 1; have hfz129_2 := blk_frozen BK118.out 2) | (go_at_call 10; (with_reducible refine (concordancelaw14_lives.calls  t140 _ A102.out).mono ?_); rintro e w130 ⟨rfl, hb⟩; have n0_ := Aside0.mk (Kd.R_below (by (with_reducible repeat (first | apply Kd.R_alloc | apply Kd.R_drewN | apply Kd.R_drew)); exact HO122.out) hb); have n1_ := Aside0.mk (Kd.R_below (by (with_reducible repeat (first | apply Kd.R_alloc | apply Kd.R_drewN | apply Kd.R_drew)); exact HO125.out) hb); have n2_ := Aside0.mk (blk_below (g := gb117) (o := .cells #[.int .i64 a0_0, .int .i64 a0_1, .int .i64 a0_2] 23 (0, 0)) (by (with_reducible repeat (first | refine blk_drewN ?_ _ | refine blk_drew ?_ | refine blk_alloc ?_ _)); exact BK117.out) hb); have n3_ := Aside0.mk (blk_below (g := gb118) (o := .cells #[.int .i64 a1_0, .int .i64 a1_1, .int .i64 a1_2] 23 (0, 0)) (by (with_reducible repeat (first | refine blk_drewN ?_ _ | refine blk_drew ?_ | refine blk_alloc ?_ _)); exact BK118.out) hb); have n4_ := Aside0.mk (blk_below (g := gb119) (o := .cells #[.int .i64 a2_0, .int .i64 a2_1, .int .i64 a2_2] 23 (0, 0)) (by (with_reducible repeat (first | refine blk_drewN ?_ _ | refine blk_drew ?_ | refine blk_alloc ?_ _)); exact BK119.out) hb); have n5_ := Aside0.mk (below_step (by repeat (first | (with_reducible first | exact HB.out | apply below_alloc | apply pw_below_drewN | apply below_drew1 | refine below_set ?_ GE117.out | refine below_set ?_ GE118.out | refine below_set ?_ GE119.out) | exact HB.out)) hb); clear HO122; clear HO125; clear BK117; clear BK118; clear BK119; clear HB; have HO122 := n0_; have HO125 := n1_; have BK117 := n2_; have BK118 := n3_; have BK119 := n4_; have HB := n5_; clear n0_ n1_ n2_ n3_ n4_ n5_; (try clear hb); (try clear hb2); (try clear hk); (try clear hi)))
                  go_ret
                  exact ⟨by first | rfl | (simp [errW_none, errW_some] <;> rfl) | (simp [*, errW_none, errW_some] <;> rfl), by repeat (first | (with_reducible first | exact HB.out | apply below_alloc | apply pw_below_drewN | apply below_drew1 | refine below_set ?_ GE117.out | refine below_set ?_ GE118.out | refine below_set ?_ GE119.out) | exact HB.out)⟩
            · rw [if_neg c15] at H
              have c15b0 : (true == (!(a0_0 == a1_0) || (!(a0_1 == a1_1) || (!(a0_2 == a1_2))))) = false := by simpa using c15
              (try (have c15b1 : decide (true = (!(a0_0 == a1_0) || (!(a0_1 == a1_1) || (!(a0_2 == a1_2))))) = false := by simpa using c15))
              (try (have c15b2 : (true == (!(a0_0 == a1_0) || (!(a0_1 == a1_1) || (!(a0_2 == a1_2))))) = false := by simpa using c15))
              (try (have c15b3 : ¬ (true = (!(a0_0 == a1_0) || (!(a0_1 == a1_1) || (!(a0_2 == a1_2))))) := by simpa using c15))
              clear c15
              obtain rfl := Option.some.inj H
              cases hrt
          · replace c14 := Bool.eq_false_iff.mpr c14
            subst c14
            have H1 : (if (t131 == (!(a0_0 == a1_0) || (!(a0_1 == a1_1) || (!(a0_2 == a1_2))))) = true then ((concordancelaw14_lives.f).bind fun t141 => (some t141)) else (some false)) = some r := by rw [if_neg (show ¬ (false = true) by decide)] at H; exact H
            clear H
            have H := H1
            clear H1
            by_cases c158 : (t131 == (!(a0_0 == a1_0) || (!(a0_1 == a1_1) || (!(a0_2 == a1_2))))) = true
            · rw [if_pos c158] at H
              have c158b0 : (t131 == (!(a0_0 == a1_0) || (!(a0_1 == a1_1) || (!(a0_2 == a1_2))))) = true := c158
              (try (have c158b1 : decide (t131 = (!(a0_0 == a1_0) || (!(a0_1 == a1_1) || (!(a0_2 == a1_2))))) = true := by simpa using c158))
              (try (have c158b2 : (t131 == (!(a0_0 == a1_0) || (!(a0_1 == a1_1) || (!(a0_2 == a1_2))))) = true := by simpa using c158))
              clear c158
              replace H := Option.bind_eq_some_iff.mp H
              obtain ⟨t141, A1590, H⟩ := H
              replace H : (some t141) = some r := H
              have A159 := Aside0.mk A1590
              clear A1590
              obtain rfl := Option.some.inj H
              clear hrt
              go_enter Try.func3, Try.ntmps3
              try go_wp2_with (first | ((with_reducible refine gate_dst (N := 3) rfl ?_); refine box_event ?hg (N := 3) ?hd (cs := #[.int .i64 a0_0, .int .i64 a0_1, .int .i64 a0_2]) (t := 23) ?hr ?_; (case hd => rfl); (case hg => rfl); (case hr => first | (go_simp; done) | (go_simp; rfl)); intro gb117 hg w160 hbox hb; have n0_ := Aside0.mk (below_step (by repeat (first | (with_reducible first | exact HB.out | apply below_alloc | apply pw_below_drewN | apply below_drew1) | exact HB.out)) hb); have n1_ := Aside0.mk (hbox); have n2_ := Aside0.mk ((by rw [hg]; exact (below_size (by repeat (first | (with_reducible first | exact HB.out | apply below_alloc | apply pw_below_drewN | apply below_drew1) | exact HB.out))) : w.heap.size ≤ gb117)); have n3_ := Aside0.mk ((by rw [hg]; exact (below_size (by repeat (first | (with_reducible first | exact HB.out | apply below_alloc | apply pw_below_drewN | apply below_drew1) | exact HB.out))) : w.heap.size ≤ gb117)); clear HB; have HB := n0_; have BK117 := n1_; have GW117 := n2_; have GE117 := n3_; clear n0_ n1_ n2_ n3_; clear hb hbox hg) | ((with_reducible refine gate_dst (N := 4) rfl ?_); refine box_event ?hg (N := 4) ?hd (cs := #[.int .i64 a1_0, .int .i64 a1_1, .int .i64 a1_2]) (t := 23) ?hr ?_; (case hd => rfl); (case hg => rfl); (case hr => first | (go_simp; done) | (go_simp; rfl)); intro gb118 hg w161 hbox hb; have n0_ := Aside0.mk (blk_below (g := gb117) (o := .cells #[.int .i64 a0_0, .int .i64 a0_1, .int .i64 a0_2] 23 (0, 0)) (by (with_reducible repeat (first | refine blk_drewN ?_ _ | refine blk_drew ?_ | refine blk_alloc ?_ _)); exact BK117.out) hb); have n1_ := Aside0.mk (below_step (by repeat (first | (with_reducible first | exact HB.out | apply below_alloc | apply pw_below_drewN | apply below_drew1 | refine below_set ?_ GE117.out) | exact HB.out)) hb); have n2_ := Aside0.mk (hbox); have n3_ := Aside0.mk ((by rw [hg]; exact (below_size (by repeat (first | (with_reducible first | exact HB.out | apply below_alloc | apply pw_below_drewN | apply below_drew1 | refine below_set ?_ GE117.out) | exact HB.out))) : w.heap.size ≤ gb118)); have n4_ := Aside0.mk ((by rw [hg]; exact (below_size (by repeat (first | (with_reducible first | exact HB.out | apply below_alloc | apply pw_below_drewN | apply below_drew1 | refine below_set ?_ GE117.out) | exact HB.out))) : w.heap.size ≤ gb118)); have n5_ := Aside0.mk ((by rw [hg]; exact Nat.ne_of_lt (blk_lt (g := gb117) (o := .cells #[.int .i64 a0_0, .int .i64 a0_1, .int .i64 a0_2] 23 (0, 0)) (by (with_reducible repeat (first | refine blk_drewN ?_ _ | refine blk_drew ?_ | refine blk_alloc ?_ _)); exact BK117.out)) : gb117 ≠ gb118)); have n6_ := Aside0.mk ((by rw [hg]; exact Nat.ne_of_gt (blk_lt (g := gb117) (o := .cells #[.int .i64 a0_0, .int .i64 a0_1, .int .i64 a0_2] 23 (0, 0)) (by (with_reducible repeat (first | refine blk_drewN ?_ _ | refine blk_drew ?_ | refine blk_alloc ?_ _)); exact BK117.out)) : gb118 ≠ gb117)); clear BK117; clear HB; have BK117 := n0_; have HB := n1_; have BK118 := n2_; have GW118 := n3_; have GE118 := n4_; have NB117_118 := n5_; have NB118_117 := n6_; clear n0_ n1_ n2_ n3_ n4_ n5_ n6_; clear hb hbox hg) | ((with_reducible refine gate_dst (N := 5) rfl ?_); refine box_event ?hg (N := 5) ?hd (cs := #[.int .i64 a2_0, .int .i64 a2_1, .int .i64 a2_2]) (t := 23) ?hr ?_; (case hd => rfl); (case hg => rfl); (case hr => first | (go_simp; done) | (go_simp; rfl)); intro gb119 hg w162 hbox hb; have n0_ := Aside0.mk (blk_below (g := gb117) (o := .cells #[.int .i64 a0_0, .int .i64 a0_1, .int .i64 a0_2] 23 (0, 0)) (by (with_reducible repeat (first | refine blk_drewN ?_ _ | refine blk_drew ?_ | refine blk_alloc ?_ _)); exact BK117.out) hb); have n1_ := Aside0.mk (blk_below (g := gb118) (o := .cells #[.int .i64 a1_0, .int .i64 a1_1, .int .i64 a1_2] 23 (0, 0)) (by (with_reducible repeat (first | refine blk_drewN ?_ _ | refine blk_drew ?_ | refine blk_alloc ?_ _)); exact BK118.out) hb); have n2_ := Aside0.mk (below_step (by repeat (first | (with_reducible first | exact HB.out | apply below_alloc | apply pw_below_drewN | apply below_drew1 | refine below_set ?_ GE117.out | refine below_set ?_ GE118.out) | exact HB.out)) hb); have n3_ := Aside0.mk (hbox); have n4_ := Aside0.mk ((by rw [hg]; exact (below_size (by repeat (first | (with_reducible first | exact HB.out | apply below_alloc | apply pw_below_drewN | apply below_drew1 | refine below_set ?_ GE117.out | refine below_set ?_ GE118.out) | exact HB.out))) : w.heap.size ≤ gb119)); have n5_ := Aside0.mk ((by rw [hg]; exact (below_size (by repeat (first | (with_reducible first | exact HB.out | apply below_alloc | apply pw_below_drewN | apply below_drew1 | refine below_set ?_ GE117.out | refine below_set ?_ GE118.out) | exact HB.out))) : w.heap.size ≤ gb119)); have n6_ := Aside0.mk ((by rw [hg]; exact Nat.ne_of_lt (blk_lt (g := gb117) (o := .cells #[.int .i64 a0_0, .int .i64 a0_1, .int .i64 a0_2] 23 (0, 0)) (by (with_reducible repeat (first | refine blk_drewN ?_ _ | refine blk_drew ?_ | refine blk_alloc ?_ _)); exact BK117.out)) : gb117 ≠ gb119)); have n7_ := Aside0.mk ((by rw [hg]; exact Nat.ne_of_gt (blk_lt (g := gb117) (o := .cells #[.int .i64 a0_0, .int .i64 a0_1, .int .i64 a0_2] 23 (0, 0)) (by (with_reducible repeat (first | refine blk_drewN ?_ _ | refine blk_drew ?_ | refine blk_alloc ?_ _)); exact BK117.out)) : gb119 ≠ gb117)); have n8_ := Aside0.mk ((by rw [hg]; exact Nat.ne_of_lt (blk_lt (g := gb118) (o := .cells #[.int .i64 a1_0, .int .i64 a1_1, .int .i64 a1_2] 23 (0, 0)) (by (with_reducible repeat (first | refine blk_drewN ?_ _ | refine blk_drew ?_ | refine blk_alloc ?_ _)); exact BK118.out)) : gb118 ≠ gb119)); have n9_ := Aside0.mk ((by rw [hg]; exact Nat.ne_of_gt (blk_lt (g := gb118) (o := .cells #[.int .i64 a1_0, .int .i64 a1_1, .int .i64 a1_2] 23 (0, 0)) (by (with_reducible repeat (first | refine blk_drewN ?_ _ | refine blk_drew ?_ | refine blk_alloc ?_ _)); exact BK118.out)) : gb119 ≠ gb118)); clear BK117; clear BK118; clear HB; have BK117 := n0_; have BK118 := n1_; have HB := n2_; have BK119 := n3_; have GW119 := n4_; have GE119 := n5_; have NB117_119 := n6_; have NB119_117 := n7_; have NB118_119 := n8_; have NB119_118 := n9_; clear n0_ n1_ n2_ n3_ n4_ n5_ n6_ n7_ n8_ n9_; clear hb hbox hg; have hnb163 := NB117_118.out; have hnc163 := NB118_117.out; have hnb164 := NB117_119.out; have hnc164 := NB119_117.out; have hcz165_0 : w162.cell? ⟨gb117, 0, none⟩ = some (.int .i64 a0_0) := (blk_cell BK117.out 0).trans rfl; have hcz165_1 : w162.cell? ⟨gb117, 1, none⟩ = some (.int .i64 a0_1) := (blk_cell BK117.out 1).trans rfl; have hcz165_2 : w162.cell? ⟨gb117, 2, none⟩ = some (.int .i64 a0_2) := (blk_cell BK117.out 2).trans rfl; have hfz165_0 := blk_frozen BK117.out 0; have hfz165_1 := blk_frozen BK117.out 1; have hfz165_2 := blk_frozen BK117.out 2; have hnb166 := NB118_119.out; have hnc166 := NB119_118.out; have hcz167_0 : w162.cell? ⟨gb118, 0, none⟩ = some (.int .i64 a1_0) := (blk_cell BK118.out 0).trans rfl; have hcz167_1 : w162.cell? ⟨gb118, 1, none⟩ = some (.int .i64 a1_1) := (blk_cell BK118.out 1).trans rfl; have hcz167_2 : w162.cell? ⟨gb118, 2, none⟩ = some (.int .i64 a1_2) := (blk_cell BK118.out 2).trans rfl; have hfz167_0 := blk_frozen BK118.out 0; have hfz167_1 := blk_frozen BK118.out 1; have hfz167_2 := blk_frozen BK118.out 2; have hcz168_0 : w162.cell? ⟨gb119, 0, none⟩ = some (.int .i64 a2_0) := (blk_cell BK119.out 0).trans rfl; have hcz168_1 : w162.cell? ⟨gb119, 1, none⟩ = some (.int .i64 a2_1) := (blk_cell BK119.out 1).trans rfl; have hcz168_2 : w162.cell? ⟨gb119, 2, none⟩ = some (.int .i64 a2_2) := (blk_cell BK119.out 2).trans rfl; have hfz168_0 := blk_frozen BK119.out 0; have hfz168_1 := blk_frozen BK119.out 1; have hfz168_2 := blk_frozen BK119.out 2) | ((with_reducible refine gate_dst (N := 15) rfl ?_); refine Kd.R_lit k23 _ 23 ?hg (N := 15) ?hd (xs := ([(⟨a0_0, a0_1, a0_2⟩ : S23), (⟨a1_0, a1_1, a1_2⟩ : S23), (⟨a2_0, a2_1, a2_2⟩ : S23)] : List (S23))) (inner := [.int .i64 a0_0, .int .i64 a0_1, .int .i64 a0_2, .int .i64 a1_0, .int .i64 a1_1, .int .i64 a1_2, .int .i64 a2_0, .int .i64 a2_1, .int .i64 a2_2]) (ok := fun _ => True) (okp := fun _ => True) ?hr ?hp (fun _ hk => hk) trivial (Below.refl _ _) (Nat.le_refl _) (by simp) ?_; (case hd => rfl); (case hg => rfl); (case hr => first | (go_simp; done) | (go_simp; rfl)); (case hp => exact (Reps.c3 (show Kd.M k23 _ _ _ (⟨a0_0, a0_1, a0_2⟩ : S23) [.int .i64 a0_0, .int .i64 a0_1, .int .i64 a0_2] from (k23_mkM _ _ _ (⟨a0_0, a0_1, a0_2⟩ : S23) )) (Reps.c3 (show Kd.M k23 _ _ _ (⟨a1_0, a1_1, a1_2⟩ : S23) [.int .i64 a1_0, .int .i64 a1_1, .int .i64 a1_2] from (k23_mkM _ _ _ (⟨a1_0, a1_1, a1_2⟩ : S23) )) (Reps.c3 (show Kd.M k23 _ _ _ (⟨a2_0, a2_1, a2_2⟩ : S23) [.int .i64 a2_0, .int .i64 a2_1, .int .i64 a2_2] from (k23_mkM _ _ _ (⟨a2_0, a2_1, a2_2⟩ : S23) )) (Reps.none _ _))))); intro v121 w169 ho170 hb hg_ hnew_; clear hg_ hnew_; (first | rw [← Ny120.out] at ho170 | (simp only [Int.reduceToNat] at ho170; rw [← Ny120.out] at ho170)); have n0_ := Aside0.mk (Kd.R_lower (Kd.R_newB (Kd.R_newB (Kd.R_newB ho170 (g := gb117) (o := .cells #[.int .i64 a0_0, .int .i64 a0_1, .int .i64 a0_2] 23 (0, 0)) (by (with_reducible repeat (first | refine blk_drewN ?_ _ | refine blk_drew ?_ | refine blk_alloc ?_ _)); exact BK117.out)) (g := gb118) (o := .cells #[.int .i64 a1_0, .int .i64 a1_1, .int .i64 a1_2] 23 (0, 0)) (by (with_reducible repeat (first | refine blk_drewN ?_ _ | refine blk_drew ?_ | refine blk_alloc ?_ _)); exact BK118.out)) (g := gb119) (o := .cells #[.int .i64 a2_0, .int .i64 a2_1, .int .i64 a2_2] 23 (0, 0)) (by (with_reducible repeat (first | refine blk_drewN ?_ _ | refine blk_drew ?_ | refine blk_alloc ?_ _)); exact BK119.out)) (below_size (by repeat (first | (with_reducible first | exact HB.out | apply below_alloc | apply pw_below_drewN | apply below_drew1 | refine below_set ?_ GE117.out | refine below_set ?_ GE118.out | refine below_set ?_ GE119.out) | exact HB.out)))); have n1_ := Aside0.mk (blk_below (g := gb117) (o := .cells #[.int .i64 a0_0, .int .i64 a0_1, .int .i64 a0_2] 23 (0, 0)) (by (with_reducible repeat (first | refine blk_drewN ?_ _ | refine blk_drew ?_ | refine blk_alloc ?_ _)); exact BK117.out) hb); have n2_ := Aside0.mk (blk_below (g := gb118) (o := .cells #[.int .i64 a1_0, .int .i64 a1_1, .int .i64 a1_2] 23 (0, 0)) (by (with_reducible repeat (first | refine blk_drewN ?_ _ | refine blk_drew ?_ | refine blk_alloc ?_ _)); exact BK118.out) hb); have n3_ := Aside0.mk (blk_below (g := gb119) (o := .cells #[.int .i64 a2_0, .int .i64 a2_1, .int .i64 a2_2] 23 (0, 0)) (by (with_reducible repeat (first | refine blk_drewN ?_ _ | refine blk_drew ?_ | refine blk_alloc ?_ _)); exact BK119.out) hb); have n4_ := Aside0.mk (below_step (by repeat (first | (with_reducible first | exact HB.out | apply below_alloc | apply pw_below_drewN | apply below_drew1 | refine below_set ?_ GE117.out | refine below_set ?_ GE118.out | refine below_set ?_ GE119.out) | exact HB.out)) hb); clear BK117; clear BK118; clear BK119; clear HB; have HO122 := n0_; have BK117 := n1_; have BK118 := n2_; have BK119 := n3_; have HB := n4_; clear n0_ n1_ n2_ n3_ n4_; clear hb ho170; obtain ⟨Ao171, co171, eo171⟩ := Kd.R_slice HO122.out; subst eo171) | ((with_reducible refine gate_callee (f := 7) rfl ?_); refine goesL_ (some 16) rfl rfl Try.func7 (by kernel_rfl) rfl #[.slice Ao171 y120.length co171] rfl (by (try simp only [List.map_toArray, List.map_cons, List.map_nil]); first | done | rfl | (simp only [List.length_drop, List.length_take]; rfl)) ?_; (with_reducible refine (concordancelaw14_few.calls k _ _ y120 t123 _ ?side1 ?side2 A4.out).mono ?_); (case side1 => repeat (first | exact (Kd.R_reads' HO122.out).2.2 | (with_reducible refine Kd.C_alloc ?_ _) | (with_reducible refine Kd.C_drewN ?_ _) | (with_reducible refine Kd.C_drew ?_))); (case side2 => exact (Kd.R_reads' HO122.out).2.1); rintro e w172 ⟨v124, rfl, ho0, hb⟩; refine ⟨_, rfl, ?_⟩; have n0_ := Aside0.mk (Kd.R_below (by (with_reducible repeat (first | apply Kd.R_alloc | apply Kd.R_drewN | apply Kd.R_drew)); exact HO122.out) hb); have n1_ := Aside0.mk (Kd.R_lower ho0 (below_size (by repeat (first | (with_reducible first | exact HB.out | apply below_alloc | apply pw_below_drewN | apply below_drew1 | refine below_set ?_ GE117.out | refine below_set ?_ GE118.out | refine below_set ?_ GE119.out) | exact HB.out)))); have n2_ := Aside0.mk (blk_below (g := gb117) (o := .cells #[.int .i64 a0_0, .int .i64 a0_1, .int .i64 a0_2] 23 (0, 0)) (by (with_reducible repeat (first | refine blk_drewN ?_ _ | refine blk_drew ?_ | refine blk_alloc ?_ _)); exact BK117.out) hb); have n3_ := Aside0.mk (blk_below (g := gb118) (o := .cells #[.int .i64 a1_0, .int .i64 a1_1, .int .i64 a1_2] 23 (0, 0)) (by (with_reducible repeat (first | refine blk_drewN ?_ _ | refine blk_drew ?_ | refine blk_alloc ?_ _)); exact BK118.out) hb); have n4_ := Aside0.mk (blk_below (g := gb119) (o := .cells #[.int .i64 a2_0, .int .i64 a2_1, .int .i64 a2_2] 23 (0, 0)) (by (with_reducible repeat (first | refine blk_drewN ?_ _ | refine blk_drew ?_ | refine blk_alloc ?_ _)); exact BK119.out) hb); have n5_ := Aside0.mk (below_step (by repeat (first | (with_reducible first | exact HB.out | apply below_alloc | apply pw_below_drewN | apply below_drew1 | refine below_set ?_ GE117.out | refine below_set ?_ GE118.out | refine below_set ?_ GE119.out) | exact HB.out)) hb); clear HO122; clear BK117; clear BK118; clear BK119; clear HB; have HO122 := n0_; have HO125 := n1_; have BK117 := n2_; have BK118 := n3_; have BK119 := n4_; have HB := n5_; clear n0_ n1_ n2_ n3_ n4_ n5_; (try clear hb); (try clear hb2); (try clear hk); (try clear hi); (try clear ho0)))
              have n0_ := Aside0.mk (Kd.R_drew HO122.out)
              have n1_ := Aside0.mk (Kd.R_drew HO125.out)
              have n2_ := Aside0.mk (blk_drew BK117.out)
              have n3_ := Aside0.mk (blk_drew BK118.out)
              have n4_ := Aside0.mk (blk_drew BK119.out)
              have n5_ := Aside0.mk (below_drew1 HB.out)
              clear HO122
              clear HO125
              clear BK117
              clear BK118
              clear BK119
              clear HB
              have HO122 := n0_
              have HO125 := n1_
              have BK117 := n2_
              have BK118 := n3_
              have BK119 := n4_
              have HB := n5_
              clear n0_ n1_ n2_ n3_ n4_ n5_
              obtain ⟨Ao174, co174, eo174⟩ := Kd.R_slice HO125.out
              (first | subst eo174 | (injection eo174 with f1_ f2_ f3_; have f4_ := f1_.symm; have f5_ := f3_.symm; clear f1_ f2_ f3_; subst f4_; subst f5_))
              have p126 : 0 ≤ (0 : Int) := (by omega)
              have q126 : 0 < (t123.length : Int) := of_decide_eq_true (by first | (with_reducible assumption) | assumption)
              obtain ⟨ad126, e126, hx126_0, hx126_1, hx126_2⟩ := at_T28 (Kd.R_reads' HO125.out).2.2 0 p126 q126
              cases e126
              have qi126 : (0 < t123.length) = True := eq_true (by omega)
              (try rw [show ((0 : Int)).toNat = 0 from rfl] at hx126_0)
              (try rw [show 0 * 3 = 0 from rfl] at hx126_0)
              (try rw [Addr.add_zero'] at hx126_0)
              (try rw [show ((0 : Int)).toNat = 0 from rfl] at hx126_1)
              (try rw [show 0 * 3 = 0 from rfl] at hx126_1)
              (try rw [Addr.add_zero'] at hx126_1)
              (try rw [show ((0 : Int)).toNat = 0 from rfl] at hx126_2)
              (try rw [show 0 * 3 = 0 from rfl] at hx126_2)
              (try rw [Addr.add_zero'] at hx126_2)
              replace p126 := eq_true p126
              replace q126 := eq_true q126
              have p127 : 0 ≤ (1 : Int) := (by omega)
              have q127 : 1 < (t123.length : Int) := of_decide_eq_true (by first | (with_reducible assumption) | assumption)
              obtain ⟨ad127, e127, hx127_0, hx127_1, hx127_2⟩ := at_T28 (Kd.R_reads' HO125.out).2.2 1 p127 q127
              obtain rfl : ad126 = ad127 := (by injection e127)
              (try simp only [show (1 : Int).toNat = 1 from rfl, Nat.reduceMul, Nat.reduceEqDiff, Go.Addr.add, ↓reduceIte] at hx127_0)
              (try simp only [show (1 : Int).toNat = 1 from rfl, Nat.reduceMul, Nat.reduceEqDiff, Go.Addr.add, ↓reduceIte] at hx127_1)
              (try simp only [show (1 : Int).toNat = 1 from rfl, Nat.reduceMul, Nat.reduceEqDiff, Go.Addr.add, ↓reduceIte] at hx127_2)
              have qi127 : (1 < t123.length) = True := eq_true (by omega)
              (try rw [show ((1 : Int)).toNat = 1 from rfl] at hx127_0)
              (try rw [show 1 * 3 = 3 from rfl] at hx127_0)
              (try rw [show ((1 : Int)).toNat = 1 from rfl] at hx127_1)
              (try rw [show 1 * 3 = 3 from rfl] at hx127_1)
              (try rw [show ((1 : Int)).toNat = 1 from rfl] at hx127_2)
              (try rw [show 1 * 3 = 3 from rfl] at hx127_2)
              replace p127 := eq_true p127
              replace q127 := eq_true q127
              refine start_ (n := 8) (S := fun w' => w'.cell? ad126 = some (.int .i64 ((rd_T28 t123 0).f0)) ∧ w'.cell? ⟨ad126.block, ad126.off + 1, none⟩ = some (.int .i64 ((rd_T28 t123 0).f1)) ∧ w'.cell? ⟨ad126.block, ad126.off + 2, none⟩ = some (.int .i64 ((rd_T28 t123 0).f2)) ∧ w'.cell? ⟨ad126.block, ad126.off + 3, none⟩ = some (.int .i64 ((rd_T28 t123 1).f0)) ∧ w'.cell? ⟨ad126.block, ad126.off + 3 + 1, none⟩ = some (.int .i64 ((rd_T28 t123 1).f1)) ∧ w'.cell? ⟨ad126.block, ad126.off + 3 + 2, none⟩ = some (.int .i64 ((rd_T28 t123 1).f2))) (ds := []) #[false, false, false, false, false, false, false, false] (by kernel_rfl) rfl rfl ⟨hx126_0, hx126_1, hx126_2, hx127_0, hx127_1, hx127_2⟩ (fun hHeld => ?_); refine with_tabW concordancelaw14_ScoreOrders.tab2 concordancelaw14_ScoreOrders.bits2 (fun HT_ HW_ => ?_)
              generalize w172.drew = w173 at HO122 HO125 BK117 BK118 BK119 HB hx126_0 hx126_1 hx126_2 hx127_0 hx127_1 hx127_2 hHeld ⊢
              refine pure_ (i := 0) (N := some 17) (v := ?_) (a' := ?_) #[true, false, false, false, false, false, false, false] rfl rfl (any_of HT_.out (by kernel_rfl)) (fun _ _ _ h => h) (Or.inl ⟨by rfl, ?_⟩) ?_ ?_
              rotate_left
              · intro w'
                go_simp
                with_reducible rfl
              rotate_left
              · simp only [Act.put, List.setIfInBounds_toArray, List.set_cons_zero, List.set_cons_succ, i64_w, i32_w]
                rfl
              refine pure_ (i := 1) (N := some 18) (v := ?_) (a' := ?_) #[true, true, false, false, false, false, false, false] rfl rfl (any_of HT_.out (by kernel_rfl)) (fun _ _ _ h => h) (Or.inl ⟨by rfl, ?_⟩) ?_ ?_
              rotate_left
              · intro w'
                go_simp
                with_reducible rfl
              rotate_left
              · simp only [Act.put, List.setIfInBounds_toArray, List.set_cons_zero, List.set_cons_succ, i64_w, i32_w]
                rfl
              refine pure_ (i := 3) (N := some 20) (v := ?_) (a' := ?_) #[true, true, false, true, false, false, false, false] rfl rfl (any_of HT_.out (by kernel_rfl)) (fun _ _ _ h => h) (Or.inl ⟨by rfl, ?_⟩) ?_ ?_
              rotate_left
              · intro w'
                go_simp
                with_reducible rfl
              rotate_left
              · simp only [Act.put, List.setIfInBounds_toArray, List.set_cons_zero, List.set_cons_succ, i64_w, i32_w]
                rfl
              refine pure_ (i := 4) (N := some 21) (v := ?_) (a' := ?_) #[true, true, false, true, true, false, false, false] rfl rfl (any_of HT_.out (by kernel_rfl)) (fun _ _ _ h => h) (Or.inl ⟨by rfl, ?_⟩) ?_ ?_
              rotate_left
              · intro w'
                go_simp
                with_reducible rfl
              rotate_left
              · simp only [Act.put, List.setIfInBounds_toArray, List.set_cons_zero, List.set_cons_succ, i64_w, i32_w]
                rfl
              refine take_ (i := 2) (N := some 19) (v := ?_) (a' := ?_) #[true, true, true, true, true, false, false, false] rfl rfl (take_ofW HT_.out HW_.out (by kernel_rfl)) (fun _ _ _ h => h) (Or.inl ⟨by rfl, ?_⟩) hHeld ?_ ?_
              rotate_left
              · rintro w' ⟨s0, s1, s2, s3, s4, s5⟩
                go_simp
                with_reducible rfl
              rotate_left
              · simp only [Act.put, List.setIfInBounds_toArray, List.set_cons_zero, List.set_cons_succ, i64_w, i32_w]
                rfl
              refine take_ (i := 5) (N := some 22) (v := ?_) (a' := ?_) #[true, true, true, true, true, true, false, false] rfl rfl (take_ofW HT_.out HW_.out (by kernel_rfl)) (fun _ _ _ h => h) (Or.inl ⟨by rfl, ?_⟩) hHeld ?_ ?_
              rotate_left
              · rintro w' ⟨s0, s1, s2, s3, s4, s5⟩
                go_simp
                with_reducible rfl
              rotate_left
              · simp only [Act.put, List.setIfInBounds_toArray, List.set_cons_zero, List.set_cons_succ, i64_w, i32_w]
                rfl
              refine one_ (i := 6) (N := some 23) #[true, true, true, true, true, true, true, false] rfl rfl (one_of HT_.out (by kernel_rfl)) (by decide) (fun K hK => ?_)
              refine goes_ Try.func8 (by kernel_rfl) rfl #[.agg #[.int .i64 ((rd_T28 t123 0).f0), .int .i64 ((rd_T28 t123 0).f1), .int .i64 ((rd_T28 t123 0).f2)], .agg #[.int .i64 ((rd_T28 t123 1).f0), .int .i64 ((rd_T28 t123 1).f1), .int .i64 ((rd_T28 t123 1).f2)]] (by rfl) rfl rfl (by (try simp only [List.map_toArray, List.map_cons, List.map_nil]); first | done | rfl | (simp only [List.length_drop, List.length_take]; rfl)) ?_
              with_reducible refine (score_Better.calls ((rd_T28 t123 0).f0) ((rd_T28 t123 0).f1) ((rd_T28 t123 0).f2) ((rd_T28 t123 1).f0) ((rd_T28 t123 1).f1) ((rd_T28 t123 1).f2) false _ A7.out).mono ?_
              rintro e w175 ⟨rfl, hb⟩
              have HS0_ := (hb.cell (World.block_lt_of_cell? _ _ (hHeld.1))).trans (hHeld.1)
              have HS1_ := (hb.cell (World.block_lt_of_cell? _ _ (hHeld.2.1))).trans (hHeld.2.1)
              have HS2_ := (hb.cell (World.block_lt_of_cell? _ _ (hHeld.2.2.1))).trans (hHeld.2.2.1)
              have HS3_ := (hb.cell (World.block_lt_of_cell? _ _ (hHeld.2.2.2.1))).trans (hHeld.2.2.2.1)
              have HS4_ := (hb.cell (World.block_lt_of_cell? _ _ (hHeld.2.2.2.2.1))).trans (hHeld.2.2.2.2.1)
              have HS5_ := (hb.cell (World.block_lt_of_cell? _ _ (hHeld.2.2.2.2.2))).trans (hHeld.2.2.2.2.2)
              refine ⟨_, rfl, ?_⟩
              have n0_ := Aside0.mk (Kd.R_below (by (with_reducible repeat (first | apply Kd.R_alloc | apply Kd.R_drewN | apply Kd.R_drew)); exact HO122.out) hb)
              have n1_ := Aside0.mk (Kd.R_below (by (with_reducible repeat (first | apply Kd.R_alloc | apply Kd.R_drewN | apply Kd.R_drew)); exact HO125.out) hb)
              have n2_ := Aside0.mk (blk_below (g := gb117) (o := .cells #[.int .i64 a0_0, .int .i64 a0_1, .int .i64 a0_2] 23 (0, 0)) (by (with_reducible repeat (first | refine blk_drewN ?_ _ | refine blk_drew ?_ | refine blk_alloc ?_ _)); exact BK117.out) hb)
              have n3_ := Aside0.mk (blk_below (g := gb118) (o := .cells #[.int .i64 a1_0, .int .i64 a1_1, .int .i64 a1_2] 23 (0, 0)) (by (with_reducible repeat (first | refine blk_drewN ?_ _ | refine blk_drew ?_ | refine blk_alloc ?_ _)); exact BK118.out) hb)
              have n4_ := Aside0.mk (blk_below (g := gb119) (o := .cells #[.int .i64 a2_0, .int .i64 a2_1, .int .i64 a2_2] 23 (0, 0)) (by (with_reducible repeat (first | refine blk_drewN ?_ _ | refine blk_drew ?_ | refine blk_alloc ?_ _)); exact BK119.out) hb)
              have n5_ := Aside0.mk (below_step (by repeat (first | (with_reducible first | exact HB.out | apply below_alloc | apply pw_below_drewN | apply below_drew1 | refine below_set ?_ GE117.out | refine below_set ?_ GE118.out | refine below_set ?_ GE119.out) | exact HB.out)) hb)
              clear HO122
              clear HO125
              clear BK117
              clear BK118
              clear BK119
              clear HB
              have HO122 := n0_
              have HO125 := n1_
              have BK117 := n2_
              have BK118 := n3_
              have BK119 := n4_
              have HB := n5_
              clear n0_ n1_ n2_ n3_ n4_ n5_
              (try clear hb)
              (try clear hb2)
              (try clear hk)
              (try clear hi)
              refine hK.out _ _ ⟨HS0_, HS1_, HS2_, HS3_, HS4_, HS5_⟩ (fun hHeld => ?_)
              clear hK K
              refine norm_ (a' := ?_) ?_ ?_
              rotate_left
              · show Act.put _ (some 23) _ = _
                simp only [Act.put, List.setIfInBounds_toArray, List.set_cons_zero, List.set_cons_succ, i64_w, i32_w]
                rfl
              refine pure_ (i := 7) (N := some 8) (v := ?_) (a' := ?_) #[true, true, true, true, true, true, true, true] rfl rfl (any_of HT_.out (by kernel_rfl)) (fun _ _ _ h => h) (Or.inl ⟨by rfl, ?_⟩) ?_ ?_
              rotate_left
              · intro w'
                go_simp
                with_reducible rfl
              rotate_left
              · simp only [Act.put, List.setIfInBounds_toArray, List.set_cons_zero, List.set_cons_succ, i64_w, i32_w]
                rfl
              refine done_ (done_of HT_.out (by kernel_rfl)) ?_
              try go_wp2
              have n0_ := Aside0.mk (Kd.R_drew HO122.out)
              have n1_ := Aside0.mk (Kd.R_drew HO125.out)
              have n2_ := Aside0.mk (blk_drew BK117.out)
              have n3_ := Aside0.mk (blk_drew BK118.out)
              have n4_ := Aside0.mk (blk_drew BK119.out)
              have n5_ := Aside0.mk (below_drew1 HB.out)
              clear HO122
              clear HO125
              clear BK117
              clear BK118
              clear BK119
              clear HB
              have HO122 := n0_
              have HO125 := n1_
              have BK117 := n2_
              have BK118 := n3_
              have BK119 := n4_
              have HB := n5_
              clear n0_ n1_ n2_ n3_ n4_ n5_
              have p129 : 0 ≤ (1 : Int) := (by omega)
              have q129 : 1 < (t123.length : Int) := of_decide_eq_true (by first | (with_reducible assumption) | assumption)
              obtain ⟨ad129, e129, hx129_0, hx129_1, hx129_2⟩ := at_T28 (Kd.R_reads' HO125.out).2.2 1 p129 q129
              obtain rfl : ad126 = ad129 := (by injection e129)
              (try simp only [show (1 : Int).toNat = 1 from rfl, Nat.reduceMul, Nat.reduceEqDiff, Go.Addr.add, ↓reduceIte] at hx129_0)
              (try simp only [show (1 : Int).toNat = 1 from rfl, Nat.reduceMul, Nat.reduceEqDiff, Go.Addr.add, ↓reduceIte] at hx129_1)
              (try simp only [show (1 : Int).toNat = 1 from rfl, Nat.reduceMul, Nat.reduceEqDiff, Go.Addr.add, ↓reduceIte] at hx129_2)
              have qi129 : (1 < t123.length) = True := eq_true (by omega)
              (try rw [show ((1 : Int)).toNat = 1 from rfl] at hx129_0)
              (try rw [show 1 * 3 = 3 from rfl] at hx129_0)
              (try rw [show ((1 : Int)).toNat = 1 from rfl] at hx129_1)
              (try rw [show 1 * 3 = 3 from rfl] at hx129_1)
              (try rw [show ((1 : Int)).toNat = 1 from rfl] at hx129_2)
              (try rw [show 1 * 3 = 3 from rfl] at hx129_2)
              replace p129 := eq_true p129
              replace q129 := eq_true q129
              have p130 : 0 ≤ (0 : Int) := (by omega)
              have q130 : 0 < (t123.length : Int) := of_decide_eq_true (by first | (with_reducible assumption) | assumption)
              obtain ⟨ad130, e130, hx130_0, hx130_1, hx130_2⟩ := at_T28 (Kd.R_reads' HO125.out).2.2 0 p130 q130
              obtain rfl : ad126 = ad130 := (by injection e130)
              have qi130 : (0 < t123.length) = True := eq_true (by omega)
              (try rw [show ((0 : Int)).toNat = 0 from rfl] at hx130_0)
              (try rw [show 0 * 3 = 0 from rfl] at hx130_0)
              (try rw [Addr.add_zero'] at hx130_0)
              (try rw [show ((0 : Int)).toNat = 0 from rfl] at hx130_1)
              (try rw [show 0 * 3 = 0 from rfl] at hx130_1)
              (try rw [Addr.add_zero'] at hx130_1)
              (try rw [show ((0 : Int)).toNat = 0 from rfl] at hx130_2)
              (try rw [show 0 * 3 = 0 from rfl] at hx130_2)
              (try rw [Addr.add_zero'] at hx130_2)
              replace p130 := eq_true p130
              replace q130 := eq_true q130
              refine start_ (n := 8) (S := fun w' => w'.cell? ⟨ad126.block, ad126.off + 3, none⟩ = some (.int .i64 ((rd_T28 t123 1).f0)) ∧ w'.cell? ⟨ad126.block, ad126.off + 3 + 1, none⟩ = some (.int .i64 ((rd_T28 t123 1).f1)) ∧ w'.cell? ⟨ad126.block, ad126.off + 3 + 2, none⟩ = some (.int .i64 ((rd_T28 t123 1).f2)) ∧ w'.cell? ad126 = some (.int .i64 ((rd_T28 t123 0).f0)) ∧ w'.cell? ⟨ad126.block, ad126.off + 1, none⟩ = some (.int .i64 ((rd_T28 t123 0).f1)) ∧ w'.cell? ⟨ad126.block, ad126.off + 2, none⟩ = some (.int .i64 ((rd_T28 t123 0).f2))) (ds := []) #[false, false, false, false, false, false, false, false] (by kernel_rfl) rfl rfl ⟨hx129_0, hx129_1, hx129_2, hx130_0, hx130_1, hx130_2⟩ (fun hHeld => ?_); refine with_tabW concordancelaw14_ScoreOrders.tab3 concordancelaw14_ScoreOrders.bits3 (fun HT_ HW_ => ?_)
              generalize w175.drew = w176 at HO122 HO125 BK117 BK118 BK119 HB hx129_0 hx129_1 hx129_2 hx130_0 hx130_1 hx130_2 hHeld ⊢
              refine pure_ (i := 0) (N := some 24) (v := ?_) (a' := ?_) #[true, false, false, false, false, false, false, false] rfl rfl (any_of HT_.out (by kernel_rfl)) (fun _ _ _ h => h) (Or.inl ⟨by rfl, ?_⟩) ?_ ?_
              rotate_left
              · intro w'
                go_simp
                with_reducible rfl
              rotate_left
              · simp only [Act.put, List.setIfInBounds_toArray, List.set_cons_zero, List.set_cons_succ, i64_w, i32_w]
                rfl
              refine pure_ (i := 1) (N := some 25) (v := ?_) (a' := ?_) #[true, true, false, false, false, false, false, false] rfl rfl (any_of HT_.out (by kernel_rfl)) (fun _ _ _ h => h) (Or.inl ⟨by rfl, ?_⟩) ?_ ?_
              rotate_left
              · intro w'
                go_simp
                with_reducible rfl
              rotate_left
              · simp only [Act.put, List.setIfInBounds_toArray, List.set_cons_zero, List.set_cons_succ, i64_w, i32_w]
                rfl
              refine pure_ (i := 3) (N := some 27) (v := ?_) (a' := ?_) #[true, true, false, true, false, false, false, false] rfl rfl (any_of HT_.out (by kernel_rfl)) (fun _ _ _ h => h) (Or.inl ⟨by rfl, ?_⟩) ?_ ?_
              rotate_left
              · intro w'
                go_simp
                with_reducible rfl
              rotate_left
              · simp only [Act.put, List.setIfInBounds_toArray, List.set_cons_zero, List.set_cons_succ, i64_w, i32_w]
                rfl
              refine pure_ (i := 4) (N := some 28) (v := ?_) (a' := ?_) #[true, true, false, true, true, false, false, false] rfl rfl (any_of HT_.out (by kernel_rfl)) (fun _ _ _ h => h) (Or.inl ⟨by rfl, ?_⟩) ?_ ?_
              rotate_left
              · intro w'
                go_simp
                with_reducible rfl
              rotate_left
              · simp only [Act.put, List.setIfInBounds_toArray, List.set_cons_zero, List.set_cons_succ, i64_w, i32_w]
                rfl
              refine take_ (i := 2) (N := some 26) (v := ?_) (a' := ?_) #[true, true, true, true, true, false, false, false] rfl rfl (take_ofW HT_.out HW_.out (by kernel_rfl)) (fun _ _ _ h => h) (Or.inl ⟨by rfl, ?_⟩) hHeld ?_ ?_
              rotate_left
              · rintro w' ⟨s0, s1, s2, s3, s4, s5⟩
                go_simp
                with_reducible rfl
              rotate_left
              · simp only [Act.put, List.setIfInBounds_toArray, List.set_cons_zero, List.set_cons_succ, i64_w, i32_w]
                rfl
              refine take_ (i := 5) (N := some 29) (v := ?_) (a' := ?_) #[true, true, true, true, true, true, false, false] rfl rfl (take_ofW HT_.out HW_.out (by kernel_rfl)) (fun _ _ _ h => h) (Or.inl ⟨by rfl, ?_⟩) hHeld ?_ ?_
              rotate_left
              · rintro w' ⟨s0, s1, s2, s3, s4, s5⟩
                go_simp
                with_reducible rfl
              rotate_left
              · simp only [Act.put, List.setIfInBounds_toArray, List.set_cons_zero, List.set_cons_succ, i64_w, i32_w]
                rfl
              refine one_ (i := 6) (N := some 30) #[true, true, true, true, true, true, true, false] rfl rfl (one_of HT_.out (by kernel_rfl)) (by decide) (fun K hK => ?_)
              refine goes_ Try.func8 (by kernel_rfl) rfl #[.agg #[.int .i64 ((rd_T28 t123 1).f0), .int .i64 ((rd_T28 t123 1).f1), .int .i64 ((rd_T28 t123 1).f2)], .agg #[.int .i64 ((rd_T28 t123 0).f0), .int .i64 ((rd_T28 t123 0).f1), .int .i64 ((rd_T28 t123 0).f2)]] (by rfl) rfl rfl (by (try simp only [List.map_toArray, List.map_cons, List.map_nil]); first | done | rfl | (simp only [List.length_drop, List.length_take]; rfl)) ?_
              with_reducible refine (score_Better.calls ((rd_T28 t123 1).f0) ((rd_T28 t123 1).f1) ((rd_T28 t123 1).f2) ((rd_T28 t123 0).f0) ((rd_T28 t123 0).f1) ((rd_T28 t123 0).f2) t131 _ A8.out).mono ?_
              rintro e w177 ⟨rfl, hb⟩
              have HS0_ := (hb.cell (World.block_lt_of_cell? _ _ (hHeld.1))).trans (hHeld.1)
              have HS1_ := (hb.cell (World.block_lt_of_cell? _ _ (hHeld.2.1))).trans (hHeld.2.1)
              have HS2_ := (hb.cell (World.block_lt_of_cell? _ _ (hHeld.2.2.1))).trans (hHeld.2.2.1)
              have HS3_ := (hb.cell (World.block_lt_of_cell? _ _ (hHeld.2.2.2.1))).trans (hHeld.2.2.2.1)
              have HS4_ := (hb.cell (World.block_lt_of_cell? _ _ (hHeld.2.2.2.2.1))).trans (hHeld.2.2.2.2.1)
              have HS5_ := (hb.cell (World.block_lt_of_cell? _ _ (hHeld.2.2.2.2.2))).trans (hHeld.2.2.2.2.2)
              refine ⟨_, rfl, ?_⟩
              have n0_ := Aside0.mk (Kd.R_below (by (with_reducible repeat (first | apply Kd.R_alloc | apply Kd.R_drewN | apply Kd.R_drew)); exact HO122.out) hb)
              have n1_ := Aside0.mk (Kd.R_below (by (with_reducible repeat (first | apply Kd.R_alloc | apply Kd.R_drewN | apply Kd.R_drew)); exact HO125.out) hb)
              have n2_ := Aside0.mk (blk_below (g := gb117) (o := .cells #[.int .i64 a0_0, .int .i64 a0_1, .int .i64 a0_2] 23 (0, 0)) (by (with_reducible repeat (first | refine blk_drewN ?_ _ | refine blk_drew ?_ | refine blk_alloc ?_ _)); exact BK117.out) hb)
              have n3_ := Aside0.mk (blk_below (g := gb118) (o := .cells #[.int .i64 a1_0, .int .i64 a1_1, .int .i64 a1_2] 23 (0, 0)) (by (with_reducible repeat (first | refine blk_drewN ?_ _ | refine blk_drew ?_ | refine blk_alloc ?_ _)); exact BK118.out) hb)
              have n4_ := Aside0.mk (blk_below (g := gb119) (o := .cells #[.int .i64 a2_0, .int .i64 a2_1, .int .i64 a2_2] 23 (0, 0)) (by (with_reducible repeat (first | refine blk_drewN ?_ _ | refine blk_drew ?_ | refine blk_alloc ?_ _)); exact BK119.out) hb)
              have n5_ := Aside0.mk (below_step (by repeat (first | (with_reducible first | exact HB.out | apply below_alloc | apply pw_below_drewN | apply below_drew1 | refine below_set ?_ GE117.out | refine below_set ?_ GE118.out | refine below_set ?_ GE119.out) | exact HB.out)) hb)
              clear HO122
              clear HO125
              clear BK117
              clear BK118
              clear BK119
              clear HB
              have HO122 := n0_
              have HO125 := n1_
              have BK117 := n2_
              have BK118 := n3_
              have BK119 := n4_
              have HB := n5_
              clear n0_ n1_ n2_ n3_ n4_ n5_
              (try clear hb)
              (try clear hb2)
              (try clear hk)
              (try clear hi)
              refine hK.out _ _ ⟨HS0_, HS1_, HS2_, HS3_, HS4_, HS5_⟩ (fun hHeld => ?_)
              clear hK K
              refine norm_ (a' := ?_) ?_ ?_
              rotate_left
              · show Act.put _ (some 30) _ = _
                simp only [Act.put, List.setIfInBounds_toArray, List.set_cons_zero, List.set_cons_succ, i64_w, i32_w]
                rfl
              refine pure_ (i := 7) (N := some 9) (v := ?_) (a' := ?_) #[true, true, true, true, true, true, true, true] rfl rfl (any_of HT_.out (by kernel_rfl)) (fun _ _ _ h => h) (Or.inl ⟨by rfl, ?_⟩) ?_ ?_
              rotate_left
              · intro w'
                go_simp
                with_reducible rfl
              rotate_left
              · simp only [Act.put, List.setIfInBounds_toArray, List.set_cons_zero, List.set_cons_succ, i64_w, i32_w]
                rfl
              refine done_ (done_of HT_.out (by kernel_rfl)) ?_
              try go_wp2
              have n0_ := Aside0.mk (Kd.R_drew HO122.out)
              have n1_ := Aside0.mk (Kd.R_drew HO125.out)
              have n2_ := Aside0.mk (blk_drew BK117.out)
              have n3_ := Aside0.mk (blk_drew BK118.out)
              have n4_ := Aside0.mk (blk_drew BK119.out)
              have n5_ := Aside0.mk (below_drew1 HB.out)
              clear HO122
              clear HO125
              clear BK117
              clear BK118
              clear BK119
              clear HB
              have HO122 := n0_
              have HO125 := n1_
              have BK117 := n2_
              have BK118 := n3_
              have BK119 := n4_
              have HB := n5_
              clear n0_ n1_ n2_ n3_ n4_ n5_
              have p132 : 0 ≤ (1 : Int) := (by omega)
              have q132 : 1 < (t123.length : Int) := of_decide_eq_true (by first | (with_reducible assumption) | assumption)
              obtain ⟨ad132, e132, hx132_0, hx132_1, hx132_2⟩ := at_T28 (Kd.R_reads' HO125.out).2.2 1 p132 q132
              obtain rfl : ad126 = ad132 := (by injection e132)
              (try simp only [show (1 : Int).toNat = 1 from rfl, Nat.reduceMul, Nat.reduceEqDiff, Go.Addr.add, ↓reduceIte] at hx132_0)
              (try simp only [show (1 : Int).toNat = 1 from rfl, Nat.reduceMul, Nat.reduceEqDiff, Go.Addr.add, ↓reduceIte] at hx132_1)
              (try simp only [show (1 : Int).toNat = 1 from rfl, Nat.reduceMul, Nat.reduceEqDiff, Go.Addr.add, ↓reduceIte] at hx132_2)
              have qi132 : (1 < t123.length) = True := eq_true (by omega)
              (try rw [show ((1 : Int)).toNat = 1 from rfl] at hx132_0)
              (try rw [show 1 * 3 = 3 from rfl] at hx132_0)
              (try rw [show ((1 : Int)).toNat = 1 from rfl] at hx132_1)
              (try rw [show 1 * 3 = 3 from rfl] at hx132_1)
              (try rw [show ((1 : Int)).toNat = 1 from rfl] at hx132_2)
              (try rw [show 1 * 3 = 3 from rfl] at hx132_2)
              replace p132 := eq_true p132
              replace q132 := eq_true q132
              have p133 : 0 ≤ (2 : Int) := (by omega)
              have q133 : 2 < (t123.length : Int) := of_decide_eq_true (by first | (with_reducible assumption) | assumption)
              obtain ⟨ad133, e133, hx133_0, hx133_1, hx133_2⟩ := at_T28 (Kd.R_reads' HO125.out).2.2 2 p133 q133
              obtain rfl : ad126 = ad133 := (by injection e133)
              (try simp only [show (2 : Int).toNat = 2 from rfl, Nat.reduceMul, Nat.reduceEqDiff, Go.Addr.add, ↓reduceIte] at hx133_0)
              (try simp only [show (2 : Int).toNat = 2 from rfl, Nat.reduceMul, Nat.reduceEqDiff, Go.Addr.add, ↓reduceIte] at hx133_1)
              (try simp only [show (2 : Int).toNat = 2 from rfl, Nat.reduceMul, Nat.reduceEqDiff, Go.Addr.add, ↓reduceIte] at hx133_2)
              have qi133 : (2 < t123.length) = True := eq_true (by omega)
              (try rw [show ((2 : Int)).toNat = 2 from rfl] at hx133_0)
              (try rw [show 2 * 3 = 6 from rfl] at hx133_0)
              (try rw [show ((2 : Int)).toNat = 2 from rfl] at hx133_1)
              (try rw [show 2 * 3 = 6 from rfl] at hx133_1)
              (try rw [show ((2 : Int)).toNat = 2 from rfl] at hx133_2)
              (try rw [show 2 * 3 = 6 from rfl] at hx133_2)
              replace p133 := eq_true p133
              replace q133 := eq_true q133
              refine start_ (n := 8) (S := fun w' => w'.cell? ⟨ad126.block, ad126.off + 3, none⟩ = some (.int .i64 ((rd_T28 t123 1).f0)) ∧ w'.cell? ⟨ad126.block, ad126.off + 3 + 1, none⟩ = some (.int .i64 ((rd_T28 t123 1).f1)) ∧ w'.cell? ⟨ad126.block, ad126.off + 3 + 2, none⟩ = some (.int .i64 ((rd_T28 t123 1).f2)) ∧ w'.cell? ⟨ad126.block, ad126.off + 6, none⟩ = some (.int .i64 ((rd_T28 t123 2).f0)) ∧ w'.cell? ⟨ad126.block, ad126.off + 6 + 1, none⟩ = some (.int .i64 ((rd_T28 t123 2).f1)) ∧ w'.cell? ⟨ad126.block, ad126.off + 6 + 2, none⟩ = some (.int .i64 ((rd_T28 t123 2).f2))) (ds := []) #[false, false, false, false, false, false, false, false] (by kernel_rfl) rfl rfl ⟨hx132_0, hx132_1, hx132_2, hx133_0, hx133_1, hx133_2⟩ (fun hHeld => ?_); refine with_tabW concordancelaw14_ScoreOrders.tab4 concordancelaw14_ScoreOrders.bits4 (fun HT_ HW_ => ?_)
              generalize w177.drew = w178 at HO122 HO125 BK117 BK118 BK119 HB hx132_0 hx132_1 hx132_2 hx133_0 hx133_1 hx133_2 hHeld ⊢
              refine pure_ (i := 0) (N := some 31) (v := ?_) (a' := ?_) #[true, false, false, false, false, false, false, false] rfl rfl (any_of HT_.out (by kernel_rfl)) (fun _ _ _ h => h) (Or.inl ⟨by rfl, ?_⟩) ?_ ?_
              rotate_left
              · intro w'
                go_simp
                with_reducible rfl
              rotate_left
              · simp only [Act.put, List.setIfInBounds_toArray, List.set_cons_zero, List.set_cons_succ, i64_w, i32_w]
                rfl
              refine pure_ (i := 1) (N := some 32) (v := ?_) (a' := ?_) #[true, true, false, false, false, false, false, false] rfl rfl (any_of HT_.out (by kernel_rfl)) (fun _ _ _ h => h) (Or.inl ⟨by rfl, ?_⟩) ?_ ?_
              rotate_left
              · intro w'
                go_simp
                with_reducible rfl
              rotate_left
              · simp only [Act.put, List.setIfInBounds_toArray, List.set_cons_zero, List.set_cons_succ, i64_w, i32_w]
                rfl
              refine pure_ (i := 3) (N := some 34) (v := ?_) (a' := ?_) #[true, true, false, true, false, false, false, false] rfl rfl (any_of HT_.out (by kernel_rfl)) (fun _ _ _ h => h) (Or.inl ⟨by rfl, ?_⟩) ?_ ?_
              rotate_left
              · intro w'
                go_simp
                with_reducible rfl
              rotate_left
              · simp only [Act.put, List.setIfInBounds_toArray, List.set_cons_zero, List.set_cons_succ, i64_w, i32_w]
                rfl
              refine pure_ (i := 4) (N := some 35) (v := ?_) (a' := ?_) #[true, true, false, true, true, false, false, false] rfl rfl (any_of HT_.out (by kernel_rfl)) (fun _ _ _ h => h) (Or.inl ⟨by rfl, ?_⟩) ?_ ?_
              rotate_left
              · intro w'
                go_simp
                with_reducible rfl
              rotate_left
              · simp only [Act.put, List.setIfInBounds_toArray, List.set_cons_zero, List.set_cons_succ, i64_w, i32_w]
                rfl
              refine take_ (i := 2) (N := some 33) (v := ?_) (a' := ?_) #[true, true, true, true, true, false, false, false] rfl rfl (take_ofW HT_.out HW_.out (by kernel_rfl)) (fun _ _ _ h => h) (Or.inl ⟨by rfl, ?_⟩) hHeld ?_ ?_
              rotate_left
              · rintro w' ⟨s0, s1, s2, s3, s4, s5⟩
                go_simp
                with_reducible rfl
              rotate_left
              · simp only [Act.put, List.setIfInBounds_toArray, List.set_cons_zero, List.set_cons_succ, i64_w, i32_w]
                rfl
              refine take_ (i := 5) (N := some 36) (v := ?_) (a' := ?_) #[true, true, true, true, true, true, false, false] rfl rfl (take_ofW HT_.out HW_.out (by kernel_rfl)) (fun _ _ _ h => h) (Or.inl ⟨by rfl, ?_⟩) hHeld ?_ ?_
              rotate_left
              · rintro w' ⟨s0, s1, s2, s3, s4, s5⟩
                go_simp
                with_reducible rfl
              rotate_left
              · simp only [Act.put, List.setIfInBounds_toArray, List.set_cons_zero, List.set_cons_succ, i64_w, i32_w]
                rfl
              refine one_ (i := 6) (N := some 37) #[true, true, true, true, true, true, true, false] rfl rfl (one_of HT_.out (by kernel_rfl)) (by decide) (fun K hK => ?_)
              refine goes_ Try.func8 (by kernel_rfl) rfl #[.agg #[.int .i64 ((rd_T28 t123 1).f0), .int .i64 ((rd_T28 t123 1).f1), .int .i64 ((rd_T28 t123 1).f2)], .agg #[.int .i64 ((rd_T28 t123 2).f0), .int .i64 ((rd_T28 t123 2).f1), .int .i64 ((rd_T28 t123 2).f2)]] (by rfl) rfl rfl (by (try simp only [List.map_toArray, List.map_cons, List.map_nil]); first | done | rfl | (simp only [List.length_drop, List.length_take]; rfl)) ?_
              with_reducible refine (score_Better.calls ((rd_T28 t123 1).f0) ((rd_T28 t123 1).f1) ((rd_T28 t123 1).f2) ((rd_T28 t123 2).f0) ((rd_T28 t123 2).f1) ((rd_T28 t123 2).f2) t134 _ A10.out).mono ?_
              rintro e w179 ⟨rfl, hb⟩
              have HS0_ := (hb.cell (World.block_lt_of_cell? _ _ (hHeld.1))).trans (hHeld.1)
              have HS1_ := (hb.cell (World.block_lt_of_cell? _ _ (hHeld.2.1))).trans (hHeld.2.1)
              have HS2_ := (hb.cell (World.block_lt_of_cell? _ _ (hHeld.2.2.1))).trans (hHeld.2.2.1)
              have HS3_ := (hb.cell (World.block_lt_of_cell? _ _ (hHeld.2.2.2.1))).trans (hHeld.2.2.2.1)
              have HS4_ := (hb.cell (World.block_lt_of_cell? _ _ (hHeld.2.2.2.2.1))).trans (hHeld.2.2.2.2.1)
              have HS5_ := (hb.cell (World.block_lt_of_cell? _ _ (hHeld.2.2.2.2.2))).trans (hHeld.2.2.2.2.2)
              refine ⟨_, rfl, ?_⟩
              have n0_ := Aside0.mk (Kd.R_below (by (with_reducible repeat (first | apply Kd.R_alloc | apply Kd.R_drewN | apply Kd.R_drew)); exact HO122.out) hb)
              have n1_ := Aside0.mk (Kd.R_below (by (with_reducible repeat (first | apply Kd.R_alloc | apply Kd.R_drewN | apply Kd.R_drew)); exact HO125.out) hb)
              have n2_ := Aside0.mk (blk_below (g := gb117) (o := .cells #[.int .i64 a0_0, .int .i64 a0_1, .int .i64 a0_2] 23 (0, 0)) (by (with_reducible repeat (first | refine blk_drewN ?_ _ | refine blk_drew ?_ | refine blk_alloc ?_ _)); exact BK117.out) hb)
              have n3_ := Aside0.mk (blk_below (g := gb118) (o := .cells #[.int .i64 a1_0, .int .i64 a1_1, .int .i64 a1_2] 23 (0, 0)) (by (with_reducible repeat (first | refine blk_drewN ?_ _ | refine blk_drew ?_ | refine blk_alloc ?_ _)); exact BK118.out) hb)
              have n4_ := Aside0.mk (blk_below (g := gb119) (o := .cells #[.int .i64 a2_0, .int .i64 a2_1, .int .i64 a2_2] 23 (0, 0)) (by (with_reducible repeat (first | refine blk_drewN ?_ _ | refine blk_drew ?_ | refine blk_alloc ?_ _)); exact BK119.out) hb)
              have n5_ := Aside0.mk (below_step (by repeat (first | (with_reducible first | exact HB.out | apply below_alloc | apply pw_below_drewN | apply below_drew1 | refine below_set ?_ GE117.out | refine below_set ?_ GE118.out | refine below_set ?_ GE119.out) | exact HB.out)) hb)
              clear HO122
              clear HO125
              clear BK117
              clear BK118
              clear BK119
              clear HB
              have HO122 := n0_
              have HO125 := n1_
              have BK117 := n2_
              have BK118 := n3_
              have BK119 := n4_
              have HB := n5_
              clear n0_ n1_ n2_ n3_ n4_ n5_
              (try clear hb)
              (try clear hb2)
              (try clear hk)
              (try clear hi)
              refine hK.out _ _ ⟨HS0_, HS1_, HS2_, HS3_, HS4_, HS5_⟩ (fun hHeld => ?_)
              clear hK K
              refine norm_ (a' := ?_) ?_ ?_
              rotate_left
              · show Act.put _ (some 37) _ = _
                simp only [Act.put, List.setIfInBounds_toArray, List.set_cons_zero, List.set_cons_succ, i64_w, i32_w]
                rfl
              refine pure_ (i := 7) (N := some 10) (v := ?_) (a' := ?_) #[true, true, true, true, true, true, true, true] rfl rfl (any_of HT_.out (by kernel_rfl)) (fun _ _ _ h => h) (Or.inl ⟨by rfl, ?_⟩) ?_ ?_
              rotate_left
              · intro w'
                go_simp
                with_reducible rfl
              rotate_left
              · simp only [Act.put, List.setIfInBounds_toArray, List.set_cons_zero, List.set_cons_succ, i64_w, i32_w]
                rfl
              refine done_ (done_of HT_.out (by kernel_rfl)) ?_
              try go_wp2
              have n0_ := Aside0.mk (Kd.R_drew HO122.out)
              have n1_ := Aside0.mk (Kd.R_drew HO125.out)
              have n2_ := Aside0.mk (blk_drew BK117.out)
              have n3_ := Aside0.mk (blk_drew BK118.out)
              have n4_ := Aside0.mk (blk_drew BK119.out)
              have n5_ := Aside0.mk (below_drew1 HB.out)
              clear HO122
              clear HO125
              clear BK117
              clear BK118
              clear BK119
              clear HB
              have HO122 := n0_
              have HO125 := n1_
              have BK117 := n2_
              have BK118 := n3_
              have BK119 := n4_
              have HB := n5_
              clear n0_ n1_ n2_ n3_ n4_ n5_
              have p135 : 0 ≤ (0 : Int) := (by omega)
              have q135 : 0 < (t123.length : Int) := of_decide_eq_true (by first | (with_reducible assumption) | assumption)
              obtain ⟨ad135, e135, hx135_0, hx135_1, hx135_2⟩ := at_T28 (Kd.R_reads' HO125.out).2.2 0 p135 q135
              obtain rfl : ad126 = ad135 := (by injection e135)
              have qi135 : (0 < t123.length) = True := eq_true (by omega)
              (try rw [show ((0 : Int)).toNat = 0 from rfl] at hx135_0)
              (try rw [show 0 * 3 = 0 from rfl] at hx135_0)
              (try rw [Addr.add_zero'] at hx135_0)
              (try rw [show ((0 : Int)).toNat = 0 from rfl] at hx135_1)
              (try rw [show 0 * 3 = 0 from rfl] at hx135_1)
              (try rw [Addr.add_zero'] at hx135_1)
              (try rw [show ((0 : Int)).toNat = 0 from rfl] at hx135_2)
              (try rw [show 0 * 3 = 0 from rfl] at hx135_2)
              (try rw [Addr.add_zero'] at hx135_2)
              replace p135 := eq_true p135
              replace q135 := eq_true q135
              have p136 : 0 ≤ (2 : Int) := (by omega)
              have q136 : 2 < (t123.length : Int) := of_decide_eq_true (by first | (with_reducible assumption) | assumption)
              obtain ⟨ad136, e136, hx136_0, hx136_1, hx136_2⟩ := at_T28 (Kd.R_reads' HO125.out).2.2 2 p136 q136
              obtain rfl : ad126 = ad136 := (by injection e136)
              (try simp only [show (2 : Int).toNat = 2 from rfl, Nat.reduceMul, Nat.reduceEqDiff, Go.Addr.add, ↓reduceIte] at hx136_0)
              (try simp only [show (2 : Int).toNat = 2 from rfl, Nat.reduceMul, Nat.reduceEqDiff, Go.Addr.add, ↓reduceIte] at hx136_1)
              (try simp only [show (2 : Int).toNat = 2 from rfl, Nat.reduceMul, Nat.reduceEqDiff, Go.Addr.add, ↓reduceIte] at hx136_2)
              have qi136 : (2 < t123.length) = True := eq_true (by omega)
              (try rw [show ((2 : Int)).toNat = 2 from rfl] at hx136_0)
              (try rw [show 2 * 3 = 6 from rfl] at hx136_0)
              (try rw [show ((2 : Int)).toNat = 2 from rfl] at hx136_1)
              (try rw [show 2 * 3 = 6 from rfl] at hx136_1)
              (try rw [show ((2 : Int)).toNat = 2 from rfl] at hx136_2)
              (try rw [show 2 * 3 = 6 from rfl] at hx136_2)
              replace p136 := eq_true p136
              replace q136 := eq_true q136
              refine start_ (n := 8) (S := fun w' => w'.cell? ad126 = some (.int .i64 ((rd_T28 t123 0).f0)) ∧ w'.cell? ⟨ad126.block, ad126.off + 1, none⟩ = some (.int .i64 ((rd_T28 t123 0).f1)) ∧ w'.cell? ⟨ad126.block, ad126.off + 2, none⟩ = some (.int .i64 ((rd_T28 t123 0).f2)) ∧ w'.cell? ⟨ad126.block, ad126.off + 6, none⟩ = some (.int .i64 ((rd_T28 t123 2).f0)) ∧ w'.cell? ⟨ad126.block, ad126.off + 6 + 1, none⟩ = some (.int .i64 ((rd_T28 t123 2).f1)) ∧ w'.cell? ⟨ad126.block, ad126.off + 6 + 2, none⟩ = some (.int .i64 ((rd_T28 t123 2).f2))) (ds := []) #[false, false, false, false, false, false, false, false] (by kernel_rfl) rfl rfl ⟨hx135_0, hx135_1, hx135_2, hx136_0, hx136_1, hx136_2⟩ (fun hHeld => ?_); refine with_tabW concordancelaw14_ScoreOrders.tab5 concordancelaw14_ScoreOrders.bits5 (fun HT_ HW_ => ?_)
              generalize w179.drew = w180 at HO122 HO125 BK117 BK118 BK119 HB hx135_0 hx135_1 hx135_2 hx136_0 hx136_1 hx136_2 hHeld ⊢
              refine pure_ (i := 0) (N := some 38) (v := ?_) (a' := ?_) #[true, false, false, false, false, false, false, false] rfl rfl (any_of HT_.out (by kernel_rfl)) (fun _ _ _ h => h) (Or.inl ⟨by rfl, ?_⟩) ?_ ?_
              rotate_left
              · intro w'
                go_simp
                with_reducible rfl
              rotate_left
              · simp only [Act.put, List.setIfInBounds_toArray, List.set_cons_zero, List.set_cons_succ, i64_w, i32_w]
                rfl
              refine pure_ (i := 1) (N := some 39) (v := ?_) (a' := ?_) #[true, true, false, false, false, false, false, false] rfl rfl (any_of HT_.out (by kernel_rfl)) (fun _ _ _ h => h) (Or.inl ⟨by rfl, ?_⟩) ?_ ?_
              rotate_left
              · intro w'
                go_simp
                with_reducible rfl
              rotate_left
              · simp only [Act.put, List.setIfInBounds_toArray, List.set_cons_zero, List.set_cons_succ, i64_w, i32_w]
                rfl
              refine pure_ (i := 3) (N := some 41) (v := ?_) (a' := ?_) #[true, true, false, true, false, false, false, false] rfl rfl (any_of HT_.out (by kernel_rfl)) (fun _ _ _ h => h) (Or.inl ⟨by rfl, ?_⟩) ?_ ?_
              rotate_left
              · intro w'
                go_simp
                with_reducible rfl
              rotate_left
              · simp only [Act.put, List.setIfInBounds_toArray, List.set_cons_zero, List.set_cons_succ, i64_w, i32_w]
                rfl
              refine pure_ (i := 4) (N := some 42) (v := ?_) (a' := ?_) #[true, true, false, true, true, false, false, false] rfl rfl (any_of HT_.out (by kernel_rfl)) (fun _ _ _ h => h) (Or.inl ⟨by rfl, ?_⟩) ?_ ?_
              rotate_left
              · intro w'
                go_simp
                with_reducible rfl
              rotate_left
              · simp only [Act.put, List.setIfInBounds_toArray, List.set_cons_zero, List.set_cons_succ, i64_w, i32_w]
                rfl
              refine take_ (i := 2) (N := some 40) (v := ?_) (a' := ?_) #[true, true, true, true, true, false, false, false] rfl rfl (take_ofW HT_.out HW_.out (by kernel_rfl)) (fun _ _ _ h => h) (Or.inl ⟨by rfl, ?_⟩) hHeld ?_ ?_
              rotate_left
              · rintro w' ⟨s0, s1, s2, s3, s4, s5⟩
                go_simp
                with_reducible rfl
              rotate_left
              · simp only [Act.put, List.setIfInBounds_toArray, List.set_cons_zero, List.set_cons_succ, i64_w, i32_w]
                rfl
              refine take_ (i := 5) (N := some 43) (v := ?_) (a' := ?_) #[true, true, true, true, true, true, false, false] rfl rfl (take_ofW HT_.out HW_.out (by kernel_rfl)) (fun _ _ _ h => h) (Or.inl ⟨by rfl, ?_⟩) hHeld ?_ ?_
              rotate_left
              · rintro w' ⟨s0, s1, s2, s3, s4, s5⟩
                go_simp
                with_reducible rfl
              rotate_left
              · simp only [Act.put, List.setIfInBounds_toArray, List.set_cons_zero, List.set_cons_succ, i64_w, i32_w]
                rfl
              refine one_ (i := 6) (N := some 44) #[true, true, true, true, true, true, true, false] rfl rfl (one_of HT_.out (by kernel_rfl)) (by decide) (fun K hK => ?_)
              refine goes_ Try.func8 (by kernel_rfl) rfl #[.agg #[.int .i64 ((rd_T28 t123 0).f0), .int .i64 ((rd_T28 t123 0).f1), .int .i64 ((rd_T28 t123 0).f2)], .agg #[.int .i64 ((rd_T28 t123 2).f0), .int .i64 ((rd_T28 t123 2).f1), .int .i64 ((rd_T28 t123 2).f2)]] (by rfl) rfl rfl (by (try simp only [List.map_toArray, List.map_cons, List.map_nil]); first | done | rfl | (simp only [List.length_drop, List.length_take]; rfl)) ?_
              with_reducible refine (score_Better.calls ((rd_T28 t123 0).f0) ((rd_T28 t123 0).f1) ((rd_T28 t123 0).f2) ((rd_T28 t123 2).f0) ((rd_T28 t123 2).f1) ((rd_T28 t123 2).f2) t137 _ A11.out).mono ?_
              rintro e w181 ⟨rfl, hb⟩
              have HS0_ := (hb.cell (World.block_lt_of_cell? _ _ (hHeld.1))).trans (hHeld.1)
              have HS1_ := (hb.cell (World.block_lt_of_cell? _ _ (hHeld.2.1))).trans (hHeld.2.1)
              have HS2_ := (hb.cell (World.block_lt_of_cell? _ _ (hHeld.2.2.1))).trans (hHeld.2.2.1)
              have HS3_ := (hb.cell (World.block_lt_of_cell? _ _ (hHeld.2.2.2.1))).trans (hHeld.2.2.2.1)
              have HS4_ := (hb.cell (World.block_lt_of_cell? _ _ (hHeld.2.2.2.2.1))).trans (hHeld.2.2.2.2.1)
              have HS5_ := (hb.cell (World.block_lt_of_cell? _ _ (hHeld.2.2.2.2.2))).trans (hHeld.2.2.2.2.2)
              refine ⟨_, rfl, ?_⟩
              have n0_ := Aside0.mk (Kd.R_below (by (with_reducible repeat (first | apply Kd.R_alloc | apply Kd.R_drewN | apply Kd.R_drew)); exact HO122.out) hb)
              have n1_ := Aside0.mk (Kd.R_below (by (with_reducible repeat (first | apply Kd.R_alloc | apply Kd.R_drewN | apply Kd.R_drew)); exact HO125.out) hb)
              have n2_ := Aside0.mk (blk_below (g := gb117) (o := .cells #[.int .i64 a0_0, .int .i64 a0_1, .int .i64 a0_2] 23 (0, 0)) (by (with_reducible repeat (first | refine blk_drewN ?_ _ | refine blk_drew ?_ | refine blk_alloc ?_ _)); exact BK117.out) hb)
              have n3_ := Aside0.mk (blk_below (g := gb118) (o := .cells #[.int .i64 a1_0, .int .i64 a1_1, .int .i64 a1_2] 23 (0, 0)) (by (with_reducible repeat (first | refine blk_drewN ?_ _ | refine blk_drew ?_ | refine blk_alloc ?_ _)); exact BK118.out) hb)
              have n4_ := Aside0.mk (blk_below (g := gb119) (o := .cells #[.int .i64 a2_0, .int .i64 a2_1, .int .i64 a2_2] 23 (0, 0)) (by (with_reducible repeat (first | refine blk_drewN ?_ _ | refine blk_drew ?_ | refine blk_alloc ?_ _)); exact BK119.out) hb)
              have n5_ := Aside0.mk (below_step (by repeat (first | (with_reducible first | exact HB.out | apply below_alloc | apply pw_below_drewN | apply below_drew1 | refine below_set ?_ GE117.out | refine below_set ?_ GE118.out | refine below_set ?_ GE119.out) | exact HB.out)) hb)
              clear HO122
              clear HO125
              clear BK117
              clear BK118
              clear BK119
              clear HB
              have HO122 := n0_
              have HO125 := n1_
              have BK117 := n2_
              have BK118 := n3_
              have BK119 := n4_
              have HB := n5_
              clear n0_ n1_ n2_ n3_ n4_ n5_
              (try clear hb)
              (try clear hb2)
              (try clear hk)
              (try clear hi)
              refine hK.out _ _ ⟨HS0_, HS1_, HS2_, HS3_, HS4_, HS5_⟩ (fun hHeld => ?_)
              clear hK K
              refine norm_ (a' := ?_) ?_ ?_
              rotate_left
              · show Act.put _ (some 44) _ = _
                simp only [Act.put, List.setIfInBounds_toArray, List.set_cons_zero, List.set_cons_succ, i64_w, i32_w]
                rfl
              refine pure_ (i := 7) (N := some 11) (v := ?_) (a' := ?_) #[true, true, true, true, true, true, true, true] rfl rfl (any_of HT_.out (by kernel_rfl)) (fun _ _ _ h => h) (Or.inl ⟨by rfl, ?_⟩) ?_ ?_
              rotate_left
              · intro w'
                go_simp
                with_reducible rfl
              rotate_left
              · simp only [Act.put, List.setIfInBounds_toArray, List.set_cons_zero, List.set_cons_succ, i64_w, i32_w]
                rfl
              refine done_ (done_of HT_.out (by kernel_rfl)) ?_
              have hcz182_0 : w181.cell? ⟨gb117, 0, none⟩ = some (.int .i64 a0_0) := (blk_cell BK117.out 0).trans rfl
              have hcz182_1 : w181.cell? ⟨gb117, 1, none⟩ = some (.int .i64 a0_1) := (blk_cell BK117.out 1).trans rfl
              have hcz182_2 : w181.cell? ⟨gb117, 2, none⟩ = some (.int .i64 a0_2) := (blk_cell BK117.out 2).trans rfl
              have hfz182_0 := blk_frozen BK117.out 0
              have hfz182_1 := blk_frozen BK117.out 1
              have hfz182_2 := blk_frozen BK117.out 2
              have hcz183_0 : w181.cell? ⟨gb118, 0, none⟩ = some (.int .i64 a1_0) := (blk_cell BK118.out 0).trans rfl
              have hcz183_1 : w181.cell? ⟨gb118, 1, none⟩ = some (.int .i64 a1_1) := (blk_cell BK118.out 1).trans rfl
              have hcz183_2 : w181.cell? ⟨gb118, 2, none⟩ = some (.int .i64 a1_2) := (blk_cell BK118.out 2).trans rfl
              have hfz183_0 := blk_frozen BK118.out 0
              have hfz183_1 := blk_frozen BK118.out 1
              have hfz183_2 := blk_frozen BK118.out 2
              try go_wp2_with (first | ((with_reducible refine gate_callee (f := 9) rfl ?_); refine goesL_ (some 48) rfl rfl Try.func9 (by kernel_rfl) rfl #[.agg #[.int .i64 a0_0, .int .i64 a0_1, .int .i64 a0_2], .agg #[.int .i64 a1_0, .int .i64 a1_1, .int .i64 a1_2]] rfl (by (try simp only [List.map_toArray, List.map_cons, List.map_nil]); first | done | rfl | (simp only [List.length_drop, List.length_take]; rfl)) ?_; (with_reducible refine (concordanceref14_Better.calls a0_0 a0_1 a0_2 a1_0 a1_1 a1_2 t138 _ A12.out).mono ?_); rintro e w184 ⟨rfl, hb⟩; refine ⟨_, rfl, ?_⟩; have n0_ := Aside0.mk (Kd.R_below (by (with_reducible repeat (first | apply Kd.R_alloc | apply Kd.R_drewN | apply Kd.R_drew)); exact HO122.out) hb); have n1_ := Aside0.mk (Kd.R_below (by (with_reducible repeat (first | apply Kd.R_alloc | apply Kd.R_drewN | apply Kd.R_drew)); exact HO125.out) hb); have n2_ := Aside0.mk (blk_below (g := gb117) (o := .cells #[.int .i64 a0_0, .int .i64 a0_1, .int .i64 a0_2] 23 (0, 0)) (by (with_reducible repeat (first | refine blk_drewN ?_ _ | refine blk_drew ?_ | refine blk_alloc ?_ _)); exact BK117.out) hb); have n3_ := Aside0.mk (blk_below (g := gb118) (o := .cells #[.int .i64 a1_0, .int .i64 a1_1, .int .i64 a1_2] 23 (0, 0)) (by (with_reducible repeat (first | refine blk_drewN ?_ _ | refine blk_drew ?_ | refine blk_alloc ?_ _)); exact BK118.out) hb); have n4_ := Aside0.mk (blk_below (g := gb119) (o := .cells #[.int .i64 a2_0, .int .i64 a2_1, .int .i64 a2_2] 23 (0, 0)) (by (with_reducible repeat (first | refine blk_drewN ?_ _ | refine blk_drew ?_ | refine blk_alloc ?_ _)); exact BK119.out) hb); have n5_ := Aside0.mk (below_step (by repeat (first | (with_reducible first | exact HB.out | apply below_alloc | apply pw_below_drewN | apply below_drew1 | refine below_set ?_ GE117.out | refine below_set ?_ GE118.out | refine below_set ?_ GE119.out) | exact HB.out)) hb); clear HO122; clear HO125; clear BK117; clear BK118; clear BK119; clear HB; have HO122 := n0_; have HO125 := n1_; have BK117 := n2_; have BK118 := n3_; have BK119 := n4_; have HB := n5_; clear n0_ n1_ n2_ n3_ n4_ n5_; (try clear hb); (try clear hb2); (try clear hk); (try clear hi); have hcz185_0 : w184.cell? ⟨gb117, 0, none⟩ = some (.int .i64 a0_0) := (blk_cell BK117.out 0).trans rfl; have hcz185_1 : w184.cell? ⟨gb117, 1, none⟩ = some (.int .i64 a0_1) := (blk_cell BK117.out 1).trans rfl; have hcz185_2 : w184.cell? ⟨gb117, 2, none⟩ = some (.int .i64 a0_2) := (blk_cell BK117.out 2).trans rfl; have hfz185_0 := blk_frozen BK117.out 0; have hfz185_1 := blk_frozen BK117.out 1; have hfz185_2 := blk_frozen BK117.out 2; have hcz186_0 : w184.cell? ⟨gb118, 0, none⟩ = some (.int .i64 a1_0) := (blk_cell BK118.out 0).trans rfl; have hcz186_1 : w184.cell? ⟨gb118, 1, none⟩ = some (.int .i64 a1_1) := (blk_cell BK118.out 1).trans rfl; have hcz186_2 : w184.cell? ⟨gb118, 2, none⟩ = some (.int .i64 a1_2) := (blk_cell BK118.out 2).trans rfl; have hfz186_0 := blk_frozen BK118.out 0; have hfz186_1 := blk_frozen BK118.out 1; have hfz186_2 := blk_frozen BK118.out 2) | (go_at_call 10; (with_reducible refine (concordancelaw14_lives.calls  t141 _ A159.out).mono ?_); rintro e w187 ⟨rfl, hb⟩; have n0_ := Aside0.mk (Kd.R_below (by (with_reducible repeat (first | apply Kd.R_alloc | apply Kd.R_drewN | apply Kd.R_drew)); exact HO122.out) hb); have n1_ := Aside0.mk (Kd.R_below (by (with_reducible repeat (first | apply Kd.R_alloc | apply Kd.R_drewN | apply Kd.R_drew)); exact HO125.out) hb); have n2_ := Aside0.mk (blk_below (g := gb117) (o := .cells #[.int .i64 a0_0, .int .i64 a0_1, .int .i64 a0_2] 23 (0, 0)) (by (with_reducible repeat (first | refine blk_drewN ?_ _ | refine blk_drew ?_ | refine blk_alloc ?_ _)); exact BK117.out) hb); have n3_ := Aside0.mk (blk_below (g := gb118) (o := .cells #[.int .i64 a1_0, .int .i64 a1_1, .int .i64 a1_2] 23 (0, 0)) (by (with_reducible repeat (first | refine blk_drewN ?_ _ | refine blk_drew ?_ | refine blk_alloc ?_ _)); exact BK118.out) hb); have n4_ := Aside0.mk (blk_below (g := gb119) (o := .cells #[.int .i64 a2_0, .int .i64 a2_1, .int .i64 a2_2] 23 (0, 0)) (by (with_reducible repeat (first | refine blk_drewN ?_ _ | refine blk_drew ?_ | refine blk_alloc ?_ _)); exact BK119.out) hb); have n5_ := Aside0.mk (below_step (by repeat (first | (with_reducible first | exact HB.out | apply below_alloc | apply pw_below_drewN | apply below_drew1 | refine below_set ?_ GE117.out | refine below_set ?_ GE118.out | refine below_set ?_ GE119.out) | exact HB.out)) hb); clear HO122; clear HO125; clear BK117; clear BK118; clear BK119; clear HB; have HO122 := n0_; have HO125 := n1_; have BK117 := n2_; have BK118 := n3_; have BK119 := n4_; have HB := n5_; clear n0_ n1_ n2_ n3_ n4_ n5_; (try clear hb); (try clear hb2); (try clear hk); (try clear hi)))
              go_ret
              exact ⟨by first | rfl | (simp [errW_none, errW_some] <;> rfl) | (simp [*, errW_none, errW_some] <;> rfl), by repeat (first | (with_reducible first | exact HB.out | apply below_alloc | apply pw_below_drewN | apply below_drew1 | refine below_set ?_ GE117.out | refine below_set ?_ GE118.out | refine below_set ?_ GE119.out) | exact HB.out)⟩
            · rw [if_neg c158] at H
              have c158b0 : (t131 == (!(a0_0 == a1_0) || (!(a0_1 == a1_1) || (!(a0_2 == a1_2))))) = false := by simpa using c158
              (try (have c158b1 : decide (t131 = (!(a0_0 == a1_0) || (!(a0_1 == a1_1) || (!(a0_2 == a1_2))))) = false := by simpa using c158))
              (try (have c158b2 : (t131 == (!(a0_0 == a1_0) || (!(a0_1 == a1_1) || (!(a0_2 == a1_2))))) = false := by simpa using c158))
              (try (have c158b3 : ¬ (t131 = (!(a0_0 == a1_0) || (!(a0_1 == a1_1) || (!(a0_2 == a1_2))))) := by simpa using c158))
              clear c158
              obtain rfl := Option.some.inj H
              cases hrt
        · rw [if_neg c13] at H
          have c13b0 : (t128 == t138) = false := by simpa using c13
          (try (have c13b1 : decide (t128 = t138) = false := by simpa using c13))
          (try (have c13b2 : (t128 == t138) = false := by simpa using c13))
          (try (have c13b3 : ¬ (t128 = t138) := by simpa using c13))
          clear c13
          obtain rfl := Option.some.inj H
          cases hrt
      · rw [if_neg c9] at H
        exact absurd H (by simp)
    · rw [if_neg c6] at H
      exact absurd H (by simp)
  · rw [if_neg c5] at H
    exact absurd H (by simp)

end Go.Proofs.Ytkjffoeelfodhaa.PAll
