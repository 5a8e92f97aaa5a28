-- written by a program of this session (wip/px): the walk of printed functions
import Derived.Test.YtllmhgkhamoplaaPAllx0
import Derived.Test.YtllmhgkhamoplaaSignsE
namespace Go.Proofs.Ytllmhgkhamoplaa.PAll
open Go.RowKit Go.Proofs.YtllmhgkhamoplaaW.PrintWords Go.Proofs.YtllmhgkhamoplaaW.PrintLast Go.Proofs.YtllmhgkhamoplaaW.PrintMore
attribute [local go_sem] max2_int min2_int max_two min_two max_three min_three max_four min_four   -- for this text's walks alone
set_option linter.unusedVariables false
set_option linter.unusedSimpArgs false

/-! ### sign_Letter: function 8 -/
def sign_Letter.f (a0 : Int) : Option (Bool) := if a0 ≥ 97 then (if a0 ≤ 122 then (some true) else (if a0 ≥ 65 then (if a0 ≤ 90 then (some true) else (if a0 ≥ 192 then (if a0 ≤ 591 then (if a0 = 215 then (some false) else (some (a0 != 247))) else (some false)) else (some false))) else (if a0 ≥ 192 then (if a0 ≤ 591 then (if a0 = 215 then (some false) else (some (a0 != 247))) else (some false)) else (some false)))) else (if a0 ≥ 65 then (if a0 ≤ 90 then (some true) else (if a0 ≥ 192 then (if a0 ≤ 591 then (if a0 = 215 then (some false) else (some (a0 != 247))) else (some false)) else (some false))) else (if a0 ≥ 192 then (if a0 ≤ 591 then (if a0 = 215 then (some false) else (some (a0 != 247))) else (some false)) else (some false)))
set_option maxHeartbeats 8000000 in
set_option maxRecDepth 100000 in
theorem sign_Letter.calls (a0 : Int) (r : Bool) (w : World) (h : sign_Letter.f a0 = some r) :
    Calls Try.prog 8 #[.int .i64 a0] w fun e w' => e = .returned (.bool r) ∧ Drawn0 w w' := by
  have H : (if a0 ≥ 97 then (if a0 ≤ 122 then (some true) else (if a0 ≥ 65 then (if a0 ≤ 90 then (some true) else (if a0 ≥ 192 then (if a0 ≤ 591 then (if a0 = 215 then (some false) else (some (a0 != 247))) else (some false)) else (some false))) else (if a0 ≥ 192 then (if a0 ≤ 591 then (if a0 = 215 then (some false) else (some (a0 != 247))) else (some false)) else (some false)))) else (if a0 ≥ 65 then (if a0 ≤ 90 then (some true) else (if a0 ≥ 192 then (if a0 ≤ 591 then (if a0 = 215 then (some false) else (some (a0 != 247))) else (some false)) else (some false))) else (if a0 ≥ 192 then (if a0 ≤ 591 then (if a0 = 215 then (some false) else (some (a0 != 247))) else (some false)) else (some false)))) = some r := h
  clear h
  by_cases c2 : a0 ≥ 97
  · rw [if_pos c2] at H
    have c2b0 : decide (97 ≤ a0) = true := decide_eq_true c2
    clear c2
    by_cases c3 : a0 ≤ 122
    · rw [if_pos c3] at H
      have c3b0 : decide (a0 ≤ 122) = true := decide_eq_true c3
      clear c3
      obtain rfl := Option.some.inj H
      go_enter Try.func8, Try.ntmps8
      go_wp2
      go_ret
      exact ⟨by first | rfl | (simp; done) | (simp [*]; done), by repeat (first | exact Drawn0.refl _ | apply Drawn0.step)⟩
    · rw [if_neg c3] at H
      have c3b0 : decide (a0 ≤ 122) = false := decide_eq_false c3
      clear c3
      by_cases c4 : a0 ≥ 65
      · rw [if_pos c4] at H
        have c4b0 : decide (65 ≤ a0) = true := decide_eq_true c4
        clear c4
        by_cases c5 : a0 ≤ 90
        · rw [if_pos c5] at H
          have c5b0 : decide (a0 ≤ 90) = true := decide_eq_true c5
          clear c5
          obtain rfl := Option.some.inj H
          go_enter Try.func8, Try.ntmps8
          go_wp2
          go_ret
          exact ⟨by first | rfl | (simp; done) | (simp [*]; done), by repeat (first | exact Drawn0.refl _ | apply Drawn0.step)⟩
        · rw [if_neg c5] at H
          have c5b0 : decide (a0 ≤ 90) = false := decide_eq_false c5
          clear c5
          by_cases c6 : a0 ≥ 192
          · rw [if_pos c6] at H
            have c6b0 : decide (192 ≤ a0) = true := decide_eq_true c6
            clear c6
            by_cases c7 : a0 ≤ 591
            · rw [if_pos c7] at H
              have c7b0 : decide (a0 ≤ 591) = true := decide_eq_true c7
              clear c7
              by_cases c8 : a0 = 215
              · rw [if_pos c8] at H
                have c8b0 : (a0 == 215) = true := beq_iff_eq.mpr c8
                have c8b1 : (a0 != 215) = false := bne_eq_false_iff_eq.mpr c8
                clear c8
                obtain rfl := Option.some.inj H
                go_enter Try.func8, Try.ntmps8
                go_wp2
                go_ret
                exact ⟨by first | rfl | (simp; done) | (simp [*]; done), by repeat (first | exact Drawn0.refl _ | apply Drawn0.step)⟩
              · rw [if_neg c8] at H
                have c8b0 : (a0 == 215) = false := beq_eq_false_iff_ne.mpr c8
                have c8b1 : (a0 != 215) = true := bne_iff_ne.mpr c8
                obtain rfl := Option.some.inj H
                go_enter Try.func8, Try.ntmps8
                go_wp2
                go_ret
                exact ⟨by first | rfl | (simp; done) | (simp [*]; done), by repeat (first | exact Drawn0.refl _ | apply Drawn0.step)⟩
            · rw [if_neg c7] at H
              have c7b0 : decide (a0 ≤ 591) = false := decide_eq_false c7
              clear c7
              obtain rfl := Option.some.inj H
              go_enter Try.func8, Try.ntmps8
              go_wp2
              go_ret
              exact ⟨by first | rfl | (simp; done) | (simp [*]; done), by repeat (first | exact Drawn0.refl _ | apply Drawn0.step)⟩
          · rw [if_neg c6] at H
            have c6b0 : decide (192 ≤ a0) = false := decide_eq_false c6
            clear c6
            obtain rfl := Option.some.inj H
            go_enter Try.func8, Try.ntmps8
            go_wp2
            go_ret
            exact ⟨by first | rfl | (simp; done) | (simp [*]; done), by repeat (first | exact Drawn0.refl _ | apply Drawn0.step)⟩
      · rw [if_neg c4] at H
        have c4b0 : decide (65 ≤ a0) = false := decide_eq_false c4
        clear c4
        by_cases c9 : a0 ≥ 192
        · rw [if_pos c9] at H
          have c9b0 : decide (192 ≤ a0) = true := decide_eq_true c9
          clear c9
          by_cases c10 : a0 ≤ 591
          · rw [if_pos c10] at H
            have c10b0 : decide (a0 ≤ 591) = true := decide_eq_true c10
            clear c10
            by_cases c11 : a0 = 215
            · rw [if_pos c11] at H
              have c11b0 : (a0 == 215) = true := beq_iff_eq.mpr c11
              have c11b1 : (a0 != 215) = false := bne_eq_false_iff_eq.mpr c11
              clear c11
              obtain rfl := Option.some.inj H
              go_enter Try.func8, Try.ntmps8
              go_wp2
              go_ret
              exact ⟨by first | rfl | (simp; done) | (simp [*]; done), by repeat (first | exact Drawn0.refl _ | apply Drawn0.step)⟩
            · rw [if_neg c11] at H
              have c11b0 : (a0 == 215) = false := beq_eq_false_iff_ne.mpr c11
              have c11b1 : (a0 != 215) = true := bne_iff_ne.mpr c11
              obtain rfl := Option.some.inj H
              go_enter Try.func8, Try.ntmps8
              go_wp2
              go_ret
              exact ⟨by first | rfl | (simp; done) | (simp [*]; done), by repeat (first | exact Drawn0.refl _ | apply Drawn0.step)⟩
          · rw [if_neg c10] at H
            have c10b0 : decide (a0 ≤ 591) = false := decide_eq_false c10
            clear c10
            obtain rfl := Option.some.inj H
            go_enter Try.func8, Try.ntmps8
            go_wp2
            go_ret
            exact ⟨by first | rfl | (simp; done) | (simp [*]; done), by repeat (first | exact Drawn0.refl _ | apply Drawn0.step)⟩
        · rw [if_neg c9] at H
          have c9b0 : decide (192 ≤ a0) = false := decide_eq_false c9
          clear c9
          obtain rfl := Option.some.inj H
          go_enter Try.func8, Try.ntmps8
          go_wp2
          go_ret
          exact ⟨by first | rfl | (simp; done) | (simp [*]; done), by repeat (first | exact Drawn0.refl _ | apply Drawn0.step)⟩
  · rw [if_neg c2] at H
    have c2b0 : decide (97 ≤ a0) = false := decide_eq_false c2
    clear c2
    by_cases c12 : a0 ≥ 65
    · rw [if_pos c12] at H
      have c12b0 : decide (65 ≤ a0) = true := decide_eq_true c12
      clear c12
      by_cases c13 : a0 ≤ 90
      · rw [if_pos c13] at H
        have c13b0 : decide (a0 ≤ 90) = true := decide_eq_true c13
        clear c13
        obtain rfl := Option.some.inj H
        go_enter Try.func8, Try.ntmps8
        go_wp2
        go_ret
        exact ⟨by first | rfl | (simp; done) | (simp [*]; done), by repeat (first | exact Drawn0.refl _ | apply Drawn0.step)⟩
      · rw [if_neg c13] at H
        have c13b0 : decide (a0 ≤ 90) = false := decide_eq_false c13
        clear c13
        by_cases c14 : a0 ≥ 192
        · rw [if_pos c14] at H
          have c14b0 : decide (192 ≤ a0) = true := decide_eq_true c14
          clear c14
          by_cases c15 : a0 ≤ 591
          · rw [if_pos c15] at H
            have c15b0 : decide (a0 ≤ 591) = true := decide_eq_true c15
            clear c15
            by_cases c16 : a0 = 215
            · rw [if_pos c16] at H
              have c16b0 : (a0 == 215) = true := beq_iff_eq.mpr c16
              have c16b1 : (a0 != 215) = false := bne_eq_false_iff_eq.mpr c16
              clear c16
              obtain rfl := Option.some.inj H
              go_enter Try.func8, Try.ntmps8
              go_wp2
              go_ret
              exact ⟨by first | rfl | (simp; done) | (simp [*]; done), by repeat (first | exact Drawn0.refl _ | apply Drawn0.step)⟩
            · rw [if_neg c16] at H
              have c16b0 : (a0 == 215) = false := beq_eq_false_iff_ne.mpr c16
              have c16b1 : (a0 != 215) = true := bne_iff_ne.mpr c16
              obtain rfl := Option.some.inj H
              go_enter Try.func8, Try.ntmps8
              go_wp2
              go_ret
              exact ⟨by first | rfl | (simp; done) | (simp [*]; done), by repeat (first | exact Drawn0.refl _ | apply Drawn0.step)⟩
          · rw [if_neg c15] at H
            have c15b0 : decide (a0 ≤ 591) = false := decide_eq_false c15
            clear c15
            obtain rfl := Option.some.inj H
            go_enter Try.func8, Try.ntmps8
            go_wp2
            go_ret
            exact ⟨by first | rfl | (simp; done) | (simp [*]; done), by repeat (first | exact Drawn0.refl _ | apply Drawn0.step)⟩
        · rw [if_neg c14] at H
          have c14b0 : decide (192 ≤ a0) = false := decide_eq_false c14
          clear c14
          obtain rfl := Option.some.inj H
          go_enter Try.func8, Try.ntmps8
          go_wp2
          go_ret
          exact ⟨by first | rfl | (simp; done) | (simp [*]; done), by repeat (first | exact Drawn0.refl _ | apply Drawn0.step)⟩
    · rw [if_neg c12] at H
      have c12b0 : decide (65 ≤ a0) = false := decide_eq_false c12
      clear c12
      by_cases c17 : a0 ≥ 192
      · rw [if_pos c17] at H
        have c17b0 : decide (192 ≤ a0) = true := decide_eq_true c17
        clear c17
        by_cases c18 : a0 ≤ 591
        · rw [if_pos c18] at H
          have c18b0 : decide (a0 ≤ 591) = true := decide_eq_true c18
          clear c18
          by_cases c19 : a0 = 215
          · rw [if_pos c19] at H
            have c19b0 : (a0 == 215) = true := beq_iff_eq.mpr c19
            have c19b1 : (a0 != 215) = false := bne_eq_false_iff_eq.mpr c19
            clear c19
            obtain rfl := Option.some.inj H
            go_enter Try.func8, Try.ntmps8
            go_wp2
            go_ret
            exact ⟨by first | rfl | (simp; done) | (simp [*]; done), by repeat (first | exact Drawn0.refl _ | apply Drawn0.step)⟩
          · rw [if_neg c19] at H
            have c19b0 : (a0 == 215) = false := beq_eq_false_iff_ne.mpr c19
            have c19b1 : (a0 != 215) = true := bne_iff_ne.mpr c19
            obtain rfl := Option.some.inj H
            go_enter Try.func8, Try.ntmps8
            go_wp2
            go_ret
            exact ⟨by first | rfl | (simp; done) | (simp [*]; done), by repeat (first | exact Drawn0.refl _ | apply Drawn0.step)⟩
        · rw [if_neg c18] at H
          have c18b0 : decide (a0 ≤ 591) = false := decide_eq_false c18
          clear c18
          obtain rfl := Option.some.inj H
          go_enter Try.func8, Try.ntmps8
          go_wp2
          go_ret
          exact ⟨by first | rfl | (simp; done) | (simp [*]; done), by repeat (first | exact Drawn0.refl _ | apply Drawn0.step)⟩
      · rw [if_neg c17] at H
        have c17b0 : decide (192 ≤ a0) = false := decide_eq_false c17
        clear c17
        obtain rfl := Option.some.inj H
        go_enter Try.func8, Try.ntmps8
        go_wp2
        go_ret
        exact ⟨by first | rfl | (simp; done) | (simp [*]; done), by repeat (first | exact Drawn0.refl _ | apply Drawn0.step)⟩

/-! ### concordanceref01_Letter: function 9 -/
def concordanceref01_Letter.f (a0 : Int) : Option (Bool) := if a0 ≥ 97 then (if a0 ≤ 122 then (some true) else (if a0 ≥ 65 then (if a0 ≤ 90 then (some true) else (if a0 ≥ 192 then (if a0 ≤ 591 then (if a0 = 215 then (some false) else (some (a0 != 247))) else (some false)) else (some false))) else (if a0 ≥ 192 then (if a0 ≤ 591 then (if a0 = 215 then (some false) else (some (a0 != 247))) else (some false)) else (some false)))) else (if a0 ≥ 65 then (if a0 ≤ 90 then (some true) else (if a0 ≥ 192 then (if a0 ≤ 591 then (if a0 = 215 then (some false) else (some (a0 != 247))) else (some false)) else (some false))) else (if a0 ≥ 192 then (if a0 ≤ 591 then (if a0 = 215 then (some false) else (some (a0 != 247))) else (some false)) else (some false)))
set_option maxHeartbeats 8000000 in
set_option maxRecDepth 100000 in
theorem concordanceref01_Letter.calls (a0 : Int) (r : Bool) (w : World) (h : concordanceref01_Letter.f a0 = some r) :
    Calls Try.prog 9 #[.int .i64 a0] w fun e w' => e = .returned (.bool r) ∧ Drawn0 w w' := by
  have H : (if a0 ≥ 97 then (if a0 ≤ 122 then (some true) else (if a0 ≥ 65 then (if a0 ≤ 90 then (some true) else (if a0 ≥ 192 then (if a0 ≤ 591 then (if a0 = 215 then (some false) else (some (a0 != 247))) else (some false)) else (some false))) else (if a0 ≥ 192 then (if a0 ≤ 591 then (if a0 = 215 then (some false) else (some (a0 != 247))) else (some false)) else (some false)))) else (if a0 ≥ 65 then (if a0 ≤ 90 then (some true) else (if a0 ≥ 192 then (if a0 ≤ 591 then (if a0 = 215 then (some false) else (some (a0 != 247))) else (some false)) else (some false))) else (if a0 ≥ 192 then (if a0 ≤ 591 then (if a0 = 215 then (some false) else (some (a0 != 247))) else (some false)) else (some false)))) = some r := h
  clear h
  by_cases c2 : a0 ≥ 97
  · rw [if_pos c2] at H
    have c2b0 : decide (97 ≤ a0) = true := decide_eq_true c2
    clear c2
    by_cases c3 : a0 ≤ 122
    · rw [if_pos c3] at H
      have c3b0 : decide (a0 ≤ 122) = true := decide_eq_true c3
      clear c3
      obtain rfl := Option.some.inj H
      go_enter Try.func9, Try.ntmps9
      go_wp2
      go_ret
      exact ⟨by first | rfl | (simp; done) | (simp [*]; done), by repeat (first | exact Drawn0.refl _ | apply Drawn0.step)⟩
    · rw [if_neg c3] at H
      have c3b0 : decide (a0 ≤ 122) = false := decide_eq_false c3
      clear c3
      by_cases c4 : a0 ≥ 65
      · rw [if_pos c4] at H
        have c4b0 : decide (65 ≤ a0) = true := decide_eq_true c4
        clear c4
        by_cases c5 : a0 ≤ 90
        · rw [if_pos c5] at H
          have c5b0 : decide (a0 ≤ 90) = true := decide_eq_true c5
          clear c5
          obtain rfl := Option.some.inj H
          go_enter Try.func9, Try.ntmps9
          go_wp2
          go_ret
          exact ⟨by first | rfl | (simp; done) | (simp [*]; done), by repeat (first | exact Drawn0.refl _ | apply Drawn0.step)⟩
        · rw [if_neg c5] at H
          have c5b0 : decide (a0 ≤ 90) = false := decide_eq_false c5
          clear c5
          by_cases c6 : a0 ≥ 192
          · rw [if_pos c6] at H
            have c6b0 : decide (192 ≤ a0) = true := decide_eq_true c6
            clear c6
            by_cases c7 : a0 ≤ 591
            · rw [if_pos c7] at H
              have c7b0 : decide (a0 ≤ 591) = true := decide_eq_true c7
              clear c7
              by_cases c8 : a0 = 215
              · rw [if_pos c8] at H
                have c8b0 : (a0 == 215) = true := beq_iff_eq.mpr c8
                have c8b1 : (a0 != 215) = false := bne_eq_false_iff_eq.mpr c8
                clear c8
                obtain rfl := Option.some.inj H
                go_enter Try.func9, Try.ntmps9
                go_wp2
                go_ret
                exact ⟨by first | rfl | (simp; done) | (simp [*]; done), by repeat (first | exact Drawn0.refl _ | apply Drawn0.step)⟩
              · rw [if_neg c8] at H
                have c8b0 : (a0 == 215) = false := beq_eq_false_iff_ne.mpr c8
                have c8b1 : (a0 != 215) = true := bne_iff_ne.mpr c8
                obtain rfl := Option.some.inj H
                go_enter Try.func9, Try.ntmps9
                go_wp2
                go_ret
                exact ⟨by first | rfl | (simp; done) | (simp [*]; done), by repeat (first | exact Drawn0.refl _ | apply Drawn0.step)⟩
            · rw [if_neg c7] at H
              have c7b0 : decide (a0 ≤ 591) = false := decide_eq_false c7
              clear c7
              obtain rfl := Option.some.inj H
              go_enter Try.func9, Try.ntmps9
              go_wp2
              go_ret
              exact ⟨by first | rfl | (simp; done) | (simp [*]; done), by repeat (first | exact Drawn0.refl _ | apply Drawn0.step)⟩
          · rw [if_neg c6] at H
            have c6b0 : decide (192 ≤ a0) = false := decide_eq_false c6
            clear c6
            obtain rfl := Option.some.inj H
            go_enter Try.func9, Try.ntmps9
            go_wp2
            go_ret
            exact ⟨by first | rfl | (simp; done) | (simp [*]; done), by repeat (first | exact Drawn0.refl _ | apply Drawn0.step)⟩
      · rw [if_neg c4] at H
        have c4b0 : decide (65 ≤ a0) = false := decide_eq_false c4
        clear c4
        by_cases c9 : a0 ≥ 192
        · rw [if_pos c9] at H
          have c9b0 : decide (192 ≤ a0) = true := decide_eq_true c9
          clear c9
          by_cases c10 : a0 ≤ 591
          · rw [if_pos c10] at H
            have c10b0 : decide (a0 ≤ 591) = true := decide_eq_true c10
            clear c10
            by_cases c11 : a0 = 215
            · rw [if_pos c11] at H
              have c11b0 : (a0 == 215) = true := beq_iff_eq.mpr c11
              have c11b1 : (a0 != 215) = false := bne_eq_false_iff_eq.mpr c11
              clear c11
              obtain rfl := Option.some.inj H
              go_enter Try.func9, Try.ntmps9
              go_wp2
              go_ret
              exact ⟨by first | rfl | (simp; done) | (simp [*]; done), by repeat (first | exact Drawn0.refl _ | apply Drawn0.step)⟩
            · rw [if_neg c11] at H
              have c11b0 : (a0 == 215) = false := beq_eq_false_iff_ne.mpr c11
              have c11b1 : (a0 != 215) = true := bne_iff_ne.mpr c11
              obtain rfl := Option.some.inj H
              go_enter Try.func9, Try.ntmps9
              go_wp2
              go_ret
              exact ⟨by first | rfl | (simp; done) | (simp [*]; done), by repeat (first | exact Drawn0.refl _ | apply Drawn0.step)⟩
          · rw [if_neg c10] at H
            have c10b0 : decide (a0 ≤ 591) = false := decide_eq_false c10
            clear c10
            obtain rfl := Option.some.inj H
            go_enter Try.func9, Try.ntmps9
            go_wp2
            go_ret
            exact ⟨by first | rfl | (simp; done) | (simp [*]; done), by repeat (first | exact Drawn0.refl _ | apply Drawn0.step)⟩
        · rw [if_neg c9] at H
          have c9b0 : decide (192 ≤ a0) = false := decide_eq_false c9
          clear c9
          obtain rfl := Option.some.inj H
          go_enter Try.func9, Try.ntmps9
          go_wp2
          go_ret
          exact ⟨by first | rfl | (simp; done) | (simp [*]; done), by repeat (first | exact Drawn0.refl _ | apply Drawn0.step)⟩
  · rw [if_neg c2] at H
    have c2b0 : decide (97 ≤ a0) = false := decide_eq_false c2
    clear c2
    by_cases c12 : a0 ≥ 65
    · rw [if_pos c12] at H
      have c12b0 : decide (65 ≤ a0) = true := decide_eq_true c12
      clear c12
      by_cases c13 : a0 ≤ 90
      · rw [if_pos c13] at H
        have c13b0 : decide (a0 ≤ 90) = true := decide_eq_true c13
        clear c13
        obtain rfl := Option.some.inj H
        go_enter Try.func9, Try.ntmps9
        go_wp2
        go_ret
        exact ⟨by first | rfl | (simp; done) | (simp [*]; done), by repeat (first | exact Drawn0.refl _ | apply Drawn0.step)⟩
      · rw [if_neg c13] at H
        have c13b0 : decide (a0 ≤ 90) = false := decide_eq_false c13
        clear c13
        by_cases c14 : a0 ≥ 192
        · rw [if_pos c14] at H
          have c14b0 : decide (192 ≤ a0) = true := decide_eq_true c14
          clear c14
          by_cases c15 : a0 ≤ 591
          · rw [if_pos c15] at H
            have c15b0 : decide (a0 ≤ 591) = true := decide_eq_true c15
            clear c15
            by_cases c16 : a0 = 215
            · rw [if_pos c16] at H
              have c16b0 : (a0 == 215) = true := beq_iff_eq.mpr c16
              have c16b1 : (a0 != 215) = false := bne_eq_false_iff_eq.mpr c16
              clear c16
              obtain rfl := Option.some.inj H
              go_enter Try.func9, Try.ntmps9
              go_wp2
              go_ret
              exact ⟨by first | rfl | (simp; done) | (simp [*]; done), by repeat (first | exact Drawn0.refl _ | apply Drawn0.step)⟩
            · rw [if_neg c16] at H
              have c16b0 : (a0 == 215) = false := beq_eq_false_iff_ne.mpr c16
              have c16b1 : (a0 != 215) = true := bne_iff_ne.mpr c16
              obtain rfl := Option.some.inj H
              go_enter Try.func9, Try.ntmps9
              go_wp2
              go_ret
              exact ⟨by first | rfl | (simp; done) | (simp [*]; done), by repeat (first | exact Drawn0.refl _ | apply Drawn0.step)⟩
          · rw [if_neg c15] at H
            have c15b0 : decide (a0 ≤ 591) = false := decide_eq_false c15
            clear c15
            obtain rfl := Option.some.inj H
            go_enter Try.func9, Try.ntmps9
            go_wp2
            go_ret
            exact ⟨by first | rfl | (simp; done) | (simp [*]; done), by repeat (first | exact Drawn0.refl _ | apply Drawn0.step)⟩
        · rw [if_neg c14] at H
          have c14b0 : decide (192 ≤ a0) = false := decide_eq_false c14
          clear c14
          obtain rfl := Option.some.inj H
          go_enter Try.func9, Try.ntmps9
          go_wp2
          go_ret
          exact ⟨by first | rfl | (simp; done) | (simp [*]; done), by repeat (first | exact Drawn0.refl _ | apply Drawn0.step)⟩
    · rw [if_neg c12] at H
      have c12b0 : decide (65 ≤ a0) = false := decide_eq_false c12
      clear c12
      by_cases c17 : a0 ≥ 192
      · rw [if_pos c17] at H
        have c17b0 : decide (192 ≤ a0) = true := decide_eq_true c17
        clear c17
        by_cases c18 : a0 ≤ 591
        · rw [if_pos c18] at H
          have c18b0 : decide (a0 ≤ 591) = true := decide_eq_true c18
          clear c18
          by_cases c19 : a0 = 215
          · rw [if_pos c19] at H
            have c19b0 : (a0 == 215) = true := beq_iff_eq.mpr c19
            have c19b1 : (a0 != 215) = false := bne_eq_false_iff_eq.mpr c19
            clear c19
            obtain rfl := Option.some.inj H
            go_enter Try.func9, Try.ntmps9
            go_wp2
            go_ret
            exact ⟨by first | rfl | (simp; done) | (simp [*]; done), by repeat (first | exact Drawn0.refl _ | apply Drawn0.step)⟩
          · rw [if_neg c19] at H
            have c19b0 : (a0 == 215) = false := beq_eq_false_iff_ne.mpr c19
            have c19b1 : (a0 != 215) = true := bne_iff_ne.mpr c19
            obtain rfl := Option.some.inj H
            go_enter Try.func9, Try.ntmps9
            go_wp2
            go_ret
            exact ⟨by first | rfl | (simp; done) | (simp [*]; done), by repeat (first | exact Drawn0.refl _ | apply Drawn0.step)⟩
        · rw [if_neg c18] at H
          have c18b0 : decide (a0 ≤ 591) = false := decide_eq_false c18
          clear c18
          obtain rfl := Option.some.inj H
          go_enter Try.func9, Try.ntmps9
          go_wp2
          go_ret
          exact ⟨by first | rfl | (simp; done) | (simp [*]; done), by repeat (first | exact Drawn0.refl _ | apply Drawn0.step)⟩
      · rw [if_neg c17] at H
        have c17b0 : decide (192 ≤ a0) = false := decide_eq_false c17
        clear c17
        obtain rfl := Option.some.inj H
        go_enter Try.func9, Try.ntmps9
        go_wp2
        go_ret
        exact ⟨by first | rfl | (simp; done) | (simp [*]; done), by repeat (first | exact Drawn0.refl _ | apply Drawn0.step)⟩

/-! ### sign_Digit: function 10 -/
def sign_Digit.f (a0 : Int) : Option (Bool) := if a0 ≥ 48 then (some (decide (a0 ≤ 57))) else (some false)
set_option maxHeartbeats 8000000 in
set_option maxRecDepth 100000 in
theorem sign_Digit.calls (a0 : Int) (r : Bool) (w : World) (h : sign_Digit.f a0 = some r) :
    Calls Try.prog 10 #[.int .i64 a0] w fun e w' => e = .returned (.bool r) ∧ Drawn0 w w' := by
  have H : (if a0 ≥ 48 then (some (decide (a0 ≤ 57))) else (some false)) = some r := h
  clear h
  by_cases c2 : a0 ≥ 48
  · rw [if_pos c2] at H
    have c2b0 : decide (48 ≤ a0) = true := decide_eq_true c2
    clear c2
    obtain rfl := Option.some.inj H
    go_enter Try.func10, Try.ntmps10
    go_wp2
    go_ret
    exact ⟨by first | rfl | (simp; done) | (simp [*]; done), by repeat (first | exact Drawn0.refl _ | apply Drawn0.step)⟩
  · rw [if_neg c2] at H
    have c2b0 : decide (48 ≤ a0) = false := decide_eq_false c2
    clear c2
    obtain rfl := Option.some.inj H
    go_enter Try.func10, Try.ntmps10
    go_wp2
    go_ret
    exact ⟨by first | rfl | (simp; done) | (simp [*]; done), by repeat (first | exact Drawn0.refl _ | apply Drawn0.step)⟩

/-! ### sign_Fold: function 11 -/
def sign_Fold.f (a0 : Int) : Option (Int) := if a0 ≥ 65 then (if a0 ≤ 90 then (some (wrap64 (a0 + 32))) else (if a0 ≥ 192 then (if a0 ≤ 222 then (if a0 = 215 then (some a0) else (some (wrap64 (a0 + 32)))) else (some a0)) else (some a0))) else (if a0 ≥ 192 then (if a0 ≤ 222 then (if a0 = 215 then (some a0) else (some (wrap64 (a0 + 32)))) else (some a0)) else (some a0))
set_option maxHeartbeats 8000000 in
set_option maxRecDepth 100000 in
theorem sign_Fold.calls (a0 : Int) (r : Int) (w : World) (h : sign_Fold.f a0 = some r) :
    Calls Try.prog 11 #[.int .i64 a0] w fun e w' => e = .returned (.int .i64 r) ∧ Drawn0 w w' := by
  have H : (if a0 ≥ 65 then (if a0 ≤ 90 then (some (wrap64 (a0 + 32))) else (if a0 ≥ 192 then (if a0 ≤ 222 then (if a0 = 215 then (some a0) else (some (wrap64 (a0 + 32)))) else (some a0)) else (some a0))) else (if a0 ≥ 192 then (if a0 ≤ 222 then (if a0 = 215 then (some a0) else (some (wrap64 (a0 + 32)))) else (some a0)) else (some a0))) = some r := h
  clear h
  by_cases c2 : a0 ≥ 65
  · rw [if_pos c2] at H
    have c2b0 : decide (65 ≤ a0) = true := decide_eq_true c2
    clear c2
    by_cases c3 : a0 ≤ 90
    · rw [if_pos c3] at H
      have c3b0 : decide (a0 ≤ 90) = true := decide_eq_true c3
      clear c3
      obtain rfl := Option.some.inj H
      go_enter Try.func11, Try.ntmps11
      go_wp2
      go_ret
      exact ⟨by first | rfl | (simp; done) | (simp [*]; done), by repeat (first | exact Drawn0.refl _ | apply Drawn0.step)⟩
    · rw [if_neg c3] at H
      have c3b0 : decide (a0 ≤ 90) = false := decide_eq_false c3
      clear c3
      by_cases c4 : a0 ≥ 192
      · rw [if_pos c4] at H
        have c4b0 : decide (192 ≤ a0) = true := decide_eq_true c4
        clear c4
        by_cases c5 : a0 ≤ 222
        · rw [if_pos c5] at H
          have c5b0 : decide (a0 ≤ 222) = true := decide_eq_true c5
          clear c5
          by_cases c6 : a0 = 215
          · rw [if_pos c6] at H
            have c6b0 : (a0 == 215) = true := beq_iff_eq.mpr c6
            have c6b1 : (a0 != 215) = false := bne_eq_false_iff_eq.mpr c6
            clear c6
            obtain rfl := Option.some.inj H
            go_enter Try.func11, Try.ntmps11
            go_wp2
            go_ret
            exact ⟨by first | rfl | (simp; done) | (simp [*]; done), by repeat (first | exact Drawn0.refl _ | apply Drawn0.step)⟩
          · rw [if_neg c6] at H
            have c6b0 : (a0 == 215) = false := beq_eq_false_iff_ne.mpr c6
            have c6b1 : (a0 != 215) = true := bne_iff_ne.mpr c6
            obtain rfl := Option.some.inj H
            go_enter Try.func11, Try.ntmps11
            go_wp2
            go_ret
            exact ⟨by first | rfl | (simp; done) | (simp [*]; done), by repeat (first | exact Drawn0.refl _ | apply Drawn0.step)⟩
        · rw [if_neg c5] at H
          have c5b0 : decide (a0 ≤ 222) = false := decide_eq_false c5
          clear c5
          obtain rfl := Option.some.inj H
          go_enter Try.func11, Try.ntmps11
          go_wp2
          go_ret
          exact ⟨by first | rfl | (simp; done) | (simp [*]; done), by repeat (first | exact Drawn0.refl _ | apply Drawn0.step)⟩
      · rw [if_neg c4] at H
        have c4b0 : decide (192 ≤ a0) = false := decide_eq_false c4
        clear c4
        obtain rfl := Option.some.inj H
        go_enter Try.func11, Try.ntmps11
        go_wp2
        go_ret
        exact ⟨by first | rfl | (simp; done) | (simp [*]; done), by repeat (first | exact Drawn0.refl _ | apply Drawn0.step)⟩
  · rw [if_neg c2] at H
    have c2b0 : decide (65 ≤ a0) = false := decide_eq_false c2
    clear c2
    by_cases c7 : a0 ≥ 192
    · rw [if_pos c7] at H
      have c7b0 : decide (192 ≤ a0) = true := decide_eq_true c7
      clear c7
      by_cases c8 : a0 ≤ 222
      · rw [if_pos c8] at H
        have c8b0 : decide (a0 ≤ 222) = true := decide_eq_true c8
        clear c8
        by_cases c9 : a0 = 215
        · rw [if_pos c9] at H
          have c9b0 : (a0 == 215) = true := beq_iff_eq.mpr c9
          have c9b1 : (a0 != 215) = false := bne_eq_false_iff_eq.mpr c9
          clear c9
          obtain rfl := Option.some.inj H
          go_enter Try.func11, Try.ntmps11
          go_wp2
          go_ret
          exact ⟨by first | rfl | (simp; done) | (simp [*]; done), by repeat (first | exact Drawn0.refl _ | apply Drawn0.step)⟩
        · rw [if_neg c9] at H
          have c9b0 : (a0 == 215) = false := beq_eq_false_iff_ne.mpr c9
          have c9b1 : (a0 != 215) = true := bne_iff_ne.mpr c9
          obtain rfl := Option.some.inj H
          go_enter Try.func11, Try.ntmps11
          go_wp2
          go_ret
          exact ⟨by first | rfl | (simp; done) | (simp [*]; done), by repeat (first | exact Drawn0.refl _ | apply Drawn0.step)⟩
      · rw [if_neg c8] at H
        have c8b0 : decide (a0 ≤ 222) = false := decide_eq_false c8
        clear c8
        obtain rfl := Option.some.inj H
        go_enter Try.func11, Try.ntmps11
        go_wp2
        go_ret
        exact ⟨by first | rfl | (simp; done) | (simp [*]; done), by repeat (first | exact Drawn0.refl _ | apply Drawn0.step)⟩
    · rw [if_neg c7] at H
      have c7b0 : decide (192 ≤ a0) = false := decide_eq_false c7
      clear c7
      obtain rfl := Option.some.inj H
      go_enter Try.func11, Try.ntmps11
      go_wp2
      go_ret
      exact ⟨by first | rfl | (simp; done) | (simp [*]; done), by repeat (first | exact Drawn0.refl _ | apply Drawn0.step)⟩

/-! ### concordanceref01_Fold: function 12 -/
def concordanceref01_Fold.f (a0 : Int) : Option (Int) := if a0 ≥ 65 then (if a0 ≤ 90 then (some (wrap64 (a0 + 32))) else (if a0 ≥ 192 then (if a0 ≤ 214 then (some (wrap64 (a0 + 32))) else (if a0 ≥ 216 then (if a0 ≤ 222 then (some (wrap64 (a0 + 32))) else (some a0)) else (some a0))) else (if a0 ≥ 216 then (if a0 ≤ 222 then (some (wrap64 (a0 + 32))) else (some a0)) else (some a0)))) else (if a0 ≥ 192 then (if a0 ≤ 214 then (some (wrap64 (a0 + 32))) else (if a0 ≥ 216 then (if a0 ≤ 222 then (some (wrap64 (a0 + 32))) else (some a0)) else (some a0))) else (if a0 ≥ 216 then (if a0 ≤ 222 then (some (wrap64 (a0 + 32))) else (some a0)) else (some a0)))
set_option maxHeartbeats 8000000 in
set_option maxRecDepth 100000 in
theorem concordanceref01_Fold.calls (a0 : Int) (r : Int) (w : World) (h : concordanceref01_Fold.f a0 = some r) :
    Calls Try.prog 12 #[.int .i64 a0] w fun e w' => e = .returned (.int .i64 r) ∧ Drawn0 w w' := by
  have H : (if a0 ≥ 65 then (if a0 ≤ 90 then (some (wrap64 (a0 + 32))) else (if a0 ≥ 192 then (if a0 ≤ 214 then (some (wrap64 (a0 + 32))) else (if a0 ≥ 216 then (if a0 ≤ 222 then (some (wrap64 (a0 + 32))) else (some a0)) else (some a0))) else (if a0 ≥ 216 then (if a0 ≤ 222 then (some (wrap64 (a0 + 32))) else (some a0)) else (some a0)))) else (if a0 ≥ 192 then (if a0 ≤ 214 then (some (wrap64 (a0 + 32))) else (if a0 ≥ 216 then (if a0 ≤ 222 then (some (wrap64 (a0 + 32))) else (some a0)) else (some a0))) else (if a0 ≥ 216 then (if a0 ≤ 222 then (some (wrap64 (a0 + 32))) else (some a0)) else (some a0)))) = some r := h
  clear h
  by_cases c2 : a0 ≥ 65
  · rw [if_pos c2] at H
    have c2b0 : decide (65 ≤ a0) = true := decide_eq_true c2
    clear c2
    by_cases c3 : a0 ≤ 90
    · rw [if_pos c3] at H
      have c3b0 : decide (a0 ≤ 90) = true := decide_eq_true c3
      clear c3
      obtain rfl := Option.some.inj H
      go_enter Try.func12, Try.ntmps12
      go_wp2
      go_ret
      exact ⟨by first | rfl | (simp; done) | (simp [*]; done), by repeat (first | exact Drawn0.refl _ | apply Drawn0.step)⟩
    · rw [if_neg c3] at H
      have c3b0 : decide (a0 ≤ 90) = false := decide_eq_false c3
      clear c3
      by_cases c4 : a0 ≥ 192
      · rw [if_pos c4] at H
        have c4b0 : decide (192 ≤ a0) = true := decide_eq_true c4
        clear c4
        by_cases c5 : a0 ≤ 214
        · rw [if_pos c5] at H
          have c5b0 : decide (a0 ≤ 214) = true := decide_eq_true c5
          clear c5
          obtain rfl := Option.some.inj H
          go_enter Try.func12, Try.ntmps12
          go_wp2
          go_ret
          exact ⟨by first | rfl | (simp; done) | (simp [*]; done), by repeat (first | exact Drawn0.refl _ | apply Drawn0.step)⟩
        · rw [if_neg c5] at H
          have c5b0 : decide (a0 ≤ 214) = false := decide_eq_false c5
          clear c5
          by_cases c6 : a0 ≥ 216
          · rw [if_pos c6] at H
            have c6b0 : decide (216 ≤ a0) = true := decide_eq_true c6
            clear c6
            by_cases c7 : a0 ≤ 222
            · rw [if_pos c7] at H
              have c7b0 : decide (a0 ≤ 222) = true := decide_eq_true c7
              clear c7
              obtain rfl := Option.some.inj H
              go_enter Try.func12, Try.ntmps12
              go_wp2
              go_ret
              exact ⟨by first | rfl | (simp; done) | (simp [*]; done), by repeat (first | exact Drawn0.refl _ | apply Drawn0.step)⟩
            · rw [if_neg c7] at H
              have c7b0 : decide (a0 ≤ 222) = false := decide_eq_false c7
              clear c7
              obtain rfl := Option.some.inj H
              go_enter Try.func12, Try.ntmps12
              go_wp2
              go_ret
              exact ⟨by first | rfl | (simp; done) | (simp [*]; done), by repeat (first | exact Drawn0.refl _ | apply Drawn0.step)⟩
          · rw [if_neg c6] at H
            have c6b0 : decide (216 ≤ a0) = false := decide_eq_false c6
            clear c6
            obtain rfl := Option.some.inj H
            go_enter Try.func12, Try.ntmps12
            go_wp2
            go_ret
            exact ⟨by first | rfl | (simp; done) | (simp [*]; done), by repeat (first | exact Drawn0.refl _ | apply Drawn0.step)⟩
      · rw [if_neg c4] at H
        have c4b0 : decide (192 ≤ a0) = false := decide_eq_false c4
        clear c4
        by_cases c8 : a0 ≥ 216
        · rw [if_pos c8] at H
          have c8b0 : decide (216 ≤ a0) = true := decide_eq_true c8
          clear c8
          by_cases c9 : a0 ≤ 222
          · rw [if_pos c9] at H
            have c9b0 : decide (a0 ≤ 222) = true := decide_eq_true c9
            clear c9
            obtain rfl := Option.some.inj H
            go_enter Try.func12, Try.ntmps12
            go_wp2
            go_ret
            exact ⟨by first | rfl | (simp; done) | (simp [*]; done), by repeat (first | exact Drawn0.refl _ | apply Drawn0.step)⟩
          · rw [if_neg c9] at H
            have c9b0 : decide (a0 ≤ 222) = false := decide_eq_false c9
            clear c9
            obtain rfl := Option.some.inj H
            go_enter Try.func12, Try.ntmps12
            go_wp2
            go_ret
            exact ⟨by first | rfl | (simp; done) | (simp [*]; done), by repeat (first | exact Drawn0.refl _ | apply Drawn0.step)⟩
        · rw [if_neg c8] at H
          have c8b0 : decide (216 ≤ a0) = false := decide_eq_false c8
          clear c8
          obtain rfl := Option.some.inj H
          go_enter Try.func12, Try.ntmps12
          go_wp2
          go_ret
          exact ⟨by first | rfl | (simp; done) | (simp [*]; done), by repeat (first | exact Drawn0.refl _ | apply Drawn0.step)⟩
  · rw [if_neg c2] at H
    have c2b0 : decide (65 ≤ a0) = false := decide_eq_false c2
    clear c2
    by_cases c10 : a0 ≥ 192
    · rw [if_pos c10] at H
      have c10b0 : decide (192 ≤ a0) = true := decide_eq_true c10
      clear c10
      by_cases c11 : a0 ≤ 214
      · rw [if_pos c11] at H
        have c11b0 : decide (a0 ≤ 214) = true := decide_eq_true c11
        clear c11
        obtain rfl := Option.some.inj H
        go_enter Try.func12, Try.ntmps12
        go_wp2
        go_ret
        exact ⟨by first | rfl | (simp; done) | (simp [*]; done), by repeat (first | exact Drawn0.refl _ | apply Drawn0.step)⟩
      · rw [if_neg c11] at H
        have c11b0 : decide (a0 ≤ 214) = false := decide_eq_false c11
        clear c11
        by_cases c12 : a0 ≥ 216
        · rw [if_pos c12] at H
          have c12b0 : decide (216 ≤ a0) = true := decide_eq_true c12
          clear c12
          by_cases c13 : a0 ≤ 222
          · rw [if_pos c13] at H
            have c13b0 : decide (a0 ≤ 222) = true := decide_eq_true c13
            clear c13
            obtain rfl := Option.some.inj H
            go_enter Try.func12, Try.ntmps12
            go_wp2
            go_ret
            exact ⟨by first | rfl | (simp; done) | (simp [*]; done), by repeat (first | exact Drawn0.refl _ | apply Drawn0.step)⟩
          · rw [if_neg c13] at H
            have c13b0 : decide (a0 ≤ 222) = false := decide_eq_false c13
            clear c13
            obtain rfl := Option.some.inj H
            go_enter Try.func12, Try.ntmps12
            go_wp2
            go_ret
            exact ⟨by first | rfl | (simp; done) | (simp [*]; done), by repeat (first | exact Drawn0.refl _ | apply Drawn0.step)⟩
        · rw [if_neg c12] at H
          have c12b0 : decide (216 ≤ a0) = false := decide_eq_false c12
          clear c12
          obtain rfl := Option.some.inj H
          go_enter Try.func12, Try.ntmps12
          go_wp2
          go_ret
          exact ⟨by first | rfl | (simp; done) | (simp [*]; done), by repeat (first | exact Drawn0.refl _ | apply Drawn0.step)⟩
    · rw [if_neg c10] at H
      have c10b0 : decide (192 ≤ a0) = false := decide_eq_false c10
      clear c10
      by_cases c14 : a0 ≥ 216
      · rw [if_pos c14] at H
        have c14b0 : decide (216 ≤ a0) = true := decide_eq_true c14
        clear c14
        by_cases c15 : a0 ≤ 222
        · rw [if_pos c15] at H
          have c15b0 : decide (a0 ≤ 222) = true := decide_eq_true c15
          clear c15
          obtain rfl := Option.some.inj H
          go_enter Try.func12, Try.ntmps12
          go_wp2
          go_ret
          exact ⟨by first | rfl | (simp; done) | (simp [*]; done), by repeat (first | exact Drawn0.refl _ | apply Drawn0.step)⟩
        · rw [if_neg c15] at H
          have c15b0 : decide (a0 ≤ 222) = false := decide_eq_false c15
          clear c15
          obtain rfl := Option.some.inj H
          go_enter Try.func12, Try.ntmps12
          go_wp2
          go_ret
          exact ⟨by first | rfl | (simp; done) | (simp [*]; done), by repeat (first | exact Drawn0.refl _ | apply Drawn0.step)⟩
      · rw [if_neg c14] at H
        have c14b0 : decide (216 ≤ a0) = false := decide_eq_false c14
        clear c14
        obtain rfl := Option.some.inj H
        go_enter Try.func12, Try.ntmps12
        go_wp2
        go_ret
        exact ⟨by first | rfl | (simp; done) | (simp [*]; done), by repeat (first | exact Drawn0.refl _ | apply Drawn0.step)⟩

-- EXTERN: function 16 (sign_Signs): module SignsE

/-! ### concordancelaw01_lives: function 13 -/
def concordancelaw01_lives.f  : Option (Bool) := (sign_Signs.f (⟨#[97, 255]⟩ : ByteArray)).bind fun t101 => (if (t101.length : Int) = 2 then (if 0 < (t101.length : Int) then (if (rd t101 0) = 97 then (if 1 < (t101.length : Int) then (if (rd t101 1) = 65533 then ((sign_Fold.f 196).bind fun t106 => (if t106 = 228 then ((sign_Letter.f 196).bind fun t107 => (some t107)) else (some false))) else (some false)) else (none)) else (some false)) else (none)) else (some false))
set_option maxHeartbeats 8000000 in
set_option maxRecDepth 100000 in
theorem concordancelaw01_lives.calls  (r : Bool) (w : World) (h : concordancelaw01_lives.f  = some r) :
    Calls Try.prog 13 #[] w fun e w' => e = .returned (.bool r) ∧ Below w.heap.size w w' := by
  have HB := Aside0.mk (Below.refl w.heap.size w)
  have H : ((sign_Signs.f (⟨#[97, 255]⟩ : ByteArray)).bind fun t101 => (if (t101.length : Int) = 2 then (if 0 < (t101.length : Int) then (if (rd t101 0) = 97 then (if 1 < (t101.length : Int) then (if (rd t101 1) = 65533 then ((sign_Fold.f 196).bind fun t106 => (if t106 = 228 then ((sign_Letter.f 196).bind fun t107 => (some t107)) else (some false))) else (some false)) else (none)) else (some false)) else (none)) else (some false))) = some r := h
  clear h
  replace H := Option.bind_eq_some_iff.mp H
  obtain ⟨t101, A10, H⟩ := H
  replace H : (if (t101.length : Int) = 2 then (if 0 < (t101.length : Int) then (if (rd t101 0) = 97 then (if 1 < (t101.length : Int) then (if (rd t101 1) = 65533 then ((sign_Fold.f 196).bind fun t106 => (if t106 = 228 then ((sign_Letter.f 196).bind fun t107 => (some t107)) else (some false))) else (some false)) else (none)) else (some false)) else (none)) else (some false)) = some r := H
  have A1 := Aside0.mk A10
  clear A10
  by_cases c2 : (t101.length : Int) = 2
  · rw [if_pos c2] at H
    have c2b0 : ((t101.length : Int) == 2) = true := beq_iff_eq.mpr c2
    have c2b1 : ((t101.length : Int) != 2) = false := bne_eq_false_iff_eq.mpr c2
    clear c2
    by_cases c3 : 0 < (t101.length : Int)
    · rw [if_pos c3] at H
      have c3b0 : decide (0 < (t101.length : Int)) = true := decide_eq_true c3
      have c3b1 : decide (0 < t101.length) = true := decide_eq_true (by omega)
      clear c3
      by_cases c4 : (rd t101 0) = 97
      · rw [if_pos c4] at H
        have c4b0 : ((rd t101 0) == 97) = true := beq_iff_eq.mpr c4
        have c4b1 : ((rd t101 0) != 97) = false := bne_eq_false_iff_eq.mpr c4
        clear c4
        by_cases c5 : 1 < (t101.length : Int)
        · rw [if_pos c5] at H
          have c5b0 : decide (1 < (t101.length : Int)) = true := decide_eq_true c5
          have c5b1 : decide (1 < t101.length) = true := decide_eq_true (by omega)
          clear c5
          by_cases c6 : (rd t101 1) = 65533
          · rw [if_pos c6] at H
            have c6b0 : ((rd t101 1) == 65533) = true := beq_iff_eq.mpr c6
            have c6b1 : ((rd t101 1) != 65533) = false := bne_eq_false_iff_eq.mpr c6
            clear c6
            replace H := Option.bind_eq_some_iff.mp H
            obtain ⟨t106, A70, H⟩ := H
            replace H : (if t106 = 228 then ((sign_Letter.f 196).bind fun t107 => (some t107)) else (some false)) = some r := H
            have A7 := Aside0.mk A70
            clear A70
            by_cases c8 : t106 = 228
            · rw [if_pos c8] at H
              have c8b0 : (t106 == 228) = true := beq_iff_eq.mpr c8
              have c8b1 : (t106 != 228) = false := bne_eq_false_iff_eq.mpr c8
              clear c8
              replace H := Option.bind_eq_some_iff.mp H
              obtain ⟨t107, A90, H⟩ := H
              replace H : (some t107) = some r := H
              have A9 := Aside0.mk A90
              clear A90
              obtain rfl := Option.some.inj H
              go_enter Try.func13, Try.ntmps13
              go_wp2_with (first | ((with_reducible refine gate_callee (f := 16) rfl ?_); refine goesL_ (some 2) rfl rfl Try.func16 (by kernel_rfl) rfl #[.string (⟨#[97, 255]⟩ : ByteArray)] rfl (by (try simp only [List.map_toArray, List.map_cons, List.map_nil]); first | done | rfl | (simp only [List.length_drop, List.length_take]; rfl)) ?_; (with_reducible refine (sign_Signs.calls (⟨#[97, 255]⟩ : ByteArray) t101 _ A1.out).mono ?_); rintro e w10 ⟨v102, rfl, ho0, hb⟩; refine ⟨_, rfl, ?_⟩; have n0_ := Aside0.mk (Kd.R_lower ho0 (below_size (by repeat (first | (with_reducible first | exact HB.out | apply below_alloc | apply pw_below_drewN | apply below_drew1) | exact HB.out)))); have n1_ := Aside0.mk (below_step (by repeat (first | (with_reducible first | exact HB.out | apply below_alloc | apply pw_below_drewN | apply below_drew1) | exact HB.out)) hb); clear HB; have HO103 := n0_; have HB := n1_; clear n0_ n1_; (try clear hb); (try clear hb2); (try clear hk); (try clear hi); (try clear ho0); obtain ⟨Ao11, co11, eo11⟩ := Kd.R_slice HO103.out; subst eo11; have p104 : 0 ≤ (0 : Int) := (by omega); have q104 : 0 < (t101.length : Int) := of_decide_eq_true (by first | (with_reducible assumption) | assumption); obtain ⟨ad104, e104, hx104_0⟩ := Kd.at_int (Kd.R_reads' HO103.out).2.2 0 p104 q104; cases e104; have qi104 : (0 < t101.length) = True := eq_true (by omega); (try rw [show ((0 : Int)).toNat = 0 from rfl] at hx104_0); (try rw [Addr.add_zero'] at hx104_0); replace p104 := eq_true p104; replace q104 := eq_true q104; have p105 : 0 ≤ (1 : Int) := (by omega); have q105 : 1 < (t101.length : Int) := of_decide_eq_true (by first | (with_reducible assumption) | assumption); obtain ⟨ad105, e105, hx105_0⟩ := Kd.at_int (Kd.R_reads' HO103.out).2.2 1 p105 q105; obtain rfl : ad104 = ad105 := (by injection e105); (try simp only [show (1 : Int).toNat = 1 from rfl, Nat.reduceMul, Nat.reduceEqDiff, Go.Addr.add, ↓reduceIte] at hx105_0); have qi105 : (1 < t101.length) = True := eq_true (by omega); (try rw [show ((1 : Int)).toNat = 1 from rfl] at hx105_0); replace p105 := eq_true p105; replace q105 := eq_true q105) | (go_at_call 11; (with_reducible refine (sign_Fold.calls 196 t106 _ A7.out).mono ?_); rintro e w' ⟨rfl, ⟨nd, rfl⟩⟩) | (go_at_call 8; (with_reducible refine (sign_Letter.calls 196 t107 _ A9.out).mono ?_); rintro e w' ⟨rfl, ⟨nd, rfl⟩⟩))
              go_ret
              exact ⟨by first | rfl | (simp [errW_none, errW_some] <;> rfl) | (simp [*, errW_none, errW_some] <;> rfl), by repeat (first | (with_reducible first | exact HB.out | apply below_alloc | apply pw_below_drewN | apply below_drew1) | exact HB.out)⟩
            · rw [if_neg c8] at H
              have c8b0 : (t106 == 228) = false := beq_eq_false_iff_ne.mpr c8
              have c8b1 : (t106 != 228) = true := bne_iff_ne.mpr c8
              obtain rfl := Option.some.inj H
              go_enter Try.func13, Try.ntmps13
              go_wp2_with (first | ((with_reducible refine gate_callee (f := 16) rfl ?_); refine goesL_ (some 2) rfl rfl Try.func16 (by kernel_rfl) rfl #[.string (⟨#[97, 255]⟩ : ByteArray)] rfl (by (try simp only [List.map_toArray, List.map_cons, List.map_nil]); first | done | rfl | (simp only [List.length_drop, List.length_take]; rfl)) ?_; (with_reducible refine (sign_Signs.calls (⟨#[97, 255]⟩ : ByteArray) t101 _ A1.out).mono ?_); rintro e w12 ⟨v102, rfl, ho0, hb⟩; refine ⟨_, rfl, ?_⟩; have n0_ := Aside0.mk (Kd.R_lower ho0 (below_size (by repeat (first | (with_reducible first | exact HB.out | apply below_alloc | apply pw_below_drewN | apply below_drew1) | exact HB.out)))); have n1_ := Aside0.mk (below_step (by repeat (first | (with_reducible first | exact HB.out | apply below_alloc | apply pw_below_drewN | apply below_drew1) | exact HB.out)) hb); clear HB; have HO103 := n0_; have HB := n1_; clear n0_ n1_; (try clear hb); (try clear hb2); (try clear hk); (try clear hi); (try clear ho0); obtain ⟨Ao13, co13, eo13⟩ := Kd.R_slice HO103.out; subst eo13; have p104 : 0 ≤ (0 : Int) := (by omega); have q104 : 0 < (t101.length : Int) := of_decide_eq_true (by first | (with_reducible assumption) | assumption); obtain ⟨ad104, e104, hx104_0⟩ := Kd.at_int (Kd.R_reads' HO103.out).2.2 0 p104 q104; cases e104; have qi104 : (0 < t101.length) = True := eq_true (by omega); (try rw [show ((0 : Int)).toNat = 0 from rfl] at hx104_0); (try rw [Addr.add_zero'] at hx104_0); replace p104 := eq_true p104; replace q104 := eq_true q104; have p105 : 0 ≤ (1 : Int) := (by omega); have q105 : 1 < (t101.length : Int) := of_decide_eq_true (by first | (with_reducible assumption) | assumption); obtain ⟨ad105, e105, hx105_0⟩ := Kd.at_int (Kd.R_reads' HO103.out).2.2 1 p105 q105; obtain rfl : ad104 = ad105 := (by injection e105); (try simp only [show (1 : Int).toNat = 1 from rfl, Nat.reduceMul, Nat.reduceEqDiff, Go.Addr.add, ↓reduceIte] at hx105_0); have qi105 : (1 < t101.length) = True := eq_true (by omega); (try rw [show ((1 : Int)).toNat = 1 from rfl] at hx105_0); replace p105 := eq_true p105; replace q105 := eq_true q105) | (go_at_call 11; (with_reducible refine (sign_Fold.calls 196 t106 _ A7.out).mono ?_); rintro e w' ⟨rfl, ⟨nd, rfl⟩⟩))
              go_ret
              exact ⟨by first | rfl | (simp [errW_none, errW_some] <;> rfl) | (simp [*, errW_none, errW_some] <;> rfl), by repeat (first | (with_reducible first | exact HB.out | apply below_alloc | apply pw_below_drewN | apply below_drew1) | exact HB.out)⟩
          · rw [if_neg c6] at H
            have c6b0 : ((rd t101 1) == 65533) = false := beq_eq_false_iff_ne.mpr c6
            have c6b1 : ((rd t101 1) != 65533) = true := bne_iff_ne.mpr c6
            obtain rfl := Option.some.inj H
            go_enter Try.func13, Try.ntmps13
            go_wp2_with (first | ((with_reducible refine gate_callee (f := 16) rfl ?_); refine goesL_ (some 2) rfl rfl Try.func16 (by kernel_rfl) rfl #[.string (⟨#[97, 255]⟩ : ByteArray)] rfl (by (try simp only [List.map_toArray, List.map_cons, List.map_nil]); first | done | rfl | (simp only [List.length_drop, List.length_take]; rfl)) ?_; (with_reducible refine (sign_Signs.calls (⟨#[97, 255]⟩ : ByteArray) t101 _ A1.out).mono ?_); rintro e w14 ⟨v102, rfl, ho0, hb⟩; refine ⟨_, rfl, ?_⟩; have n0_ := Aside0.mk (Kd.R_lower ho0 (below_size (by repeat (first | (with_reducible first | exact HB.out | apply below_alloc | apply pw_below_drewN | apply below_drew1) | exact HB.out)))); have n1_ := Aside0.mk (below_step (by repeat (first | (with_reducible first | exact HB.out | apply below_alloc | apply pw_below_drewN | apply below_drew1) | exact HB.out)) hb); clear HB; have HO103 := n0_; have HB := n1_; clear n0_ n1_; (try clear hb); (try clear hb2); (try clear hk); (try clear hi); (try clear ho0); obtain ⟨Ao15, co15, eo15⟩ := Kd.R_slice HO103.out; subst eo15; have p104 : 0 ≤ (0 : Int) := (by omega); have q104 : 0 < (t101.length : Int) := of_decide_eq_true (by first | (with_reducible assumption) | assumption); obtain ⟨ad104, e104, hx104_0⟩ := Kd.at_int (Kd.R_reads' HO103.out).2.2 0 p104 q104; cases e104; have qi104 : (0 < t101.length) = True := eq_true (by omega); (try rw [show ((0 : Int)).toNat = 0 from rfl] at hx104_0); (try rw [Addr.add_zero'] at hx104_0); replace p104 := eq_true p104; replace q104 := eq_true q104; have p105 : 0 ≤ (1 : Int) := (by omega); have q105 : 1 < (t101.length : Int) := of_decide_eq_true (by first | (with_reducible assumption) | assumption); obtain ⟨ad105, e105, hx105_0⟩ := Kd.at_int (Kd.R_reads' HO103.out).2.2 1 p105 q105; obtain rfl : ad104 = ad105 := (by injection e105); (try simp only [show (1 : Int).toNat = 1 from rfl, Nat.reduceMul, Nat.reduceEqDiff, Go.Addr.add, ↓reduceIte] at hx105_0); have qi105 : (1 < t101.length) = True := eq_true (by omega); (try rw [show ((1 : Int)).toNat = 1 from rfl] at hx105_0); replace p105 := eq_true p105; replace q105 := eq_true q105))
            go_ret
            exact ⟨by first | rfl | (simp [errW_none, errW_some] <;> rfl) | (simp [*, errW_none, errW_some] <;> rfl), by repeat (first | (with_reducible first | exact HB.out | apply below_alloc | apply pw_below_drewN | apply below_drew1) | exact HB.out)⟩
        · rw [if_neg c5] at H
          exact absurd H (by simp)
      · rw [if_neg c4] at H
        have c4b0 : ((rd t101 0) == 97) = false := beq_eq_false_iff_ne.mpr c4
        have c4b1 : ((rd t101 0) != 97) = true := bne_iff_ne.mpr c4
        obtain rfl := Option.some.inj H
        go_enter Try.func13, Try.ntmps13
        go_wp2_with (first | ((with_reducible refine gate_callee (f := 16) rfl ?_); refine goesL_ (some 2) rfl rfl Try.func16 (by kernel_rfl) rfl #[.string (⟨#[97, 255]⟩ : ByteArray)] rfl (by (try simp only [List.map_toArray, List.map_cons, List.map_nil]); first | done | rfl | (simp only [List.length_drop, List.length_take]; rfl)) ?_; (with_reducible refine (sign_Signs.calls (⟨#[97, 255]⟩ : ByteArray) t101 _ A1.out).mono ?_); rintro e w16 ⟨v102, rfl, ho0, hb⟩; refine ⟨_, rfl, ?_⟩; have n0_ := Aside0.mk (Kd.R_lower ho0 (below_size (by repeat (first | (with_reducible first | exact HB.out | apply below_alloc | apply pw_below_drewN | apply below_drew1) | exact HB.out)))); have n1_ := Aside0.mk (below_step (by repeat (first | (with_reducible first | exact HB.out | apply below_alloc | apply pw_below_drewN | apply below_drew1) | exact HB.out)) hb); clear HB; have HO103 := n0_; have HB := n1_; clear n0_ n1_; (try clear hb); (try clear hb2); (try clear hk); (try clear hi); (try clear ho0); obtain ⟨Ao17, co17, eo17⟩ := Kd.R_slice HO103.out; subst eo17; have p104 : 0 ≤ (0 : Int) := (by omega); have q104 : 0 < (t101.length : Int) := of_decide_eq_true (by first | (with_reducible assumption) | assumption); obtain ⟨ad104, e104, hx104_0⟩ := Kd.at_int (Kd.R_reads' HO103.out).2.2 0 p104 q104; cases e104; have qi104 : (0 < t101.length) = True := eq_true (by omega); (try rw [show ((0 : Int)).toNat = 0 from rfl] at hx104_0); (try rw [Addr.add_zero'] at hx104_0); replace p104 := eq_true p104; replace q104 := eq_true q104))
        go_ret
        exact ⟨by first | rfl | (simp [errW_none, errW_some] <;> rfl) | (simp [*, errW_none, errW_some] <;> rfl), by repeat (first | (with_reducible first | exact HB.out | apply below_alloc | apply pw_below_drewN | apply below_drew1) | exact HB.out)⟩
    · rw [if_neg c3] at H
      exact absurd H (by simp)
  · rw [if_neg c2] at H
    have c2b0 : ((t101.length : Int) == 2) = false := beq_eq_false_iff_ne.mpr c2
    have c2b1 : ((t101.length : Int) != 2) = true := bne_iff_ne.mpr c2
    obtain rfl := Option.some.inj H
    go_enter Try.func13, Try.ntmps13
    go_wp2_with (first | ((with_reducible refine gate_callee (f := 16) rfl ?_); refine goesL_ (some 2) rfl rfl Try.func16 (by kernel_rfl) rfl #[.string (⟨#[97, 255]⟩ : ByteArray)] rfl (by (try simp only [List.map_toArray, List.map_cons, List.map_nil]); first | done | rfl | (simp only [List.length_drop, List.length_take]; rfl)) ?_; (with_reducible refine (sign_Signs.calls (⟨#[97, 255]⟩ : ByteArray) t101 _ A1.out).mono ?_); rintro e w18 ⟨v102, rfl, ho0, hb⟩; refine ⟨_, rfl, ?_⟩; have n0_ := Aside0.mk (Kd.R_lower ho0 (below_size (by repeat (first | (with_reducible first | exact HB.out | apply below_alloc | apply pw_below_drewN | apply below_drew1) | exact HB.out)))); have n1_ := Aside0.mk (below_step (by repeat (first | (with_reducible first | exact HB.out | apply below_alloc | apply pw_below_drewN | apply below_drew1) | exact HB.out)) hb); clear HB; have HO103 := n0_; have HB := n1_; clear n0_ n1_; (try clear hb); (try clear hb2); (try clear hk); (try clear hi); (try clear ho0); obtain ⟨Ao19, co19, eo19⟩ := Kd.R_slice HO103.out; subst eo19))
    go_ret
    exact ⟨by first | rfl | (simp [errW_none, errW_some] <;> rfl) | (simp [*, errW_none, errW_some] <;> rfl), by repeat (first | (with_reducible first | exact HB.out | apply below_alloc | apply pw_below_drewN | apply below_drew1) | exact HB.out)⟩

end Go.Proofs.Ytllmhgkhamoplaa.PAll
