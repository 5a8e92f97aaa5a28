-- written by a program of this session (wip/px): the walk of printed functions
import Derived.Test.YteidebllianiiaaGreatDoorPAllx0
import Derived.Test.YteidebllianiiaaGreatDoorSq
namespace Go.Proofs.YteidebllianiiaaGreatDoor.PAll
open Go.RowKit Go.Proofs.YteidebllianiiaaGreatDoorW.PrintWords Go.Proofs.YteidebllianiiaaGreatDoorW.PrintLast Go.Proofs.YteidebllianiiaaGreatDoorW.PrintMore
attribute [local go_sem] max2_int min2_int max_two min_two max_three min_three max_four min_four   -- for this text's walks alone
set_option linter.unusedVariables false
set_option linter.unusedSimpArgs false

/-! ### concordanceref01_Letter: function 131 -/
def concordanceref01_Letter.f (a0 : Int) : Option (Bool) := if a0 ≥ 97 then (if a0 ≤ 122 then (some true) else (if a0 ≥ 65 then (if a0 ≤ 90 then (some true) else (if a0 ≥ 192 then (if a0 ≤ 591 then (if a0 = 215 then (some false) else (some (a0 != 247))) else (some false)) else (some false))) else (if a0 ≥ 192 then (if a0 ≤ 591 then (if a0 = 215 then (some false) else (some (a0 != 247))) else (some false)) else (some false)))) else (if a0 ≥ 65 then (if a0 ≤ 90 then (some true) else (if a0 ≥ 192 then (if a0 ≤ 591 then (if a0 = 215 then (some false) else (some (a0 != 247))) else (some false)) else (some false))) else (if a0 ≥ 192 then (if a0 ≤ 591 then (if a0 = 215 then (some false) else (some (a0 != 247))) else (some false)) else (some false)))
set_option maxHeartbeats 8000000 in
set_option maxRecDepth 100000 in
theorem concordanceref01_Letter.calls (a0 : Int) (r : Bool) (w : World) (h : concordanceref01_Letter.f a0 = some r) :
  Calls Tryz.prog 131 #[.int .i64 a0] w fun e w' => e = .returned (.bool r) ∧ Drawn0 w w' := by
 have H : (if a0 ≥ 97 then (if a0 ≤ 122 then (some true) else (if a0 ≥ 65 then (if a0 ≤ 90 then (some true) else (if a0 ≥ 192 then (if a0 ≤ 591 then (if a0 = 215 then (some false) else (some (a0 != 247))) else (some false)) else (some false))) else (if a0 ≥ 192 then (if a0 ≤ 591 then (if a0 = 215 then (some false) else (some (a0 != 247))) else (some false)) else (some false)))) else (if a0 ≥ 65 then (if a0 ≤ 90 then (some true) else (if a0 ≥ 192 then (if a0 ≤ 591 then (if a0 = 215 then (some false) else (some (a0 != 247))) else (some false)) else (some false))) else (if a0 ≥ 192 then (if a0 ≤ 591 then (if a0 = 215 then (some false) else (some (a0 != 247))) else (some false)) else (some false)))) = some r := h
 clear h
 by_cases c2 : a0 ≥ 97
 ·rw [if_pos c2] at H
  have c2b0 : decide (97 ≤ a0) = true := decide_eq_true c2
  clear c2
  by_cases c3 : a0 ≤ 122
  ·rw [if_pos c3] at H
   have c3b0 : decide (a0 ≤ 122) = true := decide_eq_true c3
   clear c3
   obtain rfl := Option.some.inj H
   go_enter Tryz.func131, Tryz.ntmps131
   go_wp2
   go_ret
   exact ⟨by first | rfl | (simp; done) | (simp [*]; done), by repeat (first | exact Drawn0.refl _ | apply Drawn0.step)⟩
  ·rw [if_neg c3] at H
   have c3b0 : decide (a0 ≤ 122) = false := decide_eq_false c3
   clear c3
   by_cases c4 : a0 ≥ 65
   ·rw [if_pos c4] at H
    have c4b0 : decide (65 ≤ a0) = true := decide_eq_true c4
    clear c4
    by_cases c5 : a0 ≤ 90
    ·rw [if_pos c5] at H
     have c5b0 : decide (a0 ≤ 90) = true := decide_eq_true c5
     clear c5
     obtain rfl := Option.some.inj H
     go_enter Tryz.func131, Tryz.ntmps131
     go_wp2
     go_ret
     exact ⟨by first | rfl | (simp; done) | (simp [*]; done), by repeat (first | exact Drawn0.refl _ | apply Drawn0.step)⟩
    ·rw [if_neg c5] at H
     have c5b0 : decide (a0 ≤ 90) = false := decide_eq_false c5
     clear c5
     by_cases c6 : a0 ≥ 192
     ·rw [if_pos c6] at H
      have c6b0 : decide (192 ≤ a0) = true := decide_eq_true c6
      clear c6
      by_cases c7 : a0 ≤ 591
      ·rw [if_pos c7] at H
       have c7b0 : decide (a0 ≤ 591) = true := decide_eq_true c7
       clear c7
       by_cases c8 : a0 = 215
       ·rw [if_pos c8] at H
        have c8b0 : (a0 == 215) = true := beq_iff_eq.mpr c8
        have c8b1 : (a0 != 215) = false := bne_eq_false_iff_eq.mpr c8
        clear c8
        obtain rfl := Option.some.inj H
        go_enter Tryz.func131, Tryz.ntmps131
        go_wp2
        go_ret
        exact ⟨by first | rfl | (simp; done) | (simp [*]; done), by repeat (first | exact Drawn0.refl _ | apply Drawn0.step)⟩
       ·rw [if_neg c8] at H
        have c8b0 : (a0 == 215) = false := beq_eq_false_iff_ne.mpr c8
        have c8b1 : (a0 != 215) = true := bne_iff_ne.mpr c8
        obtain rfl := Option.some.inj H
        go_enter Tryz.func131, Tryz.ntmps131
        go_wp2
        go_ret
        exact ⟨by first | rfl | (simp; done) | (simp [*]; done), by repeat (first | exact Drawn0.refl _ | apply Drawn0.step)⟩
      ·rw [if_neg c7] at H
       have c7b0 : decide (a0 ≤ 591) = false := decide_eq_false c7
       clear c7
       obtain rfl := Option.some.inj H
       go_enter Tryz.func131, Tryz.ntmps131
       go_wp2
       go_ret
       exact ⟨by first | rfl | (simp; done) | (simp [*]; done), by repeat (first | exact Drawn0.refl _ | apply Drawn0.step)⟩
     ·rw [if_neg c6] at H
      have c6b0 : decide (192 ≤ a0) = false := decide_eq_false c6
      clear c6
      obtain rfl := Option.some.inj H
      go_enter Tryz.func131, Tryz.ntmps131
      go_wp2
      go_ret
      exact ⟨by first | rfl | (simp; done) | (simp [*]; done), by repeat (first | exact Drawn0.refl _ | apply Drawn0.step)⟩
   ·rw [if_neg c4] at H
    have c4b0 : decide (65 ≤ a0) = false := decide_eq_false c4
    clear c4
    by_cases c9 : a0 ≥ 192
    ·rw [if_pos c9] at H
     have c9b0 : decide (192 ≤ a0) = true := decide_eq_true c9
     clear c9
     by_cases c10 : a0 ≤ 591
     ·rw [if_pos c10] at H
      have c10b0 : decide (a0 ≤ 591) = true := decide_eq_true c10
      clear c10
      by_cases c11 : a0 = 215
      ·rw [if_pos c11] at H
       have c11b0 : (a0 == 215) = true := beq_iff_eq.mpr c11
       have c11b1 : (a0 != 215) = false := bne_eq_false_iff_eq.mpr c11
       clear c11
       obtain rfl := Option.some.inj H
       go_enter Tryz.func131, Tryz.ntmps131
       go_wp2
       go_ret
       exact ⟨by first | rfl | (simp; done) | (simp [*]; done), by repeat (first | exact Drawn0.refl _ | apply Drawn0.step)⟩
      ·rw [if_neg c11] at H
       have c11b0 : (a0 == 215) = false := beq_eq_false_iff_ne.mpr c11
       have c11b1 : (a0 != 215) = true := bne_iff_ne.mpr c11
       obtain rfl := Option.some.inj H
       go_enter Tryz.func131, Tryz.ntmps131
       go_wp2
       go_ret
       exact ⟨by first | rfl | (simp; done) | (simp [*]; done), by repeat (first | exact Drawn0.refl _ | apply Drawn0.step)⟩
     ·rw [if_neg c10] at H
      have c10b0 : decide (a0 ≤ 591) = false := decide_eq_false c10
      clear c10
      obtain rfl := Option.some.inj H
      go_enter Tryz.func131, Tryz.ntmps131
      go_wp2
      go_ret
      exact ⟨by first | rfl | (simp; done) | (simp [*]; done), by repeat (first | exact Drawn0.refl _ | apply Drawn0.step)⟩
    ·rw [if_neg c9] at H
     have c9b0 : decide (192 ≤ a0) = false := decide_eq_false c9
     clear c9
     obtain rfl := Option.some.inj H
     go_enter Tryz.func131, Tryz.ntmps131
     go_wp2
     go_ret
     exact ⟨by first | rfl | (simp; done) | (simp [*]; done), by repeat (first | exact Drawn0.refl _ | apply Drawn0.step)⟩
 ·rw [if_neg c2] at H
  have c2b0 : decide (97 ≤ a0) = false := decide_eq_false c2
  clear c2
  by_cases c12 : a0 ≥ 65
  ·rw [if_pos c12] at H
   have c12b0 : decide (65 ≤ a0) = true := decide_eq_true c12
   clear c12
   by_cases c13 : a0 ≤ 90
   ·rw [if_pos c13] at H
    have c13b0 : decide (a0 ≤ 90) = true := decide_eq_true c13
    clear c13
    obtain rfl := Option.some.inj H
    go_enter Tryz.func131, Tryz.ntmps131
    go_wp2
    go_ret
    exact ⟨by first | rfl | (simp; done) | (simp [*]; done), by repeat (first | exact Drawn0.refl _ | apply Drawn0.step)⟩
   ·rw [if_neg c13] at H
    have c13b0 : decide (a0 ≤ 90) = false := decide_eq_false c13
    clear c13
    by_cases c14 : a0 ≥ 192
    ·rw [if_pos c14] at H
     have c14b0 : decide (192 ≤ a0) = true := decide_eq_true c14
     clear c14
     by_cases c15 : a0 ≤ 591
     ·rw [if_pos c15] at H
      have c15b0 : decide (a0 ≤ 591) = true := decide_eq_true c15
      clear c15
      by_cases c16 : a0 = 215
      ·rw [if_pos c16] at H
       have c16b0 : (a0 == 215) = true := beq_iff_eq.mpr c16
       have c16b1 : (a0 != 215) = false := bne_eq_false_iff_eq.mpr c16
       clear c16
       obtain rfl := Option.some.inj H
       go_enter Tryz.func131, Tryz.ntmps131
       go_wp2
       go_ret
       exact ⟨by first | rfl | (simp; done) | (simp [*]; done), by repeat (first | exact Drawn0.refl _ | apply Drawn0.step)⟩
      ·rw [if_neg c16] at H
       have c16b0 : (a0 == 215) = false := beq_eq_false_iff_ne.mpr c16
       have c16b1 : (a0 != 215) = true := bne_iff_ne.mpr c16
       obtain rfl := Option.some.inj H
       go_enter Tryz.func131, Tryz.ntmps131
       go_wp2
       go_ret
       exact ⟨by first | rfl | (simp; done) | (simp [*]; done), by repeat (first | exact Drawn0.refl _ | apply Drawn0.step)⟩
     ·rw [if_neg c15] at H
      have c15b0 : decide (a0 ≤ 591) = false := decide_eq_false c15
      clear c15
      obtain rfl := Option.some.inj H
      go_enter Tryz.func131, Tryz.ntmps131
      go_wp2
      go_ret
      exact ⟨by first | rfl | (simp; done) | (simp [*]; done), by repeat (first | exact Drawn0.refl _ | apply Drawn0.step)⟩
    ·rw [if_neg c14] at H
     have c14b0 : decide (192 ≤ a0) = false := decide_eq_false c14
     clear c14
     obtain rfl := Option.some.inj H
     go_enter Tryz.func131, Tryz.ntmps131
     go_wp2
     go_ret
     exact ⟨by first | rfl | (simp; done) | (simp [*]; done), by repeat (first | exact Drawn0.refl _ | apply Drawn0.step)⟩
  ·rw [if_neg c12] at H
   have c12b0 : decide (65 ≤ a0) = false := decide_eq_false c12
   clear c12
   by_cases c17 : a0 ≥ 192
   ·rw [if_pos c17] at H
    have c17b0 : decide (192 ≤ a0) = true := decide_eq_true c17
    clear c17
    by_cases c18 : a0 ≤ 591
    ·rw [if_pos c18] at H
     have c18b0 : decide (a0 ≤ 591) = true := decide_eq_true c18
     clear c18
     by_cases c19 : a0 = 215
     ·rw [if_pos c19] at H
      have c19b0 : (a0 == 215) = true := beq_iff_eq.mpr c19
      have c19b1 : (a0 != 215) = false := bne_eq_false_iff_eq.mpr c19
      clear c19
      obtain rfl := Option.some.inj H
      go_enter Tryz.func131, Tryz.ntmps131
      go_wp2
      go_ret
      exact ⟨by first | rfl | (simp; done) | (simp [*]; done), by repeat (first | exact Drawn0.refl _ | apply Drawn0.step)⟩
     ·rw [if_neg c19] at H
      have c19b0 : (a0 == 215) = false := beq_eq_false_iff_ne.mpr c19
      have c19b1 : (a0 != 215) = true := bne_iff_ne.mpr c19
      obtain rfl := Option.some.inj H
      go_enter Tryz.func131, Tryz.ntmps131
      go_wp2
      go_ret
      exact ⟨by first | rfl | (simp; done) | (simp [*]; done), by repeat (first | exact Drawn0.refl _ | apply Drawn0.step)⟩
    ·rw [if_neg c18] at H
     have c18b0 : decide (a0 ≤ 591) = false := decide_eq_false c18
     clear c18
     obtain rfl := Option.some.inj H
     go_enter Tryz.func131, Tryz.ntmps131
     go_wp2
     go_ret
     exact ⟨by first | rfl | (simp; done) | (simp [*]; done), by repeat (first | exact Drawn0.refl _ | apply Drawn0.step)⟩
   ·rw [if_neg c17] at H
    have c17b0 : decide (192 ≤ a0) = false := decide_eq_false c17
    clear c17
    obtain rfl := Option.some.inj H
    go_enter Tryz.func131, Tryz.ntmps131
    go_wp2
    go_ret
    exact ⟨by first | rfl | (simp; done) | (simp [*]; done), by repeat (first | exact Drawn0.refl _ | apply Drawn0.step)⟩

/-! ### concordanceref02_in: function 106 -/
def concordanceref02_in.f (a0 : Int) : Option (Bool) := (concordanceref01_Letter.f a0).bind fun t106 => (if t106 = true then (some true) else (if a0 ≥ 48 then (some (decide (a0 ≤ 57))) else (some false)))
set_option maxHeartbeats 8000000 in
set_option maxRecDepth 100000 in
theorem concordanceref02_in.calls (a0 : Int) (r : Bool) (w : World) (h : concordanceref02_in.f a0 = some r) :
  Calls Tryz.prog 106 #[.int .i64 a0] w fun e w' => e = .returned (.bool r) ∧ Drawn0 w w' := by
 have H : ((concordanceref01_Letter.f a0).bind fun t106 => (if t106 = true then (some true) else (if a0 ≥ 48 then (some (decide (a0 ≤ 57))) else (some false)))) = some r := h
 clear h
 replace H := Option.bind_eq_some_iff.mp H
 obtain ⟨t106, A20, H⟩ := H
 have A2 := Aside0.mk A20
 clear A20
 by_cases c3 : t106 = true
 ·subst c3
  have H1 : (some true) = some r := by rw [if_pos rfl] at H; exact H
  clear H
  have H := H1
  clear H1
  obtain rfl := Option.some.inj H
  go_enter Tryz.func106, Tryz.ntmps106
  go_wp2_with (first | ((with_reducible refine gate_callee (f := 131) rfl ?_); refine goesL_ (some 4) rfl rfl Tryz.func131 (by kernel_rfl) rfl #[.int .i64 a0] rfl (by (try simp only [List.map_toArray, List.map_cons, List.map_nil]); first | done | rfl | (simp only [List.length_drop, List.length_take]; rfl)) ?_; (with_reducible refine (concordanceref01_Letter.calls a0 true _ A2.out).mono ?_); rintro e w' ⟨rfl, ⟨nd, rfl⟩⟩; refine ⟨_, rfl, ?_⟩))
  go_ret
  exact ⟨by first | rfl | (simp; done) | (simp [*]; done), by repeat (first | exact Drawn0.refl _ | apply Drawn0.step)⟩
 ·replace c3 := Bool.eq_false_iff.mpr c3
  subst c3
  have H1 : (if a0 ≥ 48 then (some (decide (a0 ≤ 57))) else (some false)) = some r := by rw [if_neg (show ¬ (false = true) by decide)] at H; exact H
  clear H
  have H := H1
  clear H1
  by_cases c4 : a0 ≥ 48
  ·rw [if_pos c4] at H
   have c4b0 : decide (48 ≤ a0) = true := decide_eq_true c4
   clear c4
   obtain rfl := Option.some.inj H
   go_enter Tryz.func106, Tryz.ntmps106
   go_wp2_with (first | ((with_reducible refine gate_callee (f := 131) rfl ?_); refine goesL_ (some 4) rfl rfl Tryz.func131 (by kernel_rfl) rfl #[.int .i64 a0] rfl (by (try simp only [List.map_toArray, List.map_cons, List.map_nil]); first | done | rfl | (simp only [List.length_drop, List.length_take]; rfl)) ?_; (with_reducible refine (concordanceref01_Letter.calls a0 false _ A2.out).mono ?_); rintro e w' ⟨rfl, ⟨nd, rfl⟩⟩; refine ⟨_, rfl, ?_⟩))
   go_ret
   exact ⟨by first | rfl | (simp; done) | (simp [*]; done), by repeat (first | exact Drawn0.refl _ | apply Drawn0.step)⟩
  ·rw [if_neg c4] at H
   have c4b0 : decide (48 ≤ a0) = false := decide_eq_false c4
   clear c4
   obtain rfl := Option.some.inj H
   go_enter Tryz.func106, Tryz.ntmps106
   go_wp2_with (first | ((with_reducible refine gate_callee (f := 131) rfl ?_); refine goesL_ (some 4) rfl rfl Tryz.func131 (by kernel_rfl) rfl #[.int .i64 a0] rfl (by (try simp only [List.map_toArray, List.map_cons, List.map_nil]); first | done | rfl | (simp only [List.length_drop, List.length_take]; rfl)) ?_; (with_reducible refine (concordanceref01_Letter.calls a0 false _ A2.out).mono ?_); rintro e w' ⟨rfl, ⟨nd, rfl⟩⟩; refine ⟨_, rfl, ?_⟩))
   go_ret
   exact ⟨by first | rfl | (simp; done) | (simp [*]; done), by repeat (first | exact Drawn0.refl _ | apply Drawn0.step)⟩

/-! ### concordanceref01_Fold: function 107 -/
def concordanceref01_Fold.f (a0 : Int) : Option (Int) := if a0 ≥ 65 then (if a0 ≤ 90 then (some (wrap64 (a0 + 32))) else (if a0 ≥ 192 then (if a0 ≤ 214 then (some (wrap64 (a0 + 32))) else (if a0 ≥ 216 then (if a0 ≤ 222 then (some (wrap64 (a0 + 32))) else (some a0)) else (some a0))) else (if a0 ≥ 216 then (if a0 ≤ 222 then (some (wrap64 (a0 + 32))) else (some a0)) else (some a0)))) else (if a0 ≥ 192 then (if a0 ≤ 214 then (some (wrap64 (a0 + 32))) else (if a0 ≥ 216 then (if a0 ≤ 222 then (some (wrap64 (a0 + 32))) else (some a0)) else (some a0))) else (if a0 ≥ 216 then (if a0 ≤ 222 then (some (wrap64 (a0 + 32))) else (some a0)) else (some a0)))
set_option maxHeartbeats 8000000 in
set_option maxRecDepth 100000 in
theorem concordanceref01_Fold.calls (a0 : Int) (r : Int) (w : World) (h : concordanceref01_Fold.f a0 = some r) :
  Calls Tryz.prog 107 #[.int .i64 a0] w fun e w' => e = .returned (.int .i64 r) ∧ Drawn0 w w' := by
 have H : (if a0 ≥ 65 then (if a0 ≤ 90 then (some (wrap64 (a0 + 32))) else (if a0 ≥ 192 then (if a0 ≤ 214 then (some (wrap64 (a0 + 32))) else (if a0 ≥ 216 then (if a0 ≤ 222 then (some (wrap64 (a0 + 32))) else (some a0)) else (some a0))) else (if a0 ≥ 216 then (if a0 ≤ 222 then (some (wrap64 (a0 + 32))) else (some a0)) else (some a0)))) else (if a0 ≥ 192 then (if a0 ≤ 214 then (some (wrap64 (a0 + 32))) else (if a0 ≥ 216 then (if a0 ≤ 222 then (some (wrap64 (a0 + 32))) else (some a0)) else (some a0))) else (if a0 ≥ 216 then (if a0 ≤ 222 then (some (wrap64 (a0 + 32))) else (some a0)) else (some a0)))) = some r := h
 clear h
 by_cases c2 : a0 ≥ 65
 ·rw [if_pos c2] at H
  have c2b0 : decide (65 ≤ a0) = true := decide_eq_true c2
  clear c2
  by_cases c3 : a0 ≤ 90
  ·rw [if_pos c3] at H
   have c3b0 : decide (a0 ≤ 90) = true := decide_eq_true c3
   clear c3
   obtain rfl := Option.some.inj H
   go_enter Tryz.func107, Tryz.ntmps107
   go_wp2
   go_ret
   exact ⟨by first | rfl | (simp; done) | (simp [*]; done), by repeat (first | exact Drawn0.refl _ | apply Drawn0.step)⟩
  ·rw [if_neg c3] at H
   have c3b0 : decide (a0 ≤ 90) = false := decide_eq_false c3
   clear c3
   by_cases c4 : a0 ≥ 192
   ·rw [if_pos c4] at H
    have c4b0 : decide (192 ≤ a0) = true := decide_eq_true c4
    clear c4
    by_cases c5 : a0 ≤ 214
    ·rw [if_pos c5] at H
     have c5b0 : decide (a0 ≤ 214) = true := decide_eq_true c5
     clear c5
     obtain rfl := Option.some.inj H
     go_enter Tryz.func107, Tryz.ntmps107
     go_wp2
     go_ret
     exact ⟨by first | rfl | (simp; done) | (simp [*]; done), by repeat (first | exact Drawn0.refl _ | apply Drawn0.step)⟩
    ·rw [if_neg c5] at H
     have c5b0 : decide (a0 ≤ 214) = false := decide_eq_false c5
     clear c5
     by_cases c6 : a0 ≥ 216
     ·rw [if_pos c6] at H
      have c6b0 : decide (216 ≤ a0) = true := decide_eq_true c6
      clear c6
      by_cases c7 : a0 ≤ 222
      ·rw [if_pos c7] at H
       have c7b0 : decide (a0 ≤ 222) = true := decide_eq_true c7
       clear c7
       obtain rfl := Option.some.inj H
       go_enter Tryz.func107, Tryz.ntmps107
       go_wp2
       go_ret
       exact ⟨by first | rfl | (simp; done) | (simp [*]; done), by repeat (first | exact Drawn0.refl _ | apply Drawn0.step)⟩
      ·rw [if_neg c7] at H
       have c7b0 : decide (a0 ≤ 222) = false := decide_eq_false c7
       clear c7
       obtain rfl := Option.some.inj H
       go_enter Tryz.func107, Tryz.ntmps107
       go_wp2
       go_ret
       exact ⟨by first | rfl | (simp; done) | (simp [*]; done), by repeat (first | exact Drawn0.refl _ | apply Drawn0.step)⟩
     ·rw [if_neg c6] at H
      have c6b0 : decide (216 ≤ a0) = false := decide_eq_false c6
      clear c6
      obtain rfl := Option.some.inj H
      go_enter Tryz.func107, Tryz.ntmps107
      go_wp2
      go_ret
      exact ⟨by first | rfl | (simp; done) | (simp [*]; done), by repeat (first | exact Drawn0.refl _ | apply Drawn0.step)⟩
   ·rw [if_neg c4] at H
    have c4b0 : decide (192 ≤ a0) = false := decide_eq_false c4
    clear c4
    by_cases c8 : a0 ≥ 216
    ·rw [if_pos c8] at H
     have c8b0 : decide (216 ≤ a0) = true := decide_eq_true c8
     clear c8
     by_cases c9 : a0 ≤ 222
     ·rw [if_pos c9] at H
      have c9b0 : decide (a0 ≤ 222) = true := decide_eq_true c9
      clear c9
      obtain rfl := Option.some.inj H
      go_enter Tryz.func107, Tryz.ntmps107
      go_wp2
      go_ret
      exact ⟨by first | rfl | (simp; done) | (simp [*]; done), by repeat (first | exact Drawn0.refl _ | apply Drawn0.step)⟩
     ·rw [if_neg c9] at H
      have c9b0 : decide (a0 ≤ 222) = false := decide_eq_false c9
      clear c9
      obtain rfl := Option.some.inj H
      go_enter Tryz.func107, Tryz.ntmps107
      go_wp2
      go_ret
      exact ⟨by first | rfl | (simp; done) | (simp [*]; done), by repeat (first | exact Drawn0.refl _ | apply Drawn0.step)⟩
    ·rw [if_neg c8] at H
     have c8b0 : decide (216 ≤ a0) = false := decide_eq_false c8
     clear c8
     obtain rfl := Option.some.inj H
     go_enter Tryz.func107, Tryz.ntmps107
     go_wp2
     go_ret
     exact ⟨by first | rfl | (simp; done) | (simp [*]; done), by repeat (first | exact Drawn0.refl _ | apply Drawn0.step)⟩
 ·rw [if_neg c2] at H
  have c2b0 : decide (65 ≤ a0) = false := decide_eq_false c2
  clear c2
  by_cases c10 : a0 ≥ 192
  ·rw [if_pos c10] at H
   have c10b0 : decide (192 ≤ a0) = true := decide_eq_true c10
   clear c10
   by_cases c11 : a0 ≤ 214
   ·rw [if_pos c11] at H
    have c11b0 : decide (a0 ≤ 214) = true := decide_eq_true c11
    clear c11
    obtain rfl := Option.some.inj H
    go_enter Tryz.func107, Tryz.ntmps107
    go_wp2
    go_ret
    exact ⟨by first | rfl | (simp; done) | (simp [*]; done), by repeat (first | exact Drawn0.refl _ | apply Drawn0.step)⟩
   ·rw [if_neg c11] at H
    have c11b0 : decide (a0 ≤ 214) = false := decide_eq_false c11
    clear c11
    by_cases c12 : a0 ≥ 216
    ·rw [if_pos c12] at H
     have c12b0 : decide (216 ≤ a0) = true := decide_eq_true c12
     clear c12
     by_cases c13 : a0 ≤ 222
     ·rw [if_pos c13] at H
      have c13b0 : decide (a0 ≤ 222) = true := decide_eq_true c13
      clear c13
      obtain rfl := Option.some.inj H
      go_enter Tryz.func107, Tryz.ntmps107
      go_wp2
      go_ret
      exact ⟨by first | rfl | (simp; done) | (simp [*]; done), by repeat (first | exact Drawn0.refl _ | apply Drawn0.step)⟩
     ·rw [if_neg c13] at H
      have c13b0 : decide (a0 ≤ 222) = false := decide_eq_false c13
      clear c13
      obtain rfl := Option.some.inj H
      go_enter Tryz.func107, Tryz.ntmps107
      go_wp2
      go_ret
      exact ⟨by first | rfl | (simp; done) | (simp [*]; done), by repeat (first | exact Drawn0.refl _ | apply Drawn0.step)⟩
    ·rw [if_neg c12] at H
     have c12b0 : decide (216 ≤ a0) = false := decide_eq_false c12
     clear c12
     obtain rfl := Option.some.inj H
     go_enter Tryz.func107, Tryz.ntmps107
     go_wp2
     go_ret
     exact ⟨by first | rfl | (simp; done) | (simp [*]; done), by repeat (first | exact Drawn0.refl _ | apply Drawn0.step)⟩
  ·rw [if_neg c10] at H
   have c10b0 : decide (192 ≤ a0) = false := decide_eq_false c10
   clear c10
   by_cases c14 : a0 ≥ 216
   ·rw [if_pos c14] at H
    have c14b0 : decide (216 ≤ a0) = true := decide_eq_true c14
    clear c14
    by_cases c15 : a0 ≤ 222
    ·rw [if_pos c15] at H
     have c15b0 : decide (a0 ≤ 222) = true := decide_eq_true c15
     clear c15
     obtain rfl := Option.some.inj H
     go_enter Tryz.func107, Tryz.ntmps107
     go_wp2
     go_ret
     exact ⟨by first | rfl | (simp; done) | (simp [*]; done), by repeat (first | exact Drawn0.refl _ | apply Drawn0.step)⟩
    ·rw [if_neg c15] at H
     have c15b0 : decide (a0 ≤ 222) = false := decide_eq_false c15
     clear c15
     obtain rfl := Option.some.inj H
     go_enter Tryz.func107, Tryz.ntmps107
     go_wp2
     go_ret
     exact ⟨by first | rfl | (simp; done) | (simp [*]; done), by repeat (first | exact Drawn0.refl _ | apply Drawn0.step)⟩
   ·rw [if_neg c14] at H
    have c14b0 : decide (216 ≤ a0) = false := decide_eq_false c14
    clear c14
    obtain rfl := Option.some.inj H
    go_enter Tryz.func107, Tryz.ntmps107
    go_wp2
    go_ret
    exact ⟨by first | rfl | (simp; done) | (simp [*]; done), by repeat (first | exact Drawn0.refl _ | apply Drawn0.step)⟩

/-! ### concordanceref01_Text: function 108 -/
mutual
def concordanceref01_Text.l0 : Nat → List Int → List Int → Int → Option (ByteArray)
 | 0, _, _, _ => none
 | k + 1, x0, x3, x4 => if x4 < (x0.length : Int) then (if 0 ≤ x4 then (if (rd x0 x4) < 0 then (concordanceref01_Text.j1 k x0 x3 x4 (rd x0 x4) true) else (if (rd x0 x4) > 1114111 then (concordanceref01_Text.j1 k x0 x3 x4 (rd x0 x4) true) else (if (rd x0 x4) ≥ 55296 then (concordanceref01_Text.j1 k x0 x3 x4 (rd x0 x4) (decide ((rd x0 x4) ≤ 57343))) else (concordanceref01_Text.j1 k x0 x3 x4 (rd x0 x4) false)))) else (none)) else (some (strOfNums x3))
def concordanceref01_Text.j1 : Nat → List Int → List Int → Int → Int → Bool → Option (ByteArray)
 | 0, _, _, _, _, _ => none
 | k + 1, x0, x3, x4, x5, x29 => if x29 = true then (concordanceref01_Text.j2 k x0 x3 x4 65533) else (concordanceref01_Text.j2 k x0 x3 x4 x5)
def concordanceref01_Text.j2 : Nat → List Int → List Int → Int → Int → Option (ByteArray)
 | 0, _, _, _, _ => none
 | k + 1, x0, x3, x4, x5 => if x5 < 128 then (if x3.length < 140737488355328 then (concordanceref01_Text.l0 k x0 (x3 ++ [(x5) % 256]) (wrap64 (x4 + 1))) else (none)) else (if x5 < 2048 then ((some (([(wrap64 (192 + (wrap64 (Int.tdiv x5 64)))) % 256, (wrap64 (128 + (Int.tmod x5 64))) % 256] : List Int) : List Int)).bind fun y111 => (if x3.length + y111.length < 140737488355328 then (concordanceref01_Text.l0 k x0 (x3 ++ y111) (wrap64 (x4 + 1))) else (none))) else (if x5 < 65536 then ((some (([(wrap64 (224 + (wrap64 (Int.tdiv x5 4096)))) % 256, (wrap64 (128 + (Int.tmod (wrap64 (Int.tdiv x5 64)) 64))) % 256, (wrap64 (128 + (Int.tmod x5 64))) % 256] : List Int) : List Int)).bind fun y117 => (if x3.length + y117.length < 140737488355328 then (concordanceref01_Text.l0 k x0 (x3 ++ y117) (wrap64 (x4 + 1))) else (none))) else ((some (([(wrap64 (240 + (wrap64 (Int.tdiv x5 262144)))) % 256, (wrap64 (128 + (Int.tmod (wrap64 (Int.tdiv x5 4096)) 64))) % 256, (wrap64 (128 + (Int.tmod (wrap64 (Int.tdiv x5 64)) 64))) % 256, (wrap64 (128 + (Int.tmod x5 64))) % 256] : List Int) : List Int)).bind fun y123 => (if x3.length + y123.length < 140737488355328 then (concordanceref01_Text.l0 k x0 (x3 ++ y123) (wrap64 (x4 + 1))) else (none)))))
end
def concordanceref01_Text.f (k : Nat) (l0 : List Int) : Option (ByteArray) := concordanceref01_Text.l0 k l0 ([] : List Int) 0
theorem concordanceref01_Text.mono_l : ∀ k, (∀ y0 y1 y2, LeO (concordanceref01_Text.l0 k y0 y1 y2) (concordanceref01_Text.l0 (k + 1) y0 y1 y2)) ∧ (∀ y0 y1 y2 y3 y4, LeO (concordanceref01_Text.j1 k y0 y1 y2 y3 y4) (concordanceref01_Text.j1 (k + 1) y0 y1 y2 y3 y4)) ∧ (∀ y0 y1 y2 y3, LeO (concordanceref01_Text.j2 k y0 y1 y2 y3) (concordanceref01_Text.j2 (k + 1) y0 y1 y2 y3))
 | 0 => ⟨fun _ _ _ r h => by simp [concordanceref01_Text.l0] at h, fun _ _ _ _ _ r h => by simp [concordanceref01_Text.j1] at h, fun _ _ _ _ r h => by simp [concordanceref01_Text.j2] at h⟩
 | k + 1 => by
  obtain ⟨ih0, ih1, ih2⟩ := concordanceref01_Text.mono_l k
  refine ⟨?_, ?_, ?_⟩
  ·intro y0 y1 y2
   unfold concordanceref01_Text.l0
   repeat' first
   | (with_reducible exact ih0 _ _ _)
   | (with_reducible exact ih1 _ _ _ _ _)
   | (with_reducible exact ih2 _ _ _ _)
   | (with_reducible exact LeO.refl _)
   | (with_reducible exact LeO.none _)
   | (with_reducible refine LeO.ite ?_ ?_)
   | (with_reducible refine LeO.bind ?_ (fun _ => ?_))
   | exact ih0 _ _ _
   | exact ih1 _ _ _ _ _
   | exact ih2 _ _ _ _
   | exact LeO.none _
   | refine LeO.ite ?_ ?_
   | refine LeO.bind ?_ (fun _ => ?_)
  ·intro y0 y1 y2 y3 y4
   unfold concordanceref01_Text.j1
   repeat' first
   | (with_reducible exact ih0 _ _ _)
   | (with_reducible exact ih1 _ _ _ _ _)
   | (with_reducible exact ih2 _ _ _ _)
   | (with_reducible exact LeO.refl _)
   | (with_reducible exact LeO.none _)
   | (with_reducible refine LeO.ite ?_ ?_)
   | (with_reducible refine LeO.bind ?_ (fun _ => ?_))
   | exact ih0 _ _ _
   | exact ih1 _ _ _ _ _
   | exact ih2 _ _ _ _
   | exact LeO.none _
   | refine LeO.ite ?_ ?_
   | refine LeO.bind ?_ (fun _ => ?_)
  ·intro y0 y1 y2 y3
   unfold concordanceref01_Text.j2
   repeat' first
   | (with_reducible exact ih0 _ _ _)
   | (with_reducible exact ih1 _ _ _ _ _)
   | (with_reducible exact ih2 _ _ _ _)
   | (with_reducible exact LeO.refl _)
   | (with_reducible exact LeO.none _)
   | (with_reducible refine LeO.ite ?_ ?_)
   | (with_reducible refine LeO.bind ?_ (fun _ => ?_))
   | exact ih0 _ _ _
   | exact ih1 _ _ _ _ _
   | exact ih2 _ _ _ _
   | exact LeO.none _
   | refine LeO.ite ?_ ?_
   | refine LeO.bind ?_ (fun _ => ?_)
theorem concordanceref01_Text.mono : ∀ a0 k, LeO (concordanceref01_Text.f k a0) (concordanceref01_Text.f (k + 1) a0) := by
 intro a0 k
 obtain ⟨ih0, ih1, ih2⟩ := concordanceref01_Text.mono_l k
 unfold concordanceref01_Text.f
 repeat' first
   | (with_reducible exact ih0 _ _ _)
   | (with_reducible exact ih1 _ _ _ _ _)
   | (with_reducible exact ih2 _ _ _ _)
   | (with_reducible exact LeO.refl _)
   | (with_reducible exact LeO.none _)
   | (with_reducible refine LeO.ite ?_ ?_)
   | (with_reducible refine LeO.bind ?_ (fun _ => ?_))
   | exact ih0 _ _ _
   | exact ih1 _ _ _ _ _
   | exact ih2 _ _ _ _
   | exact LeO.none _
   | refine LeO.ite ?_ ?_
   | refine LeO.bind ?_ (fun _ => ?_)
set_option maxHeartbeats 8000000 in
set_option maxRecDepth 100000 in
theorem concordanceref01_Text.calls (k : Nat) (A0 : Option Addr) (c0 : Nat) (l0 : List Int) (r : ByteArray) (w : World) (hr0 : Kd.C (Kd.int .i64) w A0 l0.length l0) (hc0 : l0.length ≤ c0) (h : concordanceref01_Text.f k l0 = some r) :
  Calls Tryz.prog 108 #[.slice A0 l0.length c0] w fun e w' => e = .returned (.string r) ∧ Below w.heap.size w w' := by
 have HR0 := Aside0.mk hr0
 have HC0 := Aside0.mk hc0
 clear hr0 hc0
 have HB := sA (Below.refl w.heap.size w)
 have H : (concordanceref01_Text.l0 k l0 ([] : List Int) 0) = some r := h
 clear h
 have H' := Aside0.mk H
 clear H
 go_enter Tryz.func108, Tryz.ntmps108
 go_wp2
 go_loopg [3, 4] k (fun kq v3 v4 w' => ∃ (x3_1 : List Int) (x4_1 : Int), v4 = .int .i64 x4_1 ∧ Aside0 (concordanceref01_Text.l0 kq l0 x3_1 x4_1 = some r) ∧ Aside0 (kq ≤ k) ∧ Aside0 (Kd.R (Kd.int .u8) 5 w' w.heap.size (fun _ => True) v3 x3_1) ∧ Aside0 (Below w.heap.size w w'))
 case atStart => exact ⟨(([] : List Int)), (0), (by first | rfl | (simp; done) | (simp [*]; done)), H', ⟨Nat.le_refl _⟩, ⟨by first | exact Kd.R_nil _ _ _ _ _ | exact Kd.N_nil _ _ _ _ _ | exact Kd.V_nil _ _ _ _ _ | exact Kd.Q_nil _ _ _ _ _ | exact Kd.S_nil _ _ _ _ _⟩, ⟨sW HB.out⟩⟩
 case round =>
  clear H'
  try clear c1
  obtain ⟨x3_1, x4_1, rfl, HA, HK1, HO_3, HB⟩ := hrel
  cases gk with
  | zero => exact absurd HA.out (by simp [concordanceref01_Text.l0])
  | succ k1 =>
   have H := HA.out
   clear HA
   simp only [concordanceref01_Text.l0] at H
   by_cases c2 : x4_1 < (l0.length : Int)
   ·rw [if_pos c2] at H
    have c2b0 : decide (x4_1 < (l0.length : Int)) = true := decide_eq_true c2
    clear c2
    by_cases c3 : 0 ≤ x4_1
    ·rw [if_pos c3] at H
     have c3b0 : decide (0 ≤ x4_1) = true := decide_eq_true c3
     clear c3
     have HC4 := Aside0.mk H
     clear H
     have p107 : 0 ≤ (x4_1 : Int) := of_decide_eq_true (by assumption)
     have q107 : x4_1 < (l0.length : Int) := of_decide_eq_true (by assumption)
     obtain ⟨ad107, e107, hx107_0⟩ := Kd.at_int HR0.out x4_1 p107 q107
     cases e107
     replace hx107_0 := (HB.out.cell (World.block_lt_of_cell? w _ hx107_0)).trans hx107_0
     replace p107 := eq_true p107
     replace q107 := eq_true q107
     go_upto_region 6 with (fail)
     go_cut [29] (fun v29 wc => ∃ (kq : Nat) (x29_3 : Bool), v29 = .bool x29_3 ∧ Aside0 (concordanceref01_Text.j1 kq l0 x3_1 x4_1 (rd l0 x4_1) x29_3 = some r) ∧ Aside0 (kq ≤ k1) ∧ Aside0 (Kd.R (Kd.int .u8) 5 wc w.heap.size (fun _ => True) u3 x3_1) ∧ Aside0 (Below w.heap.size w wc))
     case first =>
      have H := HC4.out
      clear HC4
      by_cases c5 : (rd l0 x4_1) < 0
      ·rw [if_pos c5] at H
       have c5b0 : decide ((rd l0 x4_1) < 0) = true := decide_eq_true c5
       clear c5
       (first | rw [c5b0] | (simp only [i64_w, i32_w]; rw [c5b0]) | skip)
       have H' := Aside0.mk H
       clear H
       go_wp2
       go_meet
       case rel => exact ⟨_, (true), (by first | rfl | (simp; done) | (simp [*]; done)), H', ⟨by have := HK1.out; first | omega | exact Nat.le_refl _⟩, ⟨sR HO_3.out⟩, ⟨sW HB.out⟩⟩
      ·rw [if_neg c5] at H
       have c5b0 : decide ((rd l0 x4_1) < 0) = false := decide_eq_false c5
       clear c5
       (first | rw [c5b0] | (simp only [i64_w, i32_w]; rw [c5b0]) | skip)
       by_cases c6 : (rd l0 x4_1) > 1114111
       ·rw [if_pos c6] at H
        have c6b0 : decide (1114111 < (rd l0 x4_1)) = true := decide_eq_true c6
        clear c6
        have H' := Aside0.mk H
        clear H
        go_wp2
        go_meet
        case rel => exact ⟨_, (true), (by first | rfl | (simp; done) | (simp [*]; done)), H', ⟨by have := HK1.out; first | omega | exact Nat.le_refl _⟩, ⟨sR HO_3.out⟩, ⟨sW HB.out⟩⟩
       ·rw [if_neg c6] at H
        have c6b0 : decide (1114111 < (rd l0 x4_1)) = false := decide_eq_false c6
        clear c6
        by_cases c7 : (rd l0 x4_1) ≥ 55296
        ·rw [if_pos c7] at H
         have c7b0 : decide (55296 ≤ (rd l0 x4_1)) = true := decide_eq_true c7
         clear c7
         have H' := Aside0.mk H
         clear H
         go_wp2
         go_meet
         case rel => exact ⟨_, (decide ((rd l0 x4_1) ≤ 57343)), (by first | rfl | (simp; done) | (simp [*]; done)), H', ⟨by have := HK1.out; first | omega | exact Nat.le_refl _⟩, ⟨sR HO_3.out⟩, ⟨sW HB.out⟩⟩
        ·rw [if_neg c7] at H
         have c7b0 : decide (55296 ≤ (rd l0 x4_1)) = false := decide_eq_false c7
         clear c7
         have H' := Aside0.mk H
         clear H
         go_wp2
         go_meet
         case rel => exact ⟨_, (false), (by first | rfl | (simp; done) | (simp [*]; done)), H', ⟨by have := HK1.out; first | omega | exact Nat.le_refl _⟩, ⟨sR HO_3.out⟩, ⟨sW HB.out⟩⟩
     case rest =>
      clear HC4
      try clear c1; try clear p1; try clear q1; try clear hx1; try clear c2; try clear c2b0; try clear p2; try clear c3; try clear c3b0; try clear c5; try clear c5b0; try clear c6; try clear c6b0; try clear c7; try clear c7b0; try clear hx107_0; try clear p107; try clear q107
      obtain ⟨kq, x29_3, rfl, HA, HJ3, HO_3, HB⟩ := hcut
      cases kq with
      | zero => exact absurd HA.out (by simp [concordanceref01_Text.j1])
      | succ kj3 =>
       have H := HA.out
       clear HA
       simp only [concordanceref01_Text.j1] at H
       have HC8 := Aside0.mk H
       clear H
       go_upto_if 29 with (fail)
       go_cut [5] (fun v5 wc => ∃ (kq : Nat) (x5_7 : Int), v5 = .int .i64 x5_7 ∧ Aside0 (concordanceref01_Text.j2 kq l0 x3_1 x4_1 x5_7 = some r) ∧ Aside0 (kq ≤ kj3) ∧ Aside0 (Kd.R (Kd.int .u8) 5 wc w.heap.size (fun _ => True) u3 x3_1) ∧ Aside0 (Below w.heap.size w wc))
       case first =>
        have H := HC8.out
        clear HC8
        by_cases c9 : x29_3 = true
        ·subst c9
         have H1 : (concordanceref01_Text.j2 kj3 l0 x3_1 x4_1 65533) = some r := by rw [if_pos rfl] at H; exact H
         clear H
         have H := H1
         clear H1
         have H' := Aside0.mk H
         clear H
         go_wp2
         go_meet
         case rel => exact ⟨_, (65533), (by first | rfl | (simp; done) | (simp [*]; done)), H', ⟨by have := HK1.out; have := HJ3.out; first | omega | exact Nat.le_refl _⟩, ⟨sR HO_3.out⟩, ⟨sW HB.out⟩⟩
        ·replace c9 := Bool.eq_false_iff.mpr c9
         subst c9
         have H1 : (concordanceref01_Text.j2 kj3 l0 x3_1 x4_1 (rd l0 x4_1)) = some r := by rw [if_neg (show ¬ (false = true) by decide)] at H; exact H
         clear H
         have H := H1
         clear H1
         have H' := Aside0.mk H
         clear H
         go_wp2
         go_meet
         case rel => exact ⟨_, ((rd l0 x4_1)), (by first | rfl | (simp; done) | (simp [*]; done)), H', ⟨by have := HK1.out; have := HJ3.out; first | omega | exact Nat.le_refl _⟩, ⟨sR HO_3.out⟩, ⟨sW HB.out⟩⟩
       case rest =>
        clear HC8
        try clear c1; try clear p1; try clear q1; try clear hx1; try clear c2; try clear c2b0; try clear p2; try clear c3; try clear c3b0; try clear c5; try clear c5b0; try clear c6; try clear c6b0; try clear c7; try clear c7b0; try clear c9; try clear hx107_0; try clear p1; try clear p107; try clear p2; try clear q1; try clear q107
        obtain ⟨kq, x5_7, rfl, HA, HJ7, HO_3, HB⟩ := hcut
        cases kq with
        | zero => exact absurd HA.out (by simp [concordanceref01_Text.j2])
        | succ kj7 =>
         have H := HA.out
         clear HA
         simp only [concordanceref01_Text.j2] at H
         by_cases c10 : x5_7 < 128
         ·rw [if_pos c10] at H
          have c10b0 : decide (x5_7 < 128) = true := decide_eq_true c10
          clear c10
          by_cases c11 : x3_1.length < 140737488355328
          ·rw [if_pos c11] at H
           have LMc11 := Aside0.mk c11
           clear c11
           obtain ⟨y108, hy108⟩ : ∃ y_ : List Int, y_ = (x3_1 ++ [(x5_7) % 256]) := ⟨_, rfl⟩
           replace H : (concordanceref01_Text.l0 kj7 l0 y108 (wrap64 (x4_1 + 1))) = some r := by first | (rw [hy108]; with_reducible exact H) | (have H2_ := (Option.bind_some _ _).symm.trans H; rw [hy108]; with_reducible exact H2_) | (have H2_ := (Option.bind_some _ _).symm.trans H; with_reducible exact H2_) | with_reducible exact H | (rw [hy108]; exact H) | exact H
           have Ny108 := Aside0.mk hy108
           clear hy108
           have H' := Aside0.mk H
           clear H
           go_wp2_with (first | ((with_reducible refine gate_builtin (b := .append) (xs := #[.tmp 32, .tmp 35]) rfl ?_); at_builtin; refine Kd.R_append (Kd.int .u8) (w0 := w) w.heap.size rfl (.tmp 32) (.tmp 35) 149 5 (.int .u8 0) 1 rfl Tryz.underlying149 info5 rfl (by decide) (by omega) u3 x3_1 ((x5_7) % 256) [.int .u8 ((x5_7) % 256)] (fun _ => True) (fun _ => False) rfl rfl ?aP (fun _ hk => hk.elim) ?aF ?aO ?aB ?aS ?aL ?_; (case aP => exact rfl); (case aB => exact (sW HB.out)); (case aF => exact (fun _ _ => trivial)); (case aO => exact (sR HO_3.out)); (case aS => exact (below_size (sW HB.out))); (case aL => have := LMc11.out; omega); intro v109 w12 ho hb hg hat; rw [← Ny108.out] at ho; replace HB := sA (hb); have HO110 := sA (ho); clear HO_3; clear ho hb hg hat))
           go_roundg kj7
           case measure => have := HK1.out; have := HJ3.out; have := HJ7.out; omega
           case rel => exact ⟨(y108), (wrap64 (x4_1 + 1)), (by first | rfl | (simp; done) | (simp [*]; done)), H', ⟨by have := HK1.out; have := HJ3.out; have := HJ7.out; omega⟩, ⟨sR HO110.out⟩, ⟨sW HB.out⟩⟩
          ·rw [if_neg c11] at H
           exact absurd H (by simp)
         ·rw [if_neg c10] at H
          have c10b0 : decide (x5_7 < 128) = false := decide_eq_false c10
          clear c10
          by_cases c13 : x5_7 < 2048
          ·rw [if_pos c13] at H
           have c13b0 : decide (x5_7 < 2048) = true := decide_eq_true c13
           clear c13
           obtain ⟨y111, hy111⟩ : ∃ y_ : List Int, y_ = (([(wrap64 (192 + (wrap64 (Int.tdiv x5_7 64)))) % 256, (wrap64 (128 + (Int.tmod x5_7 64))) % 256] : List Int)) := ⟨_, rfl⟩
           replace H : (if x3_1.length + y111.length < 140737488355328 then (concordanceref01_Text.l0 kj7 l0 (x3_1 ++ y111) (wrap64 (x4_1 + 1))) else (none)) = some r := by first | (rw [hy111]; with_reducible exact H) | (have H2_ := (Option.bind_some _ _).symm.trans H; rw [hy111]; with_reducible exact H2_) | (have H2_ := (Option.bind_some _ _).symm.trans H; with_reducible exact H2_) | with_reducible exact H | (rw [hy111]; exact H) | exact H
           have Ny111 := Aside0.mk hy111
           clear hy111
           by_cases c14 : x3_1.length + y111.length < 140737488355328
           ·rw [if_pos c14] at H
            have LMc14 := Aside0.mk c14
            clear c14
            obtain ⟨y114, hy114⟩ : ∃ y_ : List Int, y_ = (x3_1 ++ y111) := ⟨_, rfl⟩
            replace H : (concordanceref01_Text.l0 kj7 l0 y114 (wrap64 (x4_1 + 1))) = some r := by first | (rw [hy114]; with_reducible exact H) | (have H2_ := (Option.bind_some _ _).symm.trans H; rw [hy114]; with_reducible exact H2_) | (have H2_ := (Option.bind_some _ _).symm.trans H; with_reducible exact H2_) | with_reducible exact H | (rw [hy114]; exact H) | exact H
            have Ny114 := Aside0.mk hy114
            clear hy114
            have H' := Aside0.mk H
            clear H
            go_wp2_with (first | ((with_reducible refine gate_dst (N := 48) rfl ?_); refine Kd.R_lit (Kd.int .u8) _ 5 ?hg (N := 48) ?hd (xs := ([(wrap64 (192 + (wrap64 (Int.tdiv x5_7 64)))) % 256, (wrap64 (128 + (Int.tmod x5_7 64))) % 256] : List Int)) (inner := [.int .u8 ((wrap64 (192 + (wrap64 (Int.tdiv x5_7 64)))) % 256), .int .u8 ((wrap64 (128 + (Int.tmod x5_7 64))) % 256)]) (ok := fun _ => True) (okp := fun _ => True) ?hr ?hp (fun _ hk => hk) trivial (Below.refl _ _) (Nat.le_refl _) (by simp) ?_; (case hd => rfl); (case hg => rfl); (case hr => first | (go_simp; done) | (go_simp; rfl)); (case hp => exact (Reps.one (show Kd.M (Kd.int .u8) _ _ _ ((wrap64 (192 + (wrap64 (Int.tdiv x5_7 64)))) % 256) [.int .u8 ((wrap64 (192 + (wrap64 (Int.tdiv x5_7 64)))) % 256)] from rfl) (Reps.one (show Kd.M (Kd.int .u8) _ _ _ ((wrap64 (128 + (Int.tmod x5_7 64))) % 256) [.int .u8 ((wrap64 (128 + (Int.tmod x5_7 64))) % 256)] from rfl) (Reps.none _ _)))); intro v112 w15 ho16 hb hg_ hnew_; clear hg_ hnew_; (first | rw [← Ny111.out] at ho16 | (simp only [Int.reduceToNat] at ho16; rw [← Ny111.out] at ho16)); have HO113 := sA (Kd.R_lower (Kd.R_new' ho16 (Kd.R_lt (sR HO_3.out))) (below_size (sW HB.out))); replace HO_3 := sA (Kd.R_elder' (sR HO_3.out) (Kd.R_base ho16) hb); replace HB := sA (below_step (sW HB.out) hb); clear hb ho16; obtain ⟨Ao18, co18, eo18⟩ := Kd.R_slice HO113.out; subst eo18) | ((with_reducible refine gate_builtin (b := .append) (xs := #[.tmp 39, .tmp 48]) rfl ?_); at_builtin; refine Kd.R_append_rows (Kd.int .u8) (w0 := w) w.heap.size rfl (.tmp 39) (.tmp 48) 149 5 (.int .u8 0) 1 rfl Tryz.underlying149 info5 rfl (by decide) (by omega) u3 x3_1 y111 _ _ _ (fun k_ => some k_ ≠ (.slice Ao18 y111.length co18 : Value).ownBlock) (fun _ => False) rfl rfl ?aO ?aR (fun _ _ h => h) (fun _ h => h.elim) ?aF ?aB ?aS ?aL ?_; (case aR => exact sC (Kd.R_reads' HO113.out).2.2); (case aB => exact (sW HB.out)); (case aF => exact (fun k_ hk => Kd.fresh' (Kd.R_lt (sR HO113.out)) k_ hk)); (case aO => exact (by apply sR; first | exact Kd.R_mono HO_3.out (fun _ hk => hk.2) | exact Kd.R_mono HO_3.out (fun _ _ => trivial))); (case aS => exact (below_size (sW HB.out))); (case aL => have := LMc14.out; omega); intro v115 w17 ho hb hg hat; rw [← Ny114.out] at ho; replace HO113 := sA (Kd.R_after (ok := (fun _ => True)) (sR HO113.out) hg hat); replace HB := sA (hb); have HO116 := sA (ho); clear HO_3; clear ho hb hg hat))
            go_roundg kj7
            case measure => have := HK1.out; have := HJ3.out; have := HJ7.out; omega
            case rel => exact ⟨(y114), (wrap64 (x4_1 + 1)), (by first | rfl | (simp; done) | (simp [*]; done)), H', ⟨by have := HK1.out; have := HJ3.out; have := HJ7.out; omega⟩, ⟨by apply sR; exact Kd.R_mono HO116.out (fun _ hk => trivial)⟩, ⟨sW HB.out⟩⟩
           ·rw [if_neg c14] at H
            exact absurd H (by simp)
          ·rw [if_neg c13] at H
           have c13b0 : decide (x5_7 < 2048) = false := decide_eq_false c13
           clear c13
           by_cases c19 : x5_7 < 65536
           ·rw [if_pos c19] at H
            have c19b0 : decide (x5_7 < 65536) = true := decide_eq_true c19
            clear c19
            obtain ⟨y117, hy117⟩ : ∃ y_ : List Int, y_ = (([(wrap64 (224 + (wrap64 (Int.tdiv x5_7 4096)))) % 256, (wrap64 (128 + (Int.tmod (wrap64 (Int.tdiv x5_7 64)) 64))) % 256, (wrap64 (128 + (Int.tmod x5_7 64))) % 256] : List Int)) := ⟨_, rfl⟩
            replace H : (if x3_1.length + y117.length < 140737488355328 then (concordanceref01_Text.l0 kj7 l0 (x3_1 ++ y117) (wrap64 (x4_1 + 1))) else (none)) = some r := by first | (rw [hy117]; with_reducible exact H) | (have H2_ := (Option.bind_some _ _).symm.trans H; rw [hy117]; with_reducible exact H2_) | (have H2_ := (Option.bind_some _ _).symm.trans H; with_reducible exact H2_) | with_reducible exact H | (rw [hy117]; exact H) | exact H
            have Ny117 := Aside0.mk hy117
            clear hy117
            by_cases c20 : x3_1.length + y117.length < 140737488355328
            ·rw [if_pos c20] at H
             have LMc20 := Aside0.mk c20
             clear c20
             obtain ⟨y120, hy120⟩ : ∃ y_ : List Int, y_ = (x3_1 ++ y117) := ⟨_, rfl⟩
             replace H : (concordanceref01_Text.l0 kj7 l0 y120 (wrap64 (x4_1 + 1))) = some r := by first | (rw [hy120]; with_reducible exact H) | (have H2_ := (Option.bind_some _ _).symm.trans H; rw [hy120]; with_reducible exact H2_) | (have H2_ := (Option.bind_some _ _).symm.trans H; with_reducible exact H2_) | with_reducible exact H | (rw [hy120]; exact H) | exact H
             have Ny120 := Aside0.mk hy120
             clear hy120
             have H' := Aside0.mk H
             clear H
             go_wp2_with (first | ((with_reducible refine gate_dst (N := 66) rfl ?_); refine Kd.R_lit (Kd.int .u8) _ 5 ?hg (N := 66) ?hd (xs := ([(wrap64 (224 + (wrap64 (Int.tdiv x5_7 4096)))) % 256, (wrap64 (128 + (Int.tmod (wrap64 (Int.tdiv x5_7 64)) 64))) % 256, (wrap64 (128 + (Int.tmod x5_7 64))) % 256] : List Int)) (inner := [.int .u8 ((wrap64 (224 + (wrap64 (Int.tdiv x5_7 4096)))) % 256), .int .u8 ((wrap64 (128 + (Int.tmod (wrap64 (Int.tdiv x5_7 64)) 64))) % 256), .int .u8 ((wrap64 (128 + (Int.tmod x5_7 64))) % 256)]) (ok := fun _ => True) (okp := fun _ => True) ?hr ?hp (fun _ hk => hk) trivial (Below.refl _ _) (Nat.le_refl _) (by simp) ?_; (case hd => rfl); (case hg => rfl); (case hr => first | (go_simp; done) | (go_simp; rfl)); (case hp => exact (Reps.one (show Kd.M (Kd.int .u8) _ _ _ ((wrap64 (224 + (wrap64 (Int.tdiv x5_7 4096)))) % 256) [.int .u8 ((wrap64 (224 + (wrap64 (Int.tdiv x5_7 4096)))) % 256)] from rfl) (Reps.one (show Kd.M (Kd.int .u8) _ _ _ ((wrap64 (128 + (Int.tmod (wrap64 (Int.tdiv x5_7 64)) 64))) % 256) [.int .u8 ((wrap64 (128 + (Int.tmod (wrap64 (Int.tdiv x5_7 64)) 64))) % 256)] from rfl) (Reps.one (show Kd.M (Kd.int .u8) _ _ _ ((wrap64 (128 + (Int.tmod x5_7 64))) % 256) [.int .u8 ((wrap64 (128 + (Int.tmod x5_7 64))) % 256)] from rfl) (Reps.none _ _))))); intro v118 w21 ho22 hb hg_ hnew_; clear hg_ hnew_; (first | rw [← Ny117.out] at ho22 | (simp only [Int.reduceToNat] at ho22; rw [← Ny117.out] at ho22)); have HO119 := sA (Kd.R_lower (Kd.R_new' ho22 (Kd.R_lt (sR HO_3.out))) (below_size (sW HB.out))); replace HO_3 := sA (Kd.R_elder' (sR HO_3.out) (Kd.R_base ho22) hb); replace HB := sA (below_step (sW HB.out) hb); clear hb ho22; obtain ⟨Ao24, co24, eo24⟩ := Kd.R_slice HO119.out; subst eo24) | ((with_reducible refine gate_builtin (b := .append) (xs := #[.tmp 52, .tmp 66]) rfl ?_); at_builtin; refine Kd.R_append_rows (Kd.int .u8) (w0 := w) w.heap.size rfl (.tmp 52) (.tmp 66) 149 5 (.int .u8 0) 1 rfl Tryz.underlying149 info5 rfl (by decide) (by omega) u3 x3_1 y117 _ _ _ (fun k_ => some k_ ≠ (.slice Ao24 y117.length co24 : Value).ownBlock) (fun _ => False) rfl rfl ?aO ?aR (fun _ _ h => h) (fun _ h => h.elim) ?aF ?aB ?aS ?aL ?_; (case aR => exact sC (Kd.R_reads' HO119.out).2.2); (case aB => exact (sW HB.out)); (case aF => exact (fun k_ hk => Kd.fresh' (Kd.R_lt (sR HO119.out)) k_ hk)); (case aO => exact (by apply sR; first | exact Kd.R_mono HO_3.out (fun _ hk => hk.2) | exact Kd.R_mono HO_3.out (fun _ _ => trivial))); (case aS => exact (below_size (sW HB.out))); (case aL => have := LMc20.out; omega); intro v121 w23 ho hb hg hat; rw [← Ny120.out] at ho; replace HO119 := sA (Kd.R_after (ok := (fun _ => True)) (sR HO119.out) hg hat); replace HB := sA (hb); have HO122 := sA (ho); clear HO_3; clear ho hb hg hat))
             go_roundg kj7
             case measure => have := HK1.out; have := HJ3.out; have := HJ7.out; omega
             case rel => exact ⟨(y120), (wrap64 (x4_1 + 1)), (by first | rfl | (simp; done) | (simp [*]; done)), H', ⟨by have := HK1.out; have := HJ3.out; have := HJ7.out; omega⟩, ⟨by apply sR; exact Kd.R_mono HO122.out (fun _ hk => trivial)⟩, ⟨sW HB.out⟩⟩
            ·rw [if_neg c20] at H
             exact absurd H (by simp)
           ·rw [if_neg c19] at H
            have c19b0 : decide (x5_7 < 65536) = false := decide_eq_false c19
            clear c19
            obtain ⟨y123, hy123⟩ : ∃ y_ : List Int, y_ = (([(wrap64 (240 + (wrap64 (Int.tdiv x5_7 262144)))) % 256, (wrap64 (128 + (Int.tmod (wrap64 (Int.tdiv x5_7 4096)) 64))) % 256, (wrap64 (128 + (Int.tmod (wrap64 (Int.tdiv x5_7 64)) 64))) % 256, (wrap64 (128 + (Int.tmod x5_7 64))) % 256] : List Int)) := ⟨_, rfl⟩
            replace H : (if x3_1.length + y123.length < 140737488355328 then (concordanceref01_Text.l0 kj7 l0 (x3_1 ++ y123) (wrap64 (x4_1 + 1))) else (none)) = some r := by first | (rw [hy123]; with_reducible exact H) | (have H2_ := (Option.bind_some _ _).symm.trans H; rw [hy123]; with_reducible exact H2_) | (have H2_ := (Option.bind_some _ _).symm.trans H; with_reducible exact H2_) | with_reducible exact H | (rw [hy123]; exact H) | exact H
            have Ny123 := Aside0.mk hy123
            clear hy123
            by_cases c25 : x3_1.length + y123.length < 140737488355328
            ·rw [if_pos c25] at H
             have LMc25 := Aside0.mk c25
             clear c25
             obtain ⟨y126, hy126⟩ : ∃ y_ : List Int, y_ = (x3_1 ++ y123) := ⟨_, rfl⟩
             replace H : (concordanceref01_Text.l0 kj7 l0 y126 (wrap64 (x4_1 + 1))) = some r := by first | (rw [hy126]; with_reducible exact H) | (have H2_ := (Option.bind_some _ _).symm.trans H; rw [hy126]; with_reducible exact H2_) | (have H2_ := (Option.bind_some _ _).symm.trans H; with_reducible exact H2_) | with_reducible exact H | (rw [hy126]; exact H) | exact H
             have Ny126 := Aside0.mk hy126
             clear hy126
             have H' := Aside0.mk H
             clear H
             go_wp2_with (first | ((with_reducible refine gate_dst (N := 87) rfl ?_); refine Kd.R_lit (Kd.int .u8) _ 5 ?hg (N := 87) ?hd (xs := ([(wrap64 (240 + (wrap64 (Int.tdiv x5_7 262144)))) % 256, (wrap64 (128 + (Int.tmod (wrap64 (Int.tdiv x5_7 4096)) 64))) % 256, (wrap64 (128 + (Int.tmod (wrap64 (Int.tdiv x5_7 64)) 64))) % 256, (wrap64 (128 + (Int.tmod x5_7 64))) % 256] : List Int)) (inner := [.int .u8 ((wrap64 (240 + (wrap64 (Int.tdiv x5_7 262144)))) % 256), .int .u8 ((wrap64 (128 + (Int.tmod (wrap64 (Int.tdiv x5_7 4096)) 64))) % 256), .int .u8 ((wrap64 (128 + (Int.tmod (wrap64 (Int.tdiv x5_7 64)) 64))) % 256), .int .u8 ((wrap64 (128 + (Int.tmod x5_7 64))) % 256)]) (ok := fun _ => True) (okp := fun _ => True) ?hr ?hp (fun _ hk => hk) trivial (Below.refl _ _) (Nat.le_refl _) (by simp) ?_; (case hd => rfl); (case hg => rfl); (case hr => first | (go_simp; done) | (go_simp; rfl)); (case hp => exact (Reps.one (show Kd.M (Kd.int .u8) _ _ _ ((wrap64 (240 + (wrap64 (Int.tdiv x5_7 262144)))) % 256) [.int .u8 ((wrap64 (240 + (wrap64 (Int.tdiv x5_7 262144)))) % 256)] from rfl) (Reps.one (show Kd.M (Kd.int .u8) _ _ _ ((wrap64 (128 + (Int.tmod (wrap64 (Int.tdiv x5_7 4096)) 64))) % 256) [.int .u8 ((wrap64 (128 + (Int.tmod (wrap64 (Int.tdiv x5_7 4096)) 64))) % 256)] from rfl) (Reps.one (show Kd.M (Kd.int .u8) _ _ _ ((wrap64 (128 + (Int.tmod (wrap64 (Int.tdiv x5_7 64)) 64))) % 256) [.int .u8 ((wrap64 (128 + (Int.tmod (wrap64 (Int.tdiv x5_7 64)) 64))) % 256)] from rfl) (Reps.one (show Kd.M (Kd.int .u8) _ _ _ ((wrap64 (128 + (Int.tmod x5_7 64))) % 256) [.int .u8 ((wrap64 (128 + (Int.tmod x5_7 64))) % 256)] from rfl) (Reps.none _ _)))))); intro v124 w26 ho27 hb hg_ hnew_; clear hg_ hnew_; (first | rw [← Ny123.out] at ho27 | (simp only [Int.reduceToNat] at ho27; rw [← Ny123.out] at ho27)); have HO125 := sA (Kd.R_lower (Kd.R_new' ho27 (Kd.R_lt (sR HO_3.out))) (below_size (sW HB.out))); replace HO_3 := sA (Kd.R_elder' (sR HO_3.out) (Kd.R_base ho27) hb); replace HB := sA (below_step (sW HB.out) hb); clear hb ho27; obtain ⟨Ao29, co29, eo29⟩ := Kd.R_slice HO125.out; subst eo29) | ((with_reducible refine gate_builtin (b := .append) (xs := #[.tmp 68, .tmp 87]) rfl ?_); at_builtin; refine Kd.R_append_rows (Kd.int .u8) (w0 := w) w.heap.size rfl (.tmp 68) (.tmp 87) 149 5 (.int .u8 0) 1 rfl Tryz.underlying149 info5 rfl (by decide) (by omega) u3 x3_1 y123 _ _ _ (fun k_ => some k_ ≠ (.slice Ao29 y123.length co29 : Value).ownBlock) (fun _ => False) rfl rfl ?aO ?aR (fun _ _ h => h) (fun _ h => h.elim) ?aF ?aB ?aS ?aL ?_; (case aR => exact sC (Kd.R_reads' HO125.out).2.2); (case aB => exact (sW HB.out)); (case aF => exact (fun k_ hk => Kd.fresh' (Kd.R_lt (sR HO125.out)) k_ hk)); (case aO => exact (by apply sR; first | exact Kd.R_mono HO_3.out (fun _ hk => hk.2) | exact Kd.R_mono HO_3.out (fun _ _ => trivial))); (case aS => exact (below_size (sW HB.out))); (case aL => have := LMc25.out; omega); intro v127 w28 ho hb hg hat; rw [← Ny126.out] at ho; replace HO125 := sA (Kd.R_after (ok := (fun _ => True)) (sR HO125.out) hg hat); replace HB := sA (hb); have HO128 := sA (ho); clear HO_3; clear ho hb hg hat))
             go_roundg kj7
             case measure => have := HK1.out; have := HJ3.out; have := HJ7.out; omega
             case rel => exact ⟨(y126), (wrap64 (x4_1 + 1)), (by first | rfl | (simp; done) | (simp [*]; done)), H', ⟨by have := HK1.out; have := HJ3.out; have := HJ7.out; omega⟩, ⟨by apply sR; exact Kd.R_mono HO128.out (fun _ hk => trivial)⟩, ⟨sW HB.out⟩⟩
            ·rw [if_neg c25] at H
             exact absurd H (by simp)
    ·rw [if_neg c3] at H
     exact absurd H (by simp)
   ·rw [if_neg c2] at H
    have c2b0 : decide (x4_1 < (l0.length : Int)) = false := decide_eq_false c2
    clear c2
    obtain rfl := Option.some.inj H
    have hcv30 := own_string (P := Tryz.prog) Tryz.underlying149 Tryz.underlying5 Tryz.underlying9 (Kd.own_of_R HO_3.out)
    go_wp2
    go_ret
    exact ⟨by first | rfl | (simp [errW_none, errW_some] <;> rfl) | (simp [*, errW_none, errW_some] <;> rfl), sW HB.out⟩

end Go.Proofs.YteidebllianiiaaGreatDoor.PAll
