-- written by a program of this session (wip/px): the walk of printed functions
import Derived.Test.YtlghcfhmfbdidaaJAllx0
import Derived.Test.YtlghcfhmfbdidaaPAllx2
namespace Go.Proofs.Ytlghcfhmfbdidaa.PAll
open Go.RowKit Go.Proofs.YtlghcfhmfbdidaaW.PrintWords Go.Proofs.YtlghcfhmfbdidaaW.PrintLast Go.Proofs.YtlghcfhmfbdidaaW.PrintMore
attribute [local go_sem] max2_int min2_int max_two min_two max_three min_three max_four min_four   -- for this text's walks alone
set_option linter.unusedVariables false
set_option linter.unusedSimpArgs false

-- EXTERN: function 12 (concordancelaw07_lives): module LivesX

/-! ### concordanceref07_Join: function 26 -/
mutual
def concordanceref07_Join.l0 : Nat → List (List ByteArray) → List ByteArray → Int → Option (List ByteArray)
  | 0, _, _, _ => none
  | k + 1, x0, x3, x4 => if x4 < (x0.length : Int) then (concordanceref07_Join.l1 k x0 x3 x4 0) else (some x3)
def concordanceref07_Join.l1 : Nat → List (List ByteArray) → List ByteArray → Int → Int → Option (List ByteArray)
  | 0, _, _, _, _ => none
  | k + 1, x0, x3, x4, x5 => if 0 ≤ x4 then (if x4 < (x0.length : Int) then (if x5 < ((rd_L2 x0 x4).length : Int) then (if 0 ≤ x5 then ((concordanceref07_Put.f k x3 (rdOf ByteArray.empty (rd_L2 x0 x4) x5)).bind fun t135 => (concordanceref07_Join.l1 k x0 t135 x4 (wrap64 (x5 + 1)))) else (none)) else (concordanceref07_Join.l0 k x0 x3 (wrap64 (x4 + 1)))) else (none)) else (none)
end
def concordanceref07_Join.f (k : Nat) (l0 : List (List ByteArray)) : Option (List ByteArray) := concordanceref07_Join.l0 k l0 ([] : List ByteArray) 0
theorem concordanceref07_Join.mono_l : ∀ k, (∀ y0 y1 y2, LeO (concordanceref07_Join.l0 k y0 y1 y2) (concordanceref07_Join.l0 (k + 1) y0 y1 y2)) ∧ (∀ y0 y1 y2 y3, LeO (concordanceref07_Join.l1 k y0 y1 y2 y3) (concordanceref07_Join.l1 (k + 1) y0 y1 y2 y3))
  | 0 => ⟨fun _ _ _ r h => by simp [concordanceref07_Join.l0] at h, fun _ _ _ _ r h => by simp [concordanceref07_Join.l1] at h⟩
  | k + 1 => by
    obtain ⟨ih0, ih1⟩ := concordanceref07_Join.mono_l k
    refine ⟨?_, ?_⟩
    · intro y0 y1 y2
      unfold concordanceref07_Join.l0
      repeat' first
      | (with_reducible exact ih0 _ _ _)
      | (with_reducible exact ih1 _ _ _ _)
      | (with_reducible exact concordanceref07_Put.mono _ _ _)
      | (with_reducible exact LeO.refl _)
      | (with_reducible exact LeO.none _)
      | (with_reducible refine LeO.ite ?_ ?_)
      | (with_reducible refine LeO.bind ?_ (fun _ => ?_))
      | exact ih0 _ _ _
      | exact ih1 _ _ _ _
      | exact concordanceref07_Put.mono _ _ _
      | exact LeO.none _
      | refine LeO.ite ?_ ?_
      | refine LeO.bind ?_ (fun _ => ?_)
    · intro y0 y1 y2 y3
      unfold concordanceref07_Join.l1
      repeat' first
      | (with_reducible exact ih0 _ _ _)
      | (with_reducible exact ih1 _ _ _ _)
      | (with_reducible exact concordanceref07_Put.mono _ _ _)
      | (with_reducible exact LeO.refl _)
      | (with_reducible exact LeO.none _)
      | (with_reducible refine LeO.ite ?_ ?_)
      | (with_reducible refine LeO.bind ?_ (fun _ => ?_))
      | exact ih0 _ _ _
      | exact ih1 _ _ _ _
      | exact concordanceref07_Put.mono _ _ _
      | exact LeO.none _
      | refine LeO.ite ?_ ?_
      | refine LeO.bind ?_ (fun _ => ?_)
theorem concordanceref07_Join.mono : ∀ a0 k, LeO (concordanceref07_Join.f k a0) (concordanceref07_Join.f (k + 1) a0) := by
  intro a0 k
  obtain ⟨ih0, ih1⟩ := concordanceref07_Join.mono_l k
  unfold concordanceref07_Join.f
  repeat' first
      | (with_reducible exact ih0 _ _ _)
      | (with_reducible exact ih1 _ _ _ _)
      | (with_reducible exact concordanceref07_Put.mono _ _ _)
      | (with_reducible exact LeO.refl _)
      | (with_reducible exact LeO.none _)
      | (with_reducible refine LeO.ite ?_ ?_)
      | (with_reducible refine LeO.bind ?_ (fun _ => ?_))
      | exact ih0 _ _ _
      | exact ih1 _ _ _ _
      | exact concordanceref07_Put.mono _ _ _
      | exact LeO.none _
      | refine LeO.ite ?_ ?_
      | refine LeO.bind ?_ (fun _ => ?_)
set_option maxHeartbeats 8000000 in
set_option maxRecDepth 100000 in
theorem concordanceref07_Join.calls (k : Nat) (A0 : Option Addr) (c0 : Nat) (l0 : List (List ByteArray)) (r : List ByteArray) (w : World) (hr0 : Kd.C (Kd.slice 9 Kd.string) w A0 l0.length l0) (hc0 : l0.length ≤ c0) (h : concordanceref07_Join.f k l0 = some r) :
    Calls Try.prog 26 #[.slice A0 l0.length c0] w fun e w' => ∃ v0_ : Value, e = .returned (v0_) ∧ Kd.R Kd.string 9 w' w.heap.size (fun _ => True) v0_ r ∧ Below w.heap.size w w' := by
  have HR0 := Aside0.mk hr0
  have HC0 := Aside0.mk hc0
  clear hr0 hc0
  have HB := Aside0.mk (Below.refl w.heap.size w)
  have H : (concordanceref07_Join.l0 k l0 ([] : List ByteArray) 0) = some r := h
  clear h
  have H' := Aside0.mk H
  clear H
  go_enter Try.func26, Try.ntmps26
  go_wp2
  go_loopg [3, 4] k (fun kq v3 v4 w' => ∃ (x3_1 : List ByteArray) (x4_1 : Int), v4 = .int .i64 x4_1 ∧ Aside0 (concordanceref07_Join.l0 kq l0 x3_1 x4_1 = some r) ∧ Aside0 (kq ≤ k) ∧ Aside0 (Kd.R Kd.string 9 w' w.heap.size (fun _ => True) v3 x3_1) ∧ Aside0 (Below w.heap.size w w'))
  case atStart => exact ⟨(([] : List ByteArray)), (0), (by first | rfl | (simp; done) | (simp [*]; done)), H', ⟨Nat.le_refl _⟩, ⟨by first | exact Kd.R_nil _ _ _ _ _ | exact Kd.N_nil _ _ _ _ _ | exact Kd.V_nil _ _ _ _ _ | exact Kd.Q_nil _ _ _ _ _ | exact Kd.S_nil _ _ _ _ _⟩, ⟨by repeat (first | (with_reducible first | exact HB.out | apply below_alloc | apply pw_below_drewN | apply below_drew1) | exact HB.out)⟩⟩
  case round =>
    clear H'
    obtain ⟨x3_1, x4_1, rfl, HA, HK1, HO_3, HB⟩ := hrel
    cases gk with
    | zero => exact absurd HA.out (by simp [concordanceref07_Join.l0])
    | succ k1 =>
      have H := HA.out
      clear HA
      simp only [concordanceref07_Join.l0] at H
      by_cases c2 : x4_1 < (l0.length : Int)
      · rw [if_pos c2] at H
        have c2b0 : decide (x4_1 < (l0.length : Int)) = true := decide_eq_true c2
        clear c2
        have H' := Aside0.mk H
        clear H
        go_wp2
        go_loopg [3, 5] k1 (fun kq v3 v5 w' => ∃ (x3_2 : List ByteArray) (x5_2 : Int), v5 = .int .i64 x5_2 ∧ Aside0 (concordanceref07_Join.l1 kq l0 x3_2 x4_1 x5_2 = some r) ∧ Aside0 (kq ≤ k1) ∧ Aside0 (Kd.R Kd.string 9 w' w.heap.size (fun _ => True) v3 x3_2) ∧ Aside0 (Below w.heap.size w w'))
        case atStart => exact ⟨(x3_1), (0), (by first | rfl | (simp; done) | (simp [*]; done)), H', ⟨Nat.le_refl _⟩, ⟨by (with_reducible repeat (first | apply Kd.R_alloc | apply Kd.R_drewN | apply Kd.R_drew)); exact HO_3.out⟩, ⟨by repeat (first | (with_reducible first | exact HB.out | apply below_alloc | apply pw_below_drewN | apply below_drew1) | exact HB.out)⟩⟩
        case round =>
          clear H'
          try clear c2
          try clear c2b0
          try clear p2
          obtain ⟨x3_2, x5_2, rfl, HA, HK2, HO_3, HB⟩ := hrel
          cases gk with
          | zero => exact absurd HA.out (by simp [concordanceref07_Join.l1])
          | succ k2 =>
            have H := HA.out
            clear HA
            simp only [concordanceref07_Join.l1] at H
            by_cases c3 : 0 ≤ x4_1
            · rw [if_pos c3] at H
              have c3b0 : decide (0 ≤ x4_1) = true := decide_eq_true c3
              clear c3
              by_cases c4 : x4_1 < (l0.length : Int)
              · rw [if_pos c4] at H
                have c4b0 : decide (x4_1 < (l0.length : Int)) = true := decide_eq_true c4
                clear c4
                by_cases c5 : x5_2 < ((rd_L2 l0 x4_1).length : Int)
                · rw [if_pos c5] at H
                  have c5b0 : decide (x5_2 < ((rd_L2 l0 x4_1).length : Int)) = true := decide_eq_true c5
                  clear c5
                  by_cases c6 : 0 ≤ x5_2
                  · rw [if_pos c6] at H
                    have c6b0 : decide (0 ≤ x5_2) = true := decide_eq_true c6
                    clear c6
                    replace H := Option.bind_eq_some_iff.mp H
                    obtain ⟨t135, A70, H⟩ := H
                    replace H : (concordanceref07_Join.l1 k2 l0 t135 x4_1 (wrap64 (x5_2 + 1))) = some r := H
                    have A7 := Aside0.mk A70
                    clear A70
                    have H' := Aside0.mk H
                    clear H
                    have p132 : 0 ≤ (x4_1 : Int) := of_decide_eq_true (by first | (with_reducible assumption) | assumption)
                    have q132 : x4_1 < (l0.length : Int) := of_decide_eq_true (by first | (with_reducible assumption) | assumption)
                    obtain ⟨ad132, A132_0, c132_0, e132, hx132_0, hl132_0, hi132_0⟩ := at_L2 HR0.out x4_1 p132 q132
                    cases e132
                    replace hx132_0 := (HB.out.cell (World.block_lt_of_cell? w _ hx132_0)).trans hx132_0
                    have HR132_0 := Aside0.mk hi132_0
                    have HC132_0 := Aside0.mk hl132_0
                    clear hi132_0 hl132_0
                    replace p132 := eq_true p132
                    replace q132 := eq_true q132
                    have p133 : 0 ≤ (x4_1 : Int) := of_decide_eq_true (by first | (with_reducible assumption) | assumption)
                    have q133 : x4_1 < (l0.length : Int) := of_decide_eq_true (by first | (with_reducible assumption) | assumption)
                    obtain ⟨ad133, A133_0, c133_0, e133, hx133_0, hl133_0, hi133_0⟩ := at_L2 HR0.out x4_1 p133 q133
                    obtain rfl : ad132 = ad133 := (by injection e133)
                    replace hx133_0 := (HB.out.cell (World.block_lt_of_cell? w _ hx133_0)).trans hx133_0
                    have HR133_0 := Aside0.mk hi133_0
                    have HC133_0 := Aside0.mk hl133_0
                    clear hi133_0 hl133_0
                    replace p133 := eq_true p133
                    replace q133 := eq_true q133
                    have ea_ := Option.some.inj (hx132_0.symm.trans hx133_0)
                    injection ea_ with ea_ en_ ec_
                    subst ea_
                    subst ec_
                    clear en_
                    have p134 : 0 ≤ (x5_2 : Int) := of_decide_eq_true (by first | (with_reducible assumption) | assumption)
                    have q134 : x5_2 < ((rd_L2 l0 x4_1).length : Int) := of_decide_eq_true (by first | (with_reducible assumption) | assumption)
                    obtain ⟨ad134, e134, hx134_0⟩ := Kd.at_string HR133_0.out x5_2 p134 q134
                    cases e134
                    replace hx134_0 := (HB.out.cell (World.block_lt_of_cell? w _ hx134_0)).trans hx134_0
                    replace p134 := eq_true p134
                    replace q134 := eq_true q134
                    obtain ⟨Ao8, co8, eo8⟩ := Kd.R_slice HO_3.out
                    subst eo8
                    go_wp2_with (first | ((with_reducible refine gate_callee (f := 29) rfl ?_); refine goesL_ (some 29) rfl rfl Try.func29 (by kernel_rfl) rfl #[.slice Ao8 x3_2.length co8, .string (rdOf ByteArray.empty (rd_L2 l0 x4_1) x5_2)] rfl (by (try simp only [List.map_toArray, List.map_cons, List.map_nil]); first | done | rfl | (simp only [List.length_drop, List.length_take]; rfl)) ?_; (with_reducible refine (concordanceref07_Put.calls k2 (fun k_ => some k_ = (.slice Ao8 x3_2.length co8 : Value).ownBlock) (.slice Ao8 x3_2.length co8) x3_2 (rdOf ByteArray.empty (rd_L2 l0 x4_1) x5_2) t135 w _ ?side1 ?side2 A7.out).mono ?_); (case side1 => repeat (first | (with_reducible first | exact HB.out | apply below_alloc | apply pw_below_drewN | apply below_drew1) | exact HB.out)); (case side2 => exact Kd.R_tight rfl HO_3.out); rintro e w9 ⟨v136, rfl, ho0, hb, hkp⟩; refine ⟨_, rfl, ?_⟩; have n0_ := Aside0.mk (Kd.R_mono (ok' := fun k_ => True) ho0 (fun k_ hk_ => trivial)); have n1_ := Aside0.mk (hb); clear HB; clear HO_3; have HO137 := n0_; have HB := n1_; clear n0_ n1_; (try clear hb); (try clear hkp); (try clear ho0)))
                    go_roundg k2
                    case measure => have := HK1.out; have := HK2.out; omega
                    case rel => exact ⟨(t135), (wrap64 (x5_2 + 1)), (by first | rfl | (simp; done) | (simp [*]; done)), H', ⟨by have := HK1.out; have := HK2.out; omega⟩, ⟨by (with_reducible repeat (first | apply Kd.R_alloc | apply Kd.R_drewN | apply Kd.R_drew)); exact HO137.out⟩, ⟨by repeat (first | (with_reducible first | exact HB.out | apply below_alloc | apply pw_below_drewN | apply below_drew1) | exact HB.out)⟩⟩
                  · rw [if_neg c6] at H
                    exact absurd H (by simp)
                · rw [if_neg c5] at H
                  have c5b0 : decide (x5_2 < ((rd_L2 l0 x4_1).length : Int)) = false := decide_eq_false c5
                  clear c5
                  have H' := Aside0.mk H
                  clear H
                  have p132 : 0 ≤ (x4_1 : Int) := of_decide_eq_true (by first | (with_reducible assumption) | assumption)
                  have q132 : x4_1 < (l0.length : Int) := of_decide_eq_true (by first | (with_reducible assumption) | assumption)
                  obtain ⟨ad132, A132_0, c132_0, e132, hx132_0, hl132_0, hi132_0⟩ := at_L2 HR0.out x4_1 p132 q132
                  cases e132
                  replace hx132_0 := (HB.out.cell (World.block_lt_of_cell? w _ hx132_0)).trans hx132_0
                  have HR132_0 := Aside0.mk hi132_0
                  have HC132_0 := Aside0.mk hl132_0
                  clear hi132_0 hl132_0
                  replace p132 := eq_true p132
                  replace q132 := eq_true q132
                  go_wp2
                  go_roundg k2
                  case measure => have := HK1.out; have := HK2.out; omega
                  case rel => exact ⟨(x3_2), (wrap64 (x4_1 + 1)), (by first | rfl | (simp; done) | (simp [*]; done)), H', ⟨by have := HK1.out; have := HK2.out; omega⟩, ⟨by (with_reducible repeat (first | apply Kd.R_alloc | apply Kd.R_drewN | apply Kd.R_drew)); exact HO_3.out⟩, ⟨by repeat (first | (with_reducible first | exact HB.out | apply below_alloc | apply pw_below_drewN | apply below_drew1) | exact HB.out)⟩⟩
              · rw [if_neg c4] at H
                exact absurd H (by simp)
            · rw [if_neg c3] at H
              exact absurd H (by simp)
      · rw [if_neg c2] at H
        have c2b0 : decide (x4_1 < (l0.length : Int)) = false := decide_eq_false c2
        clear c2
        obtain rfl := Option.some.inj H
        go_wp2
        go_ret
        exact ⟨_, by first | rfl | (simp [errW_none, errW_some] <;> rfl) | (simp [*, errW_none, errW_some] <;> rfl), by (with_reducible repeat (first | apply Kd.R_alloc | apply Kd.R_drewN | apply Kd.R_drew)); exact HO_3.out, by repeat (first | (with_reducible first | exact HB.out | apply below_alloc | apply pw_below_drewN | apply below_drew1) | exact HB.out)⟩

-- EXTERN: function 40 (bits_Len): module LenX

end Go.Proofs.Ytlghcfhmfbdidaa.PAll
