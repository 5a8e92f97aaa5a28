-- written by a program of this session (wip/px): the walk of printed functions
import Derived.Test.YtoephmnkenlmiaaPAllx0
import Derived.Test.YtoephmnkenlmiaaPAllx4
namespace Go.Proofs.Ytoephmnkenlmiaa.PAll
open Go.RowKit Go.Proofs.YtoephmnkenlmiaaW.PrintWords Go.Proofs.YtoephmnkenlmiaaW.PrintLast Go.Proofs.YtoephmnkenlmiaaW.PrintMore
attribute [local go_sem] max2_int min2_int max_two min_two max_three min_three max_four min_four   -- for this text's walks alone
set_option linter.unusedVariables false
set_option linter.unusedSimpArgs false

/-! ### concordanceref02_Tokens: function 18 -/
def concordanceref02_Tokens.l0 : Nat → List ByteArray → List (S35) → Int → Option ((List (S35)) × Int)
  | 0, _, _, _ => none
  | k + 1, x4, x5, x6 => if x6 < (x4.length : Int) then (if 0 ≤ x6 then (if ((rdOf ByteArray.empty x4 x6).size : Int) > 30 then (some (([] : List (S35)), 3)) else (if x6 ≥ 500 then (some (([] : List (S35)), 7)) else (if x5.length < 5864062014805 then (concordanceref02_Tokens.l0 k x4 (x5 ++ [(⟨rdOf ByteArray.empty x4 x6, x6⟩ : S35)]) (wrap64 (x6 + 1))) else (none)))) else (none)) else (some (x5, 0))
def concordanceref02_Tokens.f (k : Nat) (a0 : ByteArray) : Option ((List (S35)) × Int) := (concordanceref02_Words.f k a0).bind fun t226 => (concordanceref02_Tokens.l0 k t226 ([] : List (S35)) 0)
theorem concordanceref02_Tokens.mono_l : ∀ k, (∀ y0 y1 y2, LeO (concordanceref02_Tokens.l0 k y0 y1 y2) (concordanceref02_Tokens.l0 (k + 1) y0 y1 y2))
  | 0 => fun _ _ _ r h => by simp [concordanceref02_Tokens.l0] at h
  | k + 1 => by
    have ih0 := concordanceref02_Tokens.mono_l k
    · intro y0 y1 y2
      unfold concordanceref02_Tokens.l0
      repeat' first
      | (with_reducible exact ih0 _ _ _)
      | (with_reducible exact concordanceref02_Words.mono _ _)
      | (with_reducible exact LeO.refl _)
      | (with_reducible exact LeO.none _)
      | (with_reducible refine LeO.ite ?_ ?_)
      | (with_reducible refine LeO.bind ?_ (fun _ => ?_))
      | exact ih0 _ _ _
      | exact concordanceref02_Words.mono _ _
      | exact LeO.none _
      | refine LeO.ite ?_ ?_
      | refine LeO.bind ?_ (fun _ => ?_)
theorem concordanceref02_Tokens.mono : ∀ a0 k, LeO (concordanceref02_Tokens.f k a0) (concordanceref02_Tokens.f (k + 1) a0) := by
  intro a0 k
  have ih0 := concordanceref02_Tokens.mono_l k
  unfold concordanceref02_Tokens.f
  repeat' first
      | (with_reducible exact ih0 _ _ _)
      | (with_reducible exact concordanceref02_Words.mono _ _)
      | (with_reducible exact LeO.refl _)
      | (with_reducible exact LeO.none _)
      | (with_reducible refine LeO.ite ?_ ?_)
      | (with_reducible refine LeO.bind ?_ (fun _ => ?_))
      | exact ih0 _ _ _
      | exact concordanceref02_Words.mono _ _
      | exact LeO.none _
      | refine LeO.ite ?_ ?_
      | refine LeO.bind ?_ (fun _ => ?_)
set_option maxHeartbeats 8000000 in
set_option maxRecDepth 100000 in
theorem concordanceref02_Tokens.calls (k : Nat) (a0 : ByteArray) (r1 : List (S35)) (r2 : Int) (w : World) (h : concordanceref02_Tokens.f k a0 = some (r1, r2)) :
    Calls Try.prog 18 #[.string a0] w fun e w' => ∃ v0_ : Value, e = .returned (.tuple #[v0_, .int .i64 r2]) ∧ Kd.R k35 35 w' w.heap.size (fun _ => True) v0_ r1 ∧ Below w.heap.size w w' := by
  have hu35 := Try.underlying35
  have HB := Aside0.mk (Below.refl w.heap.size w)
  have H : ((concordanceref02_Words.f k a0).bind fun t226 => (concordanceref02_Tokens.l0 k t226 ([] : List (S35)) 0)) = some (r1, r2) := h
  clear h
  replace H := Option.bind_eq_some_iff.mp H
  obtain ⟨t226, A20, H⟩ := H
  replace H : (concordanceref02_Tokens.l0 k t226 ([] : List (S35)) 0) = some (r1, r2) := H
  have A2 := Aside0.mk A20
  clear A20
  have H' := Aside0.mk H
  clear H
  go_enter Try.func18, Try.ntmps18
  go_wp2_with (first | ((with_reducible refine gate_callee (f := 19) rfl ?_); refine goesL_ (some 8) rfl rfl Try.func19 (by kernel_rfl) rfl #[.string a0] rfl (by (try simp only [List.map_toArray, List.map_cons, List.map_nil]); first | done | rfl | (simp only [List.length_drop, List.length_take]; rfl)) ?_; (with_reducible refine (concordanceref02_Words.calls k a0 t226 _ A2.out).mono ?_); rintro e w3 ⟨v227, rfl, ho0, hb⟩; refine ⟨_, rfl, ?_⟩; have n0_ := Aside0.mk (Kd.R_lower ho0 (below_size (by repeat (first | (with_reducible first | exact HB.out | apply below_alloc | apply pw_below_drewN | apply below_drew1) | exact HB.out)))); have n1_ := Aside0.mk (below_step (by repeat (first | (with_reducible first | exact HB.out | apply below_alloc | apply pw_below_drewN | apply below_drew1) | exact HB.out)) hb); clear HB; have HO228 := n0_; have HB := n1_; clear n0_ n1_; (try clear hb); (try clear hb2); (try clear hk); (try clear hi); (try clear ho0)))
  go_loopg [5, 6] k (fun kq v5 v6 w' => ∃ (x5_1 : List (S35)) (x6_1 : Int), v6 = .int .i64 x6_1 ∧ Aside0 (concordanceref02_Tokens.l0 kq t226 x5_1 x6_1 = some (r1, r2)) ∧ Aside0 (kq ≤ k) ∧ Aside0 (Kd.R Kd.string 9 w' w.heap.size (fun _ => True) v227 t226) ∧ Aside0 (Kd.R k35 35 w' w.heap.size (fun _ => True) v5 x5_1) ∧ Aside0 (Below w.heap.size w w'))
  case atStart => exact ⟨(([] : List (S35))), (0), (by first | rfl | (simp; done) | (simp [*]; done)), H', ⟨Nat.le_refl _⟩, ⟨by (with_reducible repeat (first | apply Kd.R_alloc | apply Kd.R_drewN | apply Kd.R_drew)); exact HO228.out⟩, ⟨by first | exact Kd.R_nil _ _ _ _ _ | exact Kd.N_nil _ _ _ _ _ | exact Kd.V_nil _ _ _ _ _ | exact Kd.Q_nil _ _ _ _ _ | exact Kd.S_nil _ _ _ _ _⟩, ⟨by repeat (first | (with_reducible first | exact HB.out | apply below_alloc | apply pw_below_drewN | apply below_drew1) | exact HB.out)⟩⟩
  case round =>
    clear H'
    try clear c1
    try clear p2
    obtain ⟨x5_1, x6_1, rfl, HA, HK1, HO_4, HO_5, HB⟩ := hrel
    cases gk with
    | zero => exact absurd HA.out (by simp [concordanceref02_Tokens.l0])
    | succ k1 =>
      have H := HA.out
      clear HA
      simp only [concordanceref02_Tokens.l0] at H
      by_cases c4 : x6_1 < (t226.length : Int)
      · rw [if_pos c4] at H
        have c4b0 : decide (x6_1 < (t226.length : Int)) = true := decide_eq_true c4
        clear c4
        by_cases c5 : 0 ≤ x6_1
        · rw [if_pos c5] at H
          have c5b0 : decide (0 ≤ x6_1) = true := decide_eq_true c5
          clear c5
          by_cases c6 : ((rdOf ByteArray.empty t226 x6_1).size : Int) > 30
          · rw [if_pos c6] at H
            have c6b0 : decide (30 < ((rdOf ByteArray.empty t226 x6_1).size : Int)) = true := decide_eq_true c6
            have c6b1 : decide (30 < (rdOf ByteArray.empty t226 x6_1).size) = true := decide_eq_true (by omega)
            clear c6
            simp only [Option.some.injEq, Prod.mk.injEq] at H
            obtain ⟨rfl, rfl⟩ := H
            obtain ⟨Ao7, co7, eo7⟩ := Kd.R_slice HO_4.out
            subst eo7
            have p229 : 0 ≤ (x6_1 : Int) := of_decide_eq_true (by first | (with_reducible assumption) | assumption)
            have q229 : x6_1 < (t226.length : Int) := of_decide_eq_true (by first | (with_reducible assumption) | assumption)
            obtain ⟨ad229, e229, hx229_0⟩ := Kd.at_string (Kd.R_reads' HO_4.out).2.2 x6_1 p229 q229
            cases e229
            replace p229 := eq_true p229
            replace q229 := eq_true q229
            go_wp2
            go_ret2
            exact ⟨_, by first | rfl | (simp [errW_none, errW_some] <;> rfl) | (simp [*, errW_none, errW_some] <;> rfl), by first | exact Kd.R_nil _ _ _ _ _ | exact Kd.N_nil _ _ _ _ _ | exact Kd.V_nil _ _ _ _ _ | exact Kd.Q_nil _ _ _ _ _ | exact Kd.S_nil _ _ _ _ _, by repeat (first | (with_reducible first | exact HB.out | apply below_alloc | apply pw_below_drewN | apply below_drew1) | exact HB.out)⟩
          · rw [if_neg c6] at H
            have c6b0 : decide (30 < ((rdOf ByteArray.empty t226 x6_1).size : Int)) = false := decide_eq_false c6
            have c6b1 : decide (30 < (rdOf ByteArray.empty t226 x6_1).size) = false := decide_eq_false (by omega)
            clear c6
            by_cases c8 : x6_1 ≥ 500
            · rw [if_pos c8] at H
              have c8b0 : decide (500 ≤ x6_1) = true := decide_eq_true c8
              clear c8
              simp only [Option.some.injEq, Prod.mk.injEq] at H
              obtain ⟨rfl, rfl⟩ := H
              obtain ⟨Ao9, co9, eo9⟩ := Kd.R_slice HO_4.out
              subst eo9
              have p229 : 0 ≤ (x6_1 : Int) := of_decide_eq_true (by first | (with_reducible assumption) | assumption)
              have q229 : x6_1 < (t226.length : Int) := of_decide_eq_true (by first | (with_reducible assumption) | assumption)
              obtain ⟨ad229, e229, hx229_0⟩ := Kd.at_string (Kd.R_reads' HO_4.out).2.2 x6_1 p229 q229
              cases e229
              replace p229 := eq_true p229
              replace q229 := eq_true q229
              go_wp2
              go_ret2
              exact ⟨_, by first | rfl | (simp [errW_none, errW_some] <;> rfl) | (simp [*, errW_none, errW_some] <;> rfl), by first | exact Kd.R_nil _ _ _ _ _ | exact Kd.N_nil _ _ _ _ _ | exact Kd.V_nil _ _ _ _ _ | exact Kd.Q_nil _ _ _ _ _ | exact Kd.S_nil _ _ _ _ _, by repeat (first | (with_reducible first | exact HB.out | apply below_alloc | apply pw_below_drewN | apply below_drew1) | exact HB.out)⟩
            · rw [if_neg c8] at H
              have c8b0 : decide (500 ≤ x6_1) = false := decide_eq_false c8
              clear c8
              by_cases c10 : x5_1.length < 5864062014805
              · rw [if_pos c10] at H
                have LMc10 := Aside0.mk c10
                clear c10
                obtain ⟨y231, hy231⟩ : ∃ y_ : List (S35), y_ = (x5_1 ++ [(⟨rdOf ByteArray.empty t226 x6_1, x6_1⟩ : S35)]) := ⟨_, rfl⟩
                replace H : (concordanceref02_Tokens.l0 k1 t226 y231 (wrap64 (x6_1 + 1))) = some (r1, r2) := by first | (rw [hy231]; with_reducible exact H) | (have H2_ := (Option.bind_some _ _).symm.trans H; rw [hy231]; with_reducible exact H2_) | (have H2_ := (Option.bind_some _ _).symm.trans H; with_reducible exact H2_) | with_reducible exact H | (rw [hy231]; exact H) | exact H
                have Ny231 := Aside0.mk hy231
                clear hy231
                have H' := Aside0.mk H
                clear H
                obtain ⟨Ao11, co11, eo11⟩ := Kd.R_slice HO_4.out
                subst eo11
                have p229 : 0 ≤ (x6_1 : Int) := of_decide_eq_true (by first | (with_reducible assumption) | assumption)
                have q229 : x6_1 < (t226.length : Int) := of_decide_eq_true (by first | (with_reducible assumption) | assumption)
                obtain ⟨ad229, e229, hx229_0⟩ := Kd.at_string (Kd.R_reads' HO_4.out).2.2 x6_1 p229 q229
                cases e229
                replace p229 := eq_true p229
                replace q229 := eq_true q229
                have p230 : 0 ≤ (x6_1 : Int) := of_decide_eq_true (by first | (with_reducible assumption) | assumption)
                have q230 : x6_1 < (t226.length : Int) := of_decide_eq_true (by first | (with_reducible assumption) | assumption)
                obtain ⟨ad230, e230, hx230_0⟩ := Kd.at_string (Kd.R_reads' HO_4.out).2.2 x6_1 p230 q230
                obtain rfl : ad229 = ad230 := (by injection e230)
                replace p230 := eq_true p230
                replace q230 := eq_true q230
                go_wp2_with (first | ((with_reducible refine gate_builtin (b := .append) (xs := #[.tmp 23, .tmp 30]) rfl ?_); at_builtin; refine Kd.R_append k35 (w0 := w) w.heap.size rfl (.tmp 23) (.tmp 30) 30 35 (.agg #[(.string ⟨#[]⟩), (.int .i64 0)]) 24 rfl Try.underlying30 info35 rfl (by decide) (by omega) u5 x5_1 (⟨rdOf ByteArray.empty t226 x6_1, x6_1⟩ : S35) [.string (rdOf ByteArray.empty t226 x6_1), .int .i64 x6_1] (fun _ => True) (fun _ => False) rfl rfl ?aP (fun _ hk => hk.elim) ?aF ?aO ?aB ?aS ?aL ?_; (case aP => exact k35_mkM _ _ _ (⟨rdOf ByteArray.empty t226 x6_1, x6_1⟩ : S35)); (case aB => exact (by repeat (first | (with_reducible first | exact HB.out | apply below_alloc | apply pw_below_drewN | apply below_drew1) | exact HB.out))); (case aF => exact (fun _ _ => trivial)); (case aO => exact (by (with_reducible repeat (first | apply Kd.R_alloc | apply Kd.R_drewN | apply Kd.R_drew)); exact HO_5.out)); (case aS => exact (below_size (by repeat (first | (with_reducible first | exact HB.out | apply below_alloc | apply pw_below_drewN | apply below_drew1) | exact HB.out)))); (case aL => have := LMc10.out; omega); intro v232 w12 ho hb hg hat; rw [← Ny231.out] at ho; have n0_ := Aside0.mk (Kd.R_over' (by (with_reducible repeat (first | apply Kd.R_alloc | apply Kd.R_drewN | apply Kd.R_drew)); exact HO_4.out) (Kd.R_typed (by (with_reducible repeat (first | apply Kd.R_alloc | apply Kd.R_drewN | apply Kd.R_drew)); exact HO_5.out)) (by decide) hg); have n1_ := Aside0.mk (hb); have n2_ := Aside0.mk (ho); clear HO_4; clear HB; clear HO_5; have HO_4 := n0_; have HB := n1_; have HO233 := n2_; clear n0_ n1_ n2_; clear ho hb hg hat))
                go_roundg k1
                case measure => have := HK1.out; omega
                case rel => exact ⟨(y231), (wrap64 (x6_1 + 1)), (by first | rfl | (simp; done) | (simp [*]; done)), H', ⟨by have := HK1.out; omega⟩, ⟨by (with_reducible repeat (first | apply Kd.R_alloc | apply Kd.R_drewN | apply Kd.R_drew)); exact HO_4.out⟩, ⟨by (with_reducible repeat (first | apply Kd.R_alloc | apply Kd.R_drewN | apply Kd.R_drew)); exact HO233.out⟩, ⟨by repeat (first | (with_reducible first | exact HB.out | apply below_alloc | apply pw_below_drewN | apply below_drew1) | exact HB.out)⟩⟩
              · rw [if_neg c10] at H
                exact absurd H (by simp)
        · rw [if_neg c5] at H
          exact absurd H (by simp)
      · rw [if_neg c4] at H
        have c4b0 : decide (x6_1 < (t226.length : Int)) = false := decide_eq_false c4
        clear c4
        simp only [Option.some.injEq, Prod.mk.injEq] at H
        obtain ⟨rfl, rfl⟩ := H
        obtain ⟨Ao13, co13, eo13⟩ := Kd.R_slice HO_4.out
        subst eo13
        go_wp2
        go_ret2
        exact ⟨_, by first | rfl | (simp [errW_none, errW_some] <;> rfl) | (simp [*, errW_none, errW_some] <;> rfl), by (with_reducible repeat (first | apply Kd.R_alloc | apply Kd.R_drewN | apply Kd.R_drew)); exact HO_5.out, by repeat (first | (with_reducible first | exact HB.out | apply below_alloc | apply pw_below_drewN | apply below_drew1) | exact HB.out)⟩

end Go.Proofs.Ytoephmnkenlmiaa.PAll
