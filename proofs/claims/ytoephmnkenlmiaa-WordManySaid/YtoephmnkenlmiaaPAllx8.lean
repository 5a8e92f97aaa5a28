-- written by a program of this session (wip/px): the walk of printed functions
import Derived.Test.YtoephmnkenlmiaaPAllx0
import Derived.Test.YtoephmnkenlmiaaPAllx6
import Derived.Test.YtoephmnkenlmiaaPAllx7
namespace Go.Proofs.Ytoephmnkenlmiaa.PAll
open Go.RowKit Go.Proofs.YtoephmnkenlmiaaW.PrintWords Go.Proofs.YtoephmnkenlmiaaW.PrintLast Go.Proofs.YtoephmnkenlmiaaW.PrintMore
attribute [local go_sem] max2_int min2_int max_two min_two max_three min_three max_four min_four   -- for this text's walks alone
set_option linter.unusedVariables false
set_option linter.unusedSimpArgs false

/-! ### concordancelaw02_WordMany: function 7 -/
mutual
def concordancelaw02_WordMany.j0 : Nat → Int → Int → Option (Bool)
  | 0, _, _ => none
  | k + 1, x0, x1 => if x1 < 0 then (concordancelaw02_WordMany.j1 k x0 (wrap64 (-(wrap64 (x1 + 1))))) else (concordancelaw02_WordMany.j1 k x0 x1)
def concordancelaw02_WordMany.j1 : Nat → Int → Int → Option (Bool)
  | 0, _, _ => none
  | k + 1, x0, x1 => concordancelaw02_WordMany.l0 k (wrap64 (490 + (Int.tmod x0 21))) (wrap64 (20 + (Int.tmod x1 21))) ([] : List Int) 1
def concordancelaw02_WordMany.l0 : Nat → Int → Int → List Int → Int → Option (Bool)
  | 0, _, _, _, _ => none
  | k + 1, x0, x1, x5, x6 => if x6 < x0 then ((some (([97, 32] : List Int) : List Int)).bind fun y253 => (if x5.length + y253.length < 140737488355328 then (concordancelaw02_WordMany.l0 k x0 x1 (x5 ++ y253) (wrap64 (x6 + 1))) else (none))) else (concordancelaw02_WordMany.l1 k x0 x1 x5 0)
def concordancelaw02_WordMany.l1 : Nat → Int → Int → List Int → Int → Option (Bool)
  | 0, _, _, _, _ => none
  | k + 1, x0, x1, x5, x7 => if x7 < x1 then (if x5.length < 140737488355328 then (concordancelaw02_WordMany.l1 k x0 x1 (x5 ++ [98]) (wrap64 (x7 + 1))) else (none)) else ((word_Tokens.f k (strOfNums x5)).bind fun bt262 => (if x0 > 501 then (if bt262.2 = 7 then (if bt262.2 = 0 then (if (bt262.1.length : Int) = x0 then (if 0 ≤ (wrap64 (x0 - 1)) then (if (wrap64 (x0 - 1)) < (bt262.1.length : Int) then (if ((rd_T35 bt262.1 (wrap64 (x0 - 1))).f1) = (wrap64 (x0 - 1)) then (if (((rd_T35 bt262.1 (wrap64 (x0 - 1))).f0).size : Int) = x1 then ((concordancelaw02_lives.f).bind fun t268 => (some t268)) else (some false)) else (some false)) else (none)) else (none)) else (some false)) else (if (bt262.1.length : Int) = 0 then ((concordancelaw02_lives.f).bind fun t269 => (some t269)) else (some false))) else (some false)) else (if x1 > 30 then (if bt262.2 = 3 then (if bt262.2 = 0 then (if (bt262.1.length : Int) = x0 then (if 0 ≤ (wrap64 (x0 - 1)) then (if (wrap64 (x0 - 1)) < (bt262.1.length : Int) then (if ((rd_T35 bt262.1 (wrap64 (x0 - 1))).f1) = (wrap64 (x0 - 1)) then (if (((rd_T35 bt262.1 (wrap64 (x0 - 1))).f0).size : Int) = x1 then ((concordancelaw02_lives.f).bind fun t272 => (some t272)) else (some false)) else (some false)) else (none)) else (none)) else (some false)) else (if (bt262.1.length : Int) = 0 then ((concordancelaw02_lives.f).bind fun t273 => (some t273)) else (some false))) else (some false)) else (if x0 = 501 then (if bt262.2 = 7 then (if bt262.2 = 0 then (if (bt262.1.length : Int) = x0 then (if 0 ≤ (wrap64 (x0 - 1)) then (if (wrap64 (x0 - 1)) < (bt262.1.length : Int) then (if ((rd_T35 bt262.1 (wrap64 (x0 - 1))).f1) = (wrap64 (x0 - 1)) then (if (((rd_T35 bt262.1 (wrap64 (x0 - 1))).f0).size : Int) = x1 then ((concordancelaw02_lives.f).bind fun t276 => (some t276)) else (some false)) else (some false)) else (none)) else (none)) else (some false)) else (if (bt262.1.length : Int) = 0 then ((concordancelaw02_lives.f).bind fun t277 => (some t277)) else (some false))) else (some false)) else (if bt262.2 = 0 then (if (bt262.1.length : Int) = x0 then (if 0 ≤ (wrap64 (x0 - 1)) then (if (wrap64 (x0 - 1)) < (bt262.1.length : Int) then (if ((rd_T35 bt262.1 (wrap64 (x0 - 1))).f1) = (wrap64 (x0 - 1)) then (if (((rd_T35 bt262.1 (wrap64 (x0 - 1))).f0).size : Int) = x1 then ((concordancelaw02_lives.f).bind fun t280 => (some t280)) else (some false)) else (some false)) else (none)) else (none)) else (some false)) else (some false))))))
end
def concordancelaw02_WordMany.f (k : Nat) (a0 : Int) (a1 : Int) : Option (Bool) := if a0 < 0 then (concordancelaw02_WordMany.j0 k (wrap64 (-(wrap64 (a0 + 1)))) a1) else (concordancelaw02_WordMany.j0 k a0 a1)
theorem concordancelaw02_WordMany.mono_l : ∀ k, (∀ y0 y1, LeO (concordancelaw02_WordMany.j0 k y0 y1) (concordancelaw02_WordMany.j0 (k + 1) y0 y1)) ∧ (∀ y0 y1, LeO (concordancelaw02_WordMany.j1 k y0 y1) (concordancelaw02_WordMany.j1 (k + 1) y0 y1)) ∧ (∀ y0 y1 y2 y3, LeO (concordancelaw02_WordMany.l0 k y0 y1 y2 y3) (concordancelaw02_WordMany.l0 (k + 1) y0 y1 y2 y3)) ∧ (∀ y0 y1 y2 y3, LeO (concordancelaw02_WordMany.l1 k y0 y1 y2 y3) (concordancelaw02_WordMany.l1 (k + 1) y0 y1 y2 y3))
  | 0 => ⟨fun _ _ r h => by simp [concordancelaw02_WordMany.j0] at h, fun _ _ r h => by simp [concordancelaw02_WordMany.j1] at h, fun _ _ _ _ r h => by simp [concordancelaw02_WordMany.l0] at h, fun _ _ _ _ r h => by simp [concordancelaw02_WordMany.l1] at h⟩
  | k + 1 => by
    obtain ⟨ih0, ih1, ih2, ih3⟩ := concordancelaw02_WordMany.mono_l k
    refine ⟨?_, ?_, ?_, ?_⟩
    · intro y0 y1
      unfold concordancelaw02_WordMany.j0
      repeat' first
      | (with_reducible exact ih0 _ _)
      | (with_reducible exact ih1 _ _)
      | (with_reducible exact ih2 _ _ _ _)
      | (with_reducible exact ih3 _ _ _ _)
      | (with_reducible exact word_Tokens.mono _ _)
      | (with_reducible exact LeO.refl _)
      | (with_reducible exact LeO.none _)
      | (with_reducible refine LeO.ite ?_ ?_)
      | (with_reducible refine LeO.bind ?_ (fun _ => ?_))
      | exact ih0 _ _
      | exact ih1 _ _
      | exact ih2 _ _ _ _
      | exact ih3 _ _ _ _
      | exact word_Tokens.mono _ _
      | exact LeO.none _
      | refine LeO.ite ?_ ?_
      | refine LeO.bind ?_ (fun _ => ?_)
    · intro y0 y1
      unfold concordancelaw02_WordMany.j1
      repeat' first
      | (with_reducible exact ih0 _ _)
      | (with_reducible exact ih1 _ _)
      | (with_reducible exact ih2 _ _ _ _)
      | (with_reducible exact ih3 _ _ _ _)
      | (with_reducible exact word_Tokens.mono _ _)
      | (with_reducible exact LeO.refl _)
      | (with_reducible exact LeO.none _)
      | (with_reducible refine LeO.ite ?_ ?_)
      | (with_reducible refine LeO.bind ?_ (fun _ => ?_))
      | exact ih0 _ _
      | exact ih1 _ _
      | exact ih2 _ _ _ _
      | exact ih3 _ _ _ _
      | exact word_Tokens.mono _ _
      | exact LeO.none _
      | refine LeO.ite ?_ ?_
      | refine LeO.bind ?_ (fun _ => ?_)
    · intro y0 y1 y2 y3
      unfold concordancelaw02_WordMany.l0
      repeat' first
      | (with_reducible exact ih0 _ _)
      | (with_reducible exact ih1 _ _)
      | (with_reducible exact ih2 _ _ _ _)
      | (with_reducible exact ih3 _ _ _ _)
      | (with_reducible exact word_Tokens.mono _ _)
      | (with_reducible exact LeO.refl _)
      | (with_reducible exact LeO.none _)
      | (with_reducible refine LeO.ite ?_ ?_)
      | (with_reducible refine LeO.bind ?_ (fun _ => ?_))
      | exact ih0 _ _
      | exact ih1 _ _
      | exact ih2 _ _ _ _
      | exact ih3 _ _ _ _
      | exact word_Tokens.mono _ _
      | exact LeO.none _
      | refine LeO.ite ?_ ?_
      | refine LeO.bind ?_ (fun _ => ?_)
    · intro y0 y1 y2 y3
      unfold concordancelaw02_WordMany.l1
      repeat' first
      | (with_reducible exact ih0 _ _)
      | (with_reducible exact ih1 _ _)
      | (with_reducible exact ih2 _ _ _ _)
      | (with_reducible exact ih3 _ _ _ _)
      | (with_reducible exact word_Tokens.mono _ _)
      | (with_reducible exact LeO.refl _)
      | (with_reducible exact LeO.none _)
      | (with_reducible refine LeO.ite ?_ ?_)
      | (with_reducible refine LeO.bind ?_ (fun _ => ?_))
      | exact ih0 _ _
      | exact ih1 _ _
      | exact ih2 _ _ _ _
      | exact ih3 _ _ _ _
      | exact word_Tokens.mono _ _
      | exact LeO.none _
      | refine LeO.ite ?_ ?_
      | refine LeO.bind ?_ (fun _ => ?_)
theorem concordancelaw02_WordMany.mono : ∀ a0 a1 k, LeO (concordancelaw02_WordMany.f k a0 a1) (concordancelaw02_WordMany.f (k + 1) a0 a1) := by
  intro a0 a1 k
  obtain ⟨ih0, ih1, ih2, ih3⟩ := concordancelaw02_WordMany.mono_l k
  unfold concordancelaw02_WordMany.f
  repeat' first
      | (with_reducible exact ih0 _ _)
      | (with_reducible exact ih1 _ _)
      | (with_reducible exact ih2 _ _ _ _)
      | (with_reducible exact ih3 _ _ _ _)
      | (with_reducible exact word_Tokens.mono _ _)
      | (with_reducible exact LeO.refl _)
      | (with_reducible exact LeO.none _)
      | (with_reducible refine LeO.ite ?_ ?_)
      | (with_reducible refine LeO.bind ?_ (fun _ => ?_))
      | exact ih0 _ _
      | exact ih1 _ _
      | exact ih2 _ _ _ _
      | exact ih3 _ _ _ _
      | exact word_Tokens.mono _ _
      | exact LeO.none _
      | refine LeO.ite ?_ ?_
      | refine LeO.bind ?_ (fun _ => ?_)
set_option maxHeartbeats 8000000 in
set_option maxRecDepth 100000 in
theorem concordancelaw02_WordMany.calls (k : Nat) (a0 : Int) (a1 : Int) (r : Bool) (w : World) (h : concordancelaw02_WordMany.f k a0 a1 = some r) :
    Calls Try.prog 7 #[.int .i64 a0, .int .i64 a1] w fun e w' => e = .returned (.bool r) ∧ Below w.heap.size w w' := by
  have HB := Aside0.mk (Below.refl w.heap.size w)
  have H : (if a0 < 0 then (concordancelaw02_WordMany.j0 k (wrap64 (-(wrap64 (a0 + 1)))) a1) else (concordancelaw02_WordMany.j0 k a0 a1)) = some r := h
  clear h
  have HC3 := Aside0.mk H
  clear H
  go_enter Try.func7, Try.ntmps7
  go_upto_if 12 with (fail)
  go_cut [0] (fun v0 wc => ∃ (kq : Nat) (x0_2 : Int), v0 = .int .i64 x0_2 ∧ Aside0 (concordancelaw02_WordMany.j0 kq x0_2 a1 = some r) ∧ Aside0 (kq ≤ k) ∧ Aside0 (Below w.heap.size w wc))
  case first =>
    have H := HC3.out
    clear HC3
    by_cases c4 : a0 < 0
    · rw [if_pos c4] at H
      have c4b0 : decide (a0 < 0) = true := decide_eq_true c4
      clear c4
      (first | rw [c4b0] | (simp only [i64_w, i32_w]; rw [c4b0]) | skip)
      have H' := Aside0.mk H
      clear H
      go_wp2
      go_meet
      case rel => exact ⟨_, (wrap64 (-(wrap64 (a0 + 1)))), (by first | rfl | (simp; done) | (simp [*]; done)), H', ⟨by first | omega | exact Nat.le_refl _⟩, ⟨by repeat (first | (with_reducible first | exact HB.out | apply below_alloc | apply pw_below_drewN | apply below_drew1) | exact HB.out)⟩⟩
    · rw [if_neg c4] at H
      have c4b0 : decide (a0 < 0) = false := decide_eq_false c4
      clear c4
      (first | rw [c4b0] | (simp only [i64_w, i32_w]; rw [c4b0]) | skip)
      have H' := Aside0.mk H
      clear H
      go_wp2
      go_meet
      case rel => exact ⟨_, (a0), (by first | rfl | (simp; done) | (simp [*]; done)), H', ⟨by first | omega | exact Nat.le_refl _⟩, ⟨by repeat (first | (with_reducible first | exact HB.out | apply below_alloc | apply pw_below_drewN | apply below_drew1) | exact HB.out)⟩⟩
  case rest =>
    clear HC3
    try clear p2
    try clear c4
    try clear c4b0
    obtain ⟨kq, x0_2, rfl, HA, HJ2, HB⟩ := hcut
    cases kq with
    | zero => exact absurd HA.out (by simp [concordancelaw02_WordMany.j0])
    | succ kj2 =>
      have H := HA.out
      clear HA
      simp only [concordancelaw02_WordMany.j0] at H
      have HC5 := Aside0.mk H
      clear H
      go_upto_if 17 with (fail)
      go_cut [1] (fun v1 wc => ∃ (kq : Nat) (x1_4 : Int), v1 = .int .i64 x1_4 ∧ Aside0 (concordancelaw02_WordMany.j1 kq x0_2 x1_4 = some r) ∧ Aside0 (kq ≤ kj2) ∧ Aside0 (Below w.heap.size w wc))
      case first =>
        have H := HC5.out
        clear HC5
        by_cases c6 : a1 < 0
        · rw [if_pos c6] at H
          have c6b0 : decide (a1 < 0) = true := decide_eq_true c6
          clear c6
          (first | rw [c6b0] | (simp only [i64_w, i32_w]; rw [c6b0]) | skip)
          have H' := Aside0.mk H
          clear H
          go_wp2
          go_meet
          case rel => exact ⟨_, (wrap64 (-(wrap64 (a1 + 1)))), (by first | rfl | (simp; done) | (simp [*]; done)), H', ⟨by have := HJ2.out; first | omega | exact Nat.le_refl _⟩, ⟨by repeat (first | (with_reducible first | exact HB.out | apply below_alloc | apply pw_below_drewN | apply below_drew1) | exact HB.out)⟩⟩
        · rw [if_neg c6] at H
          have c6b0 : decide (a1 < 0) = false := decide_eq_false c6
          clear c6
          (first | rw [c6b0] | (simp only [i64_w, i32_w]; rw [c6b0]) | skip)
          have H' := Aside0.mk H
          clear H
          go_wp2
          go_meet
          case rel => exact ⟨_, (a1), (by first | rfl | (simp; done) | (simp [*]; done)), H', ⟨by have := HJ2.out; first | omega | exact Nat.le_refl _⟩, ⟨by repeat (first | (with_reducible first | exact HB.out | apply below_alloc | apply pw_below_drewN | apply below_drew1) | exact HB.out)⟩⟩
      case rest =>
        clear HC5
        try clear p2
        try clear c4
        try clear c4b0
        try clear c6
        try clear c6b0
        try clear p6
        try clear p2
        obtain ⟨kq, x1_4, rfl, HA, HJ4, HB⟩ := hcut
        cases kq with
        | zero => exact absurd HA.out (by simp [concordancelaw02_WordMany.j1])
        | succ kj4 =>
          have H := HA.out
          clear HA
          simp only [concordancelaw02_WordMany.j1] at H
          have H' := Aside0.mk H
          clear H
          go_wp2
          go_loopg [5, 6] kj4 (fun kq v5 v6 w' => ∃ (x5_3 : List Int) (x6_3 : Int), v6 = .int .i64 x6_3 ∧ Aside0 (concordancelaw02_WordMany.l0 kq (wrap64 (490 + (Int.tmod x0_2 21))) (wrap64 (20 + (Int.tmod x1_4 21))) x5_3 x6_3 = some r) ∧ Aside0 (kq ≤ kj4) ∧ Aside0 (Kd.R (Kd.int .u8) 5 w' w.heap.size (fun _ => True) v5 x5_3) ∧ Aside0 (Below w.heap.size w w'))
          case atStart => exact ⟨(([] : List Int)), (1), (by first | rfl | (simp; done) | (simp [*]; done)), H', ⟨Nat.le_refl _⟩, ⟨by first | exact Kd.R_nil _ _ _ _ _ | exact Kd.N_nil _ _ _ _ _ | exact Kd.V_nil _ _ _ _ _ | exact Kd.Q_nil _ _ _ _ _ | exact Kd.S_nil _ _ _ _ _⟩, ⟨by repeat (first | (with_reducible first | exact HB.out | apply below_alloc | apply pw_below_drewN | apply below_drew1) | exact HB.out)⟩⟩
          case round =>
            clear H'
            try clear p2
            try clear c4
            try clear c4b0
            try clear c6
            try clear c6b0
            try clear p6
            try clear p2
            try clear p6
            obtain ⟨x5_3, x6_3, rfl, HA, HK3, HO_5, HB⟩ := hrel
            cases gk with
            | zero => exact absurd HA.out (by simp [concordancelaw02_WordMany.l0])
            | succ k3 =>
              have H := HA.out
              clear HA
              simp only [concordancelaw02_WordMany.l0] at H
              by_cases c7 : x6_3 < (wrap64 (490 + (Int.tmod x0_2 21)))
              · rw [if_pos c7] at H
                have c7b0 : decide (x6_3 < (wrap64 (490 + (Int.tmod x0_2 21)))) = true := decide_eq_true c7
                clear c7
                obtain ⟨y253, hy253⟩ : ∃ y_ : List Int, y_ = (([97, 32] : List Int)) := ⟨_, rfl⟩
                replace H : (if x5_3.length + y253.length < 140737488355328 then (concordancelaw02_WordMany.l0 k3 (wrap64 (490 + (Int.tmod x0_2 21))) (wrap64 (20 + (Int.tmod x1_4 21))) (x5_3 ++ y253) (wrap64 (x6_3 + 1))) else (none)) = some r := by first | (rw [hy253]; with_reducible exact H) | (have H2_ := (Option.bind_some _ _).symm.trans H; rw [hy253]; with_reducible exact H2_) | (have H2_ := (Option.bind_some _ _).symm.trans H; with_reducible exact H2_) | with_reducible exact H | (rw [hy253]; exact H) | exact H
                have Ny253 := Aside0.mk hy253
                clear hy253
                by_cases c8 : x5_3.length + y253.length < 140737488355328
                · rw [if_pos c8] at H
                  have LMc8 := Aside0.mk c8
                  clear c8
                  obtain ⟨y256, hy256⟩ : ∃ y_ : List Int, y_ = (x5_3 ++ y253) := ⟨_, rfl⟩
                  replace H : (concordancelaw02_WordMany.l0 k3 (wrap64 (490 + (Int.tmod x0_2 21))) (wrap64 (20 + (Int.tmod x1_4 21))) y256 (wrap64 (x6_3 + 1))) = some r := by first | (rw [hy256]; with_reducible exact H) | (have H2_ := (Option.bind_some _ _).symm.trans H; rw [hy256]; with_reducible exact H2_) | (have H2_ := (Option.bind_some _ _).symm.trans H; with_reducible exact H2_) | with_reducible exact H | (rw [hy256]; exact H) | exact H
                  have Ny256 := Aside0.mk hy256
                  clear hy256
                  have H' := Aside0.mk H
                  clear H
                  go_wp2_with (first | ((with_reducible refine gate_dst (N := 33) rfl ?_); (try (refine gate_guard (by rfl) ?_; dsimp only)); refine Kd.R_lit (Kd.int .u8) _ 5 ?hg (N := 33) ?hd (xs := ([97, 32] : List Int)) (inner := [.int .u8 97, .int .u8 32]) (ok := fun _ => True) (okp := fun _ => True) ?hr ?hp (fun _ hk => hk) trivial (Below.refl _ _) (Nat.le_refl _) (by simp) ?_; (case hd => rfl); (case hg => rfl); (case hr => first | (go_simp; done) | (go_simp; rfl)); (case hp => exact (Reps.one (show Kd.M (Kd.int .u8) _ _ _ 97 [.int .u8 97] from rfl) (Reps.one (show Kd.M (Kd.int .u8) _ _ _ 32 [.int .u8 32] from rfl) (Reps.none _ _)))); intro v254 w9 ho10 hb hg_ hnew_; clear hg_ hnew_; (first | rw [← Ny253.out] at ho10 | (simp only [Int.reduceToNat] at ho10; rw [← Ny253.out] at ho10)); have n0_ := Aside0.mk (Kd.R_elder' (by (with_reducible repeat (first | apply Kd.R_alloc | apply Kd.R_drewN | apply Kd.R_drew)); exact HO_5.out) (Kd.R_base ho10) hb); have n1_ := Aside0.mk (Kd.R_lower (Kd.R_new' ho10 (Kd.R_lt (by (with_reducible repeat (first | apply Kd.R_alloc | apply Kd.R_drewN | apply Kd.R_drew)); exact HO_5.out))) (below_size (by repeat (first | (with_reducible first | exact HB.out | apply below_alloc | apply pw_below_drewN | apply below_drew1) | exact HB.out)))); have n2_ := Aside0.mk (below_step (by repeat (first | (with_reducible first | exact HB.out | apply below_alloc | apply pw_below_drewN | apply below_drew1) | exact HB.out)) hb); clear HO_5; clear HB; have HO_5 := n0_; have HO255 := n1_; have HB := n2_; clear n0_ n1_ n2_; clear hb ho10; obtain ⟨Ao12, co12, eo12⟩ := Kd.R_slice HO255.out; subst eo12) | ((with_reducible refine gate_builtin (b := .append) (xs := #[.tmp 32, .tmp 33]) rfl ?_); (try (refine gate_guard (by rfl) ?_; dsimp only)); at_builtin; refine Kd.R_append_rows (Kd.int .u8) (w0 := w) w.heap.size rfl (.tmp 32) (.tmp 33) 36 5 (.int .u8 0) 1 rfl Try.underlying36 info5 rfl (by decide) (by omega) u5 x5_3 y253 _ _ _ (fun k_ => some k_ ≠ (.slice Ao12 y253.length co12 : Value).ownBlock) (fun _ => False) rfl rfl ?aO ?aR (fun _ _ h => h) (fun _ h => h.elim) ?aF ?aB ?aS ?aL ?_; (case aR => repeat (first | exact (Kd.R_reads' HO255.out).2.2 | (with_reducible refine Kd.C_alloc ?_ _) | (with_reducible refine Kd.C_drewN ?_ _) | (with_reducible refine Kd.C_drew ?_))); (case aB => exact (by repeat (first | (with_reducible first | exact HB.out | apply below_alloc | apply pw_below_drewN | apply below_drew1) | exact HB.out))); (case aF => exact (fun k_ hk => Kd.fresh' (Kd.R_lt (by (with_reducible repeat (first | apply Kd.R_alloc | apply Kd.R_drewN | apply Kd.R_drew)); exact HO255.out)) k_ hk)); (case aO => exact (by (with_reducible repeat (first | apply Kd.R_alloc | apply Kd.R_drewN | apply Kd.R_drew)); exact Kd.R_mono HO_5.out (fun _ hk => hk.2))); (case aS => exact (below_size (by repeat (first | (with_reducible first | exact HB.out | apply below_alloc | apply pw_below_drewN | apply below_drew1) | exact HB.out)))); (case aL => have := LMc8.out; omega); intro v257 w11 ho hb hg hat; rw [← Ny256.out] at ho; have n0_ := Aside0.mk (Kd.R_after (ok := (fun _ => True)) (by (with_reducible repeat (first | apply Kd.R_alloc | apply Kd.R_drewN | apply Kd.R_drew)); exact HO255.out) hg hat); have n1_ := Aside0.mk (hb); have n2_ := Aside0.mk (ho); clear HO255; clear HB; clear HO_5; have HO255 := n0_; have HB := n1_; have HO258 := n2_; clear n0_ n1_ n2_; clear ho hb hg hat))
                  go_roundg k3
                  case measure => have := HJ2.out; have := HJ4.out; have := HK3.out; omega
                  case rel => exact ⟨(y256), (wrap64 (x6_3 + 1)), (by first | rfl | (simp; done) | (simp [*]; done)), H', ⟨by have := HJ2.out; have := HJ4.out; have := HK3.out; omega⟩, ⟨by (with_reducible repeat (first | apply Kd.R_alloc | apply Kd.R_drewN | apply Kd.R_drew)); exact Kd.R_mono HO258.out (fun _ hk => trivial)⟩, ⟨by repeat (first | (with_reducible first | exact HB.out | apply below_alloc | apply pw_below_drewN | apply below_drew1) | exact HB.out)⟩⟩
                · rw [if_neg c8] at H
                  exact absurd H (by simp)
              · rw [if_neg c7] at H
                have c7b0 : decide (x6_3 < (wrap64 (490 + (Int.tmod x0_2 21)))) = false := decide_eq_false c7
                clear c7
                have H' := Aside0.mk H
                clear H
                go_wp2
                go_loopg [5, 7] k3 (fun kq v5 v7 w' => ∃ (x5_4 : List Int) (x7_4 : Int), v7 = .int .i64 x7_4 ∧ Aside0 (concordancelaw02_WordMany.l1 kq (wrap64 (490 + (Int.tmod x0_2 21))) (wrap64 (20 + (Int.tmod x1_4 21))) x5_4 x7_4 = some r) ∧ Aside0 (kq ≤ k3) ∧ Aside0 (Kd.R (Kd.int .u8) 5 w' w.heap.size (fun _ => True) v5 x5_4) ∧ Aside0 (Below w.heap.size w w'))
                case atStart => exact ⟨(x5_3), (0), (by first | rfl | (simp; done) | (simp [*]; done)), H', ⟨Nat.le_refl _⟩, ⟨by (with_reducible repeat (first | apply Kd.R_alloc | apply Kd.R_drewN | apply Kd.R_drew)); exact HO_5.out⟩, ⟨by repeat (first | (with_reducible first | exact HB.out | apply below_alloc | apply pw_below_drewN | apply below_drew1) | exact HB.out)⟩⟩
                case round =>
                  clear H'
                  try clear p2
                  try clear c4
                  try clear c4b0
                  try clear c6
                  try clear c6b0
                  try clear p6
                  try clear c7
                  try clear c7b0
                  try clear c8
                  try clear p2
                  try clear p6
                  obtain ⟨x5_4, x7_4, rfl, HA, HK4, HO_5, HB⟩ := hrel
                  cases gk with
                  | zero => exact absurd HA.out (by simp [concordancelaw02_WordMany.l1])
                  | succ k4 =>
                    have H := HA.out
                    clear HA
                    simp only [concordancelaw02_WordMany.l1] at H
                    by_cases c13 : x7_4 < (wrap64 (20 + (Int.tmod x1_4 21)))
                    · rw [if_pos c13] at H
                      have c13b0 : decide (x7_4 < (wrap64 (20 + (Int.tmod x1_4 21)))) = true := decide_eq_true c13
                      clear c13
                      by_cases c14 : x5_4.length < 140737488355328
                      · rw [if_pos c14] at H
                        have LMc14 := Aside0.mk c14
                        clear c14
                        obtain ⟨y259, hy259⟩ : ∃ y_ : List Int, y_ = (x5_4 ++ [98]) := ⟨_, rfl⟩
                        replace H : (concordancelaw02_WordMany.l1 k4 (wrap64 (490 + (Int.tmod x0_2 21))) (wrap64 (20 + (Int.tmod x1_4 21))) y259 (wrap64 (x7_4 + 1))) = some r := by first | (rw [hy259]; with_reducible exact H) | (have H2_ := (Option.bind_some _ _).symm.trans H; rw [hy259]; with_reducible exact H2_) | (have H2_ := (Option.bind_some _ _).symm.trans H; with_reducible exact H2_) | with_reducible exact H | (rw [hy259]; exact H) | exact H
                        have Ny259 := Aside0.mk hy259
                        clear hy259
                        have H' := Aside0.mk H
                        clear H
                        go_wp2_with (first | ((with_reducible refine gate_builtin (b := .append) (xs := #[.tmp 40, .tmp 41]) rfl ?_); (try (refine gate_guard (by rfl) ?_; dsimp only)); at_builtin; refine Kd.R_append (Kd.int .u8) (w0 := w) w.heap.size rfl (.tmp 40) (.tmp 41) 36 5 (.int .u8 0) 1 rfl Try.underlying36 info5 rfl (by decide) (by omega) u5 x5_4 98 [.int .u8 98] (fun _ => True) (fun _ => False) rfl rfl ?aP (fun _ hk => hk.elim) ?aF ?aO ?aB ?aS ?aL ?_; (case aP => exact rfl); (case aB => exact (by repeat (first | (with_reducible first | exact HB.out | apply below_alloc | apply pw_below_drewN | apply below_drew1) | exact HB.out))); (case aF => exact (fun _ _ => trivial)); (case aO => exact (by (with_reducible repeat (first | apply Kd.R_alloc | apply Kd.R_drewN | apply Kd.R_drew)); exact HO_5.out)); (case aS => exact (below_size (by repeat (first | (with_reducible first | exact HB.out | apply below_alloc | apply pw_below_drewN | apply below_drew1) | exact HB.out)))); (case aL => have := LMc14.out; omega); intro v260 w15 ho hb hg hat; rw [← Ny259.out] at ho; have n0_ := Aside0.mk (hb); have n1_ := Aside0.mk (ho); clear HB; clear HO_5; have HB := n0_; have HO261 := n1_; clear n0_ n1_; clear ho hb hg hat))
                        go_roundg k4
                        case measure => have := HJ2.out; have := HJ4.out; have := HK3.out; have := HK4.out; omega
                        case rel => exact ⟨(y259), (wrap64 (x7_4 + 1)), (by first | rfl | (simp; done) | (simp [*]; done)), H', ⟨by have := HJ2.out; have := HJ4.out; have := HK3.out; have := HK4.out; omega⟩, ⟨by (with_reducible repeat (first | apply Kd.R_alloc | apply Kd.R_drewN | apply Kd.R_drew)); exact HO261.out⟩, ⟨by repeat (first | (with_reducible first | exact HB.out | apply below_alloc | apply pw_below_drewN | apply below_drew1) | exact HB.out)⟩⟩
                      · rw [if_neg c14] at H
                        exact absurd H (by simp)
                    · rw [if_neg c13] at H
                      have c13b0 : decide (x7_4 < (wrap64 (20 + (Int.tmod x1_4 21)))) = false := decide_eq_false c13
                      clear c13
                      replace H := Option.bind_eq_some_iff.mp H
                      obtain ⟨⟨t262, t263⟩, A160, H⟩ := H
                      replace H : (if (wrap64 (490 + (Int.tmod x0_2 21))) > 501 then (if t263 = 7 then (if t263 = 0 then (if (t262.length : Int) = (wrap64 (490 + (Int.tmod x0_2 21))) then (if 0 ≤ (wrap64 ((wrap64 (490 + (Int.tmod x0_2 21))) - 1)) then (if (wrap64 ((wrap64 (490 + (Int.tmod x0_2 21))) - 1)) < (t262.length : Int) then (if ((rd_T35 t262 (wrap64 ((wrap64 (490 + (Int.tmod x0_2 21))) - 1))).f1) = (wrap64 ((wrap64 (490 + (Int.tmod x0_2 21))) - 1)) then (if (((rd_T35 t262 (wrap64 ((wrap64 (490 + (Int.tmod x0_2 21))) - 1))).f0).size : Int) = (wrap64 (20 + (Int.tmod x1_4 21))) then ((concordancelaw02_lives.f).bind fun t268 => (some t268)) else (some false)) else (some false)) else (none)) else (none)) else (some false)) else (if (t262.length : Int) = 0 then ((concordancelaw02_lives.f).bind fun t269 => (some t269)) else (some false))) else (some false)) else (if (wrap64 (20 + (Int.tmod x1_4 21))) > 30 then (if t263 = 3 then (if t263 = 0 then (if (t262.length : Int) = (wrap64 (490 + (Int.tmod x0_2 21))) then (if 0 ≤ (wrap64 ((wrap64 (490 + (Int.tmod x0_2 21))) - 1)) then (if (wrap64 ((wrap64 (490 + (Int.tmod x0_2 21))) - 1)) < (t262.length : Int) then (if ((rd_T35 t262 (wrap64 ((wrap64 (490 + (Int.tmod x0_2 21))) - 1))).f1) = (wrap64 ((wrap64 (490 + (Int.tmod x0_2 21))) - 1)) then (if (((rd_T35 t262 (wrap64 ((wrap64 (490 + (Int.tmod x0_2 21))) - 1))).f0).size : Int) = (wrap64 (20 + (Int.tmod x1_4 21))) then ((concordancelaw02_lives.f).bind fun t272 => (some t272)) else (some false)) else (some false)) else (none)) else (none)) else (some false)) else (if (t262.length : Int) = 0 then ((concordancelaw02_lives.f).bind fun t273 => (some t273)) else (some false))) else (some false)) else (if (wrap64 (490 + (Int.tmod x0_2 21))) = 501 then (if t263 = 7 then (if t263 = 0 then (if (t262.length : Int) = (wrap64 (490 + (Int.tmod x0_2 21))) then (if 0 ≤ (wrap64 ((wrap64 (490 + (Int.tmod x0_2 21))) - 1)) then (if (wrap64 ((wrap64 (490 + (Int.tmod x0_2 21))) - 1)) < (t262.length : Int) then (if ((rd_T35 t262 (wrap64 ((wrap64 (490 + (Int.tmod x0_2 21))) - 1))).f1) = (wrap64 ((wrap64 (490 + (Int.tmod x0_2 21))) - 1)) then (if (((rd_T35 t262 (wrap64 ((wrap64 (490 + (Int.tmod x0_2 21))) - 1))).f0).size : Int) = (wrap64 (20 + (Int.tmod x1_4 21))) then ((concordancelaw02_lives.f).bind fun t276 => (some t276)) else (some false)) else (some false)) else (none)) else (none)) else (some false)) else (if (t262.length : Int) = 0 then ((concordancelaw02_lives.f).bind fun t277 => (some t277)) else (some false))) else (some false)) else (if t263 = 0 then (if (t262.length : Int) = (wrap64 (490 + (Int.tmod x0_2 21))) then (if 0 ≤ (wrap64 ((wrap64 (490 + (Int.tmod x0_2 21))) - 1)) then (if (wrap64 ((wrap64 (490 + (Int.tmod x0_2 21))) - 1)) < (t262.length : Int) then (if ((rd_T35 t262 (wrap64 ((wrap64 (490 + (Int.tmod x0_2 21))) - 1))).f1) = (wrap64 ((wrap64 (490 + (Int.tmod x0_2 21))) - 1)) then (if (((rd_T35 t262 (wrap64 ((wrap64 (490 + (Int.tmod x0_2 21))) - 1))).f0).size : Int) = (wrap64 (20 + (Int.tmod x1_4 21))) then ((concordancelaw02_lives.f).bind fun t280 => (some t280)) else (some false)) else (some false)) else (none)) else (none)) else (some false)) else (some false))))) = some r := H
                      have A16 := Aside0.mk A160
                      clear A160
                      by_cases c17 : (wrap64 (490 + (Int.tmod x0_2 21))) > 501
                      · rw [if_pos c17] at H
                        have c17b0 : decide (501 < (wrap64 (490 + (Int.tmod x0_2 21)))) = true := decide_eq_true c17
                        clear c17
                        by_cases c18 : t263 = 7
                        · rw [if_pos c18] at H
                          have c18b0 : (t263 == 7) = true := beq_iff_eq.mpr c18
                          have c18b1 : (t263 != 7) = false := bne_eq_false_iff_eq.mpr c18
                          clear c18
                          by_cases c19 : t263 = 0
                          · rw [if_pos c19] at H
                            have c19b0 : (t263 == 0) = true := beq_iff_eq.mpr c19
                            have c19b1 : (t263 != 0) = false := bne_eq_false_iff_eq.mpr c19
                            clear c19
                            by_cases c20 : (t262.length : Int) = (wrap64 (490 + (Int.tmod x0_2 21)))
                            · rw [if_pos c20] at H
                              have c20b0 : ((t262.length : Int) == (wrap64 (490 + (Int.tmod x0_2 21)))) = true := beq_iff_eq.mpr c20
                              have c20b1 : ((t262.length : Int) != (wrap64 (490 + (Int.tmod x0_2 21)))) = false := bne_eq_false_iff_eq.mpr c20
                              clear c20
                              obtain ⟨ji21, hji21⟩ : ∃ j_ : Int, (wrap64 ((wrap64 (490 + (Int.tmod x0_2 21))) - 1)) = j_ := ⟨_, rfl⟩
                              replace H : (if 0 ≤ (ji21) then (if (ji21) < (t262.length : Int) then (if ((rd_T35 t262 (ji21)).f1) = (ji21) then (if (((rd_T35 t262 (ji21)).f0).size : Int) = (wrap64 (20 + (Int.tmod x1_4 21))) then ((concordancelaw02_lives.f).bind fun t268 => (some t268)) else (some false)) else (some false)) else (none)) else (none)) = some r := by first | (rw [hji21] at H; exact H) | (simp only [hji21] at H ⊢; exact H)
                              (try rw [hji21] at A16)
                              have hji21w : (IntKind.i64.wrap ((wrap64 (490 + (Int.tmod x0_2 21))) - 1)) = ji21 := (i64_w _).trans hji21
                              by_cases c22 : 0 ≤ (ji21)
                              · rw [if_pos c22] at H
                                have c22b0 : decide (0 ≤ (ji21)) = true := decide_eq_true c22
                                clear c22
                                by_cases c23 : (ji21) < (t262.length : Int)
                                · rw [if_pos c23] at H
                                  have c23b0 : decide ((ji21) < (t262.length : Int)) = true := decide_eq_true c23
                                  clear c23
                                  by_cases c24 : ((rd_T35 t262 (ji21)).f1) = (ji21)
                                  · rw [if_pos c24] at H
                                    have c24b0 : (((rd_T35 t262 (ji21)).f1) == (ji21)) = true := beq_iff_eq.mpr c24
                                    have c24b1 : (((rd_T35 t262 (ji21)).f1) != (ji21)) = false := bne_eq_false_iff_eq.mpr c24
                                    clear c24
                                    by_cases c25 : (((rd_T35 t262 (ji21)).f0).size : Int) = (wrap64 (20 + (Int.tmod x1_4 21)))
                                    · rw [if_pos c25] at H
                                      have c25b0 : ((((rd_T35 t262 (ji21)).f0).size : Int) == (wrap64 (20 + (Int.tmod x1_4 21)))) = true := beq_iff_eq.mpr c25
                                      have c25b1 : ((((rd_T35 t262 (ji21)).f0).size : Int) != (wrap64 (20 + (Int.tmod x1_4 21)))) = false := bne_eq_false_iff_eq.mpr c25
                                      clear c25
                                      replace H := Option.bind_eq_some_iff.mp H
                                      obtain ⟨t268, A260, H⟩ := H
                                      replace H : (some t268) = some r := H
                                      have A26 := Aside0.mk A260
                                      clear A260
                                      obtain rfl := Option.some.inj H
                                      have hcv27 := own_string (P := Try.prog) Try.underlying36 Try.underlying5 Try.underlying9 (Kd.own_of_R HO_5.out)
                                      go_wp2_with (first | ((with_reducible refine gate_callee (f := 17) rfl ?_); refine goesL_ (some 46) rfl rfl Try.func17 (by kernel_rfl) rfl #[.string (strOfNums x5_4)] rfl (by (try simp only [List.map_toArray, List.map_cons, List.map_nil]); first | done | rfl | (simp only [List.length_drop, List.length_take]; rfl)) ?_; (with_reducible refine (word_Tokens.calls k4 (strOfNums x5_4) t262 t263 _ A16.out).mono ?_); rintro e w28 ⟨v264, rfl, ho0, hb⟩; refine ⟨_, rfl, ?_⟩; have n0_ := Aside0.mk (Kd.R_below (by (with_reducible repeat (first | apply Kd.R_alloc | apply Kd.R_drewN | apply Kd.R_drew)); exact HO_5.out) hb); have n1_ := Aside0.mk (Kd.R_lower ho0 (below_size (by repeat (first | (with_reducible first | exact HB.out | apply below_alloc | apply pw_below_drewN | apply below_drew1) | exact HB.out)))); have n2_ := Aside0.mk (below_step (by repeat (first | (with_reducible first | exact HB.out | apply below_alloc | apply pw_below_drewN | apply below_drew1) | exact HB.out)) hb); clear HO_5; clear HB; have HO_5 := n0_; have HO265 := n1_; have HB := n2_; clear n0_ n1_ n2_; (try clear hb); (try clear hb2); (try clear hk); (try clear hi); (try clear ho0); obtain ⟨Ao29, co29, eo29⟩ := Kd.R_slice HO265.out; subst eo29; have p266 : 0 ≤ ((ji21) : Int) := of_decide_eq_true (by first | (with_reducible assumption) | assumption); have q266 : (ji21) < (t262.length : Int) := of_decide_eq_true (by first | (with_reducible assumption) | assumption); obtain ⟨ad266, e266, hx266_0, hx266_1⟩ := at_T35 (Kd.R_reads' HO265.out).2.2 (ji21) p266 q266; cases e266; replace p266 := eq_true p266; replace q266 := eq_true q266; have p267 : 0 ≤ ((ji21) : Int) := of_decide_eq_true (by first | (with_reducible assumption) | assumption); have q267 : (ji21) < (t262.length : Int) := of_decide_eq_true (by first | (with_reducible assumption) | assumption); obtain ⟨ad267, e267, hx267_0, hx267_1⟩ := at_T35 (Kd.R_reads' HO265.out).2.2 (ji21) p267 q267; obtain rfl : ad266 = ad267 := (by injection e267); replace p267 := eq_true p267; replace q267 := eq_true q267) | (go_at_call 15; (with_reducible refine (concordancelaw02_lives.calls  t268 _ A26.out).mono ?_); rintro e w30 ⟨rfl, hb⟩; have n0_ := Aside0.mk (Kd.R_below (by (with_reducible repeat (first | apply Kd.R_alloc | apply Kd.R_drewN | apply Kd.R_drew)); exact HO_5.out) hb); have n1_ := Aside0.mk (Kd.R_below (by (with_reducible repeat (first | apply Kd.R_alloc | apply Kd.R_drewN | apply Kd.R_drew)); exact HO265.out) hb); have n2_ := Aside0.mk (below_step (by repeat (first | (with_reducible first | exact HB.out | apply below_alloc | apply pw_below_drewN | apply below_drew1) | exact HB.out)) hb); clear HO_5; clear HO265; clear HB; have HO_5 := n0_; have HO265 := n1_; have HB := n2_; clear n0_ n1_ n2_; (try clear hb); (try clear hb2); (try clear hk); (try clear hi)))
                                      go_ret
                                      exact ⟨by first | rfl | (simp [errW_none, errW_some] <;> rfl) | (simp only [← hji21]; first | rfl | (simp [errW_none, errW_some] <;> rfl)) | (simp [*, errW_none, errW_some] <;> rfl), by repeat (first | (with_reducible first | exact HB.out | apply below_alloc | apply pw_below_drewN | apply below_drew1) | exact HB.out)⟩
                                    · rw [if_neg c25] at H
                                      have c25b0 : ((((rd_T35 t262 (ji21)).f0).size : Int) == (wrap64 (20 + (Int.tmod x1_4 21)))) = false := beq_eq_false_iff_ne.mpr c25
                                      have c25b1 : ((((rd_T35 t262 (ji21)).f0).size : Int) != (wrap64 (20 + (Int.tmod x1_4 21)))) = true := bne_iff_ne.mpr c25
                                      obtain rfl := Option.some.inj H
                                      have hcv31 := own_string (P := Try.prog) Try.underlying36 Try.underlying5 Try.underlying9 (Kd.own_of_R HO_5.out)
                                      go_wp2_with (first | ((with_reducible refine gate_callee (f := 17) rfl ?_); refine goesL_ (some 46) rfl rfl Try.func17 (by kernel_rfl) rfl #[.string (strOfNums x5_4)] rfl (by (try simp only [List.map_toArray, List.map_cons, List.map_nil]); first | done | rfl | (simp only [List.length_drop, List.length_take]; rfl)) ?_; (with_reducible refine (word_Tokens.calls k4 (strOfNums x5_4) t262 t263 _ A16.out).mono ?_); rintro e w32 ⟨v264, rfl, ho0, hb⟩; refine ⟨_, rfl, ?_⟩; have n0_ := Aside0.mk (Kd.R_below (by (with_reducible repeat (first | apply Kd.R_alloc | apply Kd.R_drewN | apply Kd.R_drew)); exact HO_5.out) hb); have n1_ := Aside0.mk (Kd.R_lower ho0 (below_size (by repeat (first | (with_reducible first | exact HB.out | apply below_alloc | apply pw_below_drewN | apply below_drew1) | exact HB.out)))); have n2_ := Aside0.mk (below_step (by repeat (first | (with_reducible first | exact HB.out | apply below_alloc | apply pw_below_drewN | apply below_drew1) | exact HB.out)) hb); clear HO_5; clear HB; have HO_5 := n0_; have HO265 := n1_; have HB := n2_; clear n0_ n1_ n2_; (try clear hb); (try clear hb2); (try clear hk); (try clear hi); (try clear ho0); obtain ⟨Ao33, co33, eo33⟩ := Kd.R_slice HO265.out; subst eo33; have p266 : 0 ≤ ((ji21) : Int) := of_decide_eq_true (by first | (with_reducible assumption) | assumption); have q266 : (ji21) < (t262.length : Int) := of_decide_eq_true (by first | (with_reducible assumption) | assumption); obtain ⟨ad266, e266, hx266_0, hx266_1⟩ := at_T35 (Kd.R_reads' HO265.out).2.2 (ji21) p266 q266; cases e266; replace p266 := eq_true p266; replace q266 := eq_true q266; have p267 : 0 ≤ ((ji21) : Int) := of_decide_eq_true (by first | (with_reducible assumption) | assumption); have q267 : (ji21) < (t262.length : Int) := of_decide_eq_true (by first | (with_reducible assumption) | assumption); obtain ⟨ad267, e267, hx267_0, hx267_1⟩ := at_T35 (Kd.R_reads' HO265.out).2.2 (ji21) p267 q267; obtain rfl : ad266 = ad267 := (by injection e267); replace p267 := eq_true p267; replace q267 := eq_true q267))
                                      go_ret
                                      exact ⟨by first | rfl | (simp [errW_none, errW_some] <;> rfl) | (simp only [← hji21]; first | rfl | (simp [errW_none, errW_some] <;> rfl)) | (simp [*, errW_none, errW_some] <;> rfl), by repeat (first | (with_reducible first | exact HB.out | apply below_alloc | apply pw_below_drewN | apply below_drew1) | exact HB.out)⟩
                                  · rw [if_neg c24] at H
                                    have c24b0 : (((rd_T35 t262 (ji21)).f1) == (ji21)) = false := beq_eq_false_iff_ne.mpr c24
                                    have c24b1 : (((rd_T35 t262 (ji21)).f1) != (ji21)) = true := bne_iff_ne.mpr c24
                                    obtain rfl := Option.some.inj H
                                    have hcv34 := own_string (P := Try.prog) Try.underlying36 Try.underlying5 Try.underlying9 (Kd.own_of_R HO_5.out)
                                    go_wp2_with (first | ((with_reducible refine gate_callee (f := 17) rfl ?_); refine goesL_ (some 46) rfl rfl Try.func17 (by kernel_rfl) rfl #[.string (strOfNums x5_4)] rfl (by (try simp only [List.map_toArray, List.map_cons, List.map_nil]); first | done | rfl | (simp only [List.length_drop, List.length_take]; rfl)) ?_; (with_reducible refine (word_Tokens.calls k4 (strOfNums x5_4) t262 t263 _ A16.out).mono ?_); rintro e w35 ⟨v264, rfl, ho0, hb⟩; refine ⟨_, rfl, ?_⟩; have n0_ := Aside0.mk (Kd.R_below (by (with_reducible repeat (first | apply Kd.R_alloc | apply Kd.R_drewN | apply Kd.R_drew)); exact HO_5.out) hb); have n1_ := Aside0.mk (Kd.R_lower ho0 (below_size (by repeat (first | (with_reducible first | exact HB.out | apply below_alloc | apply pw_below_drewN | apply below_drew1) | exact HB.out)))); have n2_ := Aside0.mk (below_step (by repeat (first | (with_reducible first | exact HB.out | apply below_alloc | apply pw_below_drewN | apply below_drew1) | exact HB.out)) hb); clear HO_5; clear HB; have HO_5 := n0_; have HO265 := n1_; have HB := n2_; clear n0_ n1_ n2_; (try clear hb); (try clear hb2); (try clear hk); (try clear hi); (try clear ho0); obtain ⟨Ao36, co36, eo36⟩ := Kd.R_slice HO265.out; subst eo36; have p266 : 0 ≤ ((ji21) : Int) := of_decide_eq_true (by first | (with_reducible assumption) | assumption); have q266 : (ji21) < (t262.length : Int) := of_decide_eq_true (by first | (with_reducible assumption) | assumption); obtain ⟨ad266, e266, hx266_0, hx266_1⟩ := at_T35 (Kd.R_reads' HO265.out).2.2 (ji21) p266 q266; cases e266; replace p266 := eq_true p266; replace q266 := eq_true q266))
                                    go_ret
                                    exact ⟨by first | rfl | (simp [errW_none, errW_some] <;> rfl) | (simp only [← hji21]; first | rfl | (simp [errW_none, errW_some] <;> rfl)) | (simp [*, errW_none, errW_some] <;> rfl), by repeat (first | (with_reducible first | exact HB.out | apply below_alloc | apply pw_below_drewN | apply below_drew1) | exact HB.out)⟩
                                · rw [if_neg c23] at H
                                  exact absurd H (by simp)
                              · rw [if_neg c22] at H
                                exact absurd H (by simp)
                            · rw [if_neg c20] at H
                              have c20b0 : ((t262.length : Int) == (wrap64 (490 + (Int.tmod x0_2 21)))) = false := beq_eq_false_iff_ne.mpr c20
                              have c20b1 : ((t262.length : Int) != (wrap64 (490 + (Int.tmod x0_2 21)))) = true := bne_iff_ne.mpr c20
                              obtain rfl := Option.some.inj H
                              have hcv37 := own_string (P := Try.prog) Try.underlying36 Try.underlying5 Try.underlying9 (Kd.own_of_R HO_5.out)
                              go_wp2_with (first | ((with_reducible refine gate_callee (f := 17) rfl ?_); refine goesL_ (some 46) rfl rfl Try.func17 (by kernel_rfl) rfl #[.string (strOfNums x5_4)] rfl (by (try simp only [List.map_toArray, List.map_cons, List.map_nil]); first | done | rfl | (simp only [List.length_drop, List.length_take]; rfl)) ?_; (with_reducible refine (word_Tokens.calls k4 (strOfNums x5_4) t262 t263 _ A16.out).mono ?_); rintro e w38 ⟨v264, rfl, ho0, hb⟩; refine ⟨_, rfl, ?_⟩; have n0_ := Aside0.mk (Kd.R_below (by (with_reducible repeat (first | apply Kd.R_alloc | apply Kd.R_drewN | apply Kd.R_drew)); exact HO_5.out) hb); have n1_ := Aside0.mk (Kd.R_lower ho0 (below_size (by repeat (first | (with_reducible first | exact HB.out | apply below_alloc | apply pw_below_drewN | apply below_drew1) | exact HB.out)))); have n2_ := Aside0.mk (below_step (by repeat (first | (with_reducible first | exact HB.out | apply below_alloc | apply pw_below_drewN | apply below_drew1) | exact HB.out)) hb); clear HO_5; clear HB; have HO_5 := n0_; have HO265 := n1_; have HB := n2_; clear n0_ n1_ n2_; (try clear hb); (try clear hb2); (try clear hk); (try clear hi); (try clear ho0); obtain ⟨Ao39, co39, eo39⟩ := Kd.R_slice HO265.out; subst eo39))
                              go_ret
                              exact ⟨by first | rfl | (simp [errW_none, errW_some] <;> rfl) | (simp [*, errW_none, errW_some] <;> rfl), by repeat (first | (with_reducible first | exact HB.out | apply below_alloc | apply pw_below_drewN | apply below_drew1) | exact HB.out)⟩
                          · rw [if_neg c19] at H
                            have c19b0 : (t263 == 0) = false := beq_eq_false_iff_ne.mpr c19
                            have c19b1 : (t263 != 0) = true := bne_iff_ne.mpr c19
                            by_cases c40 : (t262.length : Int) = 0
                            · rw [if_pos c40] at H
                              have c40b0 : ((t262.length : Int) == 0) = true := beq_iff_eq.mpr c40
                              have c40b1 : ((t262.length : Int) != 0) = false := bne_eq_false_iff_eq.mpr c40
                              clear c40
                              replace H := Option.bind_eq_some_iff.mp H
                              obtain ⟨t269, A410, H⟩ := H
                              replace H : (some t269) = some r := H
                              have A41 := Aside0.mk A410
                              clear A410
                              obtain rfl := Option.some.inj H
                              have hcv42 := own_string (P := Try.prog) Try.underlying36 Try.underlying5 Try.underlying9 (Kd.own_of_R HO_5.out)
                              go_wp2_with (first | ((with_reducible refine gate_callee (f := 17) rfl ?_); refine goesL_ (some 46) rfl rfl Try.func17 (by kernel_rfl) rfl #[.string (strOfNums x5_4)] rfl (by (try simp only [List.map_toArray, List.map_cons, List.map_nil]); first | done | rfl | (simp only [List.length_drop, List.length_take]; rfl)) ?_; (with_reducible refine (word_Tokens.calls k4 (strOfNums x5_4) t262 t263 _ A16.out).mono ?_); rintro e w43 ⟨v264, rfl, ho0, hb⟩; refine ⟨_, rfl, ?_⟩; have n0_ := Aside0.mk (Kd.R_below (by (with_reducible repeat (first | apply Kd.R_alloc | apply Kd.R_drewN | apply Kd.R_drew)); exact HO_5.out) hb); have n1_ := Aside0.mk (Kd.R_lower ho0 (below_size (by repeat (first | (with_reducible first | exact HB.out | apply below_alloc | apply pw_below_drewN | apply below_drew1) | exact HB.out)))); have n2_ := Aside0.mk (below_step (by repeat (first | (with_reducible first | exact HB.out | apply below_alloc | apply pw_below_drewN | apply below_drew1) | exact HB.out)) hb); clear HO_5; clear HB; have HO_5 := n0_; have HO265 := n1_; have HB := n2_; clear n0_ n1_ n2_; (try clear hb); (try clear hb2); (try clear hk); (try clear hi); (try clear ho0); obtain ⟨Ao44, co44, eo44⟩ := Kd.R_slice HO265.out; subst eo44) | (go_at_call 15; (with_reducible refine (concordancelaw02_lives.calls  t269 _ A41.out).mono ?_); rintro e w45 ⟨rfl, hb⟩; have n0_ := Aside0.mk (Kd.R_below (by (with_reducible repeat (first | apply Kd.R_alloc | apply Kd.R_drewN | apply Kd.R_drew)); exact HO_5.out) hb); have n1_ := Aside0.mk (Kd.R_below (by (with_reducible repeat (first | apply Kd.R_alloc | apply Kd.R_drewN | apply Kd.R_drew)); exact HO265.out) hb); have n2_ := Aside0.mk (below_step (by repeat (first | (with_reducible first | exact HB.out | apply below_alloc | apply pw_below_drewN | apply below_drew1) | exact HB.out)) hb); clear HO_5; clear HO265; clear HB; have HO_5 := n0_; have HO265 := n1_; have HB := n2_; clear n0_ n1_ n2_; (try clear hb); (try clear hb2); (try clear hk); (try clear hi)))
                              go_ret
                              exact ⟨by first | rfl | (simp [errW_none, errW_some] <;> rfl) | (simp [*, errW_none, errW_some] <;> rfl), by repeat (first | (with_reducible first | exact HB.out | apply below_alloc | apply pw_below_drewN | apply below_drew1) | exact HB.out)⟩
                            · rw [if_neg c40] at H
                              have c40b0 : ((t262.length : Int) == 0) = false := beq_eq_false_iff_ne.mpr c40
                              have c40b1 : ((t262.length : Int) != 0) = true := bne_iff_ne.mpr c40
                              have c40b2 : ¬ (t262 = []) := fun h_ => c40 (by rw [h_]; rfl)
                              obtain rfl := Option.some.inj H
                              have hcv46 := own_string (P := Try.prog) Try.underlying36 Try.underlying5 Try.underlying9 (Kd.own_of_R HO_5.out)
                              go_wp2_with (first | ((with_reducible refine gate_callee (f := 17) rfl ?_); refine goesL_ (some 46) rfl rfl Try.func17 (by kernel_rfl) rfl #[.string (strOfNums x5_4)] rfl (by (try simp only [List.map_toArray, List.map_cons, List.map_nil]); first | done | rfl | (simp only [List.length_drop, List.length_take]; rfl)) ?_; (with_reducible refine (word_Tokens.calls k4 (strOfNums x5_4) t262 t263 _ A16.out).mono ?_); rintro e w47 ⟨v264, rfl, ho0, hb⟩; refine ⟨_, rfl, ?_⟩; have n0_ := Aside0.mk (Kd.R_below (by (with_reducible repeat (first | apply Kd.R_alloc | apply Kd.R_drewN | apply Kd.R_drew)); exact HO_5.out) hb); have n1_ := Aside0.mk (Kd.R_lower ho0 (below_size (by repeat (first | (with_reducible first | exact HB.out | apply below_alloc | apply pw_below_drewN | apply below_drew1) | exact HB.out)))); have n2_ := Aside0.mk (below_step (by repeat (first | (with_reducible first | exact HB.out | apply below_alloc | apply pw_below_drewN | apply below_drew1) | exact HB.out)) hb); clear HO_5; clear HB; have HO_5 := n0_; have HO265 := n1_; have HB := n2_; clear n0_ n1_ n2_; (try clear hb); (try clear hb2); (try clear hk); (try clear hi); (try clear ho0); obtain ⟨Ao48, co48, eo48⟩ := Kd.R_slice HO265.out; subst eo48))
                              go_ret
                              exact ⟨by first | rfl | (simp [errW_none, errW_some] <;> rfl) | (simp [*, errW_none, errW_some] <;> rfl), by repeat (first | (with_reducible first | exact HB.out | apply below_alloc | apply pw_below_drewN | apply below_drew1) | exact HB.out)⟩
                        · rw [if_neg c18] at H
                          have c18b0 : (t263 == 7) = false := beq_eq_false_iff_ne.mpr c18
                          have c18b1 : (t263 != 7) = true := bne_iff_ne.mpr c18
                          obtain rfl := Option.some.inj H
                          have hcv49 := own_string (P := Try.prog) Try.underlying36 Try.underlying5 Try.underlying9 (Kd.own_of_R HO_5.out)
                          go_wp2_with (first | ((with_reducible refine gate_callee (f := 17) rfl ?_); refine goesL_ (some 46) rfl rfl Try.func17 (by kernel_rfl) rfl #[.string (strOfNums x5_4)] rfl (by (try simp only [List.map_toArray, List.map_cons, List.map_nil]); first | done | rfl | (simp only [List.length_drop, List.length_take]; rfl)) ?_; (with_reducible refine (word_Tokens.calls k4 (strOfNums x5_4) t262 t263 _ A16.out).mono ?_); rintro e w50 ⟨v264, rfl, ho0, hb⟩; refine ⟨_, rfl, ?_⟩; have n0_ := Aside0.mk (Kd.R_below (by (with_reducible repeat (first | apply Kd.R_alloc | apply Kd.R_drewN | apply Kd.R_drew)); exact HO_5.out) hb); have n1_ := Aside0.mk (Kd.R_lower ho0 (below_size (by repeat (first | (with_reducible first | exact HB.out | apply below_alloc | apply pw_below_drewN | apply below_drew1) | exact HB.out)))); have n2_ := Aside0.mk (below_step (by repeat (first | (with_reducible first | exact HB.out | apply below_alloc | apply pw_below_drewN | apply below_drew1) | exact HB.out)) hb); clear HO_5; clear HB; have HO_5 := n0_; have HO265 := n1_; have HB := n2_; clear n0_ n1_ n2_; (try clear hb); (try clear hb2); (try clear hk); (try clear hi); (try clear ho0)))
                          go_ret
                          exact ⟨by first | rfl | (simp [errW_none, errW_some] <;> rfl) | (simp [*, errW_none, errW_some] <;> rfl), by repeat (first | (with_reducible first | exact HB.out | apply below_alloc | apply pw_below_drewN | apply below_drew1) | exact HB.out)⟩
                      · rw [if_neg c17] at H
                        have c17b0 : decide (501 < (wrap64 (490 + (Int.tmod x0_2 21)))) = false := decide_eq_false c17
                        clear c17
                        by_cases c51 : (wrap64 (20 + (Int.tmod x1_4 21))) > 30
                        · rw [if_pos c51] at H
                          have c51b0 : decide (30 < (wrap64 (20 + (Int.tmod x1_4 21)))) = true := decide_eq_true c51
                          clear c51
                          by_cases c52 : t263 = 3
                          · rw [if_pos c52] at H
                            have c52b0 : (t263 == 3) = true := beq_iff_eq.mpr c52
                            have c52b1 : (t263 != 3) = false := bne_eq_false_iff_eq.mpr c52
                            clear c52
                            by_cases c53 : t263 = 0
                            · rw [if_pos c53] at H
                              have c53b0 : (t263 == 0) = true := beq_iff_eq.mpr c53
                              have c53b1 : (t263 != 0) = false := bne_eq_false_iff_eq.mpr c53
                              clear c53
                              by_cases c54 : (t262.length : Int) = (wrap64 (490 + (Int.tmod x0_2 21)))
                              · rw [if_pos c54] at H
                                have c54b0 : ((t262.length : Int) == (wrap64 (490 + (Int.tmod x0_2 21)))) = true := beq_iff_eq.mpr c54
                                have c54b1 : ((t262.length : Int) != (wrap64 (490 + (Int.tmod x0_2 21)))) = false := bne_eq_false_iff_eq.mpr c54
                                clear c54
                                obtain ⟨ji55, hji55⟩ : ∃ j_ : Int, (wrap64 ((wrap64 (490 + (Int.tmod x0_2 21))) - 1)) = j_ := ⟨_, rfl⟩
                                replace H : (if 0 ≤ (ji55) then (if (ji55) < (t262.length : Int) then (if ((rd_T35 t262 (ji55)).f1) = (ji55) then (if (((rd_T35 t262 (ji55)).f0).size : Int) = (wrap64 (20 + (Int.tmod x1_4 21))) then ((concordancelaw02_lives.f).bind fun t272 => (some t272)) else (some false)) else (some false)) else (none)) else (none)) = some r := by first | (rw [hji55] at H; exact H) | (simp only [hji55] at H ⊢; exact H)
                                (try rw [hji55] at A16)
                                have hji55w : (IntKind.i64.wrap ((wrap64 (490 + (Int.tmod x0_2 21))) - 1)) = ji55 := (i64_w _).trans hji55
                                by_cases c56 : 0 ≤ (ji55)
                                · rw [if_pos c56] at H
                                  have c56b0 : decide (0 ≤ (ji55)) = true := decide_eq_true c56
                                  clear c56
                                  by_cases c57 : (ji55) < (t262.length : Int)
                                  · rw [if_pos c57] at H
                                    have c57b0 : decide ((ji55) < (t262.length : Int)) = true := decide_eq_true c57
                                    clear c57
                                    by_cases c58 : ((rd_T35 t262 (ji55)).f1) = (ji55)
                                    · rw [if_pos c58] at H
                                      have c58b0 : (((rd_T35 t262 (ji55)).f1) == (ji55)) = true := beq_iff_eq.mpr c58
                                      have c58b1 : (((rd_T35 t262 (ji55)).f1) != (ji55)) = false := bne_eq_false_iff_eq.mpr c58
                                      clear c58
                                      by_cases c59 : (((rd_T35 t262 (ji55)).f0).size : Int) = (wrap64 (20 + (Int.tmod x1_4 21)))
                                      · rw [if_pos c59] at H
                                        have c59b0 : ((((rd_T35 t262 (ji55)).f0).size : Int) == (wrap64 (20 + (Int.tmod x1_4 21)))) = true := beq_iff_eq.mpr c59
                                        have c59b1 : ((((rd_T35 t262 (ji55)).f0).size : Int) != (wrap64 (20 + (Int.tmod x1_4 21)))) = false := bne_eq_false_iff_eq.mpr c59
                                        clear c59
                                        replace H := Option.bind_eq_some_iff.mp H
                                        obtain ⟨t272, A600, H⟩ := H
                                        replace H : (some t272) = some r := H
                                        have A60 := Aside0.mk A600
                                        clear A600
                                        obtain rfl := Option.some.inj H
                                        have hcv61 := own_string (P := Try.prog) Try.underlying36 Try.underlying5 Try.underlying9 (Kd.own_of_R HO_5.out)
                                        go_wp2_with (first | ((with_reducible refine gate_callee (f := 17) rfl ?_); refine goesL_ (some 46) rfl rfl Try.func17 (by kernel_rfl) rfl #[.string (strOfNums x5_4)] rfl (by (try simp only [List.map_toArray, List.map_cons, List.map_nil]); first | done | rfl | (simp only [List.length_drop, List.length_take]; rfl)) ?_; (with_reducible refine (word_Tokens.calls k4 (strOfNums x5_4) t262 t263 _ A16.out).mono ?_); rintro e w62 ⟨v264, rfl, ho0, hb⟩; refine ⟨_, rfl, ?_⟩; have n0_ := Aside0.mk (Kd.R_below (by (with_reducible repeat (first | apply Kd.R_alloc | apply Kd.R_drewN | apply Kd.R_drew)); exact HO_5.out) hb); have n1_ := Aside0.mk (Kd.R_lower ho0 (below_size (by repeat (first | (with_reducible first | exact HB.out | apply below_alloc | apply pw_below_drewN | apply below_drew1) | exact HB.out)))); have n2_ := Aside0.mk (below_step (by repeat (first | (with_reducible first | exact HB.out | apply below_alloc | apply pw_below_drewN | apply below_drew1) | exact HB.out)) hb); clear HO_5; clear HB; have HO_5 := n0_; have HO265 := n1_; have HB := n2_; clear n0_ n1_ n2_; (try clear hb); (try clear hb2); (try clear hk); (try clear hi); (try clear ho0); obtain ⟨Ao63, co63, eo63⟩ := Kd.R_slice HO265.out; subst eo63; have p270 : 0 ≤ ((ji55) : Int) := of_decide_eq_true (by first | (with_reducible assumption) | assumption); have q270 : (ji55) < (t262.length : Int) := of_decide_eq_true (by first | (with_reducible assumption) | assumption); obtain ⟨ad270, e270, hx270_0, hx270_1⟩ := at_T35 (Kd.R_reads' HO265.out).2.2 (ji55) p270 q270; cases e270; replace p270 := eq_true p270; replace q270 := eq_true q270; have p271 : 0 ≤ ((ji55) : Int) := of_decide_eq_true (by first | (with_reducible assumption) | assumption); have q271 : (ji55) < (t262.length : Int) := of_decide_eq_true (by first | (with_reducible assumption) | assumption); obtain ⟨ad271, e271, hx271_0, hx271_1⟩ := at_T35 (Kd.R_reads' HO265.out).2.2 (ji55) p271 q271; obtain rfl : ad270 = ad271 := (by injection e271); replace p271 := eq_true p271; replace q271 := eq_true q271) | (go_at_call 15; (with_reducible refine (concordancelaw02_lives.calls  t272 _ A60.out).mono ?_); rintro e w64 ⟨rfl, hb⟩; have n0_ := Aside0.mk (Kd.R_below (by (with_reducible repeat (first | apply Kd.R_alloc | apply Kd.R_drewN | apply Kd.R_drew)); exact HO_5.out) hb); have n1_ := Aside0.mk (Kd.R_below (by (with_reducible repeat (first | apply Kd.R_alloc | apply Kd.R_drewN | apply Kd.R_drew)); exact HO265.out) hb); have n2_ := Aside0.mk (below_step (by repeat (first | (with_reducible first | exact HB.out | apply below_alloc | apply pw_below_drewN | apply below_drew1) | exact HB.out)) hb); clear HO_5; clear HO265; clear HB; have HO_5 := n0_; have HO265 := n1_; have HB := n2_; clear n0_ n1_ n2_; (try clear hb); (try clear hb2); (try clear hk); (try clear hi)))
                                        go_ret
                                        exact ⟨by first | rfl | (simp [errW_none, errW_some] <;> rfl) | (simp only [← hji55]; first | rfl | (simp [errW_none, errW_some] <;> rfl)) | (simp [*, errW_none, errW_some] <;> rfl), by repeat (first | (with_reducible first | exact HB.out | apply below_alloc | apply pw_below_drewN | apply below_drew1) | exact HB.out)⟩
                                      · rw [if_neg c59] at H
                                        have c59b0 : ((((rd_T35 t262 (ji55)).f0).size : Int) == (wrap64 (20 + (Int.tmod x1_4 21)))) = false := beq_eq_false_iff_ne.mpr c59
                                        have c59b1 : ((((rd_T35 t262 (ji55)).f0).size : Int) != (wrap64 (20 + (Int.tmod x1_4 21)))) = true := bne_iff_ne.mpr c59
                                        obtain rfl := Option.some.inj H
                                        have hcv65 := own_string (P := Try.prog) Try.underlying36 Try.underlying5 Try.underlying9 (Kd.own_of_R HO_5.out)
                                        go_wp2_with (first | ((with_reducible refine gate_callee (f := 17) rfl ?_); refine goesL_ (some 46) rfl rfl Try.func17 (by kernel_rfl) rfl #[.string (strOfNums x5_4)] rfl (by (try simp only [List.map_toArray, List.map_cons, List.map_nil]); first | done | rfl | (simp only [List.length_drop, List.length_take]; rfl)) ?_; (with_reducible refine (word_Tokens.calls k4 (strOfNums x5_4) t262 t263 _ A16.out).mono ?_); rintro e w66 ⟨v264, rfl, ho0, hb⟩; refine ⟨_, rfl, ?_⟩; have n0_ := Aside0.mk (Kd.R_below (by (with_reducible repeat (first | apply Kd.R_alloc | apply Kd.R_drewN | apply Kd.R_drew)); exact HO_5.out) hb); have n1_ := Aside0.mk (Kd.R_lower ho0 (below_size (by repeat (first | (with_reducible first | exact HB.out | apply below_alloc | apply pw_below_drewN | apply below_drew1) | exact HB.out)))); have n2_ := Aside0.mk (below_step (by repeat (first | (with_reducible first | exact HB.out | apply below_alloc | apply pw_below_drewN | apply below_drew1) | exact HB.out)) hb); clear HO_5; clear HB; have HO_5 := n0_; have HO265 := n1_; have HB := n2_; clear n0_ n1_ n2_; (try clear hb); (try clear hb2); (try clear hk); (try clear hi); (try clear ho0); obtain ⟨Ao67, co67, eo67⟩ := Kd.R_slice HO265.out; subst eo67; have p270 : 0 ≤ ((ji55) : Int) := of_decide_eq_true (by first | (with_reducible assumption) | assumption); have q270 : (ji55) < (t262.length : Int) := of_decide_eq_true (by first | (with_reducible assumption) | assumption); obtain ⟨ad270, e270, hx270_0, hx270_1⟩ := at_T35 (Kd.R_reads' HO265.out).2.2 (ji55) p270 q270; cases e270; replace p270 := eq_true p270; replace q270 := eq_true q270; have p271 : 0 ≤ ((ji55) : Int) := of_decide_eq_true (by first | (with_reducible assumption) | assumption); have q271 : (ji55) < (t262.length : Int) := of_decide_eq_true (by first | (with_reducible assumption) | assumption); obtain ⟨ad271, e271, hx271_0, hx271_1⟩ := at_T35 (Kd.R_reads' HO265.out).2.2 (ji55) p271 q271; obtain rfl : ad270 = ad271 := (by injection e271); replace p271 := eq_true p271; replace q271 := eq_true q271))
                                        go_ret
                                        exact ⟨by first | rfl | (simp [errW_none, errW_some] <;> rfl) | (simp only [← hji55]; first | rfl | (simp [errW_none, errW_some] <;> rfl)) | (simp [*, errW_none, errW_some] <;> rfl), by repeat (first | (with_reducible first | exact HB.out | apply below_alloc | apply pw_below_drewN | apply below_drew1) | exact HB.out)⟩
                                    · rw [if_neg c58] at H
                                      have c58b0 : (((rd_T35 t262 (ji55)).f1) == (ji55)) = false := beq_eq_false_iff_ne.mpr c58
                                      have c58b1 : (((rd_T35 t262 (ji55)).f1) != (ji55)) = true := bne_iff_ne.mpr c58
                                      obtain rfl := Option.some.inj H
                                      have hcv68 := own_string (P := Try.prog) Try.underlying36 Try.underlying5 Try.underlying9 (Kd.own_of_R HO_5.out)
                                      go_wp2_with (first | ((with_reducible refine gate_callee (f := 17) rfl ?_); refine goesL_ (some 46) rfl rfl Try.func17 (by kernel_rfl) rfl #[.string (strOfNums x5_4)] rfl (by (try simp only [List.map_toArray, List.map_cons, List.map_nil]); first | done | rfl | (simp only [List.length_drop, List.length_take]; rfl)) ?_; (with_reducible refine (word_Tokens.calls k4 (strOfNums x5_4) t262 t263 _ A16.out).mono ?_); rintro e w69 ⟨v264, rfl, ho0, hb⟩; refine ⟨_, rfl, ?_⟩; have n0_ := Aside0.mk (Kd.R_below (by (with_reducible repeat (first | apply Kd.R_alloc | apply Kd.R_drewN | apply Kd.R_drew)); exact HO_5.out) hb); have n1_ := Aside0.mk (Kd.R_lower ho0 (below_size (by repeat (first | (with_reducible first | exact HB.out | apply below_alloc | apply pw_below_drewN | apply below_drew1) | exact HB.out)))); have n2_ := Aside0.mk (below_step (by repeat (first | (with_reducible first | exact HB.out | apply below_alloc | apply pw_below_drewN | apply below_drew1) | exact HB.out)) hb); clear HO_5; clear HB; have HO_5 := n0_; have HO265 := n1_; have HB := n2_; clear n0_ n1_ n2_; (try clear hb); (try clear hb2); (try clear hk); (try clear hi); (try clear ho0); obtain ⟨Ao70, co70, eo70⟩ := Kd.R_slice HO265.out; subst eo70; have p270 : 0 ≤ ((ji55) : Int) := of_decide_eq_true (by first | (with_reducible assumption) | assumption); have q270 : (ji55) < (t262.length : Int) := of_decide_eq_true (by first | (with_reducible assumption) | assumption); obtain ⟨ad270, e270, hx270_0, hx270_1⟩ := at_T35 (Kd.R_reads' HO265.out).2.2 (ji55) p270 q270; cases e270; replace p270 := eq_true p270; replace q270 := eq_true q270))
                                      go_ret
                                      exact ⟨by first | rfl | (simp [errW_none, errW_some] <;> rfl) | (simp only [← hji55]; first | rfl | (simp [errW_none, errW_some] <;> rfl)) | (simp [*, errW_none, errW_some] <;> rfl), by repeat (first | (with_reducible first | exact HB.out | apply below_alloc | apply pw_below_drewN | apply below_drew1) | exact HB.out)⟩
                                  · rw [if_neg c57] at H
                                    exact absurd H (by simp)
                                · rw [if_neg c56] at H
                                  exact absurd H (by simp)
                              · rw [if_neg c54] at H
                                have c54b0 : ((t262.length : Int) == (wrap64 (490 + (Int.tmod x0_2 21)))) = false := beq_eq_false_iff_ne.mpr c54
                                have c54b1 : ((t262.length : Int) != (wrap64 (490 + (Int.tmod x0_2 21)))) = true := bne_iff_ne.mpr c54
                                obtain rfl := Option.some.inj H
                                have hcv71 := own_string (P := Try.prog) Try.underlying36 Try.underlying5 Try.underlying9 (Kd.own_of_R HO_5.out)
                                go_wp2_with (first | ((with_reducible refine gate_callee (f := 17) rfl ?_); refine goesL_ (some 46) rfl rfl Try.func17 (by kernel_rfl) rfl #[.string (strOfNums x5_4)] rfl (by (try simp only [List.map_toArray, List.map_cons, List.map_nil]); first | done | rfl | (simp only [List.length_drop, List.length_take]; rfl)) ?_; (with_reducible refine (word_Tokens.calls k4 (strOfNums x5_4) t262 t263 _ A16.out).mono ?_); rintro e w72 ⟨v264, rfl, ho0, hb⟩; refine ⟨_, rfl, ?_⟩; have n0_ := Aside0.mk (Kd.R_below (by (with_reducible repeat (first | apply Kd.R_alloc | apply Kd.R_drewN | apply Kd.R_drew)); exact HO_5.out) hb); have n1_ := Aside0.mk (Kd.R_lower ho0 (below_size (by repeat (first | (with_reducible first | exact HB.out | apply below_alloc | apply pw_below_drewN | apply below_drew1) | exact HB.out)))); have n2_ := Aside0.mk (below_step (by repeat (first | (with_reducible first | exact HB.out | apply below_alloc | apply pw_below_drewN | apply below_drew1) | exact HB.out)) hb); clear HO_5; clear HB; have HO_5 := n0_; have HO265 := n1_; have HB := n2_; clear n0_ n1_ n2_; (try clear hb); (try clear hb2); (try clear hk); (try clear hi); (try clear ho0); obtain ⟨Ao73, co73, eo73⟩ := Kd.R_slice HO265.out; subst eo73))
                                go_ret
                                exact ⟨by first | rfl | (simp [errW_none, errW_some] <;> rfl) | (simp [*, errW_none, errW_some] <;> rfl), by repeat (first | (with_reducible first | exact HB.out | apply below_alloc | apply pw_below_drewN | apply below_drew1) | exact HB.out)⟩
                            · rw [if_neg c53] at H
                              have c53b0 : (t263 == 0) = false := beq_eq_false_iff_ne.mpr c53
                              have c53b1 : (t263 != 0) = true := bne_iff_ne.mpr c53
                              by_cases c74 : (t262.length : Int) = 0
                              · rw [if_pos c74] at H
                                have c74b0 : ((t262.length : Int) == 0) = true := beq_iff_eq.mpr c74
                                have c74b1 : ((t262.length : Int) != 0) = false := bne_eq_false_iff_eq.mpr c74
                                clear c74
                                replace H := Option.bind_eq_some_iff.mp H
                                obtain ⟨t273, A750, H⟩ := H
                                replace H : (some t273) = some r := H
                                have A75 := Aside0.mk A750
                                clear A750
                                obtain rfl := Option.some.inj H
                                have hcv76 := own_string (P := Try.prog) Try.underlying36 Try.underlying5 Try.underlying9 (Kd.own_of_R HO_5.out)
                                go_wp2_with (first | ((with_reducible refine gate_callee (f := 17) rfl ?_); refine goesL_ (some 46) rfl rfl Try.func17 (by kernel_rfl) rfl #[.string (strOfNums x5_4)] rfl (by (try simp only [List.map_toArray, List.map_cons, List.map_nil]); first | done | rfl | (simp only [List.length_drop, List.length_take]; rfl)) ?_; (with_reducible refine (word_Tokens.calls k4 (strOfNums x5_4) t262 t263 _ A16.out).mono ?_); rintro e w77 ⟨v264, rfl, ho0, hb⟩; refine ⟨_, rfl, ?_⟩; have n0_ := Aside0.mk (Kd.R_below (by (with_reducible repeat (first | apply Kd.R_alloc | apply Kd.R_drewN | apply Kd.R_drew)); exact HO_5.out) hb); have n1_ := Aside0.mk (Kd.R_lower ho0 (below_size (by repeat (first | (with_reducible first | exact HB.out | apply below_alloc | apply pw_below_drewN | apply below_drew1) | exact HB.out)))); have n2_ := Aside0.mk (below_step (by repeat (first | (with_reducible first | exact HB.out | apply below_alloc | apply pw_below_drewN | apply below_drew1) | exact HB.out)) hb); clear HO_5; clear HB; have HO_5 := n0_; have HO265 := n1_; have HB := n2_; clear n0_ n1_ n2_; (try clear hb); (try clear hb2); (try clear hk); (try clear hi); (try clear ho0); obtain ⟨Ao78, co78, eo78⟩ := Kd.R_slice HO265.out; subst eo78) | (go_at_call 15; (with_reducible refine (concordancelaw02_lives.calls  t273 _ A75.out).mono ?_); rintro e w79 ⟨rfl, hb⟩; have n0_ := Aside0.mk (Kd.R_below (by (with_reducible repeat (first | apply Kd.R_alloc | apply Kd.R_drewN | apply Kd.R_drew)); exact HO_5.out) hb); have n1_ := Aside0.mk (Kd.R_below (by (with_reducible repeat (first | apply Kd.R_alloc | apply Kd.R_drewN | apply Kd.R_drew)); exact HO265.out) hb); have n2_ := Aside0.mk (below_step (by repeat (first | (with_reducible first | exact HB.out | apply below_alloc | apply pw_below_drewN | apply below_drew1) | exact HB.out)) hb); clear HO_5; clear HO265; clear HB; have HO_5 := n0_; have HO265 := n1_; have HB := n2_; clear n0_ n1_ n2_; (try clear hb); (try clear hb2); (try clear hk); (try clear hi)))
                                go_ret
                                exact ⟨by first | rfl | (simp [errW_none, errW_some] <;> rfl) | (simp [*, errW_none, errW_some] <;> rfl), by repeat (first | (with_reducible first | exact HB.out | apply below_alloc | apply pw_below_drewN | apply below_drew1) | exact HB.out)⟩
                              · rw [if_neg c74] at H
                                have c74b0 : ((t262.length : Int) == 0) = false := beq_eq_false_iff_ne.mpr c74
                                have c74b1 : ((t262.length : Int) != 0) = true := bne_iff_ne.mpr c74
                                have c74b2 : ¬ (t262 = []) := fun h_ => c74 (by rw [h_]; rfl)
                                obtain rfl := Option.some.inj H
                                have hcv80 := own_string (P := Try.prog) Try.underlying36 Try.underlying5 Try.underlying9 (Kd.own_of_R HO_5.out)
                                go_wp2_with (first | ((with_reducible refine gate_callee (f := 17) rfl ?_); refine goesL_ (some 46) rfl rfl Try.func17 (by kernel_rfl) rfl #[.string (strOfNums x5_4)] rfl (by (try simp only [List.map_toArray, List.map_cons, List.map_nil]); first | done | rfl | (simp only [List.length_drop, List.length_take]; rfl)) ?_; (with_reducible refine (word_Tokens.calls k4 (strOfNums x5_4) t262 t263 _ A16.out).mono ?_); rintro e w81 ⟨v264, rfl, ho0, hb⟩; refine ⟨_, rfl, ?_⟩; have n0_ := Aside0.mk (Kd.R_below (by (with_reducible repeat (first | apply Kd.R_alloc | apply Kd.R_drewN | apply Kd.R_drew)); exact HO_5.out) hb); have n1_ := Aside0.mk (Kd.R_lower ho0 (below_size (by repeat (first | (with_reducible first | exact HB.out | apply below_alloc | apply pw_below_drewN | apply below_drew1) | exact HB.out)))); have n2_ := Aside0.mk (below_step (by repeat (first | (with_reducible first | exact HB.out | apply below_alloc | apply pw_below_drewN | apply below_drew1) | exact HB.out)) hb); clear HO_5; clear HB; have HO_5 := n0_; have HO265 := n1_; have HB := n2_; clear n0_ n1_ n2_; (try clear hb); (try clear hb2); (try clear hk); (try clear hi); (try clear ho0); obtain ⟨Ao82, co82, eo82⟩ := Kd.R_slice HO265.out; subst eo82))
                                go_ret
                                exact ⟨by first | rfl | (simp [errW_none, errW_some] <;> rfl) | (simp [*, errW_none, errW_some] <;> rfl), by repeat (first | (with_reducible first | exact HB.out | apply below_alloc | apply pw_below_drewN | apply below_drew1) | exact HB.out)⟩
                          · rw [if_neg c52] at H
                            have c52b0 : (t263 == 3) = false := beq_eq_false_iff_ne.mpr c52
                            have c52b1 : (t263 != 3) = true := bne_iff_ne.mpr c52
                            obtain rfl := Option.some.inj H
                            have hcv83 := own_string (P := Try.prog) Try.underlying36 Try.underlying5 Try.underlying9 (Kd.own_of_R HO_5.out)
                            go_wp2_with (first | ((with_reducible refine gate_callee (f := 17) rfl ?_); refine goesL_ (some 46) rfl rfl Try.func17 (by kernel_rfl) rfl #[.string (strOfNums x5_4)] rfl (by (try simp only [List.map_toArray, List.map_cons, List.map_nil]); first | done | rfl | (simp only [List.length_drop, List.length_take]; rfl)) ?_; (with_reducible refine (word_Tokens.calls k4 (strOfNums x5_4) t262 t263 _ A16.out).mono ?_); rintro e w84 ⟨v264, rfl, ho0, hb⟩; refine ⟨_, rfl, ?_⟩; have n0_ := Aside0.mk (Kd.R_below (by (with_reducible repeat (first | apply Kd.R_alloc | apply Kd.R_drewN | apply Kd.R_drew)); exact HO_5.out) hb); have n1_ := Aside0.mk (Kd.R_lower ho0 (below_size (by repeat (first | (with_reducible first | exact HB.out | apply below_alloc | apply pw_below_drewN | apply below_drew1) | exact HB.out)))); have n2_ := Aside0.mk (below_step (by repeat (first | (with_reducible first | exact HB.out | apply below_alloc | apply pw_below_drewN | apply below_drew1) | exact HB.out)) hb); clear HO_5; clear HB; have HO_5 := n0_; have HO265 := n1_; have HB := n2_; clear n0_ n1_ n2_; (try clear hb); (try clear hb2); (try clear hk); (try clear hi); (try clear ho0)))
                            go_ret
                            exact ⟨by first | rfl | (simp [errW_none, errW_some] <;> rfl) | (simp [*, errW_none, errW_some] <;> rfl), by repeat (first | (with_reducible first | exact HB.out | apply below_alloc | apply pw_below_drewN | apply below_drew1) | exact HB.out)⟩
                        · rw [if_neg c51] at H
                          have c51b0 : decide (30 < (wrap64 (20 + (Int.tmod x1_4 21)))) = false := decide_eq_false c51
                          clear c51
                          by_cases c85 : (wrap64 (490 + (Int.tmod x0_2 21))) = 501
                          · rw [if_pos c85] at H
                            have c85b0 : ((wrap64 (490 + (Int.tmod x0_2 21))) == 501) = true := beq_iff_eq.mpr c85
                            have c85b1 : ((wrap64 (490 + (Int.tmod x0_2 21))) != 501) = false := bne_eq_false_iff_eq.mpr c85
                            clear c85
                            by_cases c86 : t263 = 7
                            · rw [if_pos c86] at H
                              have c86b0 : (t263 == 7) = true := beq_iff_eq.mpr c86
                              have c86b1 : (t263 != 7) = false := bne_eq_false_iff_eq.mpr c86
                              clear c86
                              by_cases c87 : t263 = 0
                              · rw [if_pos c87] at H
                                have c87b0 : (t263 == 0) = true := beq_iff_eq.mpr c87
                                have c87b1 : (t263 != 0) = false := bne_eq_false_iff_eq.mpr c87
                                clear c87
                                by_cases c88 : (t262.length : Int) = (wrap64 (490 + (Int.tmod x0_2 21)))
                                · rw [if_pos c88] at H
                                  have c88b0 : ((t262.length : Int) == (wrap64 (490 + (Int.tmod x0_2 21)))) = true := beq_iff_eq.mpr c88
                                  have c88b1 : ((t262.length : Int) != (wrap64 (490 + (Int.tmod x0_2 21)))) = false := bne_eq_false_iff_eq.mpr c88
                                  clear c88
                                  obtain ⟨ji89, hji89⟩ : ∃ j_ : Int, (wrap64 ((wrap64 (490 + (Int.tmod x0_2 21))) - 1)) = j_ := ⟨_, rfl⟩
                                  replace H : (if 0 ≤ (ji89) then (if (ji89) < (t262.length : Int) then (if ((rd_T35 t262 (ji89)).f1) = (ji89) then (if (((rd_T35 t262 (ji89)).f0).size : Int) = (wrap64 (20 + (Int.tmod x1_4 21))) then ((concordancelaw02_lives.f).bind fun t276 => (some t276)) else (some false)) else (some false)) else (none)) else (none)) = some r := by first | (rw [hji89] at H; exact H) | (simp only [hji89] at H ⊢; exact H)
                                  (try rw [hji89] at A16)
                                  have hji89w : (IntKind.i64.wrap ((wrap64 (490 + (Int.tmod x0_2 21))) - 1)) = ji89 := (i64_w _).trans hji89
                                  by_cases c90 : 0 ≤ (ji89)
                                  · rw [if_pos c90] at H
                                    have c90b0 : decide (0 ≤ (ji89)) = true := decide_eq_true c90
                                    clear c90
                                    by_cases c91 : (ji89) < (t262.length : Int)
                                    · rw [if_pos c91] at H
                                      have c91b0 : decide ((ji89) < (t262.length : Int)) = true := decide_eq_true c91
                                      clear c91
                                      by_cases c92 : ((rd_T35 t262 (ji89)).f1) = (ji89)
                                      · rw [if_pos c92] at H
                                        have c92b0 : (((rd_T35 t262 (ji89)).f1) == (ji89)) = true := beq_iff_eq.mpr c92
                                        have c92b1 : (((rd_T35 t262 (ji89)).f1) != (ji89)) = false := bne_eq_false_iff_eq.mpr c92
                                        clear c92
                                        by_cases c93 : (((rd_T35 t262 (ji89)).f0).size : Int) = (wrap64 (20 + (Int.tmod x1_4 21)))
                                        · rw [if_pos c93] at H
                                          have c93b0 : ((((rd_T35 t262 (ji89)).f0).size : Int) == (wrap64 (20 + (Int.tmod x1_4 21)))) = true := beq_iff_eq.mpr c93
                                          have c93b1 : ((((rd_T35 t262 (ji89)).f0).size : Int) != (wrap64 (20 + (Int.tmod x1_4 21)))) = false := bne_eq_false_iff_eq.mpr c93
                                          clear c93
                                          replace H := Option.bind_eq_some_iff.mp H
                                          obtain ⟨t276, A940, H⟩ := H
                                          replace H : (some t276) = some r := H
                                          have A94 := Aside0.mk A940
                                          clear A940
                                          obtain rfl := Option.some.inj H
                                          have hcv95 := own_string (P := Try.prog) Try.underlying36 Try.underlying5 Try.underlying9 (Kd.own_of_R HO_5.out)
                                          go_wp2_with (first | ((with_reducible refine gate_callee (f := 17) rfl ?_); refine goesL_ (some 46) rfl rfl Try.func17 (by kernel_rfl) rfl #[.string (strOfNums x5_4)] rfl (by (try simp only [List.map_toArray, List.map_cons, List.map_nil]); first | done | rfl | (simp only [List.length_drop, List.length_take]; rfl)) ?_; (with_reducible refine (word_Tokens.calls k4 (strOfNums x5_4) t262 t263 _ A16.out).mono ?_); rintro e w96 ⟨v264, rfl, ho0, hb⟩; refine ⟨_, rfl, ?_⟩; have n0_ := Aside0.mk (Kd.R_below (by (with_reducible repeat (first | apply Kd.R_alloc | apply Kd.R_drewN | apply Kd.R_drew)); exact HO_5.out) hb); have n1_ := Aside0.mk (Kd.R_lower ho0 (below_size (by repeat (first | (with_reducible first | exact HB.out | apply below_alloc | apply pw_below_drewN | apply below_drew1) | exact HB.out)))); have n2_ := Aside0.mk (below_step (by repeat (first | (with_reducible first | exact HB.out | apply below_alloc | apply pw_below_drewN | apply below_drew1) | exact HB.out)) hb); clear HO_5; clear HB; have HO_5 := n0_; have HO265 := n1_; have HB := n2_; clear n0_ n1_ n2_; (try clear hb); (try clear hb2); (try clear hk); (try clear hi); (try clear ho0); obtain ⟨Ao97, co97, eo97⟩ := Kd.R_slice HO265.out; subst eo97; have p274 : 0 ≤ ((ji89) : Int) := of_decide_eq_true (by first | (with_reducible assumption) | assumption); have q274 : (ji89) < (t262.length : Int) := of_decide_eq_true (by first | (with_reducible assumption) | assumption); obtain ⟨ad274, e274, hx274_0, hx274_1⟩ := at_T35 (Kd.R_reads' HO265.out).2.2 (ji89) p274 q274; cases e274; replace p274 := eq_true p274; replace q274 := eq_true q274; have p275 : 0 ≤ ((ji89) : Int) := of_decide_eq_true (by first | (with_reducible assumption) | assumption); have q275 : (ji89) < (t262.length : Int) := of_decide_eq_true (by first | (with_reducible assumption) | assumption); obtain ⟨ad275, e275, hx275_0, hx275_1⟩ := at_T35 (Kd.R_reads' HO265.out).2.2 (ji89) p275 q275; obtain rfl : ad274 = ad275 := (by injection e275); replace p275 := eq_true p275; replace q275 := eq_true q275) | (go_at_call 15; (with_reducible refine (concordancelaw02_lives.calls  t276 _ A94.out).mono ?_); rintro e w98 ⟨rfl, hb⟩; have n0_ := Aside0.mk (Kd.R_below (by (with_reducible repeat (first | apply Kd.R_alloc | apply Kd.R_drewN | apply Kd.R_drew)); exact HO_5.out) hb); have n1_ := Aside0.mk (Kd.R_below (by (with_reducible repeat (first | apply Kd.R_alloc | apply Kd.R_drewN | apply Kd.R_drew)); exact HO265.out) hb); have n2_ := Aside0.mk (below_step (by repeat (first | (with_reducible first | exact HB.out | apply below_alloc | apply pw_below_drewN | apply below_drew1) | exact HB.out)) hb); clear HO_5; clear HO265; clear HB; have HO_5 := n0_; have HO265 := n1_; have HB := n2_; clear n0_ n1_ n2_; (try clear hb); (try clear hb2); (try clear hk); (try clear hi)))
                                          go_ret
                                          exact ⟨by first | rfl | (simp [errW_none, errW_some] <;> rfl) | (simp only [← hji89]; first | rfl | (simp [errW_none, errW_some] <;> rfl)) | (simp [*, errW_none, errW_some] <;> rfl), by repeat (first | (with_reducible first | exact HB.out | apply below_alloc | apply pw_below_drewN | apply below_drew1) | exact HB.out)⟩
                                        · rw [if_neg c93] at H
                                          have c93b0 : ((((rd_T35 t262 (ji89)).f0).size : Int) == (wrap64 (20 + (Int.tmod x1_4 21)))) = false := beq_eq_false_iff_ne.mpr c93
                                          have c93b1 : ((((rd_T35 t262 (ji89)).f0).size : Int) != (wrap64 (20 + (Int.tmod x1_4 21)))) = true := bne_iff_ne.mpr c93
                                          obtain rfl := Option.some.inj H
                                          have hcv99 := own_string (P := Try.prog) Try.underlying36 Try.underlying5 Try.underlying9 (Kd.own_of_R HO_5.out)
                                          go_wp2_with (first | ((with_reducible refine gate_callee (f := 17) rfl ?_); refine goesL_ (some 46) rfl rfl Try.func17 (by kernel_rfl) rfl #[.string (strOfNums x5_4)] rfl (by (try simp only [List.map_toArray, List.map_cons, List.map_nil]); first | done | rfl | (simp only [List.length_drop, List.length_take]; rfl)) ?_; (with_reducible refine (word_Tokens.calls k4 (strOfNums x5_4) t262 t263 _ A16.out).mono ?_); rintro e w100 ⟨v264, rfl, ho0, hb⟩; refine ⟨_, rfl, ?_⟩; have n0_ := Aside0.mk (Kd.R_below (by (with_reducible repeat (first | apply Kd.R_alloc | apply Kd.R_drewN | apply Kd.R_drew)); exact HO_5.out) hb); have n1_ := Aside0.mk (Kd.R_lower ho0 (below_size (by repeat (first | (with_reducible first | exact HB.out | apply below_alloc | apply pw_below_drewN | apply below_drew1) | exact HB.out)))); have n2_ := Aside0.mk (below_step (by repeat (first | (with_reducible first | exact HB.out | apply below_alloc | apply pw_below_drewN | apply below_drew1) | exact HB.out)) hb); clear HO_5; clear HB; have HO_5 := n0_; have HO265 := n1_; have HB := n2_; clear n0_ n1_ n2_; (try clear hb); (try clear hb2); (try clear hk); (try clear hi); (try clear ho0); obtain ⟨Ao101, co101, eo101⟩ := Kd.R_slice HO265.out; subst eo101; have p274 : 0 ≤ ((ji89) : Int) := of_decide_eq_true (by first | (with_reducible assumption) | assumption); have q274 : (ji89) < (t262.length : Int) := of_decide_eq_true (by first | (with_reducible assumption) | assumption); obtain ⟨ad274, e274, hx274_0, hx274_1⟩ := at_T35 (Kd.R_reads' HO265.out).2.2 (ji89) p274 q274; cases e274; replace p274 := eq_true p274; replace q274 := eq_true q274; have p275 : 0 ≤ ((ji89) : Int) := of_decide_eq_true (by first | (with_reducible assumption) | assumption); have q275 : (ji89) < (t262.length : Int) := of_decide_eq_true (by first | (with_reducible assumption) | assumption); obtain ⟨ad275, e275, hx275_0, hx275_1⟩ := at_T35 (Kd.R_reads' HO265.out).2.2 (ji89) p275 q275; obtain rfl : ad274 = ad275 := (by injection e275); replace p275 := eq_true p275; replace q275 := eq_true q275))
                                          go_ret
                                          exact ⟨by first | rfl | (simp [errW_none, errW_some] <;> rfl) | (simp only [← hji89]; first | rfl | (simp [errW_none, errW_some] <;> rfl)) | (simp [*, errW_none, errW_some] <;> rfl), by repeat (first | (with_reducible first | exact HB.out | apply below_alloc | apply pw_below_drewN | apply below_drew1) | exact HB.out)⟩
                                      · rw [if_neg c92] at H
                                        have c92b0 : (((rd_T35 t262 (ji89)).f1) == (ji89)) = false := beq_eq_false_iff_ne.mpr c92
                                        have c92b1 : (((rd_T35 t262 (ji89)).f1) != (ji89)) = true := bne_iff_ne.mpr c92
                                        obtain rfl := Option.some.inj H
                                        have hcv102 := own_string (P := Try.prog) Try.underlying36 Try.underlying5 Try.underlying9 (Kd.own_of_R HO_5.out)
                                        go_wp2_with (first | ((with_reducible refine gate_callee (f := 17) rfl ?_); refine goesL_ (some 46) rfl rfl Try.func17 (by kernel_rfl) rfl #[.string (strOfNums x5_4)] rfl (by (try simp only [List.map_toArray, List.map_cons, List.map_nil]); first | done | rfl | (simp only [List.length_drop, List.length_take]; rfl)) ?_; (with_reducible refine (word_Tokens.calls k4 (strOfNums x5_4) t262 t263 _ A16.out).mono ?_); rintro e w103 ⟨v264, rfl, ho0, hb⟩; refine ⟨_, rfl, ?_⟩; have n0_ := Aside0.mk (Kd.R_below (by (with_reducible repeat (first | apply Kd.R_alloc | apply Kd.R_drewN | apply Kd.R_drew)); exact HO_5.out) hb); have n1_ := Aside0.mk (Kd.R_lower ho0 (below_size (by repeat (first | (with_reducible first | exact HB.out | apply below_alloc | apply pw_below_drewN | apply below_drew1) | exact HB.out)))); have n2_ := Aside0.mk (below_step (by repeat (first | (with_reducible first | exact HB.out | apply below_alloc | apply pw_below_drewN | apply below_drew1) | exact HB.out)) hb); clear HO_5; clear HB; have HO_5 := n0_; have HO265 := n1_; have HB := n2_; clear n0_ n1_ n2_; (try clear hb); (try clear hb2); (try clear hk); (try clear hi); (try clear ho0); obtain ⟨Ao104, co104, eo104⟩ := Kd.R_slice HO265.out; subst eo104; have p274 : 0 ≤ ((ji89) : Int) := of_decide_eq_true (by first | (with_reducible assumption) | assumption); have q274 : (ji89) < (t262.length : Int) := of_decide_eq_true (by first | (with_reducible assumption) | assumption); obtain ⟨ad274, e274, hx274_0, hx274_1⟩ := at_T35 (Kd.R_reads' HO265.out).2.2 (ji89) p274 q274; cases e274; replace p274 := eq_true p274; replace q274 := eq_true q274))
                                        go_ret
                                        exact ⟨by first | rfl | (simp [errW_none, errW_some] <;> rfl) | (simp only [← hji89]; first | rfl | (simp [errW_none, errW_some] <;> rfl)) | (simp [*, errW_none, errW_some] <;> rfl), by repeat (first | (with_reducible first | exact HB.out | apply below_alloc | apply pw_below_drewN | apply below_drew1) | exact HB.out)⟩
                                    · rw [if_neg c91] at H
                                      exact absurd H (by simp)
                                  · rw [if_neg c90] at H
                                    exact absurd H (by simp)
                                · rw [if_neg c88] at H
                                  have c88b0 : ((t262.length : Int) == (wrap64 (490 + (Int.tmod x0_2 21)))) = false := beq_eq_false_iff_ne.mpr c88
                                  have c88b1 : ((t262.length : Int) != (wrap64 (490 + (Int.tmod x0_2 21)))) = true := bne_iff_ne.mpr c88
                                  obtain rfl := Option.some.inj H
                                  have hcv105 := own_string (P := Try.prog) Try.underlying36 Try.underlying5 Try.underlying9 (Kd.own_of_R HO_5.out)
                                  go_wp2_with (first | ((with_reducible refine gate_callee (f := 17) rfl ?_); refine goesL_ (some 46) rfl rfl Try.func17 (by kernel_rfl) rfl #[.string (strOfNums x5_4)] rfl (by (try simp only [List.map_toArray, List.map_cons, List.map_nil]); first | done | rfl | (simp only [List.length_drop, List.length_take]; rfl)) ?_; (with_reducible refine (word_Tokens.calls k4 (strOfNums x5_4) t262 t263 _ A16.out).mono ?_); rintro e w106 ⟨v264, rfl, ho0, hb⟩; refine ⟨_, rfl, ?_⟩; have n0_ := Aside0.mk (Kd.R_below (by (with_reducible repeat (first | apply Kd.R_alloc | apply Kd.R_drewN | apply Kd.R_drew)); exact HO_5.out) hb); have n1_ := Aside0.mk (Kd.R_lower ho0 (below_size (by repeat (first | (with_reducible first | exact HB.out | apply below_alloc | apply pw_below_drewN | apply below_drew1) | exact HB.out)))); have n2_ := Aside0.mk (below_step (by repeat (first | (with_reducible first | exact HB.out | apply below_alloc | apply pw_below_drewN | apply below_drew1) | exact HB.out)) hb); clear HO_5; clear HB; have HO_5 := n0_; have HO265 := n1_; have HB := n2_; clear n0_ n1_ n2_; (try clear hb); (try clear hb2); (try clear hk); (try clear hi); (try clear ho0); obtain ⟨Ao107, co107, eo107⟩ := Kd.R_slice HO265.out; subst eo107))
                                  go_ret
                                  exact ⟨by first | rfl | (simp [errW_none, errW_some] <;> rfl) | (simp [*, errW_none, errW_some] <;> rfl), by repeat (first | (with_reducible first | exact HB.out | apply below_alloc | apply pw_below_drewN | apply below_drew1) | exact HB.out)⟩
                              · rw [if_neg c87] at H
                                have c87b0 : (t263 == 0) = false := beq_eq_false_iff_ne.mpr c87
                                have c87b1 : (t263 != 0) = true := bne_iff_ne.mpr c87
                                by_cases c108 : (t262.length : Int) = 0
                                · rw [if_pos c108] at H
                                  have c108b0 : ((t262.length : Int) == 0) = true := beq_iff_eq.mpr c108
                                  have c108b1 : ((t262.length : Int) != 0) = false := bne_eq_false_iff_eq.mpr c108
                                  clear c108
                                  replace H := Option.bind_eq_some_iff.mp H
                                  obtain ⟨t277, A1090, H⟩ := H
                                  replace H : (some t277) = some r := H
                                  have A109 := Aside0.mk A1090
                                  clear A1090
                                  obtain rfl := Option.some.inj H
                                  have hcv110 := own_string (P := Try.prog) Try.underlying36 Try.underlying5 Try.underlying9 (Kd.own_of_R HO_5.out)
                                  go_wp2_with (first | ((with_reducible refine gate_callee (f := 17) rfl ?_); refine goesL_ (some 46) rfl rfl Try.func17 (by kernel_rfl) rfl #[.string (strOfNums x5_4)] rfl (by (try simp only [List.map_toArray, List.map_cons, List.map_nil]); first | done | rfl | (simp only [List.length_drop, List.length_take]; rfl)) ?_; (with_reducible refine (word_Tokens.calls k4 (strOfNums x5_4) t262 t263 _ A16.out).mono ?_); rintro e w111 ⟨v264, rfl, ho0, hb⟩; refine ⟨_, rfl, ?_⟩; have n0_ := Aside0.mk (Kd.R_below (by (with_reducible repeat (first | apply Kd.R_alloc | apply Kd.R_drewN | apply Kd.R_drew)); exact HO_5.out) hb); have n1_ := Aside0.mk (Kd.R_lower ho0 (below_size (by repeat (first | (with_reducible first | exact HB.out | apply below_alloc | apply pw_below_drewN | apply below_drew1) | exact HB.out)))); have n2_ := Aside0.mk (below_step (by repeat (first | (with_reducible first | exact HB.out | apply below_alloc | apply pw_below_drewN | apply below_drew1) | exact HB.out)) hb); clear HO_5; clear HB; have HO_5 := n0_; have HO265 := n1_; have HB := n2_; clear n0_ n1_ n2_; (try clear hb); (try clear hb2); (try clear hk); (try clear hi); (try clear ho0); obtain ⟨Ao112, co112, eo112⟩ := Kd.R_slice HO265.out; subst eo112) | (go_at_call 15; (with_reducible refine (concordancelaw02_lives.calls  t277 _ A109.out).mono ?_); rintro e w113 ⟨rfl, hb⟩; have n0_ := Aside0.mk (Kd.R_below (by (with_reducible repeat (first | apply Kd.R_alloc | apply Kd.R_drewN | apply Kd.R_drew)); exact HO_5.out) hb); have n1_ := Aside0.mk (Kd.R_below (by (with_reducible repeat (first | apply Kd.R_alloc | apply Kd.R_drewN | apply Kd.R_drew)); exact HO265.out) hb); have n2_ := Aside0.mk (below_step (by repeat (first | (with_reducible first | exact HB.out | apply below_alloc | apply pw_below_drewN | apply below_drew1) | exact HB.out)) hb); clear HO_5; clear HO265; clear HB; have HO_5 := n0_; have HO265 := n1_; have HB := n2_; clear n0_ n1_ n2_; (try clear hb); (try clear hb2); (try clear hk); (try clear hi)))
                                  go_ret
                                  exact ⟨by first | rfl | (simp [errW_none, errW_some] <;> rfl) | (simp [*, errW_none, errW_some] <;> rfl), by repeat (first | (with_reducible first | exact HB.out | apply below_alloc | apply pw_below_drewN | apply below_drew1) | exact HB.out)⟩
                                · rw [if_neg c108] at H
                                  have c108b0 : ((t262.length : Int) == 0) = false := beq_eq_false_iff_ne.mpr c108
                                  have c108b1 : ((t262.length : Int) != 0) = true := bne_iff_ne.mpr c108
                                  have c108b2 : ¬ (t262 = []) := fun h_ => c108 (by rw [h_]; rfl)
                                  obtain rfl := Option.some.inj H
                                  have hcv114 := own_string (P := Try.prog) Try.underlying36 Try.underlying5 Try.underlying9 (Kd.own_of_R HO_5.out)
                                  go_wp2_with (first | ((with_reducible refine gate_callee (f := 17) rfl ?_); refine goesL_ (some 46) rfl rfl Try.func17 (by kernel_rfl) rfl #[.string (strOfNums x5_4)] rfl (by (try simp only [List.map_toArray, List.map_cons, List.map_nil]); first | done | rfl | (simp only [List.length_drop, List.length_take]; rfl)) ?_; (with_reducible refine (word_Tokens.calls k4 (strOfNums x5_4) t262 t263 _ A16.out).mono ?_); rintro e w115 ⟨v264, rfl, ho0, hb⟩; refine ⟨_, rfl, ?_⟩; have n0_ := Aside0.mk (Kd.R_below (by (with_reducible repeat (first | apply Kd.R_alloc | apply Kd.R_drewN | apply Kd.R_drew)); exact HO_5.out) hb); have n1_ := Aside0.mk (Kd.R_lower ho0 (below_size (by repeat (first | (with_reducible first | exact HB.out | apply below_alloc | apply pw_below_drewN | apply below_drew1) | exact HB.out)))); have n2_ := Aside0.mk (below_step (by repeat (first | (with_reducible first | exact HB.out | apply below_alloc | apply pw_below_drewN | apply below_drew1) | exact HB.out)) hb); clear HO_5; clear HB; have HO_5 := n0_; have HO265 := n1_; have HB := n2_; clear n0_ n1_ n2_; (try clear hb); (try clear hb2); (try clear hk); (try clear hi); (try clear ho0); obtain ⟨Ao116, co116, eo116⟩ := Kd.R_slice HO265.out; subst eo116))
                                  go_ret
                                  exact ⟨by first | rfl | (simp [errW_none, errW_some] <;> rfl) | (simp [*, errW_none, errW_some] <;> rfl), by repeat (first | (with_reducible first | exact HB.out | apply below_alloc | apply pw_below_drewN | apply below_drew1) | exact HB.out)⟩
                            · rw [if_neg c86] at H
                              have c86b0 : (t263 == 7) = false := beq_eq_false_iff_ne.mpr c86
                              have c86b1 : (t263 != 7) = true := bne_iff_ne.mpr c86
                              obtain rfl := Option.some.inj H
                              have hcv117 := own_string (P := Try.prog) Try.underlying36 Try.underlying5 Try.underlying9 (Kd.own_of_R HO_5.out)
                              go_wp2_with (first | ((with_reducible refine gate_callee (f := 17) rfl ?_); refine goesL_ (some 46) rfl rfl Try.func17 (by kernel_rfl) rfl #[.string (strOfNums x5_4)] rfl (by (try simp only [List.map_toArray, List.map_cons, List.map_nil]); first | done | rfl | (simp only [List.length_drop, List.length_take]; rfl)) ?_; (with_reducible refine (word_Tokens.calls k4 (strOfNums x5_4) t262 t263 _ A16.out).mono ?_); rintro e w118 ⟨v264, rfl, ho0, hb⟩; refine ⟨_, rfl, ?_⟩; have n0_ := Aside0.mk (Kd.R_below (by (with_reducible repeat (first | apply Kd.R_alloc | apply Kd.R_drewN | apply Kd.R_drew)); exact HO_5.out) hb); have n1_ := Aside0.mk (Kd.R_lower ho0 (below_size (by repeat (first | (with_reducible first | exact HB.out | apply below_alloc | apply pw_below_drewN | apply below_drew1) | exact HB.out)))); have n2_ := Aside0.mk (below_step (by repeat (first | (with_reducible first | exact HB.out | apply below_alloc | apply pw_below_drewN | apply below_drew1) | exact HB.out)) hb); clear HO_5; clear HB; have HO_5 := n0_; have HO265 := n1_; have HB := n2_; clear n0_ n1_ n2_; (try clear hb); (try clear hb2); (try clear hk); (try clear hi); (try clear ho0)))
                              go_ret
                              exact ⟨by first | rfl | (simp [errW_none, errW_some] <;> rfl) | (simp [*, errW_none, errW_some] <;> rfl), by repeat (first | (with_reducible first | exact HB.out | apply below_alloc | apply pw_below_drewN | apply below_drew1) | exact HB.out)⟩
                          · rw [if_neg c85] at H
                            have c85b0 : ((wrap64 (490 + (Int.tmod x0_2 21))) == 501) = false := beq_eq_false_iff_ne.mpr c85
                            have c85b1 : ((wrap64 (490 + (Int.tmod x0_2 21))) != 501) = true := bne_iff_ne.mpr c85
                            by_cases c119 : t263 = 0
                            · rw [if_pos c119] at H
                              have c119b0 : (t263 == 0) = true := beq_iff_eq.mpr c119
                              have c119b1 : (t263 != 0) = false := bne_eq_false_iff_eq.mpr c119
                              clear c119
                              by_cases c120 : (t262.length : Int) = (wrap64 (490 + (Int.tmod x0_2 21)))
                              · rw [if_pos c120] at H
                                have c120b0 : ((t262.length : Int) == (wrap64 (490 + (Int.tmod x0_2 21)))) = true := beq_iff_eq.mpr c120
                                have c120b1 : ((t262.length : Int) != (wrap64 (490 + (Int.tmod x0_2 21)))) = false := bne_eq_false_iff_eq.mpr c120
                                clear c120
                                obtain ⟨ji121, hji121⟩ : ∃ j_ : Int, (wrap64 ((wrap64 (490 + (Int.tmod x0_2 21))) - 1)) = j_ := ⟨_, rfl⟩
                                replace H : (if 0 ≤ (ji121) then (if (ji121) < (t262.length : Int) then (if ((rd_T35 t262 (ji121)).f1) = (ji121) then (if (((rd_T35 t262 (ji121)).f0).size : Int) = (wrap64 (20 + (Int.tmod x1_4 21))) then ((concordancelaw02_lives.f).bind fun t280 => (some t280)) else (some false)) else (some false)) else (none)) else (none)) = some r := by first | (rw [hji121] at H; exact H) | (simp only [hji121] at H ⊢; exact H)
                                (try rw [hji121] at A16)
                                have hji121w : (IntKind.i64.wrap ((wrap64 (490 + (Int.tmod x0_2 21))) - 1)) = ji121 := (i64_w _).trans hji121
                                by_cases c122 : 0 ≤ (ji121)
                                · rw [if_pos c122] at H
                                  have c122b0 : decide (0 ≤ (ji121)) = true := decide_eq_true c122
                                  clear c122
                                  by_cases c123 : (ji121) < (t262.length : Int)
                                  · rw [if_pos c123] at H
                                    have c123b0 : decide ((ji121) < (t262.length : Int)) = true := decide_eq_true c123
                                    clear c123
                                    by_cases c124 : ((rd_T35 t262 (ji121)).f1) = (ji121)
                                    · rw [if_pos c124] at H
                                      have c124b0 : (((rd_T35 t262 (ji121)).f1) == (ji121)) = true := beq_iff_eq.mpr c124
                                      have c124b1 : (((rd_T35 t262 (ji121)).f1) != (ji121)) = false := bne_eq_false_iff_eq.mpr c124
                                      clear c124
                                      by_cases c125 : (((rd_T35 t262 (ji121)).f0).size : Int) = (wrap64 (20 + (Int.tmod x1_4 21)))
                                      · rw [if_pos c125] at H
                                        have c125b0 : ((((rd_T35 t262 (ji121)).f0).size : Int) == (wrap64 (20 + (Int.tmod x1_4 21)))) = true := beq_iff_eq.mpr c125
                                        have c125b1 : ((((rd_T35 t262 (ji121)).f0).size : Int) != (wrap64 (20 + (Int.tmod x1_4 21)))) = false := bne_eq_false_iff_eq.mpr c125
                                        clear c125
                                        replace H := Option.bind_eq_some_iff.mp H
                                        obtain ⟨t280, A1260, H⟩ := H
                                        replace H : (some t280) = some r := H
                                        have A126 := Aside0.mk A1260
                                        clear A1260
                                        obtain rfl := Option.some.inj H
                                        have hcv127 := own_string (P := Try.prog) Try.underlying36 Try.underlying5 Try.underlying9 (Kd.own_of_R HO_5.out)
                                        go_wp2_with (first | ((with_reducible refine gate_callee (f := 17) rfl ?_); refine goesL_ (some 46) rfl rfl Try.func17 (by kernel_rfl) rfl #[.string (strOfNums x5_4)] rfl (by (try simp only [List.map_toArray, List.map_cons, List.map_nil]); first | done | rfl | (simp only [List.length_drop, List.length_take]; rfl)) ?_; (with_reducible refine (word_Tokens.calls k4 (strOfNums x5_4) t262 t263 _ A16.out).mono ?_); rintro e w128 ⟨v264, rfl, ho0, hb⟩; refine ⟨_, rfl, ?_⟩; have n0_ := Aside0.mk (Kd.R_below (by (with_reducible repeat (first | apply Kd.R_alloc | apply Kd.R_drewN | apply Kd.R_drew)); exact HO_5.out) hb); have n1_ := Aside0.mk (Kd.R_lower ho0 (below_size (by repeat (first | (with_reducible first | exact HB.out | apply below_alloc | apply pw_below_drewN | apply below_drew1) | exact HB.out)))); have n2_ := Aside0.mk (below_step (by repeat (first | (with_reducible first | exact HB.out | apply below_alloc | apply pw_below_drewN | apply below_drew1) | exact HB.out)) hb); clear HO_5; clear HB; have HO_5 := n0_; have HO265 := n1_; have HB := n2_; clear n0_ n1_ n2_; (try clear hb); (try clear hb2); (try clear hk); (try clear hi); (try clear ho0); obtain ⟨Ao129, co129, eo129⟩ := Kd.R_slice HO265.out; subst eo129; have p278 : 0 ≤ ((ji121) : Int) := of_decide_eq_true (by first | (with_reducible assumption) | assumption); have q278 : (ji121) < (t262.length : Int) := of_decide_eq_true (by first | (with_reducible assumption) | assumption); obtain ⟨ad278, e278, hx278_0, hx278_1⟩ := at_T35 (Kd.R_reads' HO265.out).2.2 (ji121) p278 q278; cases e278; replace p278 := eq_true p278; replace q278 := eq_true q278; have p279 : 0 ≤ ((ji121) : Int) := of_decide_eq_true (by first | (with_reducible assumption) | assumption); have q279 : (ji121) < (t262.length : Int) := of_decide_eq_true (by first | (with_reducible assumption) | assumption); obtain ⟨ad279, e279, hx279_0, hx279_1⟩ := at_T35 (Kd.R_reads' HO265.out).2.2 (ji121) p279 q279; obtain rfl : ad278 = ad279 := (by injection e279); replace p279 := eq_true p279; replace q279 := eq_true q279) | (go_at_call 15; (with_reducible refine (concordancelaw02_lives.calls  t280 _ A126.out).mono ?_); rintro e w130 ⟨rfl, hb⟩; have n0_ := Aside0.mk (Kd.R_below (by (with_reducible repeat (first | apply Kd.R_alloc | apply Kd.R_drewN | apply Kd.R_drew)); exact HO_5.out) hb); have n1_ := Aside0.mk (Kd.R_below (by (with_reducible repeat (first | apply Kd.R_alloc | apply Kd.R_drewN | apply Kd.R_drew)); exact HO265.out) hb); have n2_ := Aside0.mk (below_step (by repeat (first | (with_reducible first | exact HB.out | apply below_alloc | apply pw_below_drewN | apply below_drew1) | exact HB.out)) hb); clear HO_5; clear HO265; clear HB; have HO_5 := n0_; have HO265 := n1_; have HB := n2_; clear n0_ n1_ n2_; (try clear hb); (try clear hb2); (try clear hk); (try clear hi)))
                                        go_ret
                                        exact ⟨by first | rfl | (simp [errW_none, errW_some] <;> rfl) | (simp only [← hji121]; first | rfl | (simp [errW_none, errW_some] <;> rfl)) | (simp [*, errW_none, errW_some] <;> rfl), by repeat (first | (with_reducible first | exact HB.out | apply below_alloc | apply pw_below_drewN | apply below_drew1) | exact HB.out)⟩
                                      · rw [if_neg c125] at H
                                        have c125b0 : ((((rd_T35 t262 (ji121)).f0).size : Int) == (wrap64 (20 + (Int.tmod x1_4 21)))) = false := beq_eq_false_iff_ne.mpr c125
                                        have c125b1 : ((((rd_T35 t262 (ji121)).f0).size : Int) != (wrap64 (20 + (Int.tmod x1_4 21)))) = true := bne_iff_ne.mpr c125
                                        obtain rfl := Option.some.inj H
                                        have hcv131 := own_string (P := Try.prog) Try.underlying36 Try.underlying5 Try.underlying9 (Kd.own_of_R HO_5.out)
                                        go_wp2_with (first | ((with_reducible refine gate_callee (f := 17) rfl ?_); refine goesL_ (some 46) rfl rfl Try.func17 (by kernel_rfl) rfl #[.string (strOfNums x5_4)] rfl (by (try simp only [List.map_toArray, List.map_cons, List.map_nil]); first | done | rfl | (simp only [List.length_drop, List.length_take]; rfl)) ?_; (with_reducible refine (word_Tokens.calls k4 (strOfNums x5_4) t262 t263 _ A16.out).mono ?_); rintro e w132 ⟨v264, rfl, ho0, hb⟩; refine ⟨_, rfl, ?_⟩; have n0_ := Aside0.mk (Kd.R_below (by (with_reducible repeat (first | apply Kd.R_alloc | apply Kd.R_drewN | apply Kd.R_drew)); exact HO_5.out) hb); have n1_ := Aside0.mk (Kd.R_lower ho0 (below_size (by repeat (first | (with_reducible first | exact HB.out | apply below_alloc | apply pw_below_drewN | apply below_drew1) | exact HB.out)))); have n2_ := Aside0.mk (below_step (by repeat (first | (with_reducible first | exact HB.out | apply below_alloc | apply pw_below_drewN | apply below_drew1) | exact HB.out)) hb); clear HO_5; clear HB; have HO_5 := n0_; have HO265 := n1_; have HB := n2_; clear n0_ n1_ n2_; (try clear hb); (try clear hb2); (try clear hk); (try clear hi); (try clear ho0); obtain ⟨Ao133, co133, eo133⟩ := Kd.R_slice HO265.out; subst eo133; have p278 : 0 ≤ ((ji121) : Int) := of_decide_eq_true (by first | (with_reducible assumption) | assumption); have q278 : (ji121) < (t262.length : Int) := of_decide_eq_true (by first | (with_reducible assumption) | assumption); obtain ⟨ad278, e278, hx278_0, hx278_1⟩ := at_T35 (Kd.R_reads' HO265.out).2.2 (ji121) p278 q278; cases e278; replace p278 := eq_true p278; replace q278 := eq_true q278; have p279 : 0 ≤ ((ji121) : Int) := of_decide_eq_true (by first | (with_reducible assumption) | assumption); have q279 : (ji121) < (t262.length : Int) := of_decide_eq_true (by first | (with_reducible assumption) | assumption); obtain ⟨ad279, e279, hx279_0, hx279_1⟩ := at_T35 (Kd.R_reads' HO265.out).2.2 (ji121) p279 q279; obtain rfl : ad278 = ad279 := (by injection e279); replace p279 := eq_true p279; replace q279 := eq_true q279))
                                        go_ret
                                        exact ⟨by first | rfl | (simp [errW_none, errW_some] <;> rfl) | (simp only [← hji121]; first | rfl | (simp [errW_none, errW_some] <;> rfl)) | (simp [*, errW_none, errW_some] <;> rfl), by repeat (first | (with_reducible first | exact HB.out | apply below_alloc | apply pw_below_drewN | apply below_drew1) | exact HB.out)⟩
                                    · rw [if_neg c124] at H
                                      have c124b0 : (((rd_T35 t262 (ji121)).f1) == (ji121)) = false := beq_eq_false_iff_ne.mpr c124
                                      have c124b1 : (((rd_T35 t262 (ji121)).f1) != (ji121)) = true := bne_iff_ne.mpr c124
                                      obtain rfl := Option.some.inj H
                                      have hcv134 := own_string (P := Try.prog) Try.underlying36 Try.underlying5 Try.underlying9 (Kd.own_of_R HO_5.out)
                                      go_wp2_with (first | ((with_reducible refine gate_callee (f := 17) rfl ?_); refine goesL_ (some 46) rfl rfl Try.func17 (by kernel_rfl) rfl #[.string (strOfNums x5_4)] rfl (by (try simp only [List.map_toArray, List.map_cons, List.map_nil]); first | done | rfl | (simp only [List.length_drop, List.length_take]; rfl)) ?_; (with_reducible refine (word_Tokens.calls k4 (strOfNums x5_4) t262 t263 _ A16.out).mono ?_); rintro e w135 ⟨v264, rfl, ho0, hb⟩; refine ⟨_, rfl, ?_⟩; have n0_ := Aside0.mk (Kd.R_below (by (with_reducible repeat (first | apply Kd.R_alloc | apply Kd.R_drewN | apply Kd.R_drew)); exact HO_5.out) hb); have n1_ := Aside0.mk (Kd.R_lower ho0 (below_size (by repeat (first | (with_reducible first | exact HB.out | apply below_alloc | apply pw_below_drewN | apply below_drew1) | exact HB.out)))); have n2_ := Aside0.mk (below_step (by repeat (first | (with_reducible first | exact HB.out | apply below_alloc | apply pw_below_drewN | apply below_drew1) | exact HB.out)) hb); clear HO_5; clear HB; have HO_5 := n0_; have HO265 := n1_; have HB := n2_; clear n0_ n1_ n2_; (try clear hb); (try clear hb2); (try clear hk); (try clear hi); (try clear ho0); obtain ⟨Ao136, co136, eo136⟩ := Kd.R_slice HO265.out; subst eo136; have p278 : 0 ≤ ((ji121) : Int) := of_decide_eq_true (by first | (with_reducible assumption) | assumption); have q278 : (ji121) < (t262.length : Int) := of_decide_eq_true (by first | (with_reducible assumption) | assumption); obtain ⟨ad278, e278, hx278_0, hx278_1⟩ := at_T35 (Kd.R_reads' HO265.out).2.2 (ji121) p278 q278; cases e278; replace p278 := eq_true p278; replace q278 := eq_true q278))
                                      go_ret
                                      exact ⟨by first | rfl | (simp [errW_none, errW_some] <;> rfl) | (simp only [← hji121]; first | rfl | (simp [errW_none, errW_some] <;> rfl)) | (simp [*, errW_none, errW_some] <;> rfl), by repeat (first | (with_reducible first | exact HB.out | apply below_alloc | apply pw_below_drewN | apply below_drew1) | exact HB.out)⟩
                                  · rw [if_neg c123] at H
                                    exact absurd H (by simp)
                                · rw [if_neg c122] at H
                                  exact absurd H (by simp)
                              · rw [if_neg c120] at H
                                have c120b0 : ((t262.length : Int) == (wrap64 (490 + (Int.tmod x0_2 21)))) = false := beq_eq_false_iff_ne.mpr c120
                                have c120b1 : ((t262.length : Int) != (wrap64 (490 + (Int.tmod x0_2 21)))) = true := bne_iff_ne.mpr c120
                                obtain rfl := Option.some.inj H
                                have hcv137 := own_string (P := Try.prog) Try.underlying36 Try.underlying5 Try.underlying9 (Kd.own_of_R HO_5.out)
                                go_wp2_with (first | ((with_reducible refine gate_callee (f := 17) rfl ?_); refine goesL_ (some 46) rfl rfl Try.func17 (by kernel_rfl) rfl #[.string (strOfNums x5_4)] rfl (by (try simp only [List.map_toArray, List.map_cons, List.map_nil]); first | done | rfl | (simp only [List.length_drop, List.length_take]; rfl)) ?_; (with_reducible refine (word_Tokens.calls k4 (strOfNums x5_4) t262 t263 _ A16.out).mono ?_); rintro e w138 ⟨v264, rfl, ho0, hb⟩; refine ⟨_, rfl, ?_⟩; have n0_ := Aside0.mk (Kd.R_below (by (with_reducible repeat (first | apply Kd.R_alloc | apply Kd.R_drewN | apply Kd.R_drew)); exact HO_5.out) hb); have n1_ := Aside0.mk (Kd.R_lower ho0 (below_size (by repeat (first | (with_reducible first | exact HB.out | apply below_alloc | apply pw_below_drewN | apply below_drew1) | exact HB.out)))); have n2_ := Aside0.mk (below_step (by repeat (first | (with_reducible first | exact HB.out | apply below_alloc | apply pw_below_drewN | apply below_drew1) | exact HB.out)) hb); clear HO_5; clear HB; have HO_5 := n0_; have HO265 := n1_; have HB := n2_; clear n0_ n1_ n2_; (try clear hb); (try clear hb2); (try clear hk); (try clear hi); (try clear ho0); obtain ⟨Ao139, co139, eo139⟩ := Kd.R_slice HO265.out; subst eo139))
                                go_ret
                                exact ⟨by first | rfl | (simp [errW_none, errW_some] <;> rfl) | (simp [*, errW_none, errW_some] <;> rfl), by repeat (first | (with_reducible first | exact HB.out | apply below_alloc | apply pw_below_drewN | apply below_drew1) | exact HB.out)⟩
                            · rw [if_neg c119] at H
                              have c119b0 : (t263 == 0) = false := beq_eq_false_iff_ne.mpr c119
                              have c119b1 : (t263 != 0) = true := bne_iff_ne.mpr c119
                              obtain rfl := Option.some.inj H
                              have hcv140 := own_string (P := Try.prog) Try.underlying36 Try.underlying5 Try.underlying9 (Kd.own_of_R HO_5.out)
                              go_wp2_with (first | ((with_reducible refine gate_callee (f := 17) rfl ?_); refine goesL_ (some 46) rfl rfl Try.func17 (by kernel_rfl) rfl #[.string (strOfNums x5_4)] rfl (by (try simp only [List.map_toArray, List.map_cons, List.map_nil]); first | done | rfl | (simp only [List.length_drop, List.length_take]; rfl)) ?_; (with_reducible refine (word_Tokens.calls k4 (strOfNums x5_4) t262 t263 _ A16.out).mono ?_); rintro e w141 ⟨v264, rfl, ho0, hb⟩; refine ⟨_, rfl, ?_⟩; have n0_ := Aside0.mk (Kd.R_below (by (with_reducible repeat (first | apply Kd.R_alloc | apply Kd.R_drewN | apply Kd.R_drew)); exact HO_5.out) hb); have n1_ := Aside0.mk (Kd.R_lower ho0 (below_size (by repeat (first | (with_reducible first | exact HB.out | apply below_alloc | apply pw_below_drewN | apply below_drew1) | exact HB.out)))); have n2_ := Aside0.mk (below_step (by repeat (first | (with_reducible first | exact HB.out | apply below_alloc | apply pw_below_drewN | apply below_drew1) | exact HB.out)) hb); clear HO_5; clear HB; have HO_5 := n0_; have HO265 := n1_; have HB := n2_; clear n0_ n1_ n2_; (try clear hb); (try clear hb2); (try clear hk); (try clear hi); (try clear ho0)))
                              go_ret
                              exact ⟨by first | rfl | (simp [errW_none, errW_some] <;> rfl) | (simp [*, errW_none, errW_some] <;> rfl), by repeat (first | (with_reducible first | exact HB.out | apply below_alloc | apply pw_below_drewN | apply below_drew1) | exact HB.out)⟩

/-- THE ONE PURE STATEMENT of concordancelaw02_WordMany: yours. -/
def concordancelaw02_WordMany.Pure : Prop := ∀ (a0 : Int) (a1 : Int), (Lit.int .i64 a0).wf = true → (Lit.int .i64 a1).wf = true → ∃ k, concordancelaw02_WordMany.f k a0 a1 = some true
theorem concordancelaw02_WordMany.walk (P : concordancelaw02_WordMany.Pure) (a0 : Int) (a1 : Int) (w : World) (w0 : (Lit.int .i64 a0).wf = true) (w1 : (Lit.int .i64 a1).wf = true) :
    Calls Try.prog 7 #[.int .i64 a0, .int .i64 a1] w fun e w' => e = .returned (.bool true) ∧ Below w.heap.size w w' := by
  obtain ⟨k, h⟩ := P a0 a1 w0 w1
  refine (concordancelaw02_WordMany.calls k a0 a1 true w h).mono ?_
  rintro e w' ⟨rfl, hd⟩
  exact ⟨rfl, hd⟩

end Go.Proofs.Ytoephmnkenlmiaa.PAll
