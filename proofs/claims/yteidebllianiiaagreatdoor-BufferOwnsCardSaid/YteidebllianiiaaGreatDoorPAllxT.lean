-- written by a program of this session (wip/px): the walk of printed functions
import Derived.Test.YteidebllianiiaaGreatDoorPAllx0
import Derived.Test.YteidebllianiiaaGreatDoorSq
import Derived.Test.YteidebllianiiaaGreatDoorBnd0
namespace Go.Proofs.YteidebllianiiaaGreatDoor.PAll
open Go.RowKit Go.Proofs.YteidebllianiiaaGreatDoorW.PrintWords Go.Proofs.YteidebllianiiaaGreatDoorW.PrintLast Go.Proofs.YteidebllianiiaaGreatDoorW.PrintMore
attribute [local go_sem] max2_int min2_int max_two min_two max_three min_three max_four min_four   -- for this text's walks alone
set_option linter.unusedVariables false
set_option linter.unusedSimpArgs false

/-! ### word_Tokens: function 42 -/
def word_Tokens.l0 : Nat → List (S108) → List ByteArray → Int → Int → Option ((List (S108)) × Int)
 | 0, _, _, _, _ => none
 | k + 1, x4, x8, x9, x10 => if x10 < x9 then (if 0 ≤ x10 then (if x10 < (x8.length : Int) then (if ((rdOf ByteArray.empty x8 x10).size : Int) > 30 then (some (([] : List (S108)), 3)) else (if x10 = 500 then (some (([] : List (S108)), 7)) else (if x4.length < 5864062014805 then (word_Tokens.l0 k (x4 ++ [(⟨rdOf ByteArray.empty x8 x10, x10⟩ : S108)]) x8 x9 (wrap64 (x10 + 1))) else (none)))) else (none)) else (none)) else (some (x4, 0))
def word_Tokens.f (k : Nat) (a0 : ByteArray) : Option ((List (S108)) × Int) := (word_Words.f a0).bind fun t502 => (word_Tokens.l0 k ([] : List (S108)) t502 (t502.length : Int) 0)
theorem word_Tokens.mono_l : ∀ k, (∀ y0 y1 y2 y3, LeO (word_Tokens.l0 k y0 y1 y2 y3) (word_Tokens.l0 (k + 1) y0 y1 y2 y3))
 | 0 => fun _ _ _ _ r h => by simp [word_Tokens.l0] at h
 | k + 1 => by
  have ih0 := word_Tokens.mono_l k
  ·intro y0 y1 y2 y3
   unfold word_Tokens.l0
   repeat' first
   | (with_reducible exact ih0 _ _ _ _)
   | (with_reducible exact LeO.refl _)
   | (with_reducible exact LeO.none _)
   | (with_reducible refine LeO.ite ?_ ?_)
   | (with_reducible refine LeO.bind ?_ (fun _ => ?_))
   | exact ih0 _ _ _ _
   | exact LeO.none _
   | refine LeO.ite ?_ ?_
   | refine LeO.bind ?_ (fun _ => ?_)
theorem word_Tokens.mono : ∀ a0 k, LeO (word_Tokens.f k a0) (word_Tokens.f (k + 1) a0) := by
 intro a0 k
 have ih0 := word_Tokens.mono_l k
 unfold word_Tokens.f
 repeat' first
   | (with_reducible exact ih0 _ _ _ _)
   | (with_reducible exact LeO.refl _)
   | (with_reducible exact LeO.none _)
   | (with_reducible refine LeO.ite ?_ ?_)
   | (with_reducible refine LeO.bind ?_ (fun _ => ?_))
   | exact ih0 _ _ _ _
   | exact LeO.none _
   | refine LeO.ite ?_ ?_
   | refine LeO.bind ?_ (fun _ => ?_)
set_option maxHeartbeats 8000000 in
set_option maxRecDepth 100000 in
theorem word_Tokens.calls (k : Nat) (a0 : ByteArray) (r1 : List (S108)) (r2 : Int) (w : World) (h : word_Tokens.f k a0 = some (r1, r2)) :
  Calls Tryz.prog 42 #[.string a0] w fun e w' => ∃ v0_ : Value, e = .returned (.tuple #[v0_, .int .i64 r2]) ∧ Kd.R k108 108 w' w.heap.size (fun _ => True) v0_ r1 ∧ Below w.heap.size w w' := by
 have hu108 := Tryz.underlying108
 have HB := sA (Below.refl w.heap.size w)
 have H : ((word_Words.f a0).bind fun t502 => (word_Tokens.l0 k ([] : List (S108)) t502 (t502.length : Int) 0)) = some (r1, r2) := h
 clear h
 replace H := Option.bind_eq_some_iff.mp H
 obtain ⟨t502, A20, H⟩ := H
 have A2 := Aside0.mk A20
 clear A20
 have H' := Aside0.mk H
 clear H
 go_enter Tryz.func42, Tryz.ntmps42
 go_wp2_with (first | ((with_reducible refine gate_callee (f := 64) rfl ?_); refine goesL_ (some 8) rfl rfl Tryz.func64 (by kernel_rfl) rfl #[.string a0] rfl (by (try simp only [List.map_toArray, List.map_cons, List.map_nil]); first | done | rfl | (simp only [List.length_drop, List.length_take]; rfl)) ?_; (with_reducible refine (word_Words.calls a0 t502 _ A2.out).mono ?_); rintro e w3 ⟨v503, rfl, ho0, hb⟩; refine ⟨_, rfl, ?_⟩; have HO504 := sA (Kd.R_lower ho0 (below_size (sW HB.out))); replace HB := sA (below_step (sW HB.out) hb); (try clear hb); (try clear hb2); (try clear hk); (try clear hi); (try clear ho0); obtain ⟨Ao4, co4, eo4⟩ := Kd.R_slice HO504.out; subst eo4))
 go_loopg [4, 10] k (fun kq v4 v10 w' => ∃ (x4_1 : List (S108)) (x10_1 : Int), v10 = .int .i64 x10_1 ∧ Aside0 (word_Tokens.l0 kq x4_1 t502 (t502.length : Int) x10_1 = some (r1, r2)) ∧ Aside0 (kq ≤ k) ∧ Aside0 (Kd.R k108 108 w' w.heap.size (fun _ => True) v4 x4_1) ∧ Aside0 (Kd.R Kd.string 9 w' w.heap.size (fun _ => True) (.slice Ao4 t502.length co4) t502) ∧ Aside0 (Below w.heap.size w w'))
 case atStart => exact ⟨(([] : List (S108))), (0), (by first | rfl | (simp; done) | (simp [*]; done)), H', ⟨Nat.le_refl _⟩, ⟨by first | exact Kd.R_nil _ _ _ _ _ | exact Kd.N_nil _ _ _ _ _ | exact Kd.V_nil _ _ _ _ _ | exact Kd.Q_nil _ _ _ _ _ | exact Kd.S_nil _ _ _ _ _⟩, ⟨sR HO504.out⟩, ⟨sW HB.out⟩⟩
 case round =>
  clear H'
  try clear p2; try clear c4
  obtain ⟨x4_1, x10_1, rfl, HA, HK1, HO_4, HO_8, HB⟩ := hrel
  cases gk with
  | zero => exact absurd HA.out (by simp [word_Tokens.l0])
  | succ k1 =>
   have H := HA.out
   clear HA
   simp only [word_Tokens.l0] at H
   by_cases c5 : x10_1 < (t502.length : Int)
   ·rw [if_pos c5] at H
    have c5b0 : decide (x10_1 < (t502.length : Int)) = true := decide_eq_true c5
    clear c5
    by_cases c6 : 0 ≤ x10_1
    ·rw [if_pos c6] at H
     have c6b0 : decide (0 ≤ x10_1) = true := decide_eq_true c6
     clear c6
     by_cases c7 : x10_1 < (t502.length : Int)
     ·rw [if_pos c7] at H
      have c7b0 : decide (x10_1 < (t502.length : Int)) = true := decide_eq_true c7
      clear c7
      by_cases c8 : ((rdOf ByteArray.empty t502 x10_1).size : Int) > 30
      ·rw [if_pos c8] at H
       have c8b0 : decide (30 < ((rdOf ByteArray.empty t502 x10_1).size : Int)) = true := decide_eq_true c8
       have c8b1 : decide (30 < (rdOf ByteArray.empty t502 x10_1).size) = true := decide_eq_true (by omega)
       clear c8
       simp only [Option.some.injEq, Prod.mk.injEq] at H
       obtain ⟨rfl, rfl⟩ := H
       have p505 : 0 ≤ (x10_1 : Int) := of_decide_eq_true (by assumption)
       have q505 : x10_1 < (t502.length : Int) := of_decide_eq_true (by assumption)
       obtain ⟨ad505, e505, hx505_0⟩ := Kd.at_string (Kd.R_reads' HO_8.out).2.2 x10_1 p505 q505
       cases e505
       replace p505 := eq_true p505
       replace q505 := eq_true q505
       go_wp2
       go_ret2
       exact ⟨_, by first | rfl | (simp [errW_none, errW_some] <;> rfl) | (simp [*, errW_none, errW_some] <;> rfl), by first | exact Kd.R_nil _ _ _ _ _ | exact Kd.N_nil _ _ _ _ _ | exact Kd.V_nil _ _ _ _ _ | exact Kd.Q_nil _ _ _ _ _ | exact Kd.S_nil _ _ _ _ _, sW HB.out⟩
      ·rw [if_neg c8] at H
       have c8b0 : decide (30 < ((rdOf ByteArray.empty t502 x10_1).size : Int)) = false := decide_eq_false c8
       have c8b1 : decide (30 < (rdOf ByteArray.empty t502 x10_1).size) = false := decide_eq_false (by omega)
       clear c8
       by_cases c9 : x10_1 = 500
       ·rw [if_pos c9] at H
        have c9b0 : (x10_1 == 500) = true := beq_iff_eq.mpr c9
        have c9b1 : (x10_1 != 500) = false := bne_eq_false_iff_eq.mpr c9
        clear c9
        simp only [Option.some.injEq, Prod.mk.injEq] at H
        obtain ⟨rfl, rfl⟩ := H
        have p505 : 0 ≤ (x10_1 : Int) := of_decide_eq_true (by assumption)
        have q505 : x10_1 < (t502.length : Int) := of_decide_eq_true (by assumption)
        obtain ⟨ad505, e505, hx505_0⟩ := Kd.at_string (Kd.R_reads' HO_8.out).2.2 x10_1 p505 q505
        cases e505
        replace p505 := eq_true p505
        replace q505 := eq_true q505
        go_wp2
        go_ret2
        exact ⟨_, by first | rfl | (simp [errW_none, errW_some] <;> rfl) | (simp [*, errW_none, errW_some] <;> rfl), by first | exact Kd.R_nil _ _ _ _ _ | exact Kd.N_nil _ _ _ _ _ | exact Kd.V_nil _ _ _ _ _ | exact Kd.Q_nil _ _ _ _ _ | exact Kd.S_nil _ _ _ _ _, sW HB.out⟩
       ·rw [if_neg c9] at H
        have c9b0 : (x10_1 == 500) = false := beq_eq_false_iff_ne.mpr c9
        have c9b1 : (x10_1 != 500) = true := bne_iff_ne.mpr c9
        by_cases c10 : x4_1.length < 5864062014805
        ·rw [if_pos c10] at H
         have LMc10 := Aside0.mk c10
         clear c10
         obtain ⟨y506, hy506⟩ : ∃ y_ : List (S108), y_ = (x4_1 ++ [(⟨rdOf ByteArray.empty t502 x10_1, x10_1⟩ : S108)]) := ⟨_, rfl⟩
         replace H : (word_Tokens.l0 k1 y506 t502 (t502.length : Int) (wrap64 (x10_1 + 1))) = some (r1, r2) := by first | (rw [hy506]; with_reducible exact H) | (have H2_ := (Option.bind_some _ _).symm.trans H; rw [hy506]; with_reducible exact H2_) | (have H2_ := (Option.bind_some _ _).symm.trans H; with_reducible exact H2_) | with_reducible exact H | (rw [hy506]; exact H) | exact H
         have Ny506 := Aside0.mk hy506
         clear hy506
         have H' := Aside0.mk H
         clear H
         have p505 : 0 ≤ (x10_1 : Int) := of_decide_eq_true (by assumption)
         have q505 : x10_1 < (t502.length : Int) := of_decide_eq_true (by assumption)
         obtain ⟨ad505, e505, hx505_0⟩ := Kd.at_string (Kd.R_reads' HO_8.out).2.2 x10_1 p505 q505
         cases e505
         replace p505 := eq_true p505
         replace q505 := eq_true q505
         go_wp2_with (first | ((with_reducible refine gate_builtin (b := .append) (xs := #[.tmp 22, .tmp 26]) rfl ?_); at_builtin; refine Kd.R_append k108 (w0 := w) w.heap.size rfl (.tmp 22) (.tmp 26) 86 108 (.agg #[(.string ⟨#[]⟩), (.int .i64 0)]) 24 rfl Tryz.underlying86 info108 rfl (by decide) (by omega) u4 x4_1 (⟨rdOf ByteArray.empty t502 x10_1, x10_1⟩ : S108) [.string (rdOf ByteArray.empty t502 x10_1), .int .i64 x10_1] (fun _ => True) (fun _ => False) rfl rfl ?aP (fun _ hk => hk.elim) ?aF ?aO ?aB ?aS ?aL ?_; (case aP => exact k108_mkM _ _ _ (⟨rdOf ByteArray.empty t502 x10_1, x10_1⟩ : S108)); (case aB => exact (sW HB.out)); (case aF => exact (fun _ _ => trivial)); (case aO => exact (sR HO_4.out)); (case aS => exact (below_size (sW HB.out))); (case aL => have := LMc10.out; omega); intro v507 w11 ho hb hg hat; rw [← Ny506.out] at ho; replace HO_8 := sA (Kd.R_over' (sR HO_8.out) (Kd.R_typed (sR HO_4.out)) (by decide) hg); replace HB := sA (hb); have HO508 := sA (ho); clear HO_4; clear ho hb hg hat))
         go_roundg k1
         case measure => have := HK1.out; omega
         case rel => exact ⟨(y506), (wrap64 (x10_1 + 1)), (by first | rfl | (simp; done) | (simp [*]; done)), H', ⟨by have := HK1.out; omega⟩, ⟨sR HO508.out⟩, ⟨sR HO_8.out⟩, ⟨sW HB.out⟩⟩
        ·rw [if_neg c10] at H
         exact absurd H (by simp)
     ·rw [if_neg c7] at H
      exact absurd H (by simp)
    ·rw [if_neg c6] at H
     exact absurd H (by simp)
   ·rw [if_neg c5] at H
    have c5b0 : decide (x10_1 < (t502.length : Int)) = false := decide_eq_false c5
    clear c5
    simp only [Option.some.injEq, Prod.mk.injEq] at H
    obtain ⟨rfl, rfl⟩ := H
    go_wp2
    go_ret2
    exact ⟨_, by first | rfl | (simp [errW_none, errW_some] <;> rfl) | (simp [*, errW_none, errW_some] <;> rfl), sR HO_4.out, sW HB.out⟩

end Go.Proofs.YteidebllianiiaaGreatDoor.PAll
