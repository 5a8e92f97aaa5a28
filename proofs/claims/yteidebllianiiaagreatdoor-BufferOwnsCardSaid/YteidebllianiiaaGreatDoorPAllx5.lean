-- written by a program of this session (wip/px): the walk of printed functions
import Derived.Test.YteidebllianiiaaGreatDoorPAllx0
import Derived.Test.YteidebllianiiaaGreatDoorSq
import Derived.Test.YteidebllianiiaaGreatDoorPAllx3
import Derived.Test.YteidebllianiiaaGreatDoorPAllx4
namespace Go.Proofs.YteidebllianiiaaGreatDoor.PAll
open Go.RowKit Go.Proofs.YteidebllianiiaaGreatDoorW.PrintWords Go.Proofs.YteidebllianiiaaGreatDoorW.PrintLast Go.Proofs.YteidebllianiiaaGreatDoorW.PrintMore
attribute [local go_sem] max2_int min2_int max_two min_two max_three min_three max_four min_four   -- for this text's walks alone
set_option linter.unusedVariables false
set_option linter.unusedSimpArgs false

/-! ### concordanceref02_Words: function 75 -/
mutual
def concordanceref02_Words.l0 : Nat → List Int → List ByteArray → Int → Option (List ByteArray)
 | 0, _, _, _ => none
 | k + 1, x3, x4, x5 => if x5 < (x3.length : Int) then (if 0 ≤ x5 then ((concordanceref02_in.f (rd x3 x5)).bind fun t133 => (if t133 = true then (concordanceref02_Words.l1 k x3 x4 x5 ([] : List Int)) else (concordanceref02_Words.l0 k x3 x4 (wrap64 (x5 + 1))))) else (none)) else (some x4)
def concordanceref02_Words.l1 : Nat → List Int → List ByteArray → Int → List Int → Option (List ByteArray)
 | 0, _, _, _, _ => none
 | k + 1, x3, x4, x5, x7 => if x5 < (x3.length : Int) then (if 0 ≤ x5 then ((concordanceref02_in.f (rd x3 x5)).bind fun t135 => (if t135 = true then ((concordanceref01_Fold.f (rd x3 x5)).bind fun t137 => (if x7.length < 17592186044416 then (concordanceref02_Words.l1 k x3 x4 (wrap64 (x5 + 1)) (x7 ++ [t137])) else (none))) else ((concordanceref01_Text.f k x7).bind fun t141 => (if x4.length < 8796093022208 then (concordanceref02_Words.l0 k x3 (x4 ++ [t141]) (wrap64 (x5 + 1))) else (none))))) else (none)) else ((concordanceref01_Text.f k x7).bind fun t145 => (if x4.length < 8796093022208 then (concordanceref02_Words.l0 k x3 (x4 ++ [t145]) (wrap64 (x5 + 1))) else (none)))
end
def concordanceref02_Words.f (k : Nat) (a0 : ByteArray) : Option (List ByteArray) := (concordanceref01_Signs.f k a0).bind fun t129 => (concordanceref02_Words.l0 k t129 ([] : List ByteArray) 0)
theorem concordanceref02_Words.mono_l : ∀ k, (∀ y0 y1 y2, LeO (concordanceref02_Words.l0 k y0 y1 y2) (concordanceref02_Words.l0 (k + 1) y0 y1 y2)) ∧ (∀ y0 y1 y2 y3, LeO (concordanceref02_Words.l1 k y0 y1 y2 y3) (concordanceref02_Words.l1 (k + 1) y0 y1 y2 y3))
 | 0 => ⟨fun _ _ _ r h => by simp [concordanceref02_Words.l0] at h, fun _ _ _ _ r h => by simp [concordanceref02_Words.l1] at h⟩
 | k + 1 => by
  obtain ⟨ih0, ih1⟩ := concordanceref02_Words.mono_l k
  refine ⟨?_, ?_⟩
  ·intro y0 y1 y2
   unfold concordanceref02_Words.l0
   repeat' first
   | (with_reducible exact ih0 _ _ _)
   | (with_reducible exact ih1 _ _ _ _)
   | (with_reducible exact concordanceref01_Signs.mono _ _)
   | (with_reducible exact concordanceref01_Text.mono _ _)
   | (with_reducible exact LeO.refl _)
   | (with_reducible exact LeO.none _)
   | (with_reducible refine LeO.ite ?_ ?_)
   | (with_reducible refine LeO.bind ?_ (fun _ => ?_))
   | exact ih0 _ _ _
   | exact ih1 _ _ _ _
   | exact concordanceref01_Signs.mono _ _
   | exact concordanceref01_Text.mono _ _
   | exact LeO.none _
   | refine LeO.ite ?_ ?_
   | refine LeO.bind ?_ (fun _ => ?_)
  ·intro y0 y1 y2 y3
   unfold concordanceref02_Words.l1
   repeat' first
   | (with_reducible exact ih0 _ _ _)
   | (with_reducible exact ih1 _ _ _ _)
   | (with_reducible exact concordanceref01_Signs.mono _ _)
   | (with_reducible exact concordanceref01_Text.mono _ _)
   | (with_reducible exact LeO.refl _)
   | (with_reducible exact LeO.none _)
   | (with_reducible refine LeO.ite ?_ ?_)
   | (with_reducible refine LeO.bind ?_ (fun _ => ?_))
   | exact ih0 _ _ _
   | exact ih1 _ _ _ _
   | exact concordanceref01_Signs.mono _ _
   | exact concordanceref01_Text.mono _ _
   | exact LeO.none _
   | refine LeO.ite ?_ ?_
   | refine LeO.bind ?_ (fun _ => ?_)
theorem concordanceref02_Words.mono : ∀ a0 k, LeO (concordanceref02_Words.f k a0) (concordanceref02_Words.f (k + 1) a0) := by
 intro a0 k
 obtain ⟨ih0, ih1⟩ := concordanceref02_Words.mono_l k
 unfold concordanceref02_Words.f
 repeat' first
   | (with_reducible exact ih0 _ _ _)
   | (with_reducible exact ih1 _ _ _ _)
   | (with_reducible exact concordanceref01_Signs.mono _ _)
   | (with_reducible exact concordanceref01_Text.mono _ _)
   | (with_reducible exact LeO.refl _)
   | (with_reducible exact LeO.none _)
   | (with_reducible refine LeO.ite ?_ ?_)
   | (with_reducible refine LeO.bind ?_ (fun _ => ?_))
   | exact ih0 _ _ _
   | exact ih1 _ _ _ _
   | exact concordanceref01_Signs.mono _ _
   | exact concordanceref01_Text.mono _ _
   | exact LeO.none _
   | refine LeO.ite ?_ ?_
   | refine LeO.bind ?_ (fun _ => ?_)
set_option maxHeartbeats 8000000 in
set_option maxRecDepth 100000 in
theorem concordanceref02_Words.calls (k : Nat) (a0 : ByteArray) (r : List ByteArray) (w : World) (h : concordanceref02_Words.f k a0 = some r) :
  Calls Tryz.prog 75 #[.string a0] w fun e w' => ∃ v0_ : Value, e = .returned (v0_) ∧ Kd.R Kd.string 9 w' w.heap.size (fun _ => True) v0_ r ∧ Below w.heap.size w w' := by
 have HB := sA (Below.refl w.heap.size w)
 have H : ((concordanceref01_Signs.f k a0).bind fun t129 => (concordanceref02_Words.l0 k t129 ([] : List ByteArray) 0)) = some r := h
 clear h
 replace H := Option.bind_eq_some_iff.mp H
 obtain ⟨t129, A20, H⟩ := H
 have A2 := Aside0.mk A20
 clear A20
 have H' := Aside0.mk H
 clear H
 go_enter Tryz.func75, Tryz.ntmps75
 go_wp2_with (first | ((with_reducible refine gate_callee (f := 105) rfl ?_); refine goesL_ (some 9) rfl rfl Tryz.func105 (by kernel_rfl) rfl #[.string a0] rfl (by (try simp only [List.map_toArray, List.map_cons, List.map_nil]); first | done | rfl | (simp only [List.length_drop, List.length_take]; rfl)) ?_; (with_reducible refine (concordanceref01_Signs.calls k a0 t129 _ A2.out).mono ?_); rintro e w3 ⟨v130, rfl, ho0, hb⟩; refine ⟨_, rfl, ?_⟩; have HO131 := sA (Kd.R_lower ho0 (below_size (sW HB.out))); replace HB := sA (below_step (sW HB.out) hb); (try clear hb); (try clear hb2); (try clear hk); (try clear hi); (try clear ho0)))
 go_loopg [4, 5] k (fun kq v4 v5 w' => ∃ (x4_1 : List ByteArray) (x5_1 : Int), v5 = .int .i64 x5_1 ∧ Aside0 (concordanceref02_Words.l0 kq t129 x4_1 x5_1 = some r) ∧ Aside0 (kq ≤ k) ∧ Aside0 (Kd.R (Kd.int .i64) 3 w' w.heap.size (fun _ => True) v130 t129) ∧ Aside0 (Kd.R Kd.string 9 w' w.heap.size (fun _ => True) v4 x4_1) ∧ Aside0 (Below w.heap.size w w'))
 case atStart => exact ⟨(([] : List ByteArray)), (0), (by first | rfl | (simp; done) | (simp [*]; done)), H', ⟨Nat.le_refl _⟩, ⟨sR HO131.out⟩, ⟨by first | exact Kd.R_nil _ _ _ _ _ | exact Kd.N_nil _ _ _ _ _ | exact Kd.V_nil _ _ _ _ _ | exact Kd.Q_nil _ _ _ _ _ | exact Kd.S_nil _ _ _ _ _⟩, ⟨sW HB.out⟩⟩
 case round =>
  clear H'
  try clear c1; try clear p2
  obtain ⟨x4_1, x5_1, rfl, HA, HK1, HO_3, HO_4, HB⟩ := hrel
  cases gk with
  | zero => exact absurd HA.out (by simp [concordanceref02_Words.l0])
  | succ k1 =>
   have H := HA.out
   clear HA
   simp only [concordanceref02_Words.l0] at H
   by_cases c4 : x5_1 < (t129.length : Int)
   ·rw [if_pos c4] at H
    have c4b0 : decide (x5_1 < (t129.length : Int)) = true := decide_eq_true c4
    clear c4
    by_cases c5 : 0 ≤ x5_1
    ·rw [if_pos c5] at H
     have c5b0 : decide (0 ≤ x5_1) = true := decide_eq_true c5
     clear c5
     replace H := Option.bind_eq_some_iff.mp H
     obtain ⟨t133, A60, H⟩ := H
     have A6 := Aside0.mk A60
     clear A60
     by_cases c7 : t133 = true
     ·subst c7
      have H1 : (concordanceref02_Words.l1 k1 t129 x4_1 x5_1 ([] : List Int)) = some r := by rw [if_pos rfl] at H; exact H
      clear H
      have H := H1
      clear H1
      have H' := Aside0.mk H
      clear H
      obtain ⟨Ao8, co8, eo8⟩ := Kd.R_slice HO_3.out
      subst eo8
      have p132 : 0 ≤ (x5_1 : Int) := of_decide_eq_true (by assumption)
      have q132 : x5_1 < (t129.length : Int) := of_decide_eq_true (by assumption)
      obtain ⟨ad132, e132, hx132_0⟩ := Kd.at_int (Kd.R_reads' HO_3.out).2.2 x5_1 p132 q132
      cases e132
      replace p132 := eq_true p132
      replace q132 := eq_true q132
      go_wp2_with (first | ((with_reducible refine gate_callee (f := 106) rfl ?_); refine goesL_ (some 20) rfl rfl Tryz.func106 (by kernel_rfl) rfl #[.int .i64 (rd t129 x5_1)] rfl (by (try simp only [List.map_toArray, List.map_cons, List.map_nil]); first | done | rfl | (simp only [List.length_drop, List.length_take]; rfl)) ?_; (with_reducible refine (concordanceref02_in.calls (rd t129 x5_1) true _ A6.out).mono ?_); rintro e w' ⟨rfl, ⟨nd, rfl⟩⟩; refine ⟨_, rfl, ?_⟩))
      go_loopg [5, 7] k1 (fun kq v5 v7 w' => ∃ (x5_2 : Int) (x7_2 : List Int), v5 = .int .i64 x5_2 ∧ Aside0 (concordanceref02_Words.l1 kq t129 x4_1 x5_2 x7_2 = some r) ∧ Aside0 (kq ≤ k1) ∧ Aside0 (Kd.R (Kd.int .i64) 3 w' w.heap.size (fun k_ => some k_ ≠ (v7 : Value).ownBlock) (.slice (some ad132) t129.length co8) t129) ∧ Aside0 (Kd.R Kd.string 9 w' w.heap.size (fun _ => True) u4 x4_1) ∧ Aside0 (Kd.R (Kd.int .i64) 3 w' w.heap.size (fun k_ => some k_ ≠ ((.slice (some ad132) t129.length co8) : Value).ownBlock) v7 x7_2) ∧ Aside0 (Below w.heap.size w w'))
      case atStart => exact ⟨(x5_1), (([] : List Int)), (by first | rfl | (simp; done) | (simp [*]; done)), H', ⟨Nat.le_refl _⟩, ⟨by apply sR; exact Kd.R_mono HO_3.out (fun _ hk => (by simp [Value.ownBlock]))⟩, ⟨sR HO_4.out⟩, ⟨by first | exact Kd.R_nil _ _ _ _ _ | exact Kd.N_nil _ _ _ _ _ | exact Kd.V_nil _ _ _ _ _ | exact Kd.Q_nil _ _ _ _ _ | exact Kd.S_nil _ _ _ _ _⟩, ⟨sW HB.out⟩⟩
      case round =>
       clear H'
       try clear c1; try clear p1; try clear q1; try clear hx1; try clear p2; try clear c4; try clear c4b0; try clear c5; try clear c5b0; try clear p6; try clear c7; try clear hx132_0; try clear p132; try clear p2; try clear q132
       obtain ⟨x5_2, x7_2, rfl, HA, HK2, HO_3, HO_4, HO_7, HB⟩ := hrel
       cases gk with
       | zero => exact absurd HA.out (by simp [concordanceref02_Words.l1])
       | succ k2 =>
        have H := HA.out
        clear HA
        simp only [concordanceref02_Words.l1] at H
        by_cases c9 : x5_2 < (t129.length : Int)
        ·rw [if_pos c9] at H
         have c9b0 : decide (x5_2 < (t129.length : Int)) = true := decide_eq_true c9
         clear c9
         by_cases c10 : 0 ≤ x5_2
         ·rw [if_pos c10] at H
          have c10b0 : decide (0 ≤ x5_2) = true := decide_eq_true c10
          clear c10
          replace H := Option.bind_eq_some_iff.mp H
          obtain ⟨t135, A110, H⟩ := H
          have A11 := Aside0.mk A110
          clear A110
          by_cases c12 : t135 = true
          ·subst c12
           have H1 : ((concordanceref01_Fold.f (rd t129 x5_2)).bind fun t137 => (if x7_2.length < 17592186044416 then (concordanceref02_Words.l1 k2 t129 x4_1 (wrap64 (x5_2 + 1)) (x7_2 ++ [t137])) else (none))) = some r := by rw [if_pos rfl] at H; exact H
           clear H
           have H := H1
           clear H1
           replace H := Option.bind_eq_some_iff.mp H
           obtain ⟨t137, A130, H⟩ := H
           have A13 := Aside0.mk A130
           clear A130
           by_cases c14 : x7_2.length < 17592186044416
           ·rw [if_pos c14] at H
            have LMc14 := Aside0.mk c14
            clear c14
            obtain ⟨y138, hy138⟩ : ∃ y_ : List Int, y_ = (x7_2 ++ [t137]) := ⟨_, rfl⟩
            replace H : (concordanceref02_Words.l1 k2 t129 x4_1 (wrap64 (x5_2 + 1)) y138) = some r := by first | (rw [hy138]; with_reducible exact H) | (have H2_ := (Option.bind_some _ _).symm.trans H; rw [hy138]; with_reducible exact H2_) | (have H2_ := (Option.bind_some _ _).symm.trans H; with_reducible exact H2_) | with_reducible exact H | (rw [hy138]; exact H) | exact H
            have Ny138 := Aside0.mk hy138
            clear hy138
            have H' := Aside0.mk H
            clear H
            have p134 : 0 ≤ (x5_2 : Int) := of_decide_eq_true (by assumption)
            have q134 : x5_2 < (t129.length : Int) := of_decide_eq_true (by assumption)
            obtain ⟨ad134, e134, hx134_0⟩ := Kd.at_int (Kd.R_reads' HO_3.out).2.2 x5_2 p134 q134
            obtain rfl : ad132 = ad134 := (by injection e134)
            replace p134 := eq_true p134
            replace q134 := eq_true q134
            go_wp2_with (first | (go_at_call 106; (with_reducible refine (concordanceref02_in.calls (rd t129 x5_2) true _ A11.out).mono ?_); rintro e w' ⟨rfl, ⟨nd, rfl⟩⟩; have p136 : 0 ≤ (x5_2 : Int) := of_decide_eq_true (by assumption); have q136 : x5_2 < (t129.length : Int) := of_decide_eq_true (by assumption); obtain ⟨ad136, e136, hx136_0⟩ := Kd.at_int (Kd.R_reads' HO_3.out).2.2 x5_2 p136 q136; obtain rfl : ad132 = ad136 := (by injection e136); replace p136 := eq_true p136; replace q136 := eq_true q136) | ((with_reducible refine gate_callee (f := 107) rfl ?_); refine goesL_ (some 39) rfl rfl Tryz.func107 (by kernel_rfl) rfl #[.int .i64 (rd t129 x5_2)] rfl (by (try simp only [List.map_toArray, List.map_cons, List.map_nil]); first | done | rfl | (simp only [List.length_drop, List.length_take]; rfl)) ?_; (with_reducible refine (concordanceref01_Fold.calls (rd t129 x5_2) t137 _ A13.out).mono ?_); rintro e w' ⟨rfl, ⟨nd, rfl⟩⟩; refine ⟨_, rfl, ?_⟩) | ((with_reducible refine gate_builtin (b := .append) (xs := #[.tmp 34, .tmp 40]) rfl ?_); at_builtin; refine Kd.R_append (Kd.int .i64) (w0 := w) w.heap.size rfl (.tmp 34) (.tmp 40) 39 3 (.int .i64 0) 8 rfl Tryz.underlying39 info3 rfl (by decide) (by omega) u7 x7_2 t137 [.int .i64 t137] (fun k_ => some k_ ≠ (.slice (some ad132) t129.length co8 : Value).ownBlock) (fun _ => False) rfl rfl ?aP (fun _ hk => hk.elim) ?aF ?aO ?aB ?aS ?aL ?_; (case aP => exact rfl); (case aB => exact (sW HB.out)); (case aF => exact (fun k_ hk => Kd.fresh' (Kd.R_lt (sR HO_3.out)) k_ hk)); (case aO => exact (sR HO_7.out)); (case aS => exact (below_size (sW HB.out))); (case aL => have := LMc14.out; omega); intro v139 w15 ho hb hg hat; rw [← Ny138.out] at ho; replace HO_3 := sA (Kd.R_after (ok := (fun _ => True)) (by apply sR; exact Kd.R_mono HO_3.out (fun _ hk => ⟨trivial, hk⟩)) hg hat); replace HO_4 := sA (Kd.R_over' (sR HO_4.out) (Kd.R_typed (sR HO_7.out)) (by decide) hg); replace HB := sA (hb); have HO140 := sA (ho); clear HO_7; clear ho hb hg hat))
            go_roundg k2
            case measure => have := HK1.out; have := HK2.out; omega
            case rel => exact ⟨(wrap64 (x5_2 + 1)), (y138), (by first | rfl | (simp; done) | (simp [*]; done)), H', ⟨by have := HK1.out; have := HK2.out; omega⟩, ⟨by apply sR; first | exact Kd.R_mono HO_3.out (fun _ hk => hk.2) | exact Kd.R_mono HO_3.out (fun _ _ => trivial)⟩, ⟨sR HO_4.out⟩, ⟨sR HO140.out⟩, ⟨sW HB.out⟩⟩
           ·rw [if_neg c14] at H
            exact absurd H (by simp)
          ·replace c12 := Bool.eq_false_iff.mpr c12
           subst c12
           have H1 : ((concordanceref01_Text.f k2 x7_2).bind fun t141 => (if x4_1.length < 8796093022208 then (concordanceref02_Words.l0 k2 t129 (x4_1 ++ [t141]) (wrap64 (x5_2 + 1))) else (none))) = some r := by rw [if_neg (show ¬ (false = true) by decide)] at H; exact H
           clear H
           have H := H1
           clear H1
           replace H := Option.bind_eq_some_iff.mp H
           obtain ⟨t141, A160, H⟩ := H
           have A16 := Aside0.mk A160
           clear A160
           by_cases c17 : x4_1.length < 8796093022208
           ·rw [if_pos c17] at H
            have LMc17 := Aside0.mk c17
            clear c17
            obtain ⟨y142, hy142⟩ : ∃ y_ : List ByteArray, y_ = (x4_1 ++ [t141]) := ⟨_, rfl⟩
            replace H : (concordanceref02_Words.l0 k2 t129 y142 (wrap64 (x5_2 + 1))) = some r := by first | (rw [hy142]; with_reducible exact H) | (have H2_ := (Option.bind_some _ _).symm.trans H; rw [hy142]; with_reducible exact H2_) | (have H2_ := (Option.bind_some _ _).symm.trans H; with_reducible exact H2_) | with_reducible exact H | (rw [hy142]; exact H) | exact H
            have Ny142 := Aside0.mk hy142
            clear hy142
            have H' := Aside0.mk H
            clear H
            have p134 : 0 ≤ (x5_2 : Int) := of_decide_eq_true (by assumption)
            have q134 : x5_2 < (t129.length : Int) := of_decide_eq_true (by assumption)
            obtain ⟨ad134, e134, hx134_0⟩ := Kd.at_int (Kd.R_reads' HO_3.out).2.2 x5_2 p134 q134
            obtain rfl : ad132 = ad134 := (by injection e134)
            replace p134 := eq_true p134
            replace q134 := eq_true q134
            go_wp2_with (first | (go_at_call 106; (with_reducible refine (concordanceref02_in.calls (rd t129 x5_2) false _ A11.out).mono ?_); rintro e w' ⟨rfl, ⟨nd, rfl⟩⟩; obtain ⟨Ao18, co18, eo18⟩ := Kd.R_slice HO_7.out; subst eo18) | ((with_reducible refine gate_callee (f := 108) rfl ?_); refine goesL_ (some 46) rfl rfl Tryz.func108 (by kernel_rfl) rfl #[.slice Ao18 x7_2.length co18] rfl (by (try simp only [List.map_toArray, List.map_cons, List.map_nil]); first | done | rfl | (simp only [List.length_drop, List.length_take]; rfl)) ?_; (with_reducible refine (concordanceref01_Text.calls k2 _ _ x7_2 t141 _ ?side1 ?side2 A16.out).mono ?_); (case side1 => exact sC (Kd.R_reads' HO_7.out).2.2); (case side2 => exact (Kd.R_reads' HO_7.out).2.1); rintro e w19 ⟨rfl, hb⟩; refine ⟨_, rfl, ?_⟩; replace HO_3 := sA (Kd.R_below (sR HO_3.out) hb); replace HO_4 := sA (Kd.R_below (sR HO_4.out) hb); replace HO_7 := sA (Kd.R_below (sR HO_7.out) hb); replace HB := sA (below_step (sW HB.out) hb); (try clear hb); (try clear hb2); (try clear hk); (try clear hi)) | ((with_reducible refine gate_builtin (b := .append) (xs := #[.tmp 44, .tmp 47]) rfl ?_); at_builtin; refine Kd.R_append Kd.string (w0 := w) w.heap.size rfl (.tmp 44) (.tmp 47) 34 9 (.string ⟨#[]⟩) 16 rfl Tryz.underlying34 info9 rfl (by decide) (by omega) u4 x4_1 t141 [.string t141] (fun _ => True) (fun _ => False) rfl rfl ?aP (fun _ hk => hk.elim) ?aF ?aO ?aB ?aS ?aL ?_; (case aP => exact rfl); (case aB => exact (sW HB.out)); (case aF => exact (fun _ _ => trivial)); (case aO => exact (sR HO_4.out)); (case aS => exact (below_size (sW HB.out))); (case aL => have := LMc17.out; omega); intro v143 w20 ho hb hg hat; rw [← Ny142.out] at ho; replace HO_3 := sA (Kd.R_over' (sR HO_3.out) (Kd.R_typed (sR HO_4.out)) (by decide) hg); replace HO_7 := sA (Kd.R_over' (sR HO_7.out) (Kd.R_typed (sR HO_4.out)) (by decide) hg); replace HB := sA (hb); have HO144 := sA (ho); clear HO_4; clear ho hb hg hat))
            go_roundg k2
            case measure => have := HK1.out; have := HK2.out; omega
            case rel => exact ⟨(y142), (wrap64 (x5_2 + 1)), (by first | rfl | (simp; done) | (simp [*]; done)), H', ⟨by have := HK1.out; have := HK2.out; omega⟩, ⟨by apply sR; exact Kd.R_mono HO_3.out (fun _ hk => trivial)⟩, ⟨sR HO144.out⟩, ⟨sW HB.out⟩⟩
           ·rw [if_neg c17] at H
            exact absurd H (by simp)
         ·rw [if_neg c10] at H
          exact absurd H (by simp)
        ·rw [if_neg c9] at H
         have c9b0 : decide (x5_2 < (t129.length : Int)) = false := decide_eq_false c9
         clear c9
         replace H := Option.bind_eq_some_iff.mp H
         obtain ⟨t145, A210, H⟩ := H
         have A21 := Aside0.mk A210
         clear A210
         by_cases c22 : x4_1.length < 8796093022208
         ·rw [if_pos c22] at H
          have LMc22 := Aside0.mk c22
          clear c22
          obtain ⟨y146, hy146⟩ : ∃ y_ : List ByteArray, y_ = (x4_1 ++ [t145]) := ⟨_, rfl⟩
          replace H : (concordanceref02_Words.l0 k2 t129 y146 (wrap64 (x5_2 + 1))) = some r := by first | (rw [hy146]; with_reducible exact H) | (have H2_ := (Option.bind_some _ _).symm.trans H; rw [hy146]; with_reducible exact H2_) | (have H2_ := (Option.bind_some _ _).symm.trans H; with_reducible exact H2_) | with_reducible exact H | (rw [hy146]; exact H) | exact H
          have Ny146 := Aside0.mk hy146
          clear hy146
          have H' := Aside0.mk H
          clear H
          obtain ⟨Ao23, co23, eo23⟩ := Kd.R_slice HO_7.out
          subst eo23
          go_wp2_with (first | ((with_reducible refine gate_callee (f := 108) rfl ?_); refine goesL_ (some 46) rfl rfl Tryz.func108 (by kernel_rfl) rfl #[.slice Ao23 x7_2.length co23] rfl (by (try simp only [List.map_toArray, List.map_cons, List.map_nil]); first | done | rfl | (simp only [List.length_drop, List.length_take]; rfl)) ?_; (with_reducible refine (concordanceref01_Text.calls k2 _ _ x7_2 t145 _ ?side1 ?side2 A21.out).mono ?_); (case side1 => exact sC (Kd.R_reads' HO_7.out).2.2); (case side2 => exact (Kd.R_reads' HO_7.out).2.1); rintro e w24 ⟨rfl, hb⟩; refine ⟨_, rfl, ?_⟩; replace HO_3 := sA (Kd.R_below (sR HO_3.out) hb); replace HO_4 := sA (Kd.R_below (sR HO_4.out) hb); replace HO_7 := sA (Kd.R_below (sR HO_7.out) hb); replace HB := sA (below_step (sW HB.out) hb); (try clear hb); (try clear hb2); (try clear hk); (try clear hi)) | ((with_reducible refine gate_builtin (b := .append) (xs := #[.tmp 44, .tmp 47]) rfl ?_); at_builtin; refine Kd.R_append Kd.string (w0 := w) w.heap.size rfl (.tmp 44) (.tmp 47) 34 9 (.string ⟨#[]⟩) 16 rfl Tryz.underlying34 info9 rfl (by decide) (by omega) u4 x4_1 t145 [.string t145] (fun _ => True) (fun _ => False) rfl rfl ?aP (fun _ hk => hk.elim) ?aF ?aO ?aB ?aS ?aL ?_; (case aP => exact rfl); (case aB => exact (sW HB.out)); (case aF => exact (fun _ _ => trivial)); (case aO => exact (sR HO_4.out)); (case aS => exact (below_size (sW HB.out))); (case aL => have := LMc22.out; omega); intro v147 w25 ho hb hg hat; rw [← Ny146.out] at ho; replace HO_3 := sA (Kd.R_over' (sR HO_3.out) (Kd.R_typed (sR HO_4.out)) (by decide) hg); replace HO_7 := sA (Kd.R_over' (sR HO_7.out) (Kd.R_typed (sR HO_4.out)) (by decide) hg); replace HB := sA (hb); have HO148 := sA (ho); clear HO_4; clear ho hb hg hat))
          go_roundg k2
          case measure => have := HK1.out; have := HK2.out; omega
          case rel => exact ⟨(y146), (wrap64 (x5_2 + 1)), (by first | rfl | (simp; done) | (simp [*]; done)), H', ⟨by have := HK1.out; have := HK2.out; omega⟩, ⟨by apply sR; exact Kd.R_mono HO_3.out (fun _ hk => trivial)⟩, ⟨sR HO148.out⟩, ⟨sW HB.out⟩⟩
         ·rw [if_neg c22] at H
          exact absurd H (by simp)
     ·replace c7 := Bool.eq_false_iff.mpr c7
      subst c7
      have H1 : (concordanceref02_Words.l0 k1 t129 x4_1 (wrap64 (x5_1 + 1))) = some r := by rw [if_neg (show ¬ (false = true) by decide)] at H; exact H
      clear H
      have H := H1
      clear H1
      have H' := Aside0.mk H
      clear H
      obtain ⟨Ao26, co26, eo26⟩ := Kd.R_slice HO_3.out
      subst eo26
      have p132 : 0 ≤ (x5_1 : Int) := of_decide_eq_true (by assumption)
      have q132 : x5_1 < (t129.length : Int) := of_decide_eq_true (by assumption)
      obtain ⟨ad132, e132, hx132_0⟩ := Kd.at_int (Kd.R_reads' HO_3.out).2.2 x5_1 p132 q132
      cases e132
      replace p132 := eq_true p132
      replace q132 := eq_true q132
      go_wp2_with (first | ((with_reducible refine gate_callee (f := 106) rfl ?_); refine goesL_ (some 20) rfl rfl Tryz.func106 (by kernel_rfl) rfl #[.int .i64 (rd t129 x5_1)] rfl (by (try simp only [List.map_toArray, List.map_cons, List.map_nil]); first | done | rfl | (simp only [List.length_drop, List.length_take]; rfl)) ?_; (with_reducible refine (concordanceref02_in.calls (rd t129 x5_1) false _ A6.out).mono ?_); rintro e w' ⟨rfl, ⟨nd, rfl⟩⟩; refine ⟨_, rfl, ?_⟩))
      go_roundg k1
      case measure => have := HK1.out; omega
      case rel => exact ⟨(x4_1), (wrap64 (x5_1 + 1)), (by first | rfl | (simp; done) | (simp [*]; done)), H', ⟨by have := HK1.out; omega⟩, ⟨sR HO_3.out⟩, ⟨sR HO_4.out⟩, ⟨sW HB.out⟩⟩
    ·rw [if_neg c5] at H
     exact absurd H (by simp)
   ·rw [if_neg c4] at H
    have c4b0 : decide (x5_1 < (t129.length : Int)) = false := decide_eq_false c4
    clear c4
    obtain rfl := Option.some.inj H
    obtain ⟨Ao27, co27, eo27⟩ := Kd.R_slice HO_3.out
    subst eo27
    go_wp2
    go_ret
    exact ⟨_, by first | rfl | (simp [errW_none, errW_some] <;> rfl) | (simp [*, errW_none, errW_some] <;> rfl), sR HO_4.out, sW HB.out⟩

/-! ### concordanceref02_Tokens: function 63 -/
def concordanceref02_Tokens.l0 : Nat → List ByteArray → List (S108) → Int → Option ((List (S108)) × Int)
 | 0, _, _, _ => none
 | k + 1, x4, x5, x6 => if x6 < (x4.length : Int) then (if 0 ≤ x6 then (if ((rdOf ByteArray.empty x4 x6).size : Int) > 30 then (some (([] : List (S108)), 3)) else (if x6 ≥ 500 then (some (([] : List (S108)), 7)) else (if x5.length < 5864062014805 then (concordanceref02_Tokens.l0 k x4 (x5 ++ [(⟨rdOf ByteArray.empty x4 x6, x6⟩ : S108)]) (wrap64 (x6 + 1))) else (none)))) else (none)) else (some (x5, 0))
def concordanceref02_Tokens.f (k : Nat) (a0 : ByteArray) : Option ((List (S108)) × Int) := (concordanceref02_Words.f k a0).bind fun t149 => (concordanceref02_Tokens.l0 k t149 ([] : List (S108)) 0)
theorem concordanceref02_Tokens.mono_l : ∀ k, (∀ y0 y1 y2, LeO (concordanceref02_Tokens.l0 k y0 y1 y2) (concordanceref02_Tokens.l0 (k + 1) y0 y1 y2))
 | 0 => fun _ _ _ r h => by simp [concordanceref02_Tokens.l0] at h
 | k + 1 => by
  have ih0 := concordanceref02_Tokens.mono_l k
  ·intro y0 y1 y2
   unfold concordanceref02_Tokens.l0
   repeat' first
   | (with_reducible exact ih0 _ _ _)
   | (with_reducible exact concordanceref02_Words.mono _ _)
   | (with_reducible exact LeO.refl _)
   | (with_reducible exact LeO.none _)
   | (with_reducible refine LeO.ite ?_ ?_)
   | (with_reducible refine LeO.bind ?_ (fun _ => ?_))
   | exact ih0 _ _ _
   | exact concordanceref02_Words.mono _ _
   | exact LeO.none _
   | refine LeO.ite ?_ ?_
   | refine LeO.bind ?_ (fun _ => ?_)
theorem concordanceref02_Tokens.mono : ∀ a0 k, LeO (concordanceref02_Tokens.f k a0) (concordanceref02_Tokens.f (k + 1) a0) := by
 intro a0 k
 have ih0 := concordanceref02_Tokens.mono_l k
 unfold concordanceref02_Tokens.f
 repeat' first
   | (with_reducible exact ih0 _ _ _)
   | (with_reducible exact concordanceref02_Words.mono _ _)
   | (with_reducible exact LeO.refl _)
   | (with_reducible exact LeO.none _)
   | (with_reducible refine LeO.ite ?_ ?_)
   | (with_reducible refine LeO.bind ?_ (fun _ => ?_))
   | exact ih0 _ _ _
   | exact concordanceref02_Words.mono _ _
   | exact LeO.none _
   | refine LeO.ite ?_ ?_
   | refine LeO.bind ?_ (fun _ => ?_)
set_option maxHeartbeats 8000000 in
set_option maxRecDepth 100000 in
theorem concordanceref02_Tokens.calls (k : Nat) (a0 : ByteArray) (r1 : List (S108)) (r2 : Int) (w : World) (h : concordanceref02_Tokens.f k a0 = some (r1, r2)) :
  Calls Tryz.prog 63 #[.string a0] w fun e w' => ∃ v0_ : Value, e = .returned (.tuple #[v0_, .int .i64 r2]) ∧ Kd.R k108 108 w' w.heap.size (fun _ => True) v0_ r1 ∧ Below w.heap.size w w' := by
 have hu108 := Tryz.underlying108
 have HB := sA (Below.refl w.heap.size w)
 have H : ((concordanceref02_Words.f k a0).bind fun t149 => (concordanceref02_Tokens.l0 k t149 ([] : List (S108)) 0)) = some (r1, r2) := h
 clear h
 replace H := Option.bind_eq_some_iff.mp H
 obtain ⟨t149, A20, H⟩ := H
 have A2 := Aside0.mk A20
 clear A20
 have H' := Aside0.mk H
 clear H
 go_enter Tryz.func63, Tryz.ntmps63
 go_wp2_with (first | ((with_reducible refine gate_callee (f := 75) rfl ?_); refine goesL_ (some 8) rfl rfl Tryz.func75 (by kernel_rfl) rfl #[.string a0] rfl (by (try simp only [List.map_toArray, List.map_cons, List.map_nil]); first | done | rfl | (simp only [List.length_drop, List.length_take]; rfl)) ?_; (with_reducible refine (concordanceref02_Words.calls k a0 t149 _ A2.out).mono ?_); rintro e w3 ⟨v150, rfl, ho0, hb⟩; refine ⟨_, rfl, ?_⟩; have HO151 := sA (Kd.R_lower ho0 (below_size (sW HB.out))); replace HB := sA (below_step (sW HB.out) hb); (try clear hb); (try clear hb2); (try clear hk); (try clear hi); (try clear ho0)))
 go_loopg [5, 6] k (fun kq v5 v6 w' => ∃ (x5_1 : List (S108)) (x6_1 : Int), v6 = .int .i64 x6_1 ∧ Aside0 (concordanceref02_Tokens.l0 kq t149 x5_1 x6_1 = some (r1, r2)) ∧ Aside0 (kq ≤ k) ∧ Aside0 (Kd.R Kd.string 9 w' w.heap.size (fun _ => True) v150 t149) ∧ Aside0 (Kd.R k108 108 w' w.heap.size (fun _ => True) v5 x5_1) ∧ Aside0 (Below w.heap.size w w'))
 case atStart => exact ⟨(([] : List (S108))), (0), (by first | rfl | (simp; done) | (simp [*]; done)), H', ⟨Nat.le_refl _⟩, ⟨sR HO151.out⟩, ⟨by first | exact Kd.R_nil _ _ _ _ _ | exact Kd.N_nil _ _ _ _ _ | exact Kd.V_nil _ _ _ _ _ | exact Kd.Q_nil _ _ _ _ _ | exact Kd.S_nil _ _ _ _ _⟩, ⟨sW HB.out⟩⟩
 case round =>
  clear H'
  try clear p2
  obtain ⟨x5_1, x6_1, rfl, HA, HK1, HO_4, HO_5, HB⟩ := hrel
  cases gk with
  | zero => exact absurd HA.out (by simp [concordanceref02_Tokens.l0])
  | succ k1 =>
   have H := HA.out
   clear HA
   simp only [concordanceref02_Tokens.l0] at H
   by_cases c4 : x6_1 < (t149.length : Int)
   ·rw [if_pos c4] at H
    have c4b0 : decide (x6_1 < (t149.length : Int)) = true := decide_eq_true c4
    clear c4
    by_cases c5 : 0 ≤ x6_1
    ·rw [if_pos c5] at H
     have c5b0 : decide (0 ≤ x6_1) = true := decide_eq_true c5
     clear c5
     by_cases c6 : ((rdOf ByteArray.empty t149 x6_1).size : Int) > 30
     ·rw [if_pos c6] at H
      have c6b0 : decide (30 < ((rdOf ByteArray.empty t149 x6_1).size : Int)) = true := decide_eq_true c6
      have c6b1 : decide (30 < (rdOf ByteArray.empty t149 x6_1).size) = true := decide_eq_true (by omega)
      clear c6
      simp only [Option.some.injEq, Prod.mk.injEq] at H
      obtain ⟨rfl, rfl⟩ := H
      obtain ⟨Ao7, co7, eo7⟩ := Kd.R_slice HO_4.out
      subst eo7
      have p152 : 0 ≤ (x6_1 : Int) := of_decide_eq_true (by assumption)
      have q152 : x6_1 < (t149.length : Int) := of_decide_eq_true (by assumption)
      obtain ⟨ad152, e152, hx152_0⟩ := Kd.at_string (Kd.R_reads' HO_4.out).2.2 x6_1 p152 q152
      cases e152
      replace p152 := eq_true p152
      replace q152 := eq_true q152
      go_wp2
      go_ret2
      exact ⟨_, by first | rfl | (simp [errW_none, errW_some] <;> rfl) | (simp [*, errW_none, errW_some] <;> rfl), by first | exact Kd.R_nil _ _ _ _ _ | exact Kd.N_nil _ _ _ _ _ | exact Kd.V_nil _ _ _ _ _ | exact Kd.Q_nil _ _ _ _ _ | exact Kd.S_nil _ _ _ _ _, sW HB.out⟩
     ·rw [if_neg c6] at H
      have c6b0 : decide (30 < ((rdOf ByteArray.empty t149 x6_1).size : Int)) = false := decide_eq_false c6
      have c6b1 : decide (30 < (rdOf ByteArray.empty t149 x6_1).size) = false := decide_eq_false (by omega)
      clear c6
      by_cases c8 : x6_1 ≥ 500
      ·rw [if_pos c8] at H
       have c8b0 : decide (500 ≤ x6_1) = true := decide_eq_true c8
       clear c8
       simp only [Option.some.injEq, Prod.mk.injEq] at H
       obtain ⟨rfl, rfl⟩ := H
       obtain ⟨Ao9, co9, eo9⟩ := Kd.R_slice HO_4.out
       subst eo9
       have p152 : 0 ≤ (x6_1 : Int) := of_decide_eq_true (by assumption)
       have q152 : x6_1 < (t149.length : Int) := of_decide_eq_true (by assumption)
       obtain ⟨ad152, e152, hx152_0⟩ := Kd.at_string (Kd.R_reads' HO_4.out).2.2 x6_1 p152 q152
       cases e152
       replace p152 := eq_true p152
       replace q152 := eq_true q152
       go_wp2
       go_ret2
       exact ⟨_, by first | rfl | (simp [errW_none, errW_some] <;> rfl) | (simp [*, errW_none, errW_some] <;> rfl), by first | exact Kd.R_nil _ _ _ _ _ | exact Kd.N_nil _ _ _ _ _ | exact Kd.V_nil _ _ _ _ _ | exact Kd.Q_nil _ _ _ _ _ | exact Kd.S_nil _ _ _ _ _, sW HB.out⟩
      ·rw [if_neg c8] at H
       have c8b0 : decide (500 ≤ x6_1) = false := decide_eq_false c8
       clear c8
       by_cases c10 : x5_1.length < 5864062014805
       ·rw [if_pos c10] at H
        have LMc10 := Aside0.mk c10
        clear c10
        obtain ⟨y154, hy154⟩ : ∃ y_ : List (S108), y_ = (x5_1 ++ [(⟨rdOf ByteArray.empty t149 x6_1, x6_1⟩ : S108)]) := ⟨_, rfl⟩
        replace H : (concordanceref02_Tokens.l0 k1 t149 y154 (wrap64 (x6_1 + 1))) = some (r1, r2) := by first | (rw [hy154]; with_reducible exact H) | (have H2_ := (Option.bind_some _ _).symm.trans H; rw [hy154]; with_reducible exact H2_) | (have H2_ := (Option.bind_some _ _).symm.trans H; with_reducible exact H2_) | with_reducible exact H | (rw [hy154]; exact H) | exact H
        have Ny154 := Aside0.mk hy154
        clear hy154
        have H' := Aside0.mk H
        clear H
        obtain ⟨Ao11, co11, eo11⟩ := Kd.R_slice HO_4.out
        subst eo11
        have p152 : 0 ≤ (x6_1 : Int) := of_decide_eq_true (by assumption)
        have q152 : x6_1 < (t149.length : Int) := of_decide_eq_true (by assumption)
        obtain ⟨ad152, e152, hx152_0⟩ := Kd.at_string (Kd.R_reads' HO_4.out).2.2 x6_1 p152 q152
        cases e152
        replace p152 := eq_true p152
        replace q152 := eq_true q152
        have p153 : 0 ≤ (x6_1 : Int) := of_decide_eq_true (by assumption)
        have q153 : x6_1 < (t149.length : Int) := of_decide_eq_true (by assumption)
        obtain ⟨ad153, e153, hx153_0⟩ := Kd.at_string (Kd.R_reads' HO_4.out).2.2 x6_1 p153 q153
        obtain rfl : ad152 = ad153 := (by injection e153)
        replace p153 := eq_true p153
        replace q153 := eq_true q153
        go_wp2_with (first | ((with_reducible refine gate_builtin (b := .append) (xs := #[.tmp 23, .tmp 30]) rfl ?_); at_builtin; refine Kd.R_append k108 (w0 := w) w.heap.size rfl (.tmp 23) (.tmp 30) 86 108 (.agg #[(.string ⟨#[]⟩), (.int .i64 0)]) 24 rfl Tryz.underlying86 info108 rfl (by decide) (by omega) u5 x5_1 (⟨rdOf ByteArray.empty t149 x6_1, x6_1⟩ : S108) [.string (rdOf ByteArray.empty t149 x6_1), .int .i64 x6_1] (fun _ => True) (fun _ => False) rfl rfl ?aP (fun _ hk => hk.elim) ?aF ?aO ?aB ?aS ?aL ?_; (case aP => exact k108_mkM _ _ _ (⟨rdOf ByteArray.empty t149 x6_1, x6_1⟩ : S108)); (case aB => exact (sW HB.out)); (case aF => exact (fun _ _ => trivial)); (case aO => exact (sR HO_5.out)); (case aS => exact (below_size (sW HB.out))); (case aL => have := LMc10.out; omega); intro v155 w12 ho hb hg hat; rw [← Ny154.out] at ho; replace HO_4 := sA (Kd.R_over' (sR HO_4.out) (Kd.R_typed (sR HO_5.out)) (by decide) hg); replace HB := sA (hb); have HO156 := sA (ho); clear HO_5; clear ho hb hg hat))
        go_roundg k1
        case measure => have := HK1.out; omega
        case rel => exact ⟨(y154), (wrap64 (x6_1 + 1)), (by first | rfl | (simp; done) | (simp [*]; done)), H', ⟨by have := HK1.out; omega⟩, ⟨sR HO_4.out⟩, ⟨sR HO156.out⟩, ⟨sW HB.out⟩⟩
       ·rw [if_neg c10] at H
        exact absurd H (by simp)
    ·rw [if_neg c5] at H
     exact absurd H (by simp)
   ·rw [if_neg c4] at H
    have c4b0 : decide (x6_1 < (t149.length : Int)) = false := decide_eq_false c4
    clear c4
    simp only [Option.some.injEq, Prod.mk.injEq] at H
    obtain ⟨rfl, rfl⟩ := H
    obtain ⟨Ao13, co13, eo13⟩ := Kd.R_slice HO_4.out
    subst eo13
    go_wp2
    go_ret2
    exact ⟨_, by first | rfl | (simp [errW_none, errW_some] <;> rfl) | (simp [*, errW_none, errW_some] <;> rfl), sR HO_5.out, sW HB.out⟩

/-! ### concordanceref08_May: function 41 -/
mutual
def concordanceref08_May.l0 : Nat → Int → Int → Int → List (S50) → Option (Int)
 | 0, _, _, _, _ => none
 | k + 1, x3, x4, x158000, x158001 => if x4 < (x158001.length : Int) then (if 0 ≤ x4 then ((concordanceref08_Name.f k ((rd_T50 x158001 x4).f0)).bind fun t159 => (if t159 = true then (concordanceref08_May.l1 k x3 x4 0 x158000 x158001) else (some 4))) else (none)) else (if x3 > 500 then (some 7) else (some 0))
def concordanceref08_May.l1 : Nat → Int → Int → Int → Int → List (S50) → Option (Int)
 | 0, _, _, _, _, _ => none
 | k + 1, x3, x4, x6, x158000, x158001 => if x6 < x4 then (if 0 ≤ x6 then (if x6 < (x158001.length : Int) then (if 0 ≤ x4 then (if x4 < (x158001.length : Int) then (if ((rd_T50 x158001 x6).f0).toList = ((rd_T50 x158001 x4).f0).toList then (some 5) else (concordanceref08_May.l1 k x3 x4 (wrap64 (x6 + 1)) x158000 x158001)) else (none)) else (none)) else (none)) else (none)) else (if 0 ≤ x4 then (if x4 < (x158001.length : Int) then ((concordanceref02_Tokens.f k ((rd_T50 x158001 x4).f1)).bind fun bt163 => (if bt163.2 = 0 then (concordanceref08_May.l0 k (wrap64 (x3 + (bt163.1.length : Int))) (wrap64 (x4 + 1)) x158000 x158001) else (some bt163.2))) else (none)) else (none))
end
def concordanceref08_May.f (k : Nat) (a0_0 : Int) (l0_1 : List (S50)) : Option (Int) := if (l0_1.length : Int) > 8 then (some 7) else (concordanceref08_May.l0 k 0 0 a0_0 l0_1)
theorem concordanceref08_May.mono_l : ∀ k, (∀ y0 y1 y2 y3, LeO (concordanceref08_May.l0 k y0 y1 y2 y3) (concordanceref08_May.l0 (k + 1) y0 y1 y2 y3)) ∧ (∀ y0 y1 y2 y3 y4, LeO (concordanceref08_May.l1 k y0 y1 y2 y3 y4) (concordanceref08_May.l1 (k + 1) y0 y1 y2 y3 y4))
 | 0 => ⟨fun _ _ _ _ r h => by simp [concordanceref08_May.l0] at h, fun _ _ _ _ _ r h => by simp [concordanceref08_May.l1] at h⟩
 | k + 1 => by
  obtain ⟨ih0, ih1⟩ := concordanceref08_May.mono_l k
  refine ⟨?_, ?_⟩
  ·intro y0 y1 y2 y3
   unfold concordanceref08_May.l0
   repeat' first
   | (with_reducible exact ih0 _ _ _ _)
   | (with_reducible exact ih1 _ _ _ _ _)
   | (with_reducible exact concordanceref02_Tokens.mono _ _)
   | (with_reducible exact concordanceref08_Name.mono _ _)
   | (with_reducible exact LeO.refl _)
   | (with_reducible exact LeO.none _)
   | (with_reducible refine LeO.ite ?_ ?_)
   | (with_reducible refine LeO.bind ?_ (fun _ => ?_))
   | exact ih0 _ _ _ _
   | exact ih1 _ _ _ _ _
   | exact concordanceref02_Tokens.mono _ _
   | exact concordanceref08_Name.mono _ _
   | exact LeO.none _
   | refine LeO.ite ?_ ?_
   | refine LeO.bind ?_ (fun _ => ?_)
  ·intro y0 y1 y2 y3 y4
   unfold concordanceref08_May.l1
   repeat' first
   | (with_reducible exact ih0 _ _ _ _)
   | (with_reducible exact ih1 _ _ _ _ _)
   | (with_reducible exact concordanceref02_Tokens.mono _ _)
   | (with_reducible exact concordanceref08_Name.mono _ _)
   | (with_reducible exact LeO.refl _)
   | (with_reducible exact LeO.none _)
   | (with_reducible refine LeO.ite ?_ ?_)
   | (with_reducible refine LeO.bind ?_ (fun _ => ?_))
   | exact ih0 _ _ _ _
   | exact ih1 _ _ _ _ _
   | exact concordanceref02_Tokens.mono _ _
   | exact concordanceref08_Name.mono _ _
   | exact LeO.none _
   | refine LeO.ite ?_ ?_
   | refine LeO.bind ?_ (fun _ => ?_)
theorem concordanceref08_May.mono : ∀ a0 a1 k, LeO (concordanceref08_May.f k a0 a1) (concordanceref08_May.f (k + 1) a0 a1) := by
 intro a0 a1 k
 obtain ⟨ih0, ih1⟩ := concordanceref08_May.mono_l k
 unfold concordanceref08_May.f
 repeat' first
   | (with_reducible exact ih0 _ _ _ _)
   | (with_reducible exact ih1 _ _ _ _ _)
   | (with_reducible exact concordanceref02_Tokens.mono _ _)
   | (with_reducible exact concordanceref08_Name.mono _ _)
   | (with_reducible exact LeO.refl _)
   | (with_reducible exact LeO.none _)
   | (with_reducible refine LeO.ite ?_ ?_)
   | (with_reducible refine LeO.bind ?_ (fun _ => ?_))
   | exact ih0 _ _ _ _
   | exact ih1 _ _ _ _ _
   | exact concordanceref02_Tokens.mono _ _
   | exact concordanceref08_Name.mono _ _
   | exact LeO.none _
   | refine LeO.ite ?_ ?_
   | refine LeO.bind ?_ (fun _ => ?_)
set_option maxHeartbeats 8000000 in
set_option maxRecDepth 100000 in
theorem concordanceref08_May.calls (k : Nat) (a0_0 : Int) (A0_1 : Option Addr) (c0_1 : Nat) (l0_1 : List (S50)) (r : Int) (w : World) (hr0_1 : Kd.C k50 w A0_1 l0_1.length l0_1) (hc0_1 : l0_1.length ≤ c0_1) (h : concordanceref08_May.f k a0_0 l0_1 = some r) :
  Calls Tryz.prog 41 #[.agg #[.int .i64 a0_0, .slice A0_1 l0_1.length c0_1]] w fun e w' => e = .returned (.int .i64 r) ∧ Below w.heap.size w w' := by
 have hu31 := Tryz.underlying31
 have HR0_1 := Aside0.mk hr0_1
 have HC0_1 := Aside0.mk hc0_1
 clear hr0_1 hc0_1
 have HB := sA (Below.refl w.heap.size w)
 have H : (if (l0_1.length : Int) > 8 then (some 7) else (concordanceref08_May.l0 k 0 0 a0_0 l0_1)) = some r := h
 clear h
 by_cases c2 : (l0_1.length : Int) > 8
 ·rw [if_pos c2] at H
  have c2b0 : decide (8 < (l0_1.length : Int)) = true := decide_eq_true c2
  have c2b1 : decide (8 < l0_1.length) = true := decide_eq_true (by omega)
  clear c2
  obtain rfl := Option.some.inj H
  go_enter Tryz.func41, Tryz.ntmps41
  go_wp2_with (first | ((with_reducible refine gate_dst (N := 1) rfl ?_); refine box_event ?hg (N := 1) ?hd (cs := #[.int .i64 a0_0, .slice A0_1 l0_1.length c0_1]) (t := 31) ?hr ?_; (case hd => rfl); (case hg => rfl); (case hr => first | (go_simp; done) | (go_simp; rfl)); intro gb157 hg w3 hbox hb; have BK157 := sA (hbox); have GW157 := sA ((by rw [hg]; exact (below_size (sW HB.out)) : w.heap.size ≤ gb157)); have GE157 := sA ((by rw [hg]; exact (below_size (sW HB.out)) : w.heap.size ≤ gb157)); replace HB := sA (below_step (sW HB.out) hb); clear hb hbox hg; have hcz4_0 := c0 BK157.out; have hcz4_1 := c1 BK157.out; have hfz4_0 := blk_frozen BK157.out 0; have hfz4_1 := blk_frozen BK157.out 1))
  repeat (go_quiet (first | ((with_reducible refine gate_dst (N := 1) rfl ?_); refine box_event ?hg (N := 1) ?hd (cs := #[.int .i64 a0_0, .slice A0_1 l0_1.length c0_1]) (t := 31) ?hr ?_; (case hd => rfl); (case hg => rfl); (case hr => first | (go_simp; done) | (go_simp; rfl)); intro gb157 hg w3 hbox hb; have BK157 := sA (hbox); have GW157 := sA ((by rw [hg]; exact (below_size (sW HB.out)) : w.heap.size ≤ gb157)); have GE157 := sA ((by rw [hg]; exact (below_size (sW HB.out)) : w.heap.size ≤ gb157)); replace HB := sA (below_step (sW HB.out) hb); clear hb hbox hg; have hcz4_0 := c0 BK157.out; have hcz4_1 := c1 BK157.out; have hfz4_0 := blk_frozen BK157.out 0; have hfz4_1 := blk_frozen BK157.out 1)); try go_wp2_with (first | ((with_reducible refine gate_dst (N := 1) rfl ?_); refine box_event ?hg (N := 1) ?hd (cs := #[.int .i64 a0_0, .slice A0_1 l0_1.length c0_1]) (t := 31) ?hr ?_; (case hd => rfl); (case hg => rfl); (case hr => first | (go_simp; done) | (go_simp; rfl)); intro gb157 hg w3 hbox hb; have BK157 := sA (hbox); have GW157 := sA ((by rw [hg]; exact (below_size (sW HB.out)) : w.heap.size ≤ gb157)); have GE157 := sA ((by rw [hg]; exact (below_size (sW HB.out)) : w.heap.size ≤ gb157)); replace HB := sA (below_step (sW HB.out) hb); clear hb hbox hg; have hcz4_0 := c0 BK157.out; have hcz4_1 := c1 BK157.out; have hfz4_0 := blk_frozen BK157.out 0; have hfz4_1 := blk_frozen BK157.out 1)))
  go_ret
  exact ⟨by first | rfl | (simp [errW_none, errW_some] <;> rfl) | (simp [*, errW_none, errW_some] <;> rfl), by repeat (first | exact sW HB.out | refine sS ?_)⟩
 ·rw [if_neg c2] at H
  have c2b0 : decide (8 < (l0_1.length : Int)) = false := decide_eq_false c2
  have c2b1 : decide (8 < l0_1.length) = false := decide_eq_false (by omega)
  clear c2
  have H' := Aside0.mk H
  clear H
  go_enter Tryz.func41, Tryz.ntmps41
  go_wp2_with (first | ((with_reducible refine gate_dst (N := 1) rfl ?_); refine box_event ?hg (N := 1) ?hd (cs := #[.int .i64 a0_0, .slice A0_1 l0_1.length c0_1]) (t := 31) ?hr ?_; (case hd => rfl); (case hg => rfl); (case hr => first | (go_simp; done) | (go_simp; rfl)); intro gb157 hg w5 hbox hb; have BK157 := sA (hbox); have GW157 := sA ((by rw [hg]; exact (below_size (sW HB.out)) : w.heap.size ≤ gb157)); have GE157 := sA ((by rw [hg]; exact (below_size (sW HB.out)) : w.heap.size ≤ gb157)); replace HB := sA (below_step (sW HB.out) hb); clear hb hbox hg; have hcz6_0 := c0 BK157.out; have hcz6_1 := c1 BK157.out; have hfz6_0 := blk_frozen BK157.out 0; have hfz6_1 := blk_frozen BK157.out 1))
  repeat (go_quiet (first | ((with_reducible refine gate_dst (N := 1) rfl ?_); refine box_event ?hg (N := 1) ?hd (cs := #[.int .i64 a0_0, .slice A0_1 l0_1.length c0_1]) (t := 31) ?hr ?_; (case hd => rfl); (case hg => rfl); (case hr => first | (go_simp; done) | (go_simp; rfl)); intro gb157 hg w5 hbox hb; have BK157 := sA (hbox); have GW157 := sA ((by rw [hg]; exact (below_size (sW HB.out)) : w.heap.size ≤ gb157)); have GE157 := sA ((by rw [hg]; exact (below_size (sW HB.out)) : w.heap.size ≤ gb157)); replace HB := sA (below_step (sW HB.out) hb); clear hb hbox hg; have hcz6_0 := c0 BK157.out; have hcz6_1 := c1 BK157.out; have hfz6_0 := blk_frozen BK157.out 0; have hfz6_1 := blk_frozen BK157.out 1)); try go_wp2_with (first | ((with_reducible refine gate_dst (N := 1) rfl ?_); refine box_event ?hg (N := 1) ?hd (cs := #[.int .i64 a0_0, .slice A0_1 l0_1.length c0_1]) (t := 31) ?hr ?_; (case hd => rfl); (case hg => rfl); (case hr => first | (go_simp; done) | (go_simp; rfl)); intro gb157 hg w5 hbox hb; have BK157 := sA (hbox); have GW157 := sA ((by rw [hg]; exact (below_size (sW HB.out)) : w.heap.size ≤ gb157)); have GE157 := sA ((by rw [hg]; exact (below_size (sW HB.out)) : w.heap.size ≤ gb157)); replace HB := sA (below_step (sW HB.out) hb); clear hb hbox hg; have hcz6_0 := c0 BK157.out; have hcz6_1 := c1 BK157.out; have hfz6_0 := blk_frozen BK157.out 0; have hfz6_1 := blk_frozen BK157.out 1)))
  go_loopg [3, 4] k (fun kq v3 v4 w' => ∃ (x3_1 : Int) (x4_1 : Int), v3 = .int .i64 x3_1 ∧ v4 = .int .i64 x4_1 ∧ Aside0 (concordanceref08_May.l0 kq x3_1 x4_1 a0_0 l0_1 = some r) ∧ Aside0 (kq ≤ k) ∧ Aside0 (w'.heap[gb157]? = some (.cells #[.int .i64 a0_0, (.slice A0_1 l0_1.length c0_1)] 31 (0, 0))) ∧ Aside0 (Below w.heap.size w w'))
  case atStart => exact ⟨(0), (0), (by first | rfl | (simp; done) | (simp [*]; done)), (by first | rfl | (simp; done) | (simp [*]; done)), H', ⟨Nat.le_refl _⟩, ⟨sB BK157.out⟩, ⟨by repeat (first | exact sW HB.out | refine sS ?_)⟩⟩
  case round =>
   clear H'
   try clear c2; try clear c2b0; try clear c2b1; try clear p2; try clear c4; try clear hcz4_0; try clear hcz4_1; try clear hcz6_0; try clear hcz6_1; try clear hfz4_0; try clear hfz4_1; try clear hfz6_0; try clear hfz6_1
   obtain ⟨x3_1, x4_1, rfl, rfl, HA, HK1, BK157, HB⟩ := hrel
   cases gk with
   | zero => exact absurd HA.out (by simp [concordanceref08_May.l0])
   | succ k1 =>
    have H := HA.out
    clear HA
    simp only [concordanceref08_May.l0] at H
    by_cases c7 : x4_1 < (l0_1.length : Int)
    ·rw [if_pos c7] at H
     have c7b0 : decide (x4_1 < (l0_1.length : Int)) = true := decide_eq_true c7
     clear c7
     by_cases c8 : 0 ≤ x4_1
     ·rw [if_pos c8] at H
      have c8b0 : decide (0 ≤ x4_1) = true := decide_eq_true c8
      clear c8
      replace H := Option.bind_eq_some_iff.mp H
      obtain ⟨t159, A90, H⟩ := H
      have A9 := Aside0.mk A90
      clear A90
      by_cases c10 : t159 = true
      ·subst c10
       have H1 : (concordanceref08_May.l1 k1 x3_1 x4_1 0 a0_0 l0_1) = some r := by rw [if_pos rfl] at H; exact H
       clear H
       have H := H1
       clear H1
       have H' := Aside0.mk H
       clear H
       have hcz11_0 := c0 BK157.out
       have hcz11_1 := c1 BK157.out
       have hfz11_0 := blk_frozen BK157.out 0
       have hfz11_1 := blk_frozen BK157.out 1
       have p158 : 0 ≤ (x4_1 : Int) := of_decide_eq_true (by assumption)
       have q158 : x4_1 < (l0_1.length : Int) := of_decide_eq_true (by assumption)
       obtain ⟨ad158, e158, hx158_0, hx158_1⟩ := at_T50 HR0_1.out x4_1 p158 q158
       cases e158
       replace hx158_0 := (HB.out.cell (World.block_lt_of_cell? w _ hx158_0)).trans hx158_0
       replace hx158_1 := (HB.out.cell (World.block_lt_of_cell? w _ hx158_1)).trans hx158_1
       replace p158 := eq_true p158
       replace q158 := eq_true q158
       go_wp2_with (first | (go_at_call 40; (with_reducible refine (concordanceref08_Name.calls k1 ((rd_T50 l0_1 x4_1).f0) true _ A9.out).mono ?_); rintro e w' ⟨rfl, ⟨nd, rfl⟩⟩; (try first | exact ⟨rfl, _, World.drewN_drewN _ _ _⟩ | exact ⟨rfl, _, Eq.trans (World.drewN_drewN _ _ _) (congrArg (World.drewN _) (Nat.add_assoc _ _ _))⟩)))
       repeat (go_quiet (first | (go_at_call 40; (with_reducible refine (concordanceref08_Name.calls k1 ((rd_T50 l0_1 x4_1).f0) true _ A9.out).mono ?_); rintro e w' ⟨rfl, ⟨nd, rfl⟩⟩; (try first | exact ⟨rfl, _, World.drewN_drewN _ _ _⟩ | exact ⟨rfl, _, Eq.trans (World.drewN_drewN _ _ _) (congrArg (World.drewN _) (Nat.add_assoc _ _ _))⟩))); try go_wp2_with (first | (go_at_call 40; (with_reducible refine (concordanceref08_Name.calls k1 ((rd_T50 l0_1 x4_1).f0) true _ A9.out).mono ?_); rintro e w' ⟨rfl, ⟨nd, rfl⟩⟩; (try first | exact ⟨rfl, _, World.drewN_drewN _ _ _⟩ | exact ⟨rfl, _, Eq.trans (World.drewN_drewN _ _ _) (congrArg (World.drewN _) (Nat.add_assoc _ _ _))⟩))))
       go_loopg [6] k1 (fun kq v6 w' => ∃ (x6_2 : Int), v6 = .int .i64 x6_2 ∧ Aside0 (concordanceref08_May.l1 kq x3_1 x4_1 x6_2 a0_0 l0_1 = some r) ∧ Aside0 (kq ≤ k1) ∧ Aside0 (w'.heap[gb157]? = some (.cells #[.int .i64 a0_0, (.slice (some ad158) l0_1.length c0_1)] 31 (0, 0))) ∧ Aside0 (Below w.heap.size w w'))
       case atStart => exact ⟨(0), (by first | rfl | (simp; done) | (simp [*]; done)), H', ⟨Nat.le_refl _⟩, ⟨sB BK157.out⟩, ⟨by repeat (first | exact sW HB.out | refine sS ?_)⟩⟩
       case round =>
        clear H'
        try clear c1; try clear p1; try clear q1; try clear hx1; try clear c2; try clear c2b0; try clear c2b1; try clear p2; try clear c4; try clear c7; try clear c7b0; try clear c8; try clear c8b0; try clear c10; try clear hcz11_0; try clear hcz11_1; try clear hcz4_0; try clear hcz4_1; try clear hcz6_0; try clear hcz6_1; try clear hfz11_0; try clear hfz11_1; try clear hfz4_0; try clear hfz4_1; try clear hfz6_0; try clear hfz6_1; try clear hx158_0; try clear hx158_1; try clear p158; try clear p2; try clear q158
        obtain ⟨x6_2, rfl, HA, HK2, BK157, HB⟩ := hrel
        cases gk with
        | zero => exact absurd HA.out (by simp [concordanceref08_May.l1])
        | succ k2 =>
         have H := HA.out
         clear HA
         simp only [concordanceref08_May.l1] at H
         by_cases c12 : x6_2 < x4_1
         ·rw [if_pos c12] at H
          have c12b0 : decide (x6_2 < x4_1) = true := decide_eq_true c12
          clear c12
          by_cases c13 : 0 ≤ x6_2
          ·rw [if_pos c13] at H
           have c13b0 : decide (0 ≤ x6_2) = true := decide_eq_true c13
           clear c13
           by_cases c14 : x6_2 < (l0_1.length : Int)
           ·rw [if_pos c14] at H
            have c14b0 : decide (x6_2 < (l0_1.length : Int)) = true := decide_eq_true c14
            clear c14
            by_cases c15 : 0 ≤ x4_1
            ·rw [if_pos c15] at H
             have c15b0 : decide (0 ≤ x4_1) = true := decide_eq_true c15
             clear c15
             by_cases c16 : x4_1 < (l0_1.length : Int)
             ·rw [if_pos c16] at H
              have c16b0 : decide (x4_1 < (l0_1.length : Int)) = true := decide_eq_true c16
              clear c16
              by_cases c17 : ((rd_T50 l0_1 x6_2).f0).toList = ((rd_T50 l0_1 x4_1).f0).toList
              ·rw [if_pos c17] at H
               have c17b0 : (((rd_T50 l0_1 x6_2).f0).toList == ((rd_T50 l0_1 x4_1).f0).toList) = true := beq_iff_eq.mpr c17
               have c17b1 : (((rd_T50 l0_1 x6_2).f0).toList != ((rd_T50 l0_1 x4_1).f0).toList) = false := bne_eq_false_iff_eq.mpr c17
               clear c17
               obtain rfl := Option.some.inj H
               have hcz18_0 := c0 BK157.out
               have hcz18_1 := c1 BK157.out
               have hfz18_0 := blk_frozen BK157.out 0
               have hfz18_1 := blk_frozen BK157.out 1
               have p160 : 0 ≤ (x6_2 : Int) := of_decide_eq_true (by assumption)
               have q160 : x6_2 < (l0_1.length : Int) := of_decide_eq_true (by assumption)
               obtain ⟨ad160, e160, hx160_0, hx160_1⟩ := at_T50 HR0_1.out x6_2 p160 q160
               obtain rfl : ad158 = ad160 := (by injection e160)
               replace hx160_0 := (HB.out.cell (World.block_lt_of_cell? w _ hx160_0)).trans hx160_0
               replace hx160_1 := (HB.out.cell (World.block_lt_of_cell? w _ hx160_1)).trans hx160_1
               replace p160 := eq_true p160
               replace q160 := eq_true q160
               have p161 : 0 ≤ (x4_1 : Int) := of_decide_eq_true (by assumption)
               have q161 : x4_1 < (l0_1.length : Int) := of_decide_eq_true (by assumption)
               obtain ⟨ad161, e161, hx161_0, hx161_1⟩ := at_T50 HR0_1.out x4_1 p161 q161
               obtain rfl : ad158 = ad161 := (by injection e161)
               replace hx161_0 := (HB.out.cell (World.block_lt_of_cell? w _ hx161_0)).trans hx161_0
               replace hx161_1 := (HB.out.cell (World.block_lt_of_cell? w _ hx161_1)).trans hx161_1
               replace p161 := eq_true p161
               replace q161 := eq_true q161
               go_wp2
               repeat (go_quiet (fail); try go_wp2)
               go_ret
               exact ⟨by first | rfl | (simp [errW_none, errW_some] <;> rfl) | (simp [*, errW_none, errW_some] <;> rfl), by repeat (first | exact sW HB.out | refine sS ?_)⟩
              ·rw [if_neg c17] at H
               have c17b0 : (((rd_T50 l0_1 x6_2).f0).toList == ((rd_T50 l0_1 x4_1).f0).toList) = false := beq_eq_false_iff_ne.mpr c17
               have c17b1 : (((rd_T50 l0_1 x6_2).f0).toList != ((rd_T50 l0_1 x4_1).f0).toList) = true := bne_iff_ne.mpr c17
               have H' := Aside0.mk H
               clear H
               have hcz19_0 := c0 BK157.out
               have hcz19_1 := c1 BK157.out
               have hfz19_0 := blk_frozen BK157.out 0
               have hfz19_1 := blk_frozen BK157.out 1
               have p160 : 0 ≤ (x6_2 : Int) := of_decide_eq_true (by assumption)
               have q160 : x6_2 < (l0_1.length : Int) := of_decide_eq_true (by assumption)
               obtain ⟨ad160, e160, hx160_0, hx160_1⟩ := at_T50 HR0_1.out x6_2 p160 q160
               obtain rfl : ad158 = ad160 := (by injection e160)
               replace hx160_0 := (HB.out.cell (World.block_lt_of_cell? w _ hx160_0)).trans hx160_0
               replace hx160_1 := (HB.out.cell (World.block_lt_of_cell? w _ hx160_1)).trans hx160_1
               replace p160 := eq_true p160
               replace q160 := eq_true q160
               have p161 : 0 ≤ (x4_1 : Int) := of_decide_eq_true (by assumption)
               have q161 : x4_1 < (l0_1.length : Int) := of_decide_eq_true (by assumption)
               obtain ⟨ad161, e161, hx161_0, hx161_1⟩ := at_T50 HR0_1.out x4_1 p161 q161
               obtain rfl : ad158 = ad161 := (by injection e161)
               replace hx161_0 := (HB.out.cell (World.block_lt_of_cell? w _ hx161_0)).trans hx161_0
               replace hx161_1 := (HB.out.cell (World.block_lt_of_cell? w _ hx161_1)).trans hx161_1
               replace p161 := eq_true p161
               replace q161 := eq_true q161
               go_wp2
               repeat (go_quiet (fail); try go_wp2)
               go_roundg k2
               case measure => have := HK1.out; have := HK2.out; omega
               case rel => exact ⟨(wrap64 (x6_2 + 1)), (by first | rfl | (simp; done) | (simp [*]; done)), H', ⟨by have := HK1.out; have := HK2.out; omega⟩, ⟨sB BK157.out⟩, ⟨by repeat (first | exact sW HB.out | refine sS ?_)⟩⟩
             ·rw [if_neg c16] at H
              exact absurd H (by simp)
            ·rw [if_neg c15] at H
             exact absurd H (by simp)
           ·rw [if_neg c14] at H
            exact absurd H (by simp)
          ·rw [if_neg c13] at H
           exact absurd H (by simp)
         ·rw [if_neg c12] at H
          have c12b0 : decide (x6_2 < x4_1) = false := decide_eq_false c12
          clear c12
          by_cases c20 : 0 ≤ x4_1
          ·rw [if_pos c20] at H
           have c20b0 : decide (0 ≤ x4_1) = true := decide_eq_true c20
           clear c20
           by_cases c21 : x4_1 < (l0_1.length : Int)
           ·rw [if_pos c21] at H
            have c21b0 : decide (x4_1 < (l0_1.length : Int)) = true := decide_eq_true c21
            clear c21
            replace H := Option.bind_eq_some_iff.mp H
            obtain ⟨⟨t163, t164⟩, A220, H⟩ := H
            have A22 := Aside0.mk A220
            clear A220
            by_cases c23 : t164 = 0
            ·rw [if_pos c23] at H
             have c23b0 : (t164 == 0) = true := beq_iff_eq.mpr c23
             have c23b1 : (t164 != 0) = false := bne_eq_false_iff_eq.mpr c23
             clear c23
             have H' := Aside0.mk H
             clear H
             have hcz24_0 := c0 BK157.out
             have hcz24_1 := c1 BK157.out
             have hfz24_0 := blk_frozen BK157.out 0
             have hfz24_1 := blk_frozen BK157.out 1
             have p162 : 0 ≤ (x4_1 : Int) := of_decide_eq_true (by assumption)
             have q162 : x4_1 < (l0_1.length : Int) := of_decide_eq_true (by assumption)
             obtain ⟨ad162, e162, hx162_0, hx162_1⟩ := at_T50 HR0_1.out x4_1 p162 q162
             obtain rfl : ad158 = ad162 := (by injection e162)
             replace hx162_0 := (HB.out.cell (World.block_lt_of_cell? w _ hx162_0)).trans hx162_0
             replace hx162_1 := (HB.out.cell (World.block_lt_of_cell? w _ hx162_1)).trans hx162_1
             replace p162 := eq_true p162
             replace q162 := eq_true q162
             go_wp2_with (first | (go_at_call 63; (with_reducible refine (concordanceref02_Tokens.calls k2 ((rd_T50 l0_1 x4_1).f1) t163 t164 _ A22.out).mono ?_); rintro e w25 ⟨v165, rfl, ho0, hb⟩; have HO166 := sA (Kd.R_lower ho0 (below_size (by repeat (first | exact sW HB.out | refine sS ?_)))); replace BK157 := sA (blk_below (sB BK157.out) hb); replace HB := sA (below_step (by repeat (first | exact sW HB.out | refine sS ?_)) hb); (try clear hb); (try clear hb2); (try clear hk); (try clear hi); (try clear ho0); obtain ⟨Ao26, co26, eo26⟩ := Kd.R_slice HO166.out; subst eo26))
             repeat (go_quiet (first | (go_at_call 63; (with_reducible refine (concordanceref02_Tokens.calls k2 ((rd_T50 l0_1 x4_1).f1) t163 t164 _ A22.out).mono ?_); rintro e w25 ⟨v165, rfl, ho0, hb⟩; have HO166 := sA (Kd.R_lower ho0 (below_size (by repeat (first | exact sW HB.out | refine sS ?_)))); replace BK157 := sA (blk_below (sB BK157.out) hb); replace HB := sA (below_step (by repeat (first | exact sW HB.out | refine sS ?_)) hb); (try clear hb); (try clear hb2); (try clear hk); (try clear hi); (try clear ho0); obtain ⟨Ao26, co26, eo26⟩ := Kd.R_slice HO166.out; subst eo26)); try go_wp2_with (first | (go_at_call 63; (with_reducible refine (concordanceref02_Tokens.calls k2 ((rd_T50 l0_1 x4_1).f1) t163 t164 _ A22.out).mono ?_); rintro e w25 ⟨v165, rfl, ho0, hb⟩; have HO166 := sA (Kd.R_lower ho0 (below_size (by repeat (first | exact sW HB.out | refine sS ?_)))); replace BK157 := sA (blk_below (sB BK157.out) hb); replace HB := sA (below_step (by repeat (first | exact sW HB.out | refine sS ?_)) hb); (try clear hb); (try clear hb2); (try clear hk); (try clear hi); (try clear ho0); obtain ⟨Ao26, co26, eo26⟩ := Kd.R_slice HO166.out; subst eo26)))
             go_roundg k2
             case measure => have := HK1.out; have := HK2.out; omega
             case rel => exact ⟨(wrap64 (x3_1 + (t163.length : Int))), (wrap64 (x4_1 + 1)), (by first | rfl | (simp; done) | (simp [*]; done)), (by first | rfl | (simp; done) | (simp [*]; done)), H', ⟨by have := HK1.out; have := HK2.out; omega⟩, ⟨sB BK157.out⟩, ⟨by repeat (first | exact sW HB.out | refine sS ?_)⟩⟩
            ·rw [if_neg c23] at H
             have c23b0 : (t164 == 0) = false := beq_eq_false_iff_ne.mpr c23
             have c23b1 : (t164 != 0) = true := bne_iff_ne.mpr c23
             obtain rfl := Option.some.inj H
             have hcz27_0 := c0 BK157.out
             have hcz27_1 := c1 BK157.out
             have hfz27_0 := blk_frozen BK157.out 0
             have hfz27_1 := blk_frozen BK157.out 1
             have p162 : 0 ≤ (x4_1 : Int) := of_decide_eq_true (by assumption)
             have q162 : x4_1 < (l0_1.length : Int) := of_decide_eq_true (by assumption)
             obtain ⟨ad162, e162, hx162_0, hx162_1⟩ := at_T50 HR0_1.out x4_1 p162 q162
             obtain rfl : ad158 = ad162 := (by injection e162)
             replace hx162_0 := (HB.out.cell (World.block_lt_of_cell? w _ hx162_0)).trans hx162_0
             replace hx162_1 := (HB.out.cell (World.block_lt_of_cell? w _ hx162_1)).trans hx162_1
             replace p162 := eq_true p162
             replace q162 := eq_true q162
             go_wp2_with (first | (go_at_call 63; (with_reducible refine (concordanceref02_Tokens.calls k2 ((rd_T50 l0_1 x4_1).f1) t163 t164 _ A22.out).mono ?_); rintro e w28 ⟨v165, rfl, ho0, hb⟩; have HO166 := sA (Kd.R_lower ho0 (below_size (by repeat (first | exact sW HB.out | refine sS ?_)))); replace BK157 := sA (blk_below (sB BK157.out) hb); replace HB := sA (below_step (by repeat (first | exact sW HB.out | refine sS ?_)) hb); (try clear hb); (try clear hb2); (try clear hk); (try clear hi); (try clear ho0)))
             repeat (go_quiet (first | (go_at_call 63; (with_reducible refine (concordanceref02_Tokens.calls k2 ((rd_T50 l0_1 x4_1).f1) t163 t164 _ A22.out).mono ?_); rintro e w28 ⟨v165, rfl, ho0, hb⟩; have HO166 := sA (Kd.R_lower ho0 (below_size (by repeat (first | exact sW HB.out | refine sS ?_)))); replace BK157 := sA (blk_below (sB BK157.out) hb); replace HB := sA (below_step (by repeat (first | exact sW HB.out | refine sS ?_)) hb); (try clear hb); (try clear hb2); (try clear hk); (try clear hi); (try clear ho0))); try go_wp2_with (first | (go_at_call 63; (with_reducible refine (concordanceref02_Tokens.calls k2 ((rd_T50 l0_1 x4_1).f1) t163 t164 _ A22.out).mono ?_); rintro e w28 ⟨v165, rfl, ho0, hb⟩; have HO166 := sA (Kd.R_lower ho0 (below_size (by repeat (first | exact sW HB.out | refine sS ?_)))); replace BK157 := sA (blk_below (sB BK157.out) hb); replace HB := sA (below_step (by repeat (first | exact sW HB.out | refine sS ?_)) hb); (try clear hb); (try clear hb2); (try clear hk); (try clear hi); (try clear ho0))))
             go_ret
             exact ⟨by first | rfl | (simp [errW_none, errW_some] <;> rfl) | (simp [*, errW_none, errW_some] <;> rfl), by repeat (first | exact sW HB.out | refine sS ?_)⟩
           ·rw [if_neg c21] at H
            exact absurd H (by simp)
          ·rw [if_neg c20] at H
           exact absurd H (by simp)
      ·replace c10 := Bool.eq_false_iff.mpr c10
       subst c10
       have H1 : (some 4) = some r := by rw [if_neg (show ¬ (false = true) by decide)] at H; exact H
       clear H
       have H := H1
       clear H1
       obtain rfl := Option.some.inj H
       have hcz29_0 := c0 BK157.out
       have hcz29_1 := c1 BK157.out
       have hfz29_0 := blk_frozen BK157.out 0
       have hfz29_1 := blk_frozen BK157.out 1
       have p158 : 0 ≤ (x4_1 : Int) := of_decide_eq_true (by assumption)
       have q158 : x4_1 < (l0_1.length : Int) := of_decide_eq_true (by assumption)
       obtain ⟨ad158, e158, hx158_0, hx158_1⟩ := at_T50 HR0_1.out x4_1 p158 q158
       cases e158
       replace hx158_0 := (HB.out.cell (World.block_lt_of_cell? w _ hx158_0)).trans hx158_0
       replace hx158_1 := (HB.out.cell (World.block_lt_of_cell? w _ hx158_1)).trans hx158_1
       replace p158 := eq_true p158
       replace q158 := eq_true q158
       go_wp2_with (first | (go_at_call 40; (with_reducible refine (concordanceref08_Name.calls k1 ((rd_T50 l0_1 x4_1).f0) false _ A9.out).mono ?_); rintro e w' ⟨rfl, ⟨nd, rfl⟩⟩; (try first | exact ⟨rfl, _, World.drewN_drewN _ _ _⟩ | exact ⟨rfl, _, Eq.trans (World.drewN_drewN _ _ _) (congrArg (World.drewN _) (Nat.add_assoc _ _ _))⟩)))
       repeat (go_quiet (first | (go_at_call 40; (with_reducible refine (concordanceref08_Name.calls k1 ((rd_T50 l0_1 x4_1).f0) false _ A9.out).mono ?_); rintro e w' ⟨rfl, ⟨nd, rfl⟩⟩; (try first | exact ⟨rfl, _, World.drewN_drewN _ _ _⟩ | exact ⟨rfl, _, Eq.trans (World.drewN_drewN _ _ _) (congrArg (World.drewN _) (Nat.add_assoc _ _ _))⟩))); try go_wp2_with (first | (go_at_call 40; (with_reducible refine (concordanceref08_Name.calls k1 ((rd_T50 l0_1 x4_1).f0) false _ A9.out).mono ?_); rintro e w' ⟨rfl, ⟨nd, rfl⟩⟩; (try first | exact ⟨rfl, _, World.drewN_drewN _ _ _⟩ | exact ⟨rfl, _, Eq.trans (World.drewN_drewN _ _ _) (congrArg (World.drewN _) (Nat.add_assoc _ _ _))⟩))))
       go_ret
       exact ⟨by first | rfl | (simp [errW_none, errW_some] <;> rfl) | (simp [*, errW_none, errW_some] <;> rfl), by repeat (first | exact sW HB.out | refine sS ?_)⟩
     ·rw [if_neg c8] at H
      exact absurd H (by simp)
    ·rw [if_neg c7] at H
     have c7b0 : decide (x4_1 < (l0_1.length : Int)) = false := decide_eq_false c7
     clear c7
     by_cases c30 : x3_1 > 500
     ·rw [if_pos c30] at H
      have c30b0 : decide (500 < x3_1) = true := decide_eq_true c30
      clear c30
      obtain rfl := Option.some.inj H
      have hcz31_0 := c0 BK157.out
      have hcz31_1 := c1 BK157.out
      have hfz31_0 := blk_frozen BK157.out 0
      have hfz31_1 := blk_frozen BK157.out 1
      go_wp2
      repeat (go_quiet (fail); try go_wp2)
      go_ret
      exact ⟨by first | rfl | (simp [errW_none, errW_some] <;> rfl) | (simp [*, errW_none, errW_some] <;> rfl), by repeat (first | exact sW HB.out | refine sS ?_)⟩
     ·rw [if_neg c30] at H
      have c30b0 : decide (500 < x3_1) = false := decide_eq_false c30
      clear c30
      obtain rfl := Option.some.inj H
      have hcz32_0 := c0 BK157.out
      have hcz32_1 := c1 BK157.out
      have hfz32_0 := blk_frozen BK157.out 0
      have hfz32_1 := blk_frozen BK157.out 1
      go_wp2
      repeat (go_quiet (fail); try go_wp2)
      go_ret
      exact ⟨by first | rfl | (simp [errW_none, errW_some] <;> rfl) | (simp [*, errW_none, errW_some] <;> rfl), by repeat (first | exact sW HB.out | refine sS ?_)⟩

end Go.Proofs.YteidebllianiiaaGreatDoor.PAll
