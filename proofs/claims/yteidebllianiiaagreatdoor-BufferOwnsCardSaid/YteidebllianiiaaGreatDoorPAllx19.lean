-- written by a program of this session (wip/px): the walk of printed functions
import Derived.Test.YteidebllianiiaaGreatDoorPAllx0
import Derived.Test.YteidebllianiiaaGreatDoorSq
import Derived.Test.YteidebllianiiaaGreatDoorPAllx13
import Derived.Test.YteidebllianiiaaGreatDoorPAllx16
import Derived.Test.YteidebllianiiaaGreatDoorPAllx18
namespace Go.Proofs.YteidebllianiiaaGreatDoor.PAll
open Go.RowKit Go.Proofs.YteidebllianiiaaGreatDoorW.PrintWords Go.Proofs.YteidebllianiiaaGreatDoorW.PrintLast Go.Proofs.YteidebllianiiaaGreatDoorW.PrintMore
attribute [local go_sem] max2_int min2_int max_two min_two max_three min_three max_four min_four   -- for this text's walks alone
set_option linter.unusedVariables false
set_option linter.unusedSimpArgs false

/-! ### concordanceref09_Keys: function 36 -/
mutual
def concordanceref09_Keys.l0 : Nat → List (S33) → List ByteArray → Int → Option (List ByteArray)
 | 0, _, _, _ => none
 | k + 1, x0, x3, x4 => if x4 < (x0.length : Int) then (if 0 ≤ x4 then ((concordanceref08_Terms.f k ((rd_T33 x0 x4).f0.f0) ((rd_T33 x0 x4).f0.f1)).bind fun t444 => (concordanceref09_Keys.l1 k x0 x3 x4 t444 0)) else (none)) else (some x3)
def concordanceref09_Keys.l1 : Nat → List (S33) → List ByteArray → Int → List (S70) → Int → Option (List ByteArray)
 | 0, _, _, _, _, _ => none
 | k + 1, x0, x3, x4, x5, x6 => if x6 < (x5.length : Int) then (if 0 ≤ x6 then ((concordanceref02_Key.f ((rd_T70 x5 x6).f0) ((rd_T70 x5 x6).f1)).bind fun t448 => ((concordanceref07_Put.f k x3 t448).bind fun t449 => (concordanceref09_Keys.l1 k x0 t449 x4 x5 (wrap64 (x6 + 1))))) else (none)) else (concordanceref09_Keys.l0 k x0 x3 (wrap64 (x4 + 1)))
end
def concordanceref09_Keys.f (k : Nat) (l0 : List (S33)) : Option (List ByteArray) := concordanceref09_Keys.l0 k l0 ([] : List ByteArray) 0
theorem concordanceref09_Keys.mono_l : ∀ k, (∀ y0 y1 y2, LeO (concordanceref09_Keys.l0 k y0 y1 y2) (concordanceref09_Keys.l0 (k + 1) y0 y1 y2)) ∧ (∀ y0 y1 y2 y3 y4, LeO (concordanceref09_Keys.l1 k y0 y1 y2 y3 y4) (concordanceref09_Keys.l1 (k + 1) y0 y1 y2 y3 y4))
 | 0 => ⟨fun _ _ _ r h => by simp [concordanceref09_Keys.l0] at h, fun _ _ _ _ _ r h => by simp [concordanceref09_Keys.l1] at h⟩
 | k + 1 => by
  obtain ⟨ih0, ih1⟩ := concordanceref09_Keys.mono_l k
  refine ⟨?_, ?_⟩
  ·intro y0 y1 y2
   unfold concordanceref09_Keys.l0
   repeat' first
   | (with_reducible exact ih0 _ _ _)
   | (with_reducible exact ih1 _ _ _ _ _)
   | (with_reducible exact concordanceref07_Put.mono _ _ _)
   | (with_reducible exact concordanceref08_Terms.mono _ _ _)
   | (with_reducible exact LeO.refl _)
   | (with_reducible exact LeO.none _)
   | (with_reducible refine LeO.ite ?_ ?_)
   | (with_reducible refine LeO.bind ?_ (fun _ => ?_))
   | exact ih0 _ _ _
   | exact ih1 _ _ _ _ _
   | exact concordanceref07_Put.mono _ _ _
   | exact concordanceref08_Terms.mono _ _ _
   | exact LeO.none _
   | refine LeO.ite ?_ ?_
   | refine LeO.bind ?_ (fun _ => ?_)
  ·intro y0 y1 y2 y3 y4
   unfold concordanceref09_Keys.l1
   repeat' first
   | (with_reducible exact ih0 _ _ _)
   | (with_reducible exact ih1 _ _ _ _ _)
   | (with_reducible exact concordanceref07_Put.mono _ _ _)
   | (with_reducible exact concordanceref08_Terms.mono _ _ _)
   | (with_reducible exact LeO.refl _)
   | (with_reducible exact LeO.none _)
   | (with_reducible refine LeO.ite ?_ ?_)
   | (with_reducible refine LeO.bind ?_ (fun _ => ?_))
   | exact ih0 _ _ _
   | exact ih1 _ _ _ _ _
   | exact concordanceref07_Put.mono _ _ _
   | exact concordanceref08_Terms.mono _ _ _
   | exact LeO.none _
   | refine LeO.ite ?_ ?_
   | refine LeO.bind ?_ (fun _ => ?_)
theorem concordanceref09_Keys.mono : ∀ a0 k, LeO (concordanceref09_Keys.f k a0) (concordanceref09_Keys.f (k + 1) a0) := by
 intro a0 k
 obtain ⟨ih0, ih1⟩ := concordanceref09_Keys.mono_l k
 unfold concordanceref09_Keys.f
 repeat' first
   | (with_reducible exact ih0 _ _ _)
   | (with_reducible exact ih1 _ _ _ _ _)
   | (with_reducible exact concordanceref07_Put.mono _ _ _)
   | (with_reducible exact concordanceref08_Terms.mono _ _ _)
   | (with_reducible exact LeO.refl _)
   | (with_reducible exact LeO.none _)
   | (with_reducible refine LeO.ite ?_ ?_)
   | (with_reducible refine LeO.bind ?_ (fun _ => ?_))
   | exact ih0 _ _ _
   | exact ih1 _ _ _ _ _
   | exact concordanceref07_Put.mono _ _ _
   | exact concordanceref08_Terms.mono _ _ _
   | exact LeO.none _
   | refine LeO.ite ?_ ?_
   | refine LeO.bind ?_ (fun _ => ?_)
set_option maxHeartbeats 8000000 in
set_option maxRecDepth 100000 in
theorem concordanceref09_Keys.calls (k : Nat) (A0 : Option Addr) (c0 : Nat) (l0 : List (S33)) (r : List ByteArray) (w : World) (hr0 : Kd.C k33 w A0 l0.length l0) (hc0 : l0.length ≤ c0) (h : concordanceref09_Keys.f k l0 = some r) :
  Calls Tryz.prog 36 #[.slice A0 l0.length c0] w fun e w' => ∃ v0_ : Value, e = .returned (v0_) ∧ Kd.R Kd.string 9 w' w.heap.size (fun _ => True) v0_ r ∧ Below w.heap.size w w' := by
 have hu31 := Tryz.underlying31
 have hu70 := Tryz.underlying70
 have HR0 := Aside0.mk hr0
 have HC0 := Aside0.mk hc0
 clear hr0 hc0
 have HB := sA (Below.refl w.heap.size w)
 have H : (concordanceref09_Keys.l0 k l0 ([] : List ByteArray) 0) = some r := h
 clear h
 have H' := Aside0.mk H
 clear H
 go_enter Tryz.func36, Tryz.ntmps36
 go_wp2
 go_loopg [3, 4] k (fun kq v3 v4 w' => ∃ (x3_1 : List ByteArray) (x4_1 : Int), v4 = .int .i64 x4_1 ∧ Aside0 (concordanceref09_Keys.l0 kq l0 x3_1 x4_1 = some r) ∧ Aside0 (kq ≤ k) ∧ Aside0 (Kd.R Kd.string 9 w' w.heap.size (fun _ => True) v3 x3_1) ∧ Aside0 (Below w.heap.size w w'))
 case atStart => exact ⟨(([] : List ByteArray)), (0), (by first | rfl | (simp; done) | (simp [*]; done)), H', ⟨Nat.le_refl _⟩, ⟨by first | exact Kd.R_nil _ _ _ _ _ | exact Kd.N_nil _ _ _ _ _ | exact Kd.V_nil _ _ _ _ _ | exact Kd.Q_nil _ _ _ _ _ | exact Kd.S_nil _ _ _ _ _⟩, ⟨sW HB.out⟩⟩
 case round =>
  clear H'
  obtain ⟨x3_1, x4_1, rfl, HA, HK1, HO_3, HB⟩ := hrel
  cases gk with
  | zero => exact absurd HA.out (by simp [concordanceref09_Keys.l0])
  | succ k1 =>
   have H := HA.out
   clear HA
   simp only [concordanceref09_Keys.l0] at H
   by_cases c2 : x4_1 < (l0.length : Int)
   ·rw [if_pos c2] at H
    have c2b0 : decide (x4_1 < (l0.length : Int)) = true := decide_eq_true c2
    clear c2
    by_cases c3 : 0 ≤ x4_1
    ·rw [if_pos c3] at H
     have c3b0 : decide (0 ≤ x4_1) = true := decide_eq_true c3
     clear c3
     replace H := Option.bind_eq_some_iff.mp H
     obtain ⟨t444, A40, H⟩ := H
     have A4 := Aside0.mk A40
     clear A40
     have H' := Aside0.mk H
     clear H
     have p443 : 0 ≤ (x4_1 : Int) := of_decide_eq_true (by assumption)
     have q443 : x4_1 < (l0.length : Int) := of_decide_eq_true (by assumption)
     obtain ⟨ad443, A443_1, c443_1, e443, hx443_0, hx443_1, hx443_2, hl443_1, hi443_1⟩ := at_T33 HR0.out x4_1 p443 q443
     cases e443
     replace hx443_0 := (HB.out.cell (World.block_lt_of_cell? w _ hx443_0)).trans hx443_0
     replace hx443_1 := (HB.out.cell (World.block_lt_of_cell? w _ hx443_1)).trans hx443_1
     replace hx443_2 := (HB.out.cell (World.block_lt_of_cell? w _ hx443_2)).trans hx443_2
     have HR443_1 := Aside0.mk hi443_1
     have HC443_1 := Aside0.mk hl443_1
     clear hi443_1 hl443_1
     replace p443 := eq_true p443
     replace q443 := eq_true q443
     go_wp2_with (first | ((with_reducible refine gate_callee (f := 58) rfl ?_); refine goesL_ (some 18) rfl rfl Tryz.func58 (by kernel_rfl) rfl #[.agg #[.int .i64 ((rd_T33 l0 x4_1).f0.f0), .slice A443_1 ((rd_T33 l0 x4_1).f0.f1).length c443_1]] rfl (by (try simp only [List.map_toArray, List.map_cons, List.map_nil]); first | done | rfl | (simp only [List.length_drop, List.length_take]; rfl)) ?_; (with_reducible refine (concordanceref08_Terms.calls k1 ((rd_T33 l0 x4_1).f0.f0) _ _ ((rd_T33 l0 x4_1).f0.f1) t444 _ ?side1 ?side2 A4.out).mono ?_); (case side1 => repeat (first | exact (Kd.C_below HR443_1.out HB.out) | (with_reducible refine Kd.C_alloc ?_ _) | (with_reducible refine Kd.C_drewN ?_ _) | (with_reducible refine Kd.C_drew ?_))); (case side2 => exact HC443_1.out); rintro e w5 ⟨v445, rfl, ho0, hb⟩; refine ⟨_, rfl, ?_⟩; replace HO_3 := sA (Kd.R_below (sR HO_3.out) hb); have HO446 := sA (Kd.R_lower ho0 (below_size (sW HB.out))); replace HB := sA (below_step (sW HB.out) hb); (try clear hb); (try clear hb2); (try clear hk); (try clear hi); (try clear ho0)))
     go_loopg [3, 6] k1 (fun kq v3 v6 w' => ∃ (x3_2 : List ByteArray) (x6_2 : Int), v6 = .int .i64 x6_2 ∧ Aside0 (concordanceref09_Keys.l1 kq l0 x3_2 x4_1 t444 x6_2 = some r) ∧ Aside0 (kq ≤ k1) ∧ Aside0 (Kd.R Kd.string 9 w' w.heap.size (fun _ => True) v3 x3_2) ∧ Aside0 (Kd.R k70 70 w' w.heap.size (fun _ => True) v445 t444) ∧ Aside0 (Below w.heap.size w w'))
     case atStart => exact ⟨(x3_1), (0), (by first | rfl | (simp; done) | (simp [*]; done)), H', ⟨Nat.le_refl _⟩, ⟨sR HO_3.out⟩, ⟨sR HO446.out⟩, ⟨sW HB.out⟩⟩
     case round =>
      clear H'
      try clear c2; try clear c2b0; try clear p2; try clear c3; try clear c3b0; try clear c4; try clear p4; try clear q4; try clear hx4; try clear c5; try clear hx443_0; try clear hx443_1; try clear hx443_2; try clear p443; try clear q443
      obtain ⟨x3_2, x6_2, rfl, HA, HK2, HO_3, HO_5, HB⟩ := hrel
      cases gk with
      | zero => exact absurd HA.out (by simp [concordanceref09_Keys.l1])
      | succ k2 =>
       have H := HA.out
       clear HA
       simp only [concordanceref09_Keys.l1] at H
       by_cases c6 : x6_2 < (t444.length : Int)
       ·rw [if_pos c6] at H
        have c6b0 : decide (x6_2 < (t444.length : Int)) = true := decide_eq_true c6
        clear c6
        by_cases c7 : 0 ≤ x6_2
        ·rw [if_pos c7] at H
         have c7b0 : decide (0 ≤ x6_2) = true := decide_eq_true c7
         clear c7
         replace H := Option.bind_eq_some_iff.mp H
         obtain ⟨t448, A80, H⟩ := H
         have A8 := Aside0.mk A80
         clear A80
         replace H := Option.bind_eq_some_iff.mp H
         obtain ⟨t449, A90, H⟩ := H
         have A9 := Aside0.mk A90
         clear A90
         have H' := Aside0.mk H
         clear H
         obtain ⟨Ao10, co10, eo10⟩ := Kd.R_slice HO_5.out
         subst eo10
         have p447 : 0 ≤ (x6_2 : Int) := of_decide_eq_true (by assumption)
         have q447 : x6_2 < (t444.length : Int) := of_decide_eq_true (by assumption)
         obtain ⟨ad447, e447, hx447_0, hx447_1⟩ := at_T70 (Kd.R_reads' HO_5.out).2.2 x6_2 p447 q447
         cases e447
         replace p447 := eq_true p447
         replace q447 := eq_true q447
         go_wp2_with (first | ((with_reducible refine gate_callee (f := 60) rfl ?_); refine goesL_ (some 30) rfl rfl Tryz.func60 (by kernel_rfl) rfl #[.agg #[.string ((rd_T70 t444 x6_2).f0), .string ((rd_T70 t444 x6_2).f1)]] rfl (by (try simp only [List.map_toArray, List.map_cons, List.map_nil]); first | done | rfl | (simp only [List.length_drop, List.length_take]; rfl)) ?_; (with_reducible refine (concordanceref02_Key.calls ((rd_T70 t444 x6_2).f0) ((rd_T70 t444 x6_2).f1) t448 _ A8.out).mono ?_); rintro e w11 ⟨rfl, hb⟩; refine ⟨_, rfl, ?_⟩; replace HO_3 := sA (Kd.R_below (sR HO_3.out) hb); replace HO_5 := sA (Kd.R_below (sR HO_5.out) hb); replace HB := sA (below_step (sW HB.out) hb); (try clear hb); (try clear hb2); (try clear hk); (try clear hi); obtain ⟨Ao12, co12, eo12⟩ := Kd.R_slice HO_3.out; subst eo12) | ((with_reducible refine gate_callee (f := 59) rfl ?_); refine goesL_ (some 31) rfl rfl Tryz.func59 (by kernel_rfl) rfl #[.slice Ao12 x3_2.length co12, .string t448] rfl (by (try simp only [List.map_toArray, List.map_cons, List.map_nil]); first | done | rfl | (simp only [List.length_drop, List.length_take]; rfl)) ?_; (with_reducible refine (concordanceref07_Put.calls k2 (fun k_ => some k_ = (.slice Ao12 x3_2.length co12 : Value).ownBlock) (.slice Ao12 x3_2.length co12) x3_2 t448 t449 w _ ?side1 ?side2 A9.out).mono ?_); (case side1 => repeat (first | (with_reducible first | exact HB.out | apply below_alloc | apply pw_below_drewN | apply below_drew1) | exact HB.out)); (case side2 => exact Kd.R_tight rfl HO_3.out); rintro e w13 ⟨v450, rfl, ho0, hb, hkp⟩; refine ⟨_, rfl, ?_⟩; replace HO_5 := sA (Kd.R_mono (ok' := fun k_ => True) (Kd.R_keptB ((Kd.R_apart' HO_5.out (Kd.R_typed HO_3.out) (by decide))) hkp (fun k_ hk_ hs_ => (hk_.2) hs_)) (fun k_ hk_ => trivial)); have HO451 := sA (Kd.R_mono (ok' := fun k_ => True) ho0 (fun k_ hk_ => trivial)); replace HB := sA (hb); clear HO_3; (try clear hb); (try clear hkp); (try clear ho0)))
         go_roundg k2
         case measure => have := HK1.out; have := HK2.out; omega
         case rel => exact ⟨(t449), (wrap64 (x6_2 + 1)), (by first | rfl | (simp; done) | (simp [*]; done)), H', ⟨by have := HK1.out; have := HK2.out; omega⟩, ⟨sR HO451.out⟩, ⟨sR HO_5.out⟩, ⟨sW HB.out⟩⟩
        ·rw [if_neg c7] at H
         exact absurd H (by simp)
       ·rw [if_neg c6] at H
        have c6b0 : decide (x6_2 < (t444.length : Int)) = false := decide_eq_false c6
        clear c6
        have H' := Aside0.mk H
        clear H
        obtain ⟨Ao14, co14, eo14⟩ := Kd.R_slice HO_5.out
        subst eo14
        go_wp2
        go_roundg k2
        case measure => have := HK1.out; have := HK2.out; omega
        case rel => exact ⟨(x3_2), (wrap64 (x4_1 + 1)), (by first | rfl | (simp; done) | (simp [*]; done)), H', ⟨by have := HK1.out; have := HK2.out; omega⟩, ⟨sR HO_3.out⟩, ⟨sW HB.out⟩⟩
    ·rw [if_neg c3] at H
     exact absurd H (by simp)
   ·rw [if_neg c2] at H
    have c2b0 : decide (x4_1 < (l0.length : Int)) = false := decide_eq_false c2
    clear c2
    obtain rfl := Option.some.inj H
    go_wp2
    go_ret
    exact ⟨_, by first | rfl | (simp [errW_none, errW_some] <;> rfl) | (simp [*, errW_none, errW_some] <;> rfl), sR HO_3.out, sW HB.out⟩

/-! ### concordanceref02_Same: function 37 -/
def concordanceref02_Same.l0 : Nat → List ByteArray → List ByteArray → Int → Option (Bool)
 | 0, _, _, _ => none
 | k + 1, x0, x1, x5 => if x5 < (x0.length : Int) then (if 0 ≤ x5 then (if x5 < (x1.length : Int) then (if (rdOf ByteArray.empty x0 x5).toList = (rdOf ByteArray.empty x1 x5).toList then (concordanceref02_Same.l0 k x0 x1 (wrap64 (x5 + 1))) else (some false)) else (none)) else (none)) else (some true)
def concordanceref02_Same.f (k : Nat) (l0 : List ByteArray) (l1 : List ByteArray) : Option (Bool) := if (l0.length : Int) = (l1.length : Int) then (concordanceref02_Same.l0 k l0 l1 0) else (some false)
theorem concordanceref02_Same.mono_l : ∀ k, (∀ y0 y1 y2, LeO (concordanceref02_Same.l0 k y0 y1 y2) (concordanceref02_Same.l0 (k + 1) y0 y1 y2))
 | 0 => fun _ _ _ r h => by simp [concordanceref02_Same.l0] at h
 | k + 1 => by
  have ih0 := concordanceref02_Same.mono_l k
  ·intro y0 y1 y2
   unfold concordanceref02_Same.l0
   repeat' first
   | (with_reducible exact ih0 _ _ _)
   | (with_reducible exact LeO.refl _)
   | (with_reducible exact LeO.none _)
   | (with_reducible refine LeO.ite ?_ ?_)
   | (with_reducible refine LeO.bind ?_ (fun _ => ?_))
   | exact ih0 _ _ _
   | exact LeO.none _
   | refine LeO.ite ?_ ?_
   | refine LeO.bind ?_ (fun _ => ?_)
theorem concordanceref02_Same.mono : ∀ a0 a1 k, LeO (concordanceref02_Same.f k a0 a1) (concordanceref02_Same.f (k + 1) a0 a1) := by
 intro a0 a1 k
 have ih0 := concordanceref02_Same.mono_l k
 unfold concordanceref02_Same.f
 repeat' first
   | (with_reducible exact ih0 _ _ _)
   | (with_reducible exact LeO.refl _)
   | (with_reducible exact LeO.none _)
   | (with_reducible refine LeO.ite ?_ ?_)
   | (with_reducible refine LeO.bind ?_ (fun _ => ?_))
   | exact ih0 _ _ _
   | exact LeO.none _
   | refine LeO.ite ?_ ?_
   | refine LeO.bind ?_ (fun _ => ?_)
set_option maxHeartbeats 8000000 in
set_option maxRecDepth 100000 in
theorem concordanceref02_Same.calls (k : Nat) (A0 : Option Addr) (c0 : Nat) (l0 : List ByteArray) (A1 : Option Addr) (c1 : Nat) (l1 : List ByteArray) (r : Bool) (w : World) (hr0 : Kd.C Kd.string w A0 l0.length l0) (hc0 : l0.length ≤ c0) (hr1 : Kd.C Kd.string w A1 l1.length l1) (hc1 : l1.length ≤ c1) (h : concordanceref02_Same.f k l0 l1 = some r) :
  Calls Tryz.prog 37 #[.slice A0 l0.length c0, .slice A1 l1.length c1] w fun e w' => e = .returned (.bool r) ∧ Drawn0 w w' := by
 have HR0 := Aside0.mk hr0
 have HC0 := Aside0.mk hc0
 clear hr0 hc0
 have HR1 := Aside0.mk hr1
 have HC1 := Aside0.mk hc1
 clear hr1 hc1
 have H : (if (l0.length : Int) = (l1.length : Int) then (concordanceref02_Same.l0 k l0 l1 0) else (some false)) = some r := h
 clear h
 by_cases c3 : (l0.length : Int) = (l1.length : Int)
 ·rw [if_pos c3] at H
  have c3b0 : ((l0.length : Int) == (l1.length : Int)) = true := beq_iff_eq.mpr c3
  have c3b1 : ((l0.length : Int) != (l1.length : Int)) = false := bne_eq_false_iff_eq.mpr c3
  have c3b2 : (l0.length == l1.length) = true := by first | simpa using c3 | (simp at c3 ⊢; omega)
  clear c3
  have H' := Aside0.mk H
  clear H
  go_enter Tryz.func37, Tryz.ntmps37
  go_wp2
  repeat (go_quiet (fail); try go_wp2)
  go_loopg [5] k (fun kq v5 w' => ∃ (x5_1 : Int), v5 = .int .i64 x5_1 ∧ Aside0 (concordanceref02_Same.l0 kq l0 l1 x5_1 = some r) ∧ Aside0 (kq ≤ k) ∧ Drawn0 w w')
  case atStart => exact ⟨(0), (by first | rfl | (simp; done) | (simp [*]; done)), H', ⟨Nat.le_refl _⟩, by repeat (first | exact Drawn0.refl _ | apply Drawn0.step)⟩
  case round =>
   clear H'
   try clear c1; try clear p2; try clear c3; try clear c3b0; try clear c3b1; try clear c3b2
   obtain ⟨x5_1, rfl, HA, HK1, ⟨m1, rfl⟩⟩ := hrel
   cases gk with
   | zero => exact absurd HA.out (by simp [concordanceref02_Same.l0])
   | succ k1 =>
    have H := HA.out
    clear HA
    simp only [concordanceref02_Same.l0] at H
    by_cases c4 : x5_1 < (l0.length : Int)
    ·rw [if_pos c4] at H
     have c4b0 : decide (x5_1 < (l0.length : Int)) = true := decide_eq_true c4
     clear c4
     by_cases c5 : 0 ≤ x5_1
     ·rw [if_pos c5] at H
      have c5b0 : decide (0 ≤ x5_1) = true := decide_eq_true c5
      clear c5
      by_cases c6 : x5_1 < (l1.length : Int)
      ·rw [if_pos c6] at H
       have c6b0 : decide (x5_1 < (l1.length : Int)) = true := decide_eq_true c6
       clear c6
       by_cases c7 : (rdOf ByteArray.empty l0 x5_1).toList = (rdOf ByteArray.empty l1 x5_1).toList
       ·rw [if_pos c7] at H
        have c7b0 : ((rdOf ByteArray.empty l0 x5_1).toList == (rdOf ByteArray.empty l1 x5_1).toList) = true := beq_iff_eq.mpr c7
        have c7b1 : ((rdOf ByteArray.empty l0 x5_1).toList != (rdOf ByteArray.empty l1 x5_1).toList) = false := bne_eq_false_iff_eq.mpr c7
        clear c7
        have H' := Aside0.mk H
        clear H
        have p452 : 0 ≤ (x5_1 : Int) := of_decide_eq_true (by assumption)
        have q452 : x5_1 < (l0.length : Int) := of_decide_eq_true (by assumption)
        obtain ⟨ad452, e452, hx452_0⟩ := Kd.at_string HR0.out x5_1 p452 q452
        cases e452
        replace p452 := eq_true p452
        replace q452 := eq_true q452
        have p453 : 0 ≤ (x5_1 : Int) := of_decide_eq_true (by assumption)
        have q453 : x5_1 < (l1.length : Int) := of_decide_eq_true (by assumption)
        obtain ⟨ad453, e453, hx453_0⟩ := Kd.at_string HR1.out x5_1 p453 q453
        cases e453
        replace p453 := eq_true p453
        replace q453 := eq_true q453
        go_wp2
        repeat (go_quiet (fail); try go_wp2)
        go_roundg k1
        case measure => have := HK1.out; omega
        case rel => exact ⟨(wrap64 (x5_1 + 1)), (by first | rfl | (simp; done) | (simp [*]; done)), H', ⟨by have := HK1.out; omega⟩, by repeat (first | exact Drawn0.refl _ | apply Drawn0.step)⟩
       ·rw [if_neg c7] at H
        have c7b0 : ((rdOf ByteArray.empty l0 x5_1).toList == (rdOf ByteArray.empty l1 x5_1).toList) = false := beq_eq_false_iff_ne.mpr c7
        have c7b1 : ((rdOf ByteArray.empty l0 x5_1).toList != (rdOf ByteArray.empty l1 x5_1).toList) = true := bne_iff_ne.mpr c7
        obtain rfl := Option.some.inj H
        have p452 : 0 ≤ (x5_1 : Int) := of_decide_eq_true (by assumption)
        have q452 : x5_1 < (l0.length : Int) := of_decide_eq_true (by assumption)
        obtain ⟨ad452, e452, hx452_0⟩ := Kd.at_string HR0.out x5_1 p452 q452
        cases e452
        replace p452 := eq_true p452
        replace q452 := eq_true q452
        have p453 : 0 ≤ (x5_1 : Int) := of_decide_eq_true (by assumption)
        have q453 : x5_1 < (l1.length : Int) := of_decide_eq_true (by assumption)
        obtain ⟨ad453, e453, hx453_0⟩ := Kd.at_string HR1.out x5_1 p453 q453
        cases e453
        replace p453 := eq_true p453
        replace q453 := eq_true q453
        go_wp2
        repeat (go_quiet (fail); try go_wp2)
        go_ret
        exact ⟨by first | rfl | (simp; done) | (simp [*]; done), by repeat (first | exact Drawn0.refl _ | apply Drawn0.step)⟩
      ·rw [if_neg c6] at H
       exact absurd H (by simp)
     ·rw [if_neg c5] at H
      exact absurd H (by simp)
    ·rw [if_neg c4] at H
     have c4b0 : decide (x5_1 < (l0.length : Int)) = false := decide_eq_false c4
     clear c4
     obtain rfl := Option.some.inj H
     go_wp2
     repeat (go_quiet (fail); try go_wp2)
     go_ret
     exact ⟨by first | rfl | (simp; done) | (simp [*]; done), by repeat (first | exact Drawn0.refl _ | apply Drawn0.step)⟩
 ·rw [if_neg c3] at H
  have c3b0 : ((l0.length : Int) == (l1.length : Int)) = false := beq_eq_false_iff_ne.mpr c3
  have c3b1 : ((l0.length : Int) != (l1.length : Int)) = true := bne_iff_ne.mpr c3
  have c3b2 : (l0.length == l1.length) = false := by first | simpa using c3 | (simp at c3 ⊢; omega)
  obtain rfl := Option.some.inj H
  go_enter Tryz.func37, Tryz.ntmps37
  go_wp2
  repeat (go_quiet (fail); try go_wp2)
  go_ret
  exact ⟨by first | rfl | (simp; done) | (simp [*]; done), by repeat (first | exact Drawn0.refl _ | apply Drawn0.step)⟩

/-! ### concordanceref01_Same: function 61 -/
def concordanceref01_Same.l0 : Nat → List Int → List Int → Int → Option (Bool)
 | 0, _, _, _ => none
 | k + 1, x0, x1, x5 => if x5 < (x0.length : Int) then (if 0 ≤ x5 then (if x5 < (x1.length : Int) then (if (rd x0 x5) = (rd x1 x5) then (concordanceref01_Same.l0 k x0 x1 (wrap64 (x5 + 1))) else (some false)) else (none)) else (none)) else (some true)
def concordanceref01_Same.f (k : Nat) (l0 : List Int) (l1 : List Int) : Option (Bool) := if (l0.length : Int) = (l1.length : Int) then (concordanceref01_Same.l0 k l0 l1 0) else (some false)
theorem concordanceref01_Same.mono_l : ∀ k, (∀ y0 y1 y2, LeO (concordanceref01_Same.l0 k y0 y1 y2) (concordanceref01_Same.l0 (k + 1) y0 y1 y2))
 | 0 => fun _ _ _ r h => by simp [concordanceref01_Same.l0] at h
 | k + 1 => by
  have ih0 := concordanceref01_Same.mono_l k
  ·intro y0 y1 y2
   unfold concordanceref01_Same.l0
   repeat' first
   | (with_reducible exact ih0 _ _ _)
   | (with_reducible exact LeO.refl _)
   | (with_reducible exact LeO.none _)
   | (with_reducible refine LeO.ite ?_ ?_)
   | (with_reducible refine LeO.bind ?_ (fun _ => ?_))
   | exact ih0 _ _ _
   | exact LeO.none _
   | refine LeO.ite ?_ ?_
   | refine LeO.bind ?_ (fun _ => ?_)
theorem concordanceref01_Same.mono : ∀ a0 a1 k, LeO (concordanceref01_Same.f k a0 a1) (concordanceref01_Same.f (k + 1) a0 a1) := by
 intro a0 a1 k
 have ih0 := concordanceref01_Same.mono_l k
 unfold concordanceref01_Same.f
 repeat' first
   | (with_reducible exact ih0 _ _ _)
   | (with_reducible exact LeO.refl _)
   | (with_reducible exact LeO.none _)
   | (with_reducible refine LeO.ite ?_ ?_)
   | (with_reducible refine LeO.bind ?_ (fun _ => ?_))
   | exact ih0 _ _ _
   | exact LeO.none _
   | refine LeO.ite ?_ ?_
   | refine LeO.bind ?_ (fun _ => ?_)
set_option maxHeartbeats 8000000 in
set_option maxRecDepth 100000 in
theorem concordanceref01_Same.calls (k : Nat) (A0 : Option Addr) (c0 : Nat) (l0 : List Int) (A1 : Option Addr) (c1 : Nat) (l1 : List Int) (r : Bool) (w : World) (hr0 : Kd.C (Kd.int .i64) w A0 l0.length l0) (hc0 : l0.length ≤ c0) (hr1 : Kd.C (Kd.int .i64) w A1 l1.length l1) (hc1 : l1.length ≤ c1) (h : concordanceref01_Same.f k l0 l1 = some r) :
  Calls Tryz.prog 61 #[.slice A0 l0.length c0, .slice A1 l1.length c1] w fun e w' => e = .returned (.bool r) ∧ Drawn0 w w' := by
 have HR0 := Aside0.mk hr0
 have HC0 := Aside0.mk hc0
 clear hr0 hc0
 have HR1 := Aside0.mk hr1
 have HC1 := Aside0.mk hc1
 clear hr1 hc1
 have H : (if (l0.length : Int) = (l1.length : Int) then (concordanceref01_Same.l0 k l0 l1 0) else (some false)) = some r := h
 clear h
 by_cases c3 : (l0.length : Int) = (l1.length : Int)
 ·rw [if_pos c3] at H
  have c3b0 : ((l0.length : Int) == (l1.length : Int)) = true := beq_iff_eq.mpr c3
  have c3b1 : ((l0.length : Int) != (l1.length : Int)) = false := bne_eq_false_iff_eq.mpr c3
  have c3b2 : (l0.length == l1.length) = true := by first | simpa using c3 | (simp at c3 ⊢; omega)
  clear c3
  have H' := Aside0.mk H
  clear H
  go_enter Tryz.func61, Tryz.ntmps61
  go_wp2
  repeat (go_quiet (fail); try go_wp2)
  go_loopg [5] k (fun kq v5 w' => ∃ (x5_1 : Int), v5 = .int .i64 x5_1 ∧ Aside0 (concordanceref01_Same.l0 kq l0 l1 x5_1 = some r) ∧ Aside0 (kq ≤ k) ∧ Drawn0 w w')
  case atStart => exact ⟨(0), (by first | rfl | (simp; done) | (simp [*]; done)), H', ⟨Nat.le_refl _⟩, by repeat (first | exact Drawn0.refl _ | apply Drawn0.step)⟩
  case round =>
   clear H'
   try clear c1; try clear p2; try clear c3; try clear c3b0; try clear c3b1; try clear c3b2
   obtain ⟨x5_1, rfl, HA, HK1, ⟨m1, rfl⟩⟩ := hrel
   cases gk with
   | zero => exact absurd HA.out (by simp [concordanceref01_Same.l0])
   | succ k1 =>
    have H := HA.out
    clear HA
    simp only [concordanceref01_Same.l0] at H
    by_cases c4 : x5_1 < (l0.length : Int)
    ·rw [if_pos c4] at H
     have c4b0 : decide (x5_1 < (l0.length : Int)) = true := decide_eq_true c4
     clear c4
     by_cases c5 : 0 ≤ x5_1
     ·rw [if_pos c5] at H
      have c5b0 : decide (0 ≤ x5_1) = true := decide_eq_true c5
      clear c5
      by_cases c6 : x5_1 < (l1.length : Int)
      ·rw [if_pos c6] at H
       have c6b0 : decide (x5_1 < (l1.length : Int)) = true := decide_eq_true c6
       clear c6
       by_cases c7 : (rd l0 x5_1) = (rd l1 x5_1)
       ·rw [if_pos c7] at H
        have c7b0 : ((rd l0 x5_1) == (rd l1 x5_1)) = true := beq_iff_eq.mpr c7
        have c7b1 : ((rd l0 x5_1) != (rd l1 x5_1)) = false := bne_eq_false_iff_eq.mpr c7
        clear c7
        have H' := Aside0.mk H
        clear H
        have p454 : 0 ≤ (x5_1 : Int) := of_decide_eq_true (by assumption)
        have q454 : x5_1 < (l0.length : Int) := of_decide_eq_true (by assumption)
        obtain ⟨ad454, e454, hx454_0⟩ := Kd.at_int HR0.out x5_1 p454 q454
        cases e454
        replace p454 := eq_true p454
        replace q454 := eq_true q454
        have p455 : 0 ≤ (x5_1 : Int) := of_decide_eq_true (by assumption)
        have q455 : x5_1 < (l1.length : Int) := of_decide_eq_true (by assumption)
        obtain ⟨ad455, e455, hx455_0⟩ := Kd.at_int HR1.out x5_1 p455 q455
        cases e455
        replace p455 := eq_true p455
        replace q455 := eq_true q455
        go_wp2
        repeat (go_quiet (fail); try go_wp2)
        go_roundg k1
        case measure => have := HK1.out; omega
        case rel => exact ⟨(wrap64 (x5_1 + 1)), (by first | rfl | (simp; done) | (simp [*]; done)), H', ⟨by have := HK1.out; omega⟩, by repeat (first | exact Drawn0.refl _ | apply Drawn0.step)⟩
       ·rw [if_neg c7] at H
        have c7b0 : ((rd l0 x5_1) == (rd l1 x5_1)) = false := beq_eq_false_iff_ne.mpr c7
        have c7b1 : ((rd l0 x5_1) != (rd l1 x5_1)) = true := bne_iff_ne.mpr c7
        obtain rfl := Option.some.inj H
        have p454 : 0 ≤ (x5_1 : Int) := of_decide_eq_true (by assumption)
        have q454 : x5_1 < (l0.length : Int) := of_decide_eq_true (by assumption)
        obtain ⟨ad454, e454, hx454_0⟩ := Kd.at_int HR0.out x5_1 p454 q454
        cases e454
        replace p454 := eq_true p454
        replace q454 := eq_true q454
        have p455 : 0 ≤ (x5_1 : Int) := of_decide_eq_true (by assumption)
        have q455 : x5_1 < (l1.length : Int) := of_decide_eq_true (by assumption)
        obtain ⟨ad455, e455, hx455_0⟩ := Kd.at_int HR1.out x5_1 p455 q455
        cases e455
        replace p455 := eq_true p455
        replace q455 := eq_true q455
        go_wp2
        repeat (go_quiet (fail); try go_wp2)
        go_ret
        exact ⟨by first | rfl | (simp; done) | (simp [*]; done), by repeat (first | exact Drawn0.refl _ | apply Drawn0.step)⟩
      ·rw [if_neg c6] at H
       exact absurd H (by simp)
     ·rw [if_neg c5] at H
      exact absurd H (by simp)
    ·rw [if_neg c4] at H
     have c4b0 : decide (x5_1 < (l0.length : Int)) = false := decide_eq_false c4
     clear c4
     obtain rfl := Option.some.inj H
     go_wp2
     repeat (go_quiet (fail); try go_wp2)
     go_ret
     exact ⟨by first | rfl | (simp; done) | (simp [*]; done), by repeat (first | exact Drawn0.refl _ | apply Drawn0.step)⟩
 ·rw [if_neg c3] at H
  have c3b0 : ((l0.length : Int) == (l1.length : Int)) = false := beq_eq_false_iff_ne.mpr c3
  have c3b1 : ((l0.length : Int) != (l1.length : Int)) = true := bne_iff_ne.mpr c3
  have c3b2 : (l0.length == l1.length) = false := by first | simpa using c3 | (simp at c3 ⊢; omega)
  obtain rfl := Option.some.inj H
  go_enter Tryz.func61, Tryz.ntmps61
  go_wp2
  repeat (go_quiet (fail); try go_wp2)
  go_ret
  exact ⟨by first | rfl | (simp; done) | (simp [*]; done), by repeat (first | exact Drawn0.refl _ | apply Drawn0.step)⟩

/-! ### concordanceref05_Same: function 38 -/
def concordanceref05_Same.l0 : Nat → List (S41) → List (S41) → Int → Option (Bool)
 | 0, _, _, _ => none
 | k + 1, x0, x1, x5 => if x5 < (x0.length : Int) then (if 0 ≤ x5 then (if x5 < (x1.length : Int) then ((concordanceref01_Same.f k ((rd_T41 x0 x5).f1) ((rd_T41 x1 x5).f1)).bind fun t458 => (if ((rd_T41 x0 x5).f0) = ((rd_T41 x1 x5).f0) then (if t458 = true then (concordanceref05_Same.l0 k x0 x1 (wrap64 (x5 + 1))) else (some false)) else (some false))) else (none)) else (none)) else (some true)
def concordanceref05_Same.f (k : Nat) (l0 : List (S41)) (l1 : List (S41)) : Option (Bool) := if (l0.length : Int) = (l1.length : Int) then (concordanceref05_Same.l0 k l0 l1 0) else (some false)
theorem concordanceref05_Same.mono_l : ∀ k, (∀ y0 y1 y2, LeO (concordanceref05_Same.l0 k y0 y1 y2) (concordanceref05_Same.l0 (k + 1) y0 y1 y2))
 | 0 => fun _ _ _ r h => by simp [concordanceref05_Same.l0] at h
 | k + 1 => by
  have ih0 := concordanceref05_Same.mono_l k
  ·intro y0 y1 y2
   unfold concordanceref05_Same.l0
   repeat' first
   | (with_reducible exact ih0 _ _ _)
   | (with_reducible exact concordanceref01_Same.mono _ _ _)
   | (with_reducible exact LeO.refl _)
   | (with_reducible exact LeO.none _)
   | (with_reducible refine LeO.ite ?_ ?_)
   | (with_reducible refine LeO.bind ?_ (fun _ => ?_))
   | exact ih0 _ _ _
   | exact concordanceref01_Same.mono _ _ _
   | exact LeO.none _
   | refine LeO.ite ?_ ?_
   | refine LeO.bind ?_ (fun _ => ?_)
theorem concordanceref05_Same.mono : ∀ a0 a1 k, LeO (concordanceref05_Same.f k a0 a1) (concordanceref05_Same.f (k + 1) a0 a1) := by
 intro a0 a1 k
 have ih0 := concordanceref05_Same.mono_l k
 unfold concordanceref05_Same.f
 repeat' first
   | (with_reducible exact ih0 _ _ _)
   | (with_reducible exact concordanceref01_Same.mono _ _ _)
   | (with_reducible exact LeO.refl _)
   | (with_reducible exact LeO.none _)
   | (with_reducible refine LeO.ite ?_ ?_)
   | (with_reducible refine LeO.bind ?_ (fun _ => ?_))
   | exact ih0 _ _ _
   | exact concordanceref01_Same.mono _ _ _
   | exact LeO.none _
   | refine LeO.ite ?_ ?_
   | refine LeO.bind ?_ (fun _ => ?_)
set_option maxHeartbeats 8000000 in
set_option maxRecDepth 100000 in
theorem concordanceref05_Same.calls (k : Nat) (A0 : Option Addr) (c0 : Nat) (l0 : List (S41)) (A1 : Option Addr) (c1 : Nat) (l1 : List (S41)) (r : Bool) (w : World) (hr0 : Kd.C k41 w A0 l0.length l0) (hc0 : l0.length ≤ c0) (hr1 : Kd.C k41 w A1 l1.length l1) (hc1 : l1.length ≤ c1) (h : concordanceref05_Same.f k l0 l1 = some r) :
  Calls Tryz.prog 38 #[.slice A0 l0.length c0, .slice A1 l1.length c1] w fun e w' => e = .returned (.bool r) ∧ Drawn0 w w' := by
 have HR0 := Aside0.mk hr0
 have HC0 := Aside0.mk hc0
 clear hr0 hc0
 have HR1 := Aside0.mk hr1
 have HC1 := Aside0.mk hc1
 clear hr1 hc1
 have H : (if (l0.length : Int) = (l1.length : Int) then (concordanceref05_Same.l0 k l0 l1 0) else (some false)) = some r := h
 clear h
 by_cases c3 : (l0.length : Int) = (l1.length : Int)
 ·rw [if_pos c3] at H
  have c3b0 : ((l0.length : Int) == (l1.length : Int)) = true := beq_iff_eq.mpr c3
  have c3b1 : ((l0.length : Int) != (l1.length : Int)) = false := bne_eq_false_iff_eq.mpr c3
  have c3b2 : (l0.length == l1.length) = true := by first | simpa using c3 | (simp at c3 ⊢; omega)
  clear c3
  have H' := Aside0.mk H
  clear H
  go_enter Tryz.func38, Tryz.ntmps38
  go_wp2
  repeat (go_quiet (fail); try go_wp2)
  go_loopg [5] k (fun kq v5 w' => ∃ (x5_1 : Int), v5 = .int .i64 x5_1 ∧ Aside0 (concordanceref05_Same.l0 kq l0 l1 x5_1 = some r) ∧ Aside0 (kq ≤ k) ∧ Drawn0 w w')
  case atStart => exact ⟨(0), (by first | rfl | (simp; done) | (simp [*]; done)), H', ⟨Nat.le_refl _⟩, by repeat (first | exact Drawn0.refl _ | apply Drawn0.step)⟩
  case round =>
   clear H'
   try clear c1; try clear p2; try clear c3; try clear c3b0; try clear c3b1; try clear c3b2
   obtain ⟨x5_1, rfl, HA, HK1, ⟨m1, rfl⟩⟩ := hrel
   cases gk with
   | zero => exact absurd HA.out (by simp [concordanceref05_Same.l0])
   | succ k1 =>
    have H := HA.out
    clear HA
    simp only [concordanceref05_Same.l0] at H
    by_cases c4 : x5_1 < (l0.length : Int)
    ·rw [if_pos c4] at H
     have c4b0 : decide (x5_1 < (l0.length : Int)) = true := decide_eq_true c4
     clear c4
     by_cases c5 : 0 ≤ x5_1
     ·rw [if_pos c5] at H
      have c5b0 : decide (0 ≤ x5_1) = true := decide_eq_true c5
      clear c5
      by_cases c6 : x5_1 < (l1.length : Int)
      ·rw [if_pos c6] at H
       have c6b0 : decide (x5_1 < (l1.length : Int)) = true := decide_eq_true c6
       clear c6
       replace H := Option.bind_eq_some_iff.mp H
       obtain ⟨t458, A70, H⟩ := H
       have A7 := Aside0.mk A70
       clear A70
       by_cases c8 : ((rd_T41 l0 x5_1).f0) = ((rd_T41 l1 x5_1).f0)
       ·rw [if_pos c8] at H
        have c8b0 : (((rd_T41 l0 x5_1).f0) == ((rd_T41 l1 x5_1).f0)) = true := beq_iff_eq.mpr c8
        have c8b1 : (((rd_T41 l0 x5_1).f0) != ((rd_T41 l1 x5_1).f0)) = false := bne_eq_false_iff_eq.mpr c8
        clear c8
        by_cases c9 : t458 = true
        ·subst c9
         have H1 : (concordanceref05_Same.l0 k1 l0 l1 (wrap64 (x5_1 + 1))) = some r := by rw [if_pos rfl] at H; exact H
         clear H
         have H := H1
         clear H1
         have H' := Aside0.mk H
         clear H
         have p456 : 0 ≤ (x5_1 : Int) := of_decide_eq_true (by assumption)
         have q456 : x5_1 < (l0.length : Int) := of_decide_eq_true (by assumption)
         obtain ⟨ad456, A456_1, c456_1, e456, hx456_0, hx456_1, hl456_1, hi456_1⟩ := at_T41 HR0.out x5_1 p456 q456
         cases e456
         have HR456_1 := Aside0.mk hi456_1
         have HC456_1 := Aside0.mk hl456_1
         clear hi456_1 hl456_1
         replace p456 := eq_true p456
         replace q456 := eq_true q456
         have p457 : 0 ≤ (x5_1 : Int) := of_decide_eq_true (by assumption)
         have q457 : x5_1 < (l1.length : Int) := of_decide_eq_true (by assumption)
         obtain ⟨ad457, A457_1, c457_1, e457, hx457_0, hx457_1, hl457_1, hi457_1⟩ := at_T41 HR1.out x5_1 p457 q457
         cases e457
         have HR457_1 := Aside0.mk hi457_1
         have HC457_1 := Aside0.mk hl457_1
         clear hi457_1 hl457_1
         replace p457 := eq_true p457
         replace q457 := eq_true q457
         go_wp2_with (first | (go_at_call 61; (with_reducible refine (concordanceref01_Same.calls k1 _ _ ((rd_T41 l0 x5_1).f1) _ _ ((rd_T41 l1 x5_1).f1) true _ ?side1 ?side2 ?side3 ?side4 A7.out).mono ?_); (case side1 => repeat (first | exact HR456_1.out | (with_reducible refine Kd.C_alloc ?_ _) | (with_reducible refine Kd.C_drewN ?_ _) | (with_reducible refine Kd.C_drew ?_))); (case side2 => exact HC456_1.out); (case side3 => repeat (first | exact HR457_1.out | (with_reducible refine Kd.C_alloc ?_ _) | (with_reducible refine Kd.C_drewN ?_ _) | (with_reducible refine Kd.C_drew ?_))); (case side4 => exact HC457_1.out); rintro e w' ⟨rfl, ⟨nd, rfl⟩⟩; (try first | exact ⟨rfl, _, World.drewN_drewN _ _ _⟩ | exact ⟨rfl, _, Eq.trans (World.drewN_drewN _ _ _) (congrArg (World.drewN _) (Nat.add_assoc _ _ _))⟩); have p459 : 0 ≤ (x5_1 : Int) := of_decide_eq_true (by assumption); have q459 : x5_1 < (l0.length : Int) := of_decide_eq_true (by assumption); obtain ⟨ad459, A459_1, c459_1, e459, hx459_0, hx459_1, hl459_1, hi459_1⟩ := at_T41 HR0.out x5_1 p459 q459; obtain rfl : ad456 = ad459 := (by injection e459); have HR459_1 := Aside0.mk hi459_1; have HC459_1 := Aside0.mk hl459_1; clear hi459_1 hl459_1; replace p459 := eq_true p459; replace q459 := eq_true q459; have ea_ := Option.some.inj (hx456_1.symm.trans hx459_1); injection ea_ with ea_ en_ ec_; subst ea_; subst ec_; clear en_; have p460 : 0 ≤ (x5_1 : Int) := of_decide_eq_true (by assumption); have q460 : x5_1 < (l1.length : Int) := of_decide_eq_true (by assumption); obtain ⟨ad460, A460_1, c460_1, e460, hx460_0, hx460_1, hl460_1, hi460_1⟩ := at_T41 HR1.out x5_1 p460 q460; obtain rfl : ad457 = ad460 := (by injection e460); have HR460_1 := Aside0.mk hi460_1; have HC460_1 := Aside0.mk hl460_1; clear hi460_1 hl460_1; replace p460 := eq_true p460; replace q460 := eq_true q460; have ea_ := Option.some.inj (hx457_1.symm.trans hx460_1); injection ea_ with ea_ en_ ec_; subst ea_; subst ec_; clear en_))
         repeat (go_quiet (first | (go_at_call 61; (with_reducible refine (concordanceref01_Same.calls k1 _ _ ((rd_T41 l0 x5_1).f1) _ _ ((rd_T41 l1 x5_1).f1) true _ ?side1 ?side2 ?side3 ?side4 A7.out).mono ?_); (case side1 => repeat (first | exact HR456_1.out | (with_reducible refine Kd.C_alloc ?_ _) | (with_reducible refine Kd.C_drewN ?_ _) | (with_reducible refine Kd.C_drew ?_))); (case side2 => exact HC456_1.out); (case side3 => repeat (first | exact HR457_1.out | (with_reducible refine Kd.C_alloc ?_ _) | (with_reducible refine Kd.C_drewN ?_ _) | (with_reducible refine Kd.C_drew ?_))); (case side4 => exact HC457_1.out); rintro e w' ⟨rfl, ⟨nd, rfl⟩⟩; (try first | exact ⟨rfl, _, World.drewN_drewN _ _ _⟩ | exact ⟨rfl, _, Eq.trans (World.drewN_drewN _ _ _) (congrArg (World.drewN _) (Nat.add_assoc _ _ _))⟩); have p459 : 0 ≤ (x5_1 : Int) := of_decide_eq_true (by assumption); have q459 : x5_1 < (l0.length : Int) := of_decide_eq_true (by assumption); obtain ⟨ad459, A459_1, c459_1, e459, hx459_0, hx459_1, hl459_1, hi459_1⟩ := at_T41 HR0.out x5_1 p459 q459; obtain rfl : ad456 = ad459 := (by injection e459); have HR459_1 := Aside0.mk hi459_1; have HC459_1 := Aside0.mk hl459_1; clear hi459_1 hl459_1; replace p459 := eq_true p459; replace q459 := eq_true q459; have ea_ := Option.some.inj (hx456_1.symm.trans hx459_1); injection ea_ with ea_ en_ ec_; subst ea_; subst ec_; clear en_; have p460 : 0 ≤ (x5_1 : Int) := of_decide_eq_true (by assumption); have q460 : x5_1 < (l1.length : Int) := of_decide_eq_true (by assumption); obtain ⟨ad460, A460_1, c460_1, e460, hx460_0, hx460_1, hl460_1, hi460_1⟩ := at_T41 HR1.out x5_1 p460 q460; obtain rfl : ad457 = ad460 := (by injection e460); have HR460_1 := Aside0.mk hi460_1; have HC460_1 := Aside0.mk hl460_1; clear hi460_1 hl460_1; replace p460 := eq_true p460; replace q460 := eq_true q460; have ea_ := Option.some.inj (hx457_1.symm.trans hx460_1); injection ea_ with ea_ en_ ec_; subst ea_; subst ec_; clear en_)); try go_wp2_with (first | (go_at_call 61; (with_reducible refine (concordanceref01_Same.calls k1 _ _ ((rd_T41 l0 x5_1).f1) _ _ ((rd_T41 l1 x5_1).f1) true _ ?side1 ?side2 ?side3 ?side4 A7.out).mono ?_); (case side1 => repeat (first | exact HR456_1.out | (with_reducible refine Kd.C_alloc ?_ _) | (with_reducible refine Kd.C_drewN ?_ _) | (with_reducible refine Kd.C_drew ?_))); (case side2 => exact HC456_1.out); (case side3 => repeat (first | exact HR457_1.out | (with_reducible refine Kd.C_alloc ?_ _) | (with_reducible refine Kd.C_drewN ?_ _) | (with_reducible refine Kd.C_drew ?_))); (case side4 => exact HC457_1.out); rintro e w' ⟨rfl, ⟨nd, rfl⟩⟩; (try first | exact ⟨rfl, _, World.drewN_drewN _ _ _⟩ | exact ⟨rfl, _, Eq.trans (World.drewN_drewN _ _ _) (congrArg (World.drewN _) (Nat.add_assoc _ _ _))⟩); have p459 : 0 ≤ (x5_1 : Int) := of_decide_eq_true (by assumption); have q459 : x5_1 < (l0.length : Int) := of_decide_eq_true (by assumption); obtain ⟨ad459, A459_1, c459_1, e459, hx459_0, hx459_1, hl459_1, hi459_1⟩ := at_T41 HR0.out x5_1 p459 q459; obtain rfl : ad456 = ad459 := (by injection e459); have HR459_1 := Aside0.mk hi459_1; have HC459_1 := Aside0.mk hl459_1; clear hi459_1 hl459_1; replace p459 := eq_true p459; replace q459 := eq_true q459; have ea_ := Option.some.inj (hx456_1.symm.trans hx459_1); injection ea_ with ea_ en_ ec_; subst ea_; subst ec_; clear en_; have p460 : 0 ≤ (x5_1 : Int) := of_decide_eq_true (by assumption); have q460 : x5_1 < (l1.length : Int) := of_decide_eq_true (by assumption); obtain ⟨ad460, A460_1, c460_1, e460, hx460_0, hx460_1, hl460_1, hi460_1⟩ := at_T41 HR1.out x5_1 p460 q460; obtain rfl : ad457 = ad460 := (by injection e460); have HR460_1 := Aside0.mk hi460_1; have HC460_1 := Aside0.mk hl460_1; clear hi460_1 hl460_1; replace p460 := eq_true p460; replace q460 := eq_true q460; have ea_ := Option.some.inj (hx457_1.symm.trans hx460_1); injection ea_ with ea_ en_ ec_; subst ea_; subst ec_; clear en_)))
         go_roundg k1
         case measure => have := HK1.out; omega
         case rel => exact ⟨(wrap64 (x5_1 + 1)), (by first | rfl | (simp; done) | (simp [*]; done)), H', ⟨by have := HK1.out; omega⟩, by repeat (first | exact Drawn0.refl _ | apply Drawn0.step)⟩
        ·replace c9 := Bool.eq_false_iff.mpr c9
         subst c9
         have H1 : (some false) = some r := by rw [if_neg (show ¬ (false = true) by decide)] at H; exact H
         clear H
         have H := H1
         clear H1
         obtain rfl := Option.some.inj H
         have p456 : 0 ≤ (x5_1 : Int) := of_decide_eq_true (by assumption)
         have q456 : x5_1 < (l0.length : Int) := of_decide_eq_true (by assumption)
         obtain ⟨ad456, A456_1, c456_1, e456, hx456_0, hx456_1, hl456_1, hi456_1⟩ := at_T41 HR0.out x5_1 p456 q456
         cases e456
         have HR456_1 := Aside0.mk hi456_1
         have HC456_1 := Aside0.mk hl456_1
         clear hi456_1 hl456_1
         replace p456 := eq_true p456
         replace q456 := eq_true q456
         have p457 : 0 ≤ (x5_1 : Int) := of_decide_eq_true (by assumption)
         have q457 : x5_1 < (l1.length : Int) := of_decide_eq_true (by assumption)
         obtain ⟨ad457, A457_1, c457_1, e457, hx457_0, hx457_1, hl457_1, hi457_1⟩ := at_T41 HR1.out x5_1 p457 q457
         cases e457
         have HR457_1 := Aside0.mk hi457_1
         have HC457_1 := Aside0.mk hl457_1
         clear hi457_1 hl457_1
         replace p457 := eq_true p457
         replace q457 := eq_true q457
         go_wp2_with (first | (go_at_call 61; (with_reducible refine (concordanceref01_Same.calls k1 _ _ ((rd_T41 l0 x5_1).f1) _ _ ((rd_T41 l1 x5_1).f1) false _ ?side1 ?side2 ?side3 ?side4 A7.out).mono ?_); (case side1 => repeat (first | exact HR456_1.out | (with_reducible refine Kd.C_alloc ?_ _) | (with_reducible refine Kd.C_drewN ?_ _) | (with_reducible refine Kd.C_drew ?_))); (case side2 => exact HC456_1.out); (case side3 => repeat (first | exact HR457_1.out | (with_reducible refine Kd.C_alloc ?_ _) | (with_reducible refine Kd.C_drewN ?_ _) | (with_reducible refine Kd.C_drew ?_))); (case side4 => exact HC457_1.out); rintro e w' ⟨rfl, ⟨nd, rfl⟩⟩; (try first | exact ⟨rfl, _, World.drewN_drewN _ _ _⟩ | exact ⟨rfl, _, Eq.trans (World.drewN_drewN _ _ _) (congrArg (World.drewN _) (Nat.add_assoc _ _ _))⟩); have p459 : 0 ≤ (x5_1 : Int) := of_decide_eq_true (by assumption); have q459 : x5_1 < (l0.length : Int) := of_decide_eq_true (by assumption); obtain ⟨ad459, A459_1, c459_1, e459, hx459_0, hx459_1, hl459_1, hi459_1⟩ := at_T41 HR0.out x5_1 p459 q459; obtain rfl : ad456 = ad459 := (by injection e459); have HR459_1 := Aside0.mk hi459_1; have HC459_1 := Aside0.mk hl459_1; clear hi459_1 hl459_1; replace p459 := eq_true p459; replace q459 := eq_true q459; have ea_ := Option.some.inj (hx456_1.symm.trans hx459_1); injection ea_ with ea_ en_ ec_; subst ea_; subst ec_; clear en_; have p460 : 0 ≤ (x5_1 : Int) := of_decide_eq_true (by assumption); have q460 : x5_1 < (l1.length : Int) := of_decide_eq_true (by assumption); obtain ⟨ad460, A460_1, c460_1, e460, hx460_0, hx460_1, hl460_1, hi460_1⟩ := at_T41 HR1.out x5_1 p460 q460; obtain rfl : ad457 = ad460 := (by injection e460); have HR460_1 := Aside0.mk hi460_1; have HC460_1 := Aside0.mk hl460_1; clear hi460_1 hl460_1; replace p460 := eq_true p460; replace q460 := eq_true q460; have ea_ := Option.some.inj (hx457_1.symm.trans hx460_1); injection ea_ with ea_ en_ ec_; subst ea_; subst ec_; clear en_))
         repeat (go_quiet (first | (go_at_call 61; (with_reducible refine (concordanceref01_Same.calls k1 _ _ ((rd_T41 l0 x5_1).f1) _ _ ((rd_T41 l1 x5_1).f1) false _ ?side1 ?side2 ?side3 ?side4 A7.out).mono ?_); (case side1 => repeat (first | exact HR456_1.out | (with_reducible refine Kd.C_alloc ?_ _) | (with_reducible refine Kd.C_drewN ?_ _) | (with_reducible refine Kd.C_drew ?_))); (case side2 => exact HC456_1.out); (case side3 => repeat (first | exact HR457_1.out | (with_reducible refine Kd.C_alloc ?_ _) | (with_reducible refine Kd.C_drewN ?_ _) | (with_reducible refine Kd.C_drew ?_))); (case side4 => exact HC457_1.out); rintro e w' ⟨rfl, ⟨nd, rfl⟩⟩; (try first | exact ⟨rfl, _, World.drewN_drewN _ _ _⟩ | exact ⟨rfl, _, Eq.trans (World.drewN_drewN _ _ _) (congrArg (World.drewN _) (Nat.add_assoc _ _ _))⟩); have p459 : 0 ≤ (x5_1 : Int) := of_decide_eq_true (by assumption); have q459 : x5_1 < (l0.length : Int) := of_decide_eq_true (by assumption); obtain ⟨ad459, A459_1, c459_1, e459, hx459_0, hx459_1, hl459_1, hi459_1⟩ := at_T41 HR0.out x5_1 p459 q459; obtain rfl : ad456 = ad459 := (by injection e459); have HR459_1 := Aside0.mk hi459_1; have HC459_1 := Aside0.mk hl459_1; clear hi459_1 hl459_1; replace p459 := eq_true p459; replace q459 := eq_true q459; have ea_ := Option.some.inj (hx456_1.symm.trans hx459_1); injection ea_ with ea_ en_ ec_; subst ea_; subst ec_; clear en_; have p460 : 0 ≤ (x5_1 : Int) := of_decide_eq_true (by assumption); have q460 : x5_1 < (l1.length : Int) := of_decide_eq_true (by assumption); obtain ⟨ad460, A460_1, c460_1, e460, hx460_0, hx460_1, hl460_1, hi460_1⟩ := at_T41 HR1.out x5_1 p460 q460; obtain rfl : ad457 = ad460 := (by injection e460); have HR460_1 := Aside0.mk hi460_1; have HC460_1 := Aside0.mk hl460_1; clear hi460_1 hl460_1; replace p460 := eq_true p460; replace q460 := eq_true q460; have ea_ := Option.some.inj (hx457_1.symm.trans hx460_1); injection ea_ with ea_ en_ ec_; subst ea_; subst ec_; clear en_)); try go_wp2_with (first | (go_at_call 61; (with_reducible refine (concordanceref01_Same.calls k1 _ _ ((rd_T41 l0 x5_1).f1) _ _ ((rd_T41 l1 x5_1).f1) false _ ?side1 ?side2 ?side3 ?side4 A7.out).mono ?_); (case side1 => repeat (first | exact HR456_1.out | (with_reducible refine Kd.C_alloc ?_ _) | (with_reducible refine Kd.C_drewN ?_ _) | (with_reducible refine Kd.C_drew ?_))); (case side2 => exact HC456_1.out); (case side3 => repeat (first | exact HR457_1.out | (with_reducible refine Kd.C_alloc ?_ _) | (with_reducible refine Kd.C_drewN ?_ _) | (with_reducible refine Kd.C_drew ?_))); (case side4 => exact HC457_1.out); rintro e w' ⟨rfl, ⟨nd, rfl⟩⟩; (try first | exact ⟨rfl, _, World.drewN_drewN _ _ _⟩ | exact ⟨rfl, _, Eq.trans (World.drewN_drewN _ _ _) (congrArg (World.drewN _) (Nat.add_assoc _ _ _))⟩); have p459 : 0 ≤ (x5_1 : Int) := of_decide_eq_true (by assumption); have q459 : x5_1 < (l0.length : Int) := of_decide_eq_true (by assumption); obtain ⟨ad459, A459_1, c459_1, e459, hx459_0, hx459_1, hl459_1, hi459_1⟩ := at_T41 HR0.out x5_1 p459 q459; obtain rfl : ad456 = ad459 := (by injection e459); have HR459_1 := Aside0.mk hi459_1; have HC459_1 := Aside0.mk hl459_1; clear hi459_1 hl459_1; replace p459 := eq_true p459; replace q459 := eq_true q459; have ea_ := Option.some.inj (hx456_1.symm.trans hx459_1); injection ea_ with ea_ en_ ec_; subst ea_; subst ec_; clear en_; have p460 : 0 ≤ (x5_1 : Int) := of_decide_eq_true (by assumption); have q460 : x5_1 < (l1.length : Int) := of_decide_eq_true (by assumption); obtain ⟨ad460, A460_1, c460_1, e460, hx460_0, hx460_1, hl460_1, hi460_1⟩ := at_T41 HR1.out x5_1 p460 q460; obtain rfl : ad457 = ad460 := (by injection e460); have HR460_1 := Aside0.mk hi460_1; have HC460_1 := Aside0.mk hl460_1; clear hi460_1 hl460_1; replace p460 := eq_true p460; replace q460 := eq_true q460; have ea_ := Option.some.inj (hx457_1.symm.trans hx460_1); injection ea_ with ea_ en_ ec_; subst ea_; subst ec_; clear en_)))
         go_ret
         exact ⟨by first | rfl | (simp; done) | (simp [*]; done), by repeat (first | exact Drawn0.refl _ | apply Drawn0.step)⟩
       ·rw [if_neg c8] at H
        have c8b0 : (((rd_T41 l0 x5_1).f0) == ((rd_T41 l1 x5_1).f0)) = false := beq_eq_false_iff_ne.mpr c8
        have c8b1 : (((rd_T41 l0 x5_1).f0) != ((rd_T41 l1 x5_1).f0)) = true := bne_iff_ne.mpr c8
        obtain rfl := Option.some.inj H
        have p456 : 0 ≤ (x5_1 : Int) := of_decide_eq_true (by assumption)
        have q456 : x5_1 < (l0.length : Int) := of_decide_eq_true (by assumption)
        obtain ⟨ad456, A456_1, c456_1, e456, hx456_0, hx456_1, hl456_1, hi456_1⟩ := at_T41 HR0.out x5_1 p456 q456
        cases e456
        have HR456_1 := Aside0.mk hi456_1
        have HC456_1 := Aside0.mk hl456_1
        clear hi456_1 hl456_1
        replace p456 := eq_true p456
        replace q456 := eq_true q456
        have p457 : 0 ≤ (x5_1 : Int) := of_decide_eq_true (by assumption)
        have q457 : x5_1 < (l1.length : Int) := of_decide_eq_true (by assumption)
        obtain ⟨ad457, A457_1, c457_1, e457, hx457_0, hx457_1, hl457_1, hi457_1⟩ := at_T41 HR1.out x5_1 p457 q457
        cases e457
        have HR457_1 := Aside0.mk hi457_1
        have HC457_1 := Aside0.mk hl457_1
        clear hi457_1 hl457_1
        replace p457 := eq_true p457
        replace q457 := eq_true q457
        go_wp2_with (first | (go_at_call 61; (with_reducible refine (concordanceref01_Same.calls k1 _ _ ((rd_T41 l0 x5_1).f1) _ _ ((rd_T41 l1 x5_1).f1) t458 _ ?side1 ?side2 ?side3 ?side4 A7.out).mono ?_); (case side1 => repeat (first | exact HR456_1.out | (with_reducible refine Kd.C_alloc ?_ _) | (with_reducible refine Kd.C_drewN ?_ _) | (with_reducible refine Kd.C_drew ?_))); (case side2 => exact HC456_1.out); (case side3 => repeat (first | exact HR457_1.out | (with_reducible refine Kd.C_alloc ?_ _) | (with_reducible refine Kd.C_drewN ?_ _) | (with_reducible refine Kd.C_drew ?_))); (case side4 => exact HC457_1.out); rintro e w' ⟨rfl, ⟨nd, rfl⟩⟩; (try first | exact ⟨rfl, _, World.drewN_drewN _ _ _⟩ | exact ⟨rfl, _, Eq.trans (World.drewN_drewN _ _ _) (congrArg (World.drewN _) (Nat.add_assoc _ _ _))⟩); have p459 : 0 ≤ (x5_1 : Int) := of_decide_eq_true (by assumption); have q459 : x5_1 < (l0.length : Int) := of_decide_eq_true (by assumption); obtain ⟨ad459, A459_1, c459_1, e459, hx459_0, hx459_1, hl459_1, hi459_1⟩ := at_T41 HR0.out x5_1 p459 q459; obtain rfl : ad456 = ad459 := (by injection e459); have HR459_1 := Aside0.mk hi459_1; have HC459_1 := Aside0.mk hl459_1; clear hi459_1 hl459_1; replace p459 := eq_true p459; replace q459 := eq_true q459; have ea_ := Option.some.inj (hx456_1.symm.trans hx459_1); injection ea_ with ea_ en_ ec_; subst ea_; subst ec_; clear en_; have p460 : 0 ≤ (x5_1 : Int) := of_decide_eq_true (by assumption); have q460 : x5_1 < (l1.length : Int) := of_decide_eq_true (by assumption); obtain ⟨ad460, A460_1, c460_1, e460, hx460_0, hx460_1, hl460_1, hi460_1⟩ := at_T41 HR1.out x5_1 p460 q460; obtain rfl : ad457 = ad460 := (by injection e460); have HR460_1 := Aside0.mk hi460_1; have HC460_1 := Aside0.mk hl460_1; clear hi460_1 hl460_1; replace p460 := eq_true p460; replace q460 := eq_true q460; have ea_ := Option.some.inj (hx457_1.symm.trans hx460_1); injection ea_ with ea_ en_ ec_; subst ea_; subst ec_; clear en_))
        repeat (go_quiet (first | (go_at_call 61; (with_reducible refine (concordanceref01_Same.calls k1 _ _ ((rd_T41 l0 x5_1).f1) _ _ ((rd_T41 l1 x5_1).f1) t458 _ ?side1 ?side2 ?side3 ?side4 A7.out).mono ?_); (case side1 => repeat (first | exact HR456_1.out | (with_reducible refine Kd.C_alloc ?_ _) | (with_reducible refine Kd.C_drewN ?_ _) | (with_reducible refine Kd.C_drew ?_))); (case side2 => exact HC456_1.out); (case side3 => repeat (first | exact HR457_1.out | (with_reducible refine Kd.C_alloc ?_ _) | (with_reducible refine Kd.C_drewN ?_ _) | (with_reducible refine Kd.C_drew ?_))); (case side4 => exact HC457_1.out); rintro e w' ⟨rfl, ⟨nd, rfl⟩⟩; (try first | exact ⟨rfl, _, World.drewN_drewN _ _ _⟩ | exact ⟨rfl, _, Eq.trans (World.drewN_drewN _ _ _) (congrArg (World.drewN _) (Nat.add_assoc _ _ _))⟩); have p459 : 0 ≤ (x5_1 : Int) := of_decide_eq_true (by assumption); have q459 : x5_1 < (l0.length : Int) := of_decide_eq_true (by assumption); obtain ⟨ad459, A459_1, c459_1, e459, hx459_0, hx459_1, hl459_1, hi459_1⟩ := at_T41 HR0.out x5_1 p459 q459; obtain rfl : ad456 = ad459 := (by injection e459); have HR459_1 := Aside0.mk hi459_1; have HC459_1 := Aside0.mk hl459_1; clear hi459_1 hl459_1; replace p459 := eq_true p459; replace q459 := eq_true q459; have ea_ := Option.some.inj (hx456_1.symm.trans hx459_1); injection ea_ with ea_ en_ ec_; subst ea_; subst ec_; clear en_; have p460 : 0 ≤ (x5_1 : Int) := of_decide_eq_true (by assumption); have q460 : x5_1 < (l1.length : Int) := of_decide_eq_true (by assumption); obtain ⟨ad460, A460_1, c460_1, e460, hx460_0, hx460_1, hl460_1, hi460_1⟩ := at_T41 HR1.out x5_1 p460 q460; obtain rfl : ad457 = ad460 := (by injection e460); have HR460_1 := Aside0.mk hi460_1; have HC460_1 := Aside0.mk hl460_1; clear hi460_1 hl460_1; replace p460 := eq_true p460; replace q460 := eq_true q460; have ea_ := Option.some.inj (hx457_1.symm.trans hx460_1); injection ea_ with ea_ en_ ec_; subst ea_; subst ec_; clear en_)); try go_wp2_with (first | (go_at_call 61; (with_reducible refine (concordanceref01_Same.calls k1 _ _ ((rd_T41 l0 x5_1).f1) _ _ ((rd_T41 l1 x5_1).f1) t458 _ ?side1 ?side2 ?side3 ?side4 A7.out).mono ?_); (case side1 => repeat (first | exact HR456_1.out | (with_reducible refine Kd.C_alloc ?_ _) | (with_reducible refine Kd.C_drewN ?_ _) | (with_reducible refine Kd.C_drew ?_))); (case side2 => exact HC456_1.out); (case side3 => repeat (first | exact HR457_1.out | (with_reducible refine Kd.C_alloc ?_ _) | (with_reducible refine Kd.C_drewN ?_ _) | (with_reducible refine Kd.C_drew ?_))); (case side4 => exact HC457_1.out); rintro e w' ⟨rfl, ⟨nd, rfl⟩⟩; (try first | exact ⟨rfl, _, World.drewN_drewN _ _ _⟩ | exact ⟨rfl, _, Eq.trans (World.drewN_drewN _ _ _) (congrArg (World.drewN _) (Nat.add_assoc _ _ _))⟩); have p459 : 0 ≤ (x5_1 : Int) := of_decide_eq_true (by assumption); have q459 : x5_1 < (l0.length : Int) := of_decide_eq_true (by assumption); obtain ⟨ad459, A459_1, c459_1, e459, hx459_0, hx459_1, hl459_1, hi459_1⟩ := at_T41 HR0.out x5_1 p459 q459; obtain rfl : ad456 = ad459 := (by injection e459); have HR459_1 := Aside0.mk hi459_1; have HC459_1 := Aside0.mk hl459_1; clear hi459_1 hl459_1; replace p459 := eq_true p459; replace q459 := eq_true q459; have ea_ := Option.some.inj (hx456_1.symm.trans hx459_1); injection ea_ with ea_ en_ ec_; subst ea_; subst ec_; clear en_; have p460 : 0 ≤ (x5_1 : Int) := of_decide_eq_true (by assumption); have q460 : x5_1 < (l1.length : Int) := of_decide_eq_true (by assumption); obtain ⟨ad460, A460_1, c460_1, e460, hx460_0, hx460_1, hl460_1, hi460_1⟩ := at_T41 HR1.out x5_1 p460 q460; obtain rfl : ad457 = ad460 := (by injection e460); have HR460_1 := Aside0.mk hi460_1; have HC460_1 := Aside0.mk hl460_1; clear hi460_1 hl460_1; replace p460 := eq_true p460; replace q460 := eq_true q460; have ea_ := Option.some.inj (hx457_1.symm.trans hx460_1); injection ea_ with ea_ en_ ec_; subst ea_; subst ec_; clear en_)))
        go_ret
        exact ⟨by first | rfl | (simp; done) | (simp [*]; done), by repeat (first | exact Drawn0.refl _ | apply Drawn0.step)⟩
      ·rw [if_neg c6] at H
       exact absurd H (by simp)
     ·rw [if_neg c5] at H
      exact absurd H (by simp)
    ·rw [if_neg c4] at H
     have c4b0 : decide (x5_1 < (l0.length : Int)) = false := decide_eq_false c4
     clear c4
     obtain rfl := Option.some.inj H
     go_wp2
     repeat (go_quiet (fail); try go_wp2)
     go_ret
     exact ⟨by first | rfl | (simp; done) | (simp [*]; done), by repeat (first | exact Drawn0.refl _ | apply Drawn0.step)⟩
 ·rw [if_neg c3] at H
  have c3b0 : ((l0.length : Int) == (l1.length : Int)) = false := beq_eq_false_iff_ne.mpr c3
  have c3b1 : ((l0.length : Int) != (l1.length : Int)) = true := bne_iff_ne.mpr c3
  have c3b2 : (l0.length == l1.length) = false := by first | simpa using c3 | (simp at c3 ⊢; omega)
  obtain rfl := Option.some.inj H
  go_enter Tryz.func38, Tryz.ntmps38
  go_wp2
  repeat (go_quiet (fail); try go_wp2)
  go_ret
  exact ⟨by first | rfl | (simp; done) | (simp [*]; done), by repeat (first | exact Drawn0.refl _ | apply Drawn0.step)⟩

/-! ### concordanceref08_Places: function 62 -/
def concordanceref08_Places.l0 : Nat → List Int → List ByteArray → Int → ByteArray → ByteArray → Option (List Int)
 | 0, _, _, _, _, _ => none
 | k + 1, x5, x6, x7, x463000, x463001 => if x7 < (x6.length : Int) then (if 0 ≤ x7 then (if (rdOf ByteArray.empty x6 x7).toList = x463001.toList then (if x5.length < 17592186044416 then (concordanceref08_Places.l0 k (x5 ++ [x7]) x6 (wrap64 (x7 + 1)) x463000 x463001) else (none)) else (concordanceref08_Places.l0 k x5 x6 (wrap64 (x7 + 1)) x463000 x463001)) else (none)) else (some x5)
def concordanceref08_Places.f (k : Nat) (a0_0 : Int) (l0_1 : List (S50)) (a1_0 : ByteArray) (a1_1 : ByteArray) : Option (List Int) := (concordanceref08_Words.f k a0_0 l0_1 a1_0).bind fun t463 => (concordanceref08_Places.l0 k ([] : List Int) t463 0 a1_0 a1_1)
theorem concordanceref08_Places.mono_l : ∀ k, (∀ y0 y1 y2 y3 y4, LeO (concordanceref08_Places.l0 k y0 y1 y2 y3 y4) (concordanceref08_Places.l0 (k + 1) y0 y1 y2 y3 y4))
 | 0 => fun _ _ _ _ _ r h => by simp [concordanceref08_Places.l0] at h
 | k + 1 => by
  have ih0 := concordanceref08_Places.mono_l k
  ·intro y0 y1 y2 y3 y4
   unfold concordanceref08_Places.l0
   repeat' first
   | (with_reducible exact ih0 _ _ _ _ _)
   | (with_reducible exact concordanceref08_Words.mono _ _ _ _)
   | (with_reducible exact LeO.refl _)
   | (with_reducible exact LeO.none _)
   | (with_reducible refine LeO.ite ?_ ?_)
   | (with_reducible refine LeO.bind ?_ (fun _ => ?_))
   | exact ih0 _ _ _ _ _
   | exact concordanceref08_Words.mono _ _ _ _
   | exact LeO.none _
   | refine LeO.ite ?_ ?_
   | refine LeO.bind ?_ (fun _ => ?_)
theorem concordanceref08_Places.mono : ∀ a0 a1 a2 a3 k, LeO (concordanceref08_Places.f k a0 a1 a2 a3) (concordanceref08_Places.f (k + 1) a0 a1 a2 a3) := by
 intro a0 a1 a2 a3 k
 have ih0 := concordanceref08_Places.mono_l k
 unfold concordanceref08_Places.f
 repeat' first
   | (with_reducible exact ih0 _ _ _ _ _)
   | (with_reducible exact concordanceref08_Words.mono _ _ _ _)
   | (with_reducible exact LeO.refl _)
   | (with_reducible exact LeO.none _)
   | (with_reducible refine LeO.ite ?_ ?_)
   | (with_reducible refine LeO.bind ?_ (fun _ => ?_))
   | exact ih0 _ _ _ _ _
   | exact concordanceref08_Words.mono _ _ _ _
   | exact LeO.none _
   | refine LeO.ite ?_ ?_
   | refine LeO.bind ?_ (fun _ => ?_)
set_option maxHeartbeats 8000000 in
set_option maxRecDepth 100000 in
theorem concordanceref08_Places.calls (k : Nat) (a0_0 : Int) (A0_1 : Option Addr) (c0_1 : Nat) (l0_1 : List (S50)) (a1_0 : ByteArray) (a1_1 : ByteArray) (r : List Int) (w : World) (hr0_1 : Kd.C k50 w A0_1 l0_1.length l0_1) (hc0_1 : l0_1.length ≤ c0_1) (h : concordanceref08_Places.f k a0_0 l0_1 a1_0 a1_1 = some r) :
  Calls Tryz.prog 62 #[.agg #[.int .i64 a0_0, .slice A0_1 l0_1.length c0_1], .agg #[.string a1_0, .string a1_1]] w fun e w' => ∃ v0_ : Value, e = .returned (v0_) ∧ Kd.R (Kd.int .i64) 3 w' w.heap.size (fun _ => True) v0_ r ∧ Below w.heap.size w w' := by
 have hu31 := Tryz.underlying31
 have hu70 := Tryz.underlying70
 have HR0_1 := Aside0.mk hr0_1
 have HC0_1 := Aside0.mk hc0_1
 clear hr0_1 hc0_1
 have HB := sA (Below.refl w.heap.size w)
 have H : ((concordanceref08_Words.f k a0_0 l0_1 a1_0).bind fun t463 => (concordanceref08_Places.l0 k ([] : List Int) t463 0 a1_0 a1_1)) = some r := h
 clear h
 replace H := Option.bind_eq_some_iff.mp H
 obtain ⟨t463, A30, H⟩ := H
 have A3 := Aside0.mk A30
 clear A30
 have H' := Aside0.mk H
 clear H
 go_enter Tryz.func62, Tryz.ntmps62
 go_wp2_with (first | ((with_reducible refine gate_dst (N := 2) rfl ?_); refine box_event ?hg (N := 2) ?hd (cs := #[.int .i64 a0_0, .slice A0_1 l0_1.length c0_1]) (t := 31) ?hr ?_; (case hd => rfl); (case hg => rfl); (case hr => first | (go_simp; done) | (go_simp; rfl)); intro gb461 hg w4 hbox hb; have BK461 := sA (hbox); have GW461 := sA ((by rw [hg]; exact (below_size (sW HB.out)) : w.heap.size ≤ gb461)); have GE461 := sA ((by rw [hg]; exact (below_size (sW HB.out)) : w.heap.size ≤ gb461)); replace HB := sA (below_step (sW HB.out) hb); clear hb hbox hg) | ((with_reducible refine gate_dst (N := 3) rfl ?_); refine box_event ?hg (N := 3) ?hd (cs := #[.string a1_0, .string a1_1]) (t := 70) ?hr ?_; (case hd => rfl); (case hg => rfl); (case hr => first | (go_simp; done) | (go_simp; rfl)); intro gb462 hg w5 hbox hb; have BK462 := sA (hbox); have GW462 := sA ((by rw [hg]; exact (below_size (by repeat (first | exact sW HB.out | refine sS ?_))) : w.heap.size ≤ gb462)); have GE462 := sA ((by rw [hg]; exact (below_size (by repeat (first | exact sW HB.out | refine sS ?_))) : w.heap.size ≤ gb462)); replace HB := sA (below_step (by repeat (first | exact sW HB.out | refine sS ?_)) hb); have NB461_462 := sA ((by rw [hg]; exact Nat.ne_of_lt (blk_lt (sB BK461.out)) : gb461 ≠ gb462)); have NB462_461 := sA ((by rw [hg]; exact Nat.ne_of_gt (blk_lt (sB BK461.out)) : gb462 ≠ gb461)); replace BK461 := sA (blk_below (sB BK461.out) hb); clear hb hbox hg; have hnb6 := NB461_462.out; have hnc6 := NB462_461.out; have hcz7_0 := c0 BK461.out; have hcz7_1 := c1 BK461.out; have hfz7_0 := blk_frozen BK461.out 0; have hfz7_1 := blk_frozen BK461.out 1; have hcz8_0 := c0 BK462.out; have hcz8_1 := c1 BK462.out; have hfz8_0 := blk_frozen BK462.out 0; have hfz8_1 := blk_frozen BK462.out 1) | (go_at_call 57; (with_reducible refine (concordanceref08_Words.calls k a0_0 _ _ l0_1 a1_0 t463 _ ?side1 ?side2 A3.out).mono ?_); (case side1 => repeat (first | exact (Kd.C_below HR0_1.out HB.out) | (with_reducible refine Kd.C_alloc ?_ _) | (with_reducible refine Kd.C_drewN ?_ _) | (with_reducible refine Kd.C_drew ?_))); (case side2 => exact HC0_1.out); rintro e w9 ⟨v464, rfl, ho0, hb⟩; have HO465 := sA (Kd.R_lower ho0 (below_size (by repeat (first | exact sW HB.out | refine sS ?_)))); replace BK461 := sA (blk_below (sB BK461.out) hb); replace BK462 := sA (blk_below (sB BK462.out) hb); replace HB := sA (below_step (by repeat (first | exact sW HB.out | refine sS ?_)) hb); (try clear hb); (try clear hb2); (try clear hk); (try clear hi); (try clear ho0)))
 repeat (go_quiet (first | ((with_reducible refine gate_dst (N := 2) rfl ?_); refine box_event ?hg (N := 2) ?hd (cs := #[.int .i64 a0_0, .slice A0_1 l0_1.length c0_1]) (t := 31) ?hr ?_; (case hd => rfl); (case hg => rfl); (case hr => first | (go_simp; done) | (go_simp; rfl)); intro gb461 hg w4 hbox hb; have BK461 := sA (hbox); have GW461 := sA ((by rw [hg]; exact (below_size (sW HB.out)) : w.heap.size ≤ gb461)); have GE461 := sA ((by rw [hg]; exact (below_size (sW HB.out)) : w.heap.size ≤ gb461)); replace HB := sA (below_step (sW HB.out) hb); clear hb hbox hg) | ((with_reducible refine gate_dst (N := 3) rfl ?_); refine box_event ?hg (N := 3) ?hd (cs := #[.string a1_0, .string a1_1]) (t := 70) ?hr ?_; (case hd => rfl); (case hg => rfl); (case hr => first | (go_simp; done) | (go_simp; rfl)); intro gb462 hg w5 hbox hb; have BK462 := sA (hbox); have GW462 := sA ((by rw [hg]; exact (below_size (by repeat (first | exact sW HB.out | refine sS ?_))) : w.heap.size ≤ gb462)); have GE462 := sA ((by rw [hg]; exact (below_size (by repeat (first | exact sW HB.out | refine sS ?_))) : w.heap.size ≤ gb462)); replace HB := sA (below_step (by repeat (first | exact sW HB.out | refine sS ?_)) hb); have NB461_462 := sA ((by rw [hg]; exact Nat.ne_of_lt (blk_lt (sB BK461.out)) : gb461 ≠ gb462)); have NB462_461 := sA ((by rw [hg]; exact Nat.ne_of_gt (blk_lt (sB BK461.out)) : gb462 ≠ gb461)); replace BK461 := sA (blk_below (sB BK461.out) hb); clear hb hbox hg; have hnb6 := NB461_462.out; have hnc6 := NB462_461.out; have hcz7_0 := c0 BK461.out; have hcz7_1 := c1 BK461.out; have hfz7_0 := blk_frozen BK461.out 0; have hfz7_1 := blk_frozen BK461.out 1; have hcz8_0 := c0 BK462.out; have hcz8_1 := c1 BK462.out; have hfz8_0 := blk_frozen BK462.out 0; have hfz8_1 := blk_frozen BK462.out 1) | (go_at_call 57; (with_reducible refine (concordanceref08_Words.calls k a0_0 _ _ l0_1 a1_0 t463 _ ?side1 ?side2 A3.out).mono ?_); (case side1 => repeat (first | exact (Kd.C_below HR0_1.out HB.out) | (with_reducible refine Kd.C_alloc ?_ _) | (with_reducible refine Kd.C_drewN ?_ _) | (with_reducible refine Kd.C_drew ?_))); (case side2 => exact HC0_1.out); rintro e w9 ⟨v464, rfl, ho0, hb⟩; have HO465 := sA (Kd.R_lower ho0 (below_size (by repeat (first | exact sW HB.out | refine sS ?_)))); replace BK461 := sA (blk_below (sB BK461.out) hb); replace BK462 := sA (blk_below (sB BK462.out) hb); replace HB := sA (below_step (by repeat (first | exact sW HB.out | refine sS ?_)) hb); (try clear hb); (try clear hb2); (try clear hk); (try clear hi); (try clear ho0))); try go_wp2_with (first | ((with_reducible refine gate_dst (N := 2) rfl ?_); refine box_event ?hg (N := 2) ?hd (cs := #[.int .i64 a0_0, .slice A0_1 l0_1.length c0_1]) (t := 31) ?hr ?_; (case hd => rfl); (case hg => rfl); (case hr => first | (go_simp; done) | (go_simp; rfl)); intro gb461 hg w4 hbox hb; have BK461 := sA (hbox); have GW461 := sA ((by rw [hg]; exact (below_size (sW HB.out)) : w.heap.size ≤ gb461)); have GE461 := sA ((by rw [hg]; exact (below_size (sW HB.out)) : w.heap.size ≤ gb461)); replace HB := sA (below_step (sW HB.out) hb); clear hb hbox hg) | ((with_reducible refine gate_dst (N := 3) rfl ?_); refine box_event ?hg (N := 3) ?hd (cs := #[.string a1_0, .string a1_1]) (t := 70) ?hr ?_; (case hd => rfl); (case hg => rfl); (case hr => first | (go_simp; done) | (go_simp; rfl)); intro gb462 hg w5 hbox hb; have BK462 := sA (hbox); have GW462 := sA ((by rw [hg]; exact (below_size (by repeat (first | exact sW HB.out | refine sS ?_))) : w.heap.size ≤ gb462)); have GE462 := sA ((by rw [hg]; exact (below_size (by repeat (first | exact sW HB.out | refine sS ?_))) : w.heap.size ≤ gb462)); replace HB := sA (below_step (by repeat (first | exact sW HB.out | refine sS ?_)) hb); have NB461_462 := sA ((by rw [hg]; exact Nat.ne_of_lt (blk_lt (sB BK461.out)) : gb461 ≠ gb462)); have NB462_461 := sA ((by rw [hg]; exact Nat.ne_of_gt (blk_lt (sB BK461.out)) : gb462 ≠ gb461)); replace BK461 := sA (blk_below (sB BK461.out) hb); clear hb hbox hg; have hnb6 := NB461_462.out; have hnc6 := NB462_461.out; have hcz7_0 := c0 BK461.out; have hcz7_1 := c1 BK461.out; have hfz7_0 := blk_frozen BK461.out 0; have hfz7_1 := blk_frozen BK461.out 1; have hcz8_0 := c0 BK462.out; have hcz8_1 := c1 BK462.out; have hfz8_0 := blk_frozen BK462.out 0; have hfz8_1 := blk_frozen BK462.out 1) | (go_at_call 57; (with_reducible refine (concordanceref08_Words.calls k a0_0 _ _ l0_1 a1_0 t463 _ ?side1 ?side2 A3.out).mono ?_); (case side1 => repeat (first | exact (Kd.C_below HR0_1.out HB.out) | (with_reducible refine Kd.C_alloc ?_ _) | (with_reducible refine Kd.C_drewN ?_ _) | (with_reducible refine Kd.C_drew ?_))); (case side2 => exact HC0_1.out); rintro e w9 ⟨v464, rfl, ho0, hb⟩; have HO465 := sA (Kd.R_lower ho0 (below_size (by repeat (first | exact sW HB.out | refine sS ?_)))); replace BK461 := sA (blk_below (sB BK461.out) hb); replace BK462 := sA (blk_below (sB BK462.out) hb); replace HB := sA (below_step (by repeat (first | exact sW HB.out | refine sS ?_)) hb); (try clear hb); (try clear hb2); (try clear hk); (try clear hi); (try clear ho0))))
 go_loopg [5, 7] k (fun kq v5 v7 w' => ∃ (x5_1 : List Int) (x7_1 : Int), v7 = .int .i64 x7_1 ∧ Aside0 (concordanceref08_Places.l0 kq x5_1 t463 x7_1 a1_0 a1_1 = some r) ∧ Aside0 (kq ≤ k) ∧ Aside0 (Kd.R (Kd.int .i64) 3 w' w.heap.size (fun _ => True) v5 x5_1) ∧ Aside0 (Kd.R Kd.string 9 w' w.heap.size (fun _ => True) v464 t463) ∧ Aside0 (w'.heap[gb461]? = some (.cells #[.int .i64 a0_0, (.slice A0_1 l0_1.length c0_1)] 31 (0, 0))) ∧ Aside0 (w'.heap[gb462]? = some (.cells #[.string a1_0, .string a1_1] 70 (0, 0))) ∧ Aside0 (Below w.heap.size w w'))
 case atStart => exact ⟨(([] : List Int)), (0), (by first | rfl | (simp; done) | (simp [*]; done)), H', ⟨Nat.le_refl _⟩, ⟨by first | exact Kd.R_nil _ _ _ _ _ | exact Kd.N_nil _ _ _ _ _ | exact Kd.V_nil _ _ _ _ _ | exact Kd.Q_nil _ _ _ _ _ | exact Kd.S_nil _ _ _ _ _⟩, ⟨sR HO465.out⟩, ⟨sB BK461.out⟩, ⟨sB BK462.out⟩, ⟨by repeat (first | exact sW HB.out | refine sS ?_)⟩⟩
 case round =>
  clear H'
  try clear p2; try clear c6; try clear hcz7_0; try clear hcz7_1; try clear hcz8_0; try clear hcz8_1; try clear hfz7_0; try clear hfz7_1; try clear hfz8_0; try clear hfz8_1
  obtain ⟨x5_1, x7_1, rfl, HA, HK1, HO_5, HO_6, BK461, BK462, HB⟩ := hrel
  cases gk with
  | zero => exact absurd HA.out (by simp [concordanceref08_Places.l0])
  | succ k1 =>
   have H := HA.out
   clear HA
   simp only [concordanceref08_Places.l0] at H
   by_cases c10 : x7_1 < (t463.length : Int)
   ·rw [if_pos c10] at H
    have c10b0 : decide (x7_1 < (t463.length : Int)) = true := decide_eq_true c10
    clear c10
    by_cases c11 : 0 ≤ x7_1
    ·rw [if_pos c11] at H
     have c11b0 : decide (0 ≤ x7_1) = true := decide_eq_true c11
     clear c11
     by_cases c12 : (rdOf ByteArray.empty t463 x7_1).toList = a1_1.toList
     ·rw [if_pos c12] at H
      have c12b0 : ((rdOf ByteArray.empty t463 x7_1).toList == a1_1.toList) = true := beq_iff_eq.mpr c12
      have c12b1 : ((rdOf ByteArray.empty t463 x7_1).toList != a1_1.toList) = false := bne_eq_false_iff_eq.mpr c12
      clear c12
      by_cases c13 : x5_1.length < 17592186044416
      ·rw [if_pos c13] at H
       have LMc13 := Aside0.mk c13
       clear c13
       obtain ⟨y467, hy467⟩ : ∃ y_ : List Int, y_ = (x5_1 ++ [x7_1]) := ⟨_, rfl⟩
       replace H : (concordanceref08_Places.l0 k1 y467 t463 (wrap64 (x7_1 + 1)) a1_0 a1_1) = some r := by first | (rw [hy467]; with_reducible exact H) | (have H2_ := (Option.bind_some _ _).symm.trans H; rw [hy467]; with_reducible exact H2_) | (have H2_ := (Option.bind_some _ _).symm.trans H; with_reducible exact H2_) | with_reducible exact H | (rw [hy467]; exact H) | exact H
       have Ny467 := Aside0.mk hy467
       clear hy467
       have H' := Aside0.mk H
       clear H
       obtain ⟨Ao14, co14, eo14⟩ := Kd.R_slice HO_6.out
       subst eo14
       have p466 : 0 ≤ (x7_1 : Int) := of_decide_eq_true (by assumption)
       have q466 : x7_1 < (t463.length : Int) := of_decide_eq_true (by assumption)
       obtain ⟨ad466, e466, hx466_0⟩ := Kd.at_string (Kd.R_reads' HO_6.out).2.2 x7_1 p466 q466
       cases e466
       replace p466 := eq_true p466
       replace q466 := eq_true q466
       have hnb15 := NB462_461.out
       have hnc15 := NB461_462.out
       have hcz16_0 := c0 BK462.out
       have hcz16_1 := c1 BK462.out
       have hfz16_0 := blk_frozen BK462.out 0
       have hfz16_1 := blk_frozen BK462.out 1
       go_wp2_with (first | ((with_reducible refine gate_builtin (b := .append) (xs := #[.tmp 25, .tmp 27]) rfl ?_); at_builtin; refine Kd.R_append (Kd.int .i64) (w0 := w) w.heap.size rfl (.tmp 25) (.tmp 27) 39 3 (.int .i64 0) 8 rfl Tryz.underlying39 info3 rfl (by decide) (by omega) u5 x5_1 x7_1 [.int .i64 x7_1] (fun _ => True) (fun _ => False) rfl rfl ?aP (fun _ hk => hk.elim) ?aF ?aO ?aB ?aS ?aL ?_; (case aP => exact rfl); (case aB => exact (by repeat (first | exact sW HB.out | refine sS ?_))); (case aF => exact (fun _ _ => trivial)); (case aO => exact (sR HO_5.out)); (case aS => exact (below_size (by repeat (first | exact sW HB.out | refine sS ?_)))); (case aL => have := LMc13.out; omega); intro v468 w17 ho hb hg hat; rw [← Ny467.out] at ho; replace HO_6 := sA (Kd.R_over' (sR HO_6.out) (Kd.R_typed (sR HO_5.out)) (by decide) hg); replace BK461 := sA (blk_grown (sB BK461.out) hg (Kd.R_ne HO_5.out BK461.out (by decide))); replace BK462 := sA (blk_grown (sB BK462.out) hg (Kd.R_ne HO_5.out BK462.out (by decide))); replace HB := sA (hb); have HO469 := sA (ho); clear HO_5; clear ho hb hg hat))
       repeat (go_quiet (first | ((with_reducible refine gate_builtin (b := .append) (xs := #[.tmp 25, .tmp 27]) rfl ?_); at_builtin; refine Kd.R_append (Kd.int .i64) (w0 := w) w.heap.size rfl (.tmp 25) (.tmp 27) 39 3 (.int .i64 0) 8 rfl Tryz.underlying39 info3 rfl (by decide) (by omega) u5 x5_1 x7_1 [.int .i64 x7_1] (fun _ => True) (fun _ => False) rfl rfl ?aP (fun _ hk => hk.elim) ?aF ?aO ?aB ?aS ?aL ?_; (case aP => exact rfl); (case aB => exact (by repeat (first | exact sW HB.out | refine sS ?_))); (case aF => exact (fun _ _ => trivial)); (case aO => exact (sR HO_5.out)); (case aS => exact (below_size (by repeat (first | exact sW HB.out | refine sS ?_)))); (case aL => have := LMc13.out; omega); intro v468 w17 ho hb hg hat; rw [← Ny467.out] at ho; replace HO_6 := sA (Kd.R_over' (sR HO_6.out) (Kd.R_typed (sR HO_5.out)) (by decide) hg); replace BK461 := sA (blk_grown (sB BK461.out) hg (Kd.R_ne HO_5.out BK461.out (by decide))); replace BK462 := sA (blk_grown (sB BK462.out) hg (Kd.R_ne HO_5.out BK462.out (by decide))); replace HB := sA (hb); have HO469 := sA (ho); clear HO_5; clear ho hb hg hat)); try go_wp2_with (first | ((with_reducible refine gate_builtin (b := .append) (xs := #[.tmp 25, .tmp 27]) rfl ?_); at_builtin; refine Kd.R_append (Kd.int .i64) (w0 := w) w.heap.size rfl (.tmp 25) (.tmp 27) 39 3 (.int .i64 0) 8 rfl Tryz.underlying39 info3 rfl (by decide) (by omega) u5 x5_1 x7_1 [.int .i64 x7_1] (fun _ => True) (fun _ => False) rfl rfl ?aP (fun _ hk => hk.elim) ?aF ?aO ?aB ?aS ?aL ?_; (case aP => exact rfl); (case aB => exact (by repeat (first | exact sW HB.out | refine sS ?_))); (case aF => exact (fun _ _ => trivial)); (case aO => exact (sR HO_5.out)); (case aS => exact (below_size (by repeat (first | exact sW HB.out | refine sS ?_)))); (case aL => have := LMc13.out; omega); intro v468 w17 ho hb hg hat; rw [← Ny467.out] at ho; replace HO_6 := sA (Kd.R_over' (sR HO_6.out) (Kd.R_typed (sR HO_5.out)) (by decide) hg); replace BK461 := sA (blk_grown (sB BK461.out) hg (Kd.R_ne HO_5.out BK461.out (by decide))); replace BK462 := sA (blk_grown (sB BK462.out) hg (Kd.R_ne HO_5.out BK462.out (by decide))); replace HB := sA (hb); have HO469 := sA (ho); clear HO_5; clear ho hb hg hat)))
       go_roundg k1
       case measure => have := HK1.out; omega
       case rel => exact ⟨(y467), (wrap64 (x7_1 + 1)), (by first | rfl | (simp; done) | (simp [*]; done)), H', ⟨by have := HK1.out; omega⟩, ⟨sR HO469.out⟩, ⟨sR HO_6.out⟩, ⟨sB BK461.out⟩, ⟨sB BK462.out⟩, ⟨by repeat (first | exact sW HB.out | refine sS ?_)⟩⟩
      ·rw [if_neg c13] at H
       exact absurd H (by simp)
     ·rw [if_neg c12] at H
      have c12b0 : ((rdOf ByteArray.empty t463 x7_1).toList == a1_1.toList) = false := beq_eq_false_iff_ne.mpr c12
      have c12b1 : ((rdOf ByteArray.empty t463 x7_1).toList != a1_1.toList) = true := bne_iff_ne.mpr c12
      have H' := Aside0.mk H
      clear H
      obtain ⟨Ao18, co18, eo18⟩ := Kd.R_slice HO_6.out
      subst eo18
      have p466 : 0 ≤ (x7_1 : Int) := of_decide_eq_true (by assumption)
      have q466 : x7_1 < (t463.length : Int) := of_decide_eq_true (by assumption)
      obtain ⟨ad466, e466, hx466_0⟩ := Kd.at_string (Kd.R_reads' HO_6.out).2.2 x7_1 p466 q466
      cases e466
      replace p466 := eq_true p466
      replace q466 := eq_true q466
      have hnb19 := NB462_461.out
      have hnc19 := NB461_462.out
      have hcz20_0 := c0 BK462.out
      have hcz20_1 := c1 BK462.out
      have hfz20_0 := blk_frozen BK462.out 0
      have hfz20_1 := blk_frozen BK462.out 1
      go_wp2
      repeat (go_quiet (fail); try go_wp2)
      go_roundg k1
      case measure => have := HK1.out; omega
      case rel => exact ⟨(x5_1), (wrap64 (x7_1 + 1)), (by first | rfl | (simp; done) | (simp [*]; done)), H', ⟨by have := HK1.out; omega⟩, ⟨sR HO_5.out⟩, ⟨sR HO_6.out⟩, ⟨sB BK461.out⟩, ⟨sB BK462.out⟩, ⟨by repeat (first | exact sW HB.out | refine sS ?_)⟩⟩
    ·rw [if_neg c11] at H
     exact absurd H (by simp)
   ·rw [if_neg c10] at H
    have c10b0 : decide (x7_1 < (t463.length : Int)) = false := decide_eq_false c10
    clear c10
    obtain rfl := Option.some.inj H
    obtain ⟨Ao21, co21, eo21⟩ := Kd.R_slice HO_6.out
    subst eo21
    go_wp2
    repeat (go_quiet (fail); try go_wp2)
    go_ret
    exact ⟨_, by first | rfl | (simp [errW_none, errW_some] <;> rfl) | (simp [*, errW_none, errW_some] <;> rfl), sR HO_5.out, by repeat (first | exact sW HB.out | refine sS ?_)⟩

end Go.Proofs.YteidebllianiiaaGreatDoor.PAll
