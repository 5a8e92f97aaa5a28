-- written by a program of this session (wip/px): the walk of printed functions
import Derived.Test.YteidebllianiiaaGreatDoorPAllx0
import Derived.Test.YteidebllianiiaaGreatDoorSq
import Derived.Test.YteidebllianiiaaGreatDoorPAllx16
import Derived.Test.YteidebllianiiaaGreatDoorPAllx18
import Derived.Test.YteidebllianiiaaGreatDoorPAllx19
namespace Go.Proofs.YteidebllianiiaaGreatDoor.PAll
open Go.RowKit Go.Proofs.YteidebllianiiaaGreatDoorW.PrintWords Go.Proofs.YteidebllianiiaaGreatDoorW.PrintLast Go.Proofs.YteidebllianiiaaGreatDoorW.PrintMore
attribute [local go_sem] max2_int min2_int max_two min_two max_three min_three max_four min_four   -- for this text's walks alone
set_option linter.unusedVariables false
set_option linter.unusedSimpArgs false

/-! ### concordanceref09_Postings: function 39 -/
mutual
def concordanceref09_Postings.l0 : Nat → List (S33) → ByteArray → List (S41) → Int → Option ((List (S41)))
 | 0, _, _, _, _ => none
 | k + 1, x0, x1, x5, x6 => if x6 < (x0.length : Int) then (if 0 ≤ x6 then ((concordanceref08_Terms.f k ((rd_T33 x0 x6).f0.f0) ((rd_T33 x0 x6).f0.f1)).bind fun t471 => (concordanceref09_Postings.l1 k x0 x1 x5 x6 t471 0)) else (none)) else (some x5)
def concordanceref09_Postings.l1 : Nat → List (S33) → ByteArray → List (S41) → Int → List (S70) → Int → Option ((List (S41)))
 | 0, _, _, _, _, _, _ => none
 | k + 1, x0, x1, x5, x6, x7, x8 => if x8 < (x7.length : Int) then (if 0 ≤ x8 then ((concordanceref02_Key.f ((rd_T70 x7 x8).f0) ((rd_T70 x7 x8).f1)).bind fun t475 => (if t475.toList = x1.toList then (if 0 ≤ x6 then (if x6 < (x0.length : Int) then ((concordanceref08_Places.f k ((rd_T33 x0 x6).f0.f0) ((rd_T33 x0 x6).f0.f1) ((rd_T70 x7 x8).f0) ((rd_T70 x7 x8).f1)).bind fun t478 => (if x5.length < 4398046511104 then (concordanceref09_Postings.l1 k x0 x1 (x5 ++ [(⟨x6, t478⟩ : S41)]) x6 x7 (wrap64 (x8 + 1))) else (none))) else (none)) else (none)) else (concordanceref09_Postings.l1 k x0 x1 x5 x6 x7 (wrap64 (x8 + 1))))) else (none)) else (concordanceref09_Postings.l0 k x0 x1 x5 (wrap64 (x6 + 1)))
end
def concordanceref09_Postings.f (k : Nat) (l0 : List (S33)) (a1 : ByteArray) : Option ((List (S41))) := concordanceref09_Postings.l0 k l0 a1 ([] : List (S41)) 0
theorem concordanceref09_Postings.mono_l : ∀ k, (∀ y0 y1 y2 y3, LeO (concordanceref09_Postings.l0 k y0 y1 y2 y3) (concordanceref09_Postings.l0 (k + 1) y0 y1 y2 y3)) ∧ (∀ y0 y1 y2 y3 y4 y5, LeO (concordanceref09_Postings.l1 k y0 y1 y2 y3 y4 y5) (concordanceref09_Postings.l1 (k + 1) y0 y1 y2 y3 y4 y5))
 | 0 => ⟨fun _ _ _ _ r h => by simp [concordanceref09_Postings.l0] at h, fun _ _ _ _ _ _ r h => by simp [concordanceref09_Postings.l1] at h⟩
 | k + 1 => by
  obtain ⟨ih0, ih1⟩ := concordanceref09_Postings.mono_l k
  refine ⟨?_, ?_⟩
  ·intro y0 y1 y2 y3
   unfold concordanceref09_Postings.l0
   repeat' first
   | (with_reducible exact ih0 _ _ _ _)
   | (with_reducible exact ih1 _ _ _ _ _ _)
   | (with_reducible exact concordanceref08_Places.mono _ _ _ _ _)
   | (with_reducible exact concordanceref08_Terms.mono _ _ _)
   | (with_reducible exact LeO.refl _)
   | (with_reducible exact LeO.none _)
   | (with_reducible refine LeO.ite ?_ ?_)
   | (with_reducible refine LeO.bind ?_ (fun _ => ?_))
   | exact ih0 _ _ _ _
   | exact ih1 _ _ _ _ _ _
   | exact concordanceref08_Places.mono _ _ _ _ _
   | exact concordanceref08_Terms.mono _ _ _
   | exact LeO.none _
   | refine LeO.ite ?_ ?_
   | refine LeO.bind ?_ (fun _ => ?_)
  ·intro y0 y1 y2 y3 y4 y5
   unfold concordanceref09_Postings.l1
   repeat' first
   | (with_reducible exact ih0 _ _ _ _)
   | (with_reducible exact ih1 _ _ _ _ _ _)
   | (with_reducible exact concordanceref08_Places.mono _ _ _ _ _)
   | (with_reducible exact concordanceref08_Terms.mono _ _ _)
   | (with_reducible exact LeO.refl _)
   | (with_reducible exact LeO.none _)
   | (with_reducible refine LeO.ite ?_ ?_)
   | (with_reducible refine LeO.bind ?_ (fun _ => ?_))
   | exact ih0 _ _ _ _
   | exact ih1 _ _ _ _ _ _
   | exact concordanceref08_Places.mono _ _ _ _ _
   | exact concordanceref08_Terms.mono _ _ _
   | exact LeO.none _
   | refine LeO.ite ?_ ?_
   | refine LeO.bind ?_ (fun _ => ?_)
theorem concordanceref09_Postings.mono : ∀ a0 a1 k, LeO (concordanceref09_Postings.f k a0 a1) (concordanceref09_Postings.f (k + 1) a0 a1) := by
 intro a0 a1 k
 obtain ⟨ih0, ih1⟩ := concordanceref09_Postings.mono_l k
 unfold concordanceref09_Postings.f
 repeat' first
   | (with_reducible exact ih0 _ _ _ _)
   | (with_reducible exact ih1 _ _ _ _ _ _)
   | (with_reducible exact concordanceref08_Places.mono _ _ _ _ _)
   | (with_reducible exact concordanceref08_Terms.mono _ _ _)
   | (with_reducible exact LeO.refl _)
   | (with_reducible exact LeO.none _)
   | (with_reducible refine LeO.ite ?_ ?_)
   | (with_reducible refine LeO.bind ?_ (fun _ => ?_))
   | exact ih0 _ _ _ _
   | exact ih1 _ _ _ _ _ _
   | exact concordanceref08_Places.mono _ _ _ _ _
   | exact concordanceref08_Terms.mono _ _ _
   | exact LeO.none _
   | refine LeO.ite ?_ ?_
   | refine LeO.bind ?_ (fun _ => ?_)
def concordanceref09_Postings.T10 : Bool × List (List Nat × List Nat) := (true, [([], []), ([], []), ([], []), ([], []), ([2, 3], [2, 3]), ([4], [4]), ([5], [5]), ([], []), ([], []), ([7, 8], [7, 8]), ([9], [9]), ([6, 10], [6, 10]), ([1, 11], [1, 11]), ([12], [12]), ([0, 13, 11], [0, 13]), ([14, 14, 0, 1, 2, 3, 4, 5, 6, 7, 8, 9, 10, 11, 12, 13, 14], [0, 14])])
def concordanceref09_Postings.B10 : List Nat := [0, 0, 0, 0, 12, 28, 60, 0, 0, 384, 896, 2044, 4094, 8190, 16383, 32767]
theorem concordanceref09_Postings.tab10 : rtab .any (opsOf Tryz.f39 10) = concordanceref09_Postings.T10 := by kernel_rfl
theorem concordanceref09_Postings.bits10 : waitsOk concordanceref09_Postings.T10.2 concordanceref09_Postings.B10 = true := by kernel_rfl
set_option maxHeartbeats 8000000 in
set_option maxRecDepth 100000 in
theorem concordanceref09_Postings.calls (k : Nat) (A0 : Option Addr) (c0 : Nat) (l0 : List (S33)) (a1 : ByteArray) (r : List (S41)) (w : World) (hr0 : Kd.C k33 w A0 l0.length l0) (hc0 : l0.length ≤ c0) (h : concordanceref09_Postings.f k l0 a1 = some r) :
  Calls Tryz.prog 39 #[.slice A0 l0.length c0, .string a1] w fun e w' => ∃ v0_ : Value, e = .returned (v0_) ∧ Kd.S k41 41 w' w.heap.size (fun _ => True) v0_ r ∧ Below w.heap.size w w' := by
 have hu31 := Tryz.underlying31
 have hu70 := Tryz.underlying70
 have hu41 := Tryz.underlying41
 have HR0 := Aside0.mk hr0
 have HC0 := Aside0.mk hc0
 clear hr0 hc0
 have HB := sA (Below.refl w.heap.size w)
 have H : (concordanceref09_Postings.l0 k l0 a1 ([] : List (S41)) 0) = some r := h
 clear h
 have H' := Aside0.mk H
 clear H
 go_enter Tryz.func39, Tryz.ntmps39
 go_wp2
 go_loopg [5, 6] k (fun kq v5 v6 w' => ∃ (x5_1 : List (S41)) (x6_1 : Int), v6 = .int .i64 x6_1 ∧ Aside0 (concordanceref09_Postings.l0 kq l0 a1 x5_1 x6_1 = some r) ∧ Aside0 (kq ≤ k) ∧ Aside0 (Kd.S k41 41 w' w.heap.size (fun _ => True) v5 x5_1) ∧ Aside0 (Below w.heap.size w w'))
 case atStart => exact ⟨(([] : List (S41))), (0), (by first | rfl | (simp; done) | (simp [*]; done)), H', ⟨Nat.le_refl _⟩, ⟨by first | exact Kd.S_nil _ _ _ _ _ | exact Kd.N_nil _ _ _ _ _ | exact Kd.V_nil _ _ _ _ _ | exact Kd.Q_nil _ _ _ _ _ | exact Kd.R_nil _ _ _ _ _⟩, ⟨sW HB.out⟩⟩
 case round =>
  clear H'
  try clear p2
  obtain ⟨x5_1, x6_1, rfl, HA, HK1, HO_5, HB⟩ := hrel
  cases gk with
  | zero => exact absurd HA.out (by simp [concordanceref09_Postings.l0])
  | succ k1 =>
   have H := HA.out
   clear HA
   simp only [concordanceref09_Postings.l0] at H
   by_cases c3 : x6_1 < (l0.length : Int)
   ·rw [if_pos c3] at H
    have c3b0 : decide (x6_1 < (l0.length : Int)) = true := decide_eq_true c3
    clear c3
    by_cases c4 : 0 ≤ x6_1
    ·rw [if_pos c4] at H
     have c4b0 : decide (0 ≤ x6_1) = true := decide_eq_true c4
     clear c4
     replace H := Option.bind_eq_some_iff.mp H
     obtain ⟨t471, A50, H⟩ := H
     have A5 := Aside0.mk A50
     clear A50
     have H' := Aside0.mk H
     clear H
     have p470 : 0 ≤ (x6_1 : Int) := of_decide_eq_true (by assumption)
     have q470 : x6_1 < (l0.length : Int) := of_decide_eq_true (by assumption)
     obtain ⟨ad470, A470_1, c470_1, e470, hx470_0, hx470_1, hx470_2, hl470_1, hi470_1⟩ := at_T33 HR0.out x6_1 p470 q470
     cases e470
     replace hx470_0 := (HB.out.cell (World.block_lt_of_cell? w _ hx470_0)).trans hx470_0
     replace hx470_1 := (HB.out.cell (World.block_lt_of_cell? w _ hx470_1)).trans hx470_1
     replace hx470_2 := (HB.out.cell (World.block_lt_of_cell? w _ hx470_2)).trans hx470_2
     have HR470_1 := Aside0.mk hi470_1
     have HC470_1 := Aside0.mk hl470_1
     clear hi470_1 hl470_1
     replace p470 := eq_true p470
     replace q470 := eq_true q470
     go_wp2_with (first | ((with_reducible refine gate_callee (f := 58) rfl ?_); refine goesL_ (some 20) rfl rfl Tryz.func58 (by kernel_rfl) rfl #[.agg #[.int .i64 ((rd_T33 l0 x6_1).f0.f0), .slice A470_1 ((rd_T33 l0 x6_1).f0.f1).length c470_1]] rfl (by (try simp only [List.map_toArray, List.map_cons, List.map_nil]); first | done | rfl | (simp only [List.length_drop, List.length_take]; rfl)) ?_; (with_reducible refine (concordanceref08_Terms.calls k1 ((rd_T33 l0 x6_1).f0.f0) _ _ ((rd_T33 l0 x6_1).f0.f1) t471 _ ?side1 ?side2 A5.out).mono ?_); (case side1 => repeat (first | exact (Kd.C_below HR470_1.out HB.out) | (with_reducible refine Kd.C_alloc ?_ _) | (with_reducible refine Kd.C_drewN ?_ _) | (with_reducible refine Kd.C_drew ?_))); (case side2 => exact HC470_1.out); rintro e w6 ⟨v472, rfl, ho0, hb⟩; refine ⟨_, rfl, ?_⟩; replace HO_5 := sA (Kd.S_below (by (with_reducible repeat (first | apply Kd.S_alloc | apply Kd.S_drewN | apply Kd.S_drew)); exact HO_5.out) hb); have HO473 := sA (Kd.R_lower ho0 (below_size (sW HB.out))); replace HB := sA (below_step (sW HB.out) hb); (try clear hb); (try clear hb2); (try clear hk); (try clear hi); (try clear ho0)))
     go_loopg [5, 8] k1 (fun kq v5 v8 w' => ∃ (x5_2 : List (S41)) (x8_2 : Int), v8 = .int .i64 x8_2 ∧ Aside0 (concordanceref09_Postings.l1 kq l0 a1 x5_2 x6_1 t471 x8_2 = some r) ∧ Aside0 (kq ≤ k1) ∧ Aside0 (Kd.S k41 41 w' w.heap.size (fun _ => True) v5 x5_2) ∧ Aside0 (Kd.R k70 70 w' w.heap.size (fun _ => True) v472 t471) ∧ Aside0 (Below w.heap.size w w'))
     case atStart => exact ⟨(x5_1), (0), (by first | rfl | (simp; done) | (simp [*]; done)), H', ⟨Nat.le_refl _⟩, ⟨by (with_reducible repeat (first | apply Kd.S_alloc | apply Kd.S_drewN | apply Kd.S_drew)); exact HO_5.out⟩, ⟨sR HO473.out⟩, ⟨sW HB.out⟩⟩
     case round =>
      clear H'
      try clear p2; try clear c3; try clear c3b0; try clear c4; try clear c4b0; try clear p4; try clear q4; try clear hx4; try clear c5; try clear hx470_0; try clear hx470_1; try clear hx470_2; try clear p2; try clear p470; try clear q470
      obtain ⟨x5_2, x8_2, rfl, HA, HK2, HO_5, HO_7, HB⟩ := hrel
      cases gk with
      | zero => exact absurd HA.out (by simp [concordanceref09_Postings.l1])
      | succ k2 =>
       have H := HA.out
       clear HA
       simp only [concordanceref09_Postings.l1] at H
       by_cases c7 : x8_2 < (t471.length : Int)
       ·rw [if_pos c7] at H
        have c7b0 : decide (x8_2 < (t471.length : Int)) = true := decide_eq_true c7
        clear c7
        by_cases c8 : 0 ≤ x8_2
        ·rw [if_pos c8] at H
         have c8b0 : decide (0 ≤ x8_2) = true := decide_eq_true c8
         clear c8
         replace H := Option.bind_eq_some_iff.mp H
         obtain ⟨t475, A90, H⟩ := H
         have A9 := Aside0.mk A90
         clear A90
         by_cases c10 : t475.toList = a1.toList
         ·rw [if_pos c10] at H
          have c10b0 : (t475.toList == a1.toList) = true := beq_iff_eq.mpr c10
          have c10b1 : (t475.toList != a1.toList) = false := bne_eq_false_iff_eq.mpr c10
          clear c10
          by_cases c11 : 0 ≤ x6_1
          ·rw [if_pos c11] at H
           have c11b0 : decide (0 ≤ x6_1) = true := decide_eq_true c11
           clear c11
           by_cases c12 : x6_1 < (l0.length : Int)
           ·rw [if_pos c12] at H
            have c12b0 : decide (x6_1 < (l0.length : Int)) = true := decide_eq_true c12
            clear c12
            replace H := Option.bind_eq_some_iff.mp H
            obtain ⟨t478, A130, H⟩ := H
            have A13 := Aside0.mk A130
            clear A130
            by_cases c14 : x5_2.length < 4398046511104
            ·rw [if_pos c14] at H
             have LMc14 := Aside0.mk c14
             clear c14
             obtain ⟨y481, hy481⟩ : ∃ y_ : List (S41), y_ = (x5_2 ++ [(⟨x6_1, t478⟩ : S41)]) := ⟨_, rfl⟩
             replace H : (concordanceref09_Postings.l1 k2 l0 a1 y481 x6_1 t471 (wrap64 (x8_2 + 1))) = some r := by first | (rw [hy481]; with_reducible exact H) | (have H2_ := (Option.bind_some _ _).symm.trans H; rw [hy481]; with_reducible exact H2_) | (have H2_ := (Option.bind_some _ _).symm.trans H; with_reducible exact H2_) | with_reducible exact H | (rw [hy481]; exact H) | exact H
             have Ny481 := Aside0.mk hy481
             clear hy481
             have H' := Aside0.mk H
             clear H
             obtain ⟨Ao15, co15, eo15⟩ := Kd.R_slice HO_7.out
             subst eo15
             have p474 : 0 ≤ (x8_2 : Int) := of_decide_eq_true (by assumption)
             have q474 : x8_2 < (t471.length : Int) := of_decide_eq_true (by assumption)
             obtain ⟨ad474, e474, hx474_0, hx474_1⟩ := at_T70 (Kd.R_reads' HO_7.out).2.2 x8_2 p474 q474
             cases e474
             replace p474 := eq_true p474
             replace q474 := eq_true q474
             try go_wp2_with (first | ((with_reducible refine gate_callee (f := 60) rfl ?_); refine goesL_ (some 31) rfl rfl Tryz.func60 (by kernel_rfl) rfl #[.agg #[.string ((rd_T70 t471 x8_2).f0), .string ((rd_T70 t471 x8_2).f1)]] rfl (by (try simp only [List.map_toArray, List.map_cons, List.map_nil]); first | done | rfl | (simp only [List.length_drop, List.length_take]; rfl)) ?_; (with_reducible refine (concordanceref02_Key.calls ((rd_T70 t471 x8_2).f0) ((rd_T70 t471 x8_2).f1) t475 _ A9.out).mono ?_); rintro e w16 ⟨rfl, hb⟩; refine ⟨_, rfl, ?_⟩; replace HO_5 := sA (Kd.S_below (by (with_reducible repeat (first | apply Kd.S_alloc | apply Kd.S_drewN | apply Kd.S_drew)); exact HO_5.out) hb); replace HO_7 := sA (Kd.R_below (sR HO_7.out) hb); replace HB := sA (below_step (sW HB.out) hb); (try clear hb); (try clear hb2); (try clear hk); (try clear hi)))
             replace HO_5 := sA (Kd.S_drew HO_5.out)
             replace HO_7 := sA (Kd.R_drew HO_7.out)
             replace HB := sA (below_drew1 HB.out)
             have p476 : 0 ≤ (x6_1 : Int) := of_decide_eq_true (by assumption)
             have q476 : x6_1 < (l0.length : Int) := of_decide_eq_true (by assumption)
             obtain ⟨ad476, A476_1, c476_1, e476, hx476_0, hx476_1, hx476_2, hl476_1, hi476_1⟩ := at_T33 HR0.out x6_1 p476 q476
             have hw476_2 := hx476_2
             have hw476_1 := hx476_1
             have hw476_0 := hx476_0
             obtain rfl : ad470 = ad476 := (by injection e476)
             replace hx476_0 := (HB.out.cell (World.block_lt_of_cell? w _ hx476_0)).trans hx476_0
             replace hx476_1 := (HB.out.cell (World.block_lt_of_cell? w _ hx476_1)).trans hx476_1
             replace hx476_2 := (HB.out.cell (World.block_lt_of_cell? w _ hx476_2)).trans hx476_2
             have HR476_1 := Aside0.mk hi476_1
             have HC476_1 := Aside0.mk hl476_1
             clear hi476_1 hl476_1
             replace p476 := eq_true p476
             replace q476 := eq_true q476
             have p477 : 0 ≤ (x8_2 : Int) := of_decide_eq_true (by assumption)
             have q477 : x8_2 < (t471.length : Int) := of_decide_eq_true (by assumption)
             obtain ⟨ad477, e477, hx477_0, hx477_1⟩ := at_T70 (Kd.R_reads' HO_7.out).2.2 x8_2 p477 q477
             obtain rfl : ad474 = ad477 := (by injection e477)
             replace p477 := eq_true p477
             replace q477 := eq_true q477
             refine start_ (n := 16) (S := fun w' => w'.cell? (ad470.add ((x6_1).toNat * 3)) = some (.int .i64 ((rd_T33 l0 x6_1).f0.f0)) ∧ w'.cell? ⟨(ad470.add ((x6_1).toNat * 3)).block, (ad470.add ((x6_1).toNat * 3)).off + 1, none⟩ = some (.slice A476_1 ((rd_T33 l0 x6_1).f0.f1).length c476_1) ∧ w'.cell? ⟨(ad470.add ((x6_1).toNat * 3)).block, (ad470.add ((x6_1).toNat * 3)).off + 2, none⟩ = some (.int .i64 ((rd_T33 l0 x6_1).f1)) ∧ w'.cell? (ad474.add ((x8_2).toNat * 2)) = some (.string ((rd_T70 t471 x8_2).f0)) ∧ w'.cell? ⟨(ad474.add ((x8_2).toNat * 2)).block, (ad474.add ((x8_2).toNat * 2)).off + 1, none⟩ = some (.string ((rd_T70 t471 x8_2).f1))) (ds := [13, 14]) #[false, false, false, false, false, false, false, false, false, false, false, false, false, false, false, false] (by kernel_rfl) rfl rfl ⟨((HB.out.cell (World.block_lt_of_cell? w _ hw476_0)).trans hw476_0), ((HB.out.cell (World.block_lt_of_cell? w _ hw476_1)).trans hw476_1), ((HB.out.cell (World.block_lt_of_cell? w _ hw476_2)).trans hw476_2), hx477_0, hx477_1⟩ (fun hHeld => ?_); refine with_tabW concordanceref09_Postings.tab10 concordanceref09_Postings.bits10 (fun HT_ HW_ => ?_)
             generalize w16.drew = w17 at HO_5 HO_7 HB HR476_1 hx476_0 hx476_1 hx476_2 hx477_0 hx477_1 hHeld ⊢
             refine pure_ (i := 0) (N := some 34) (v := ?_) (a' := ?_) #[true, false, false, false, false, false, false, false, false, false, false, false, false, false, false, false] rfl rfl (any_of HT_.out (by kernel_rfl)) (fun _ _ _ h => h) (Or.inl ⟨by rfl, ?_⟩) ?_ ?_; rotate_left; (· intro w'; go_simp; with_reducible rfl); rotate_left; (· simp only [Act.put, List.setIfInBounds_toArray, List.set_cons_zero, List.set_cons_succ, i64_w, i32_w]; rfl)
             refine pure_ (i := 1) (N := some 35) (v := ?_) (a' := ?_) #[true, true, false, false, false, false, false, false, false, false, false, false, false, false, false, false] rfl rfl (any_of HT_.out (by kernel_rfl)) (fun _ _ _ h => h) (Or.inl ⟨by rfl, ?_⟩) ?_ ?_; rotate_left; (· intro w'; go_simp; with_reducible rfl); rotate_left; (· simp only [Act.put, List.setIfInBounds_toArray, List.set_cons_zero, List.set_cons_succ, i64_w, i32_w]; rfl)
             refine pure_ (i := 2) (N := some 36) (v := ?_) (a' := ?_) #[true, true, true, false, false, false, false, false, false, false, false, false, false, false, false, false] rfl rfl (any_of HT_.out (by kernel_rfl)) (fun _ _ _ h => h) (Or.inl ⟨by rfl, ?_⟩) ?_ ?_; rotate_left; (· intro w'; go_simp; with_reducible rfl); rotate_left; (· simp only [Act.put, List.setIfInBounds_toArray, List.set_cons_zero, List.set_cons_succ, i64_w, i32_w]; rfl)
             refine pure_ (i := 3) (N := some 37) (v := ?_) (a' := ?_) #[true, true, true, true, false, false, false, false, false, false, false, false, false, false, false, false] rfl rfl (any_of HT_.out (by kernel_rfl)) (fun _ _ _ h => h) (Or.inl ⟨by rfl, ?_⟩) ?_ ?_; rotate_left; (· intro w'; go_simp; with_reducible rfl); rotate_left; (· simp only [Act.put, List.setIfInBounds_toArray, List.set_cons_zero, List.set_cons_succ, i64_w, i32_w]; rfl)
             refine pure_ (i := 4) (N := some 38) (v := ?_) (a' := ?_) #[true, true, true, true, true, false, false, false, false, false, false, false, false, false, false, false] rfl rfl (any_of HT_.out (by kernel_rfl)) (fun _ _ _ h => h) (Or.inl ⟨by rfl, ?_⟩) ?_ ?_; rotate_left; (· intro w'; go_simp; with_reducible rfl); rotate_left; (· simp only [Act.put, List.setIfInBounds_toArray, List.set_cons_zero, List.set_cons_succ, i64_w, i32_w]; rfl)
             refine pure_ (i := 5) (N := some 39) (v := ?_) (a' := ?_) #[true, true, true, true, true, true, false, false, false, false, false, false, false, false, false, false] rfl rfl (any_of HT_.out (by kernel_rfl)) (fun _ _ _ h => h) (Or.inl ⟨by rfl, ?_⟩) ?_ ?_; rotate_left; (· intro w'; go_simp; with_reducible rfl); rotate_left; (· simp only [Act.put, List.setIfInBounds_toArray, List.set_cons_zero, List.set_cons_succ, i64_w, i32_w]; rfl)
             refine pure_ (i := 7) (N := some 41) (v := ?_) (a' := ?_) #[true, true, true, true, true, true, false, true, false, false, false, false, false, false, false, false] rfl rfl (any_of HT_.out (by kernel_rfl)) (fun _ _ _ h => h) (Or.inl ⟨by rfl, ?_⟩) ?_ ?_; rotate_left; (· intro w'; go_simp; with_reducible rfl); rotate_left; (· simp only [Act.put, List.setIfInBounds_toArray, List.set_cons_zero, List.set_cons_succ, i64_w, i32_w]; rfl)
             refine pure_ (i := 8) (N := some 42) (v := ?_) (a' := ?_) #[true, true, true, true, true, true, false, true, true, false, false, false, false, false, false, false] rfl rfl (any_of HT_.out (by kernel_rfl)) (fun _ _ _ h => h) (Or.inl ⟨by rfl, ?_⟩) ?_ ?_; rotate_left; (· intro w'; go_simp; with_reducible rfl); rotate_left; (· simp only [Act.put, List.setIfInBounds_toArray, List.set_cons_zero, List.set_cons_succ, i64_w, i32_w]; rfl)
             refine pure_ (i := 9) (N := some 43) (v := ?_) (a' := ?_) #[true, true, true, true, true, true, false, true, true, true, false, false, false, false, false, false] rfl rfl (any_of HT_.out (by kernel_rfl)) (fun _ _ _ h => h) (Or.inl ⟨by rfl, ?_⟩) ?_ ?_; rotate_left; (· intro w'; go_simp; with_reducible rfl); rotate_left; (· simp only [Act.put, List.setIfInBounds_toArray, List.set_cons_zero, List.set_cons_succ, i64_w, i32_w]; rfl)
             refine take_ (i := 6) (N := some 40) (v := ?_) (a' := ?_) #[true, true, true, true, true, true, true, true, true, true, false, false, false, false, false, false] rfl rfl (take_ofW HT_.out HW_.out (by kernel_rfl)) (fun _ _ _ h => h) (Or.inl ⟨by rfl, ?_⟩) hHeld ?_ ?_; rotate_left; (· rintro w' ⟨s0, s1, s2, s3, s4⟩; go_simp; with_reducible rfl); rotate_left; (· simp only [Act.put, List.setIfInBounds_toArray, List.set_cons_zero, List.set_cons_succ, i64_w, i32_w]; rfl)
             refine take_ (i := 10) (N := some 44) (v := ?_) (a' := ?_) #[true, true, true, true, true, true, true, true, true, true, true, false, false, false, false, false] rfl rfl (take_ofW HT_.out HW_.out (by kernel_rfl)) (fun _ _ _ h => h) (Or.inl ⟨by rfl, ?_⟩) hHeld ?_ ?_; rotate_left; (· rintro w' ⟨s0, s1, s2, s3, s4⟩; go_simp; with_reducible rfl); rotate_left; (· simp only [Act.put, List.setIfInBounds_toArray, List.set_cons_zero, List.set_cons_succ, i64_w, i32_w]; rfl)
             refine one_ (i := 11) (N := some 45) #[true, true, true, true, true, true, true, true, true, true, true, true, false, false, false, false] rfl rfl (one_of HT_.out (by kernel_rfl)) (by decide) (fun K hK => ?_)
             refine goes_ Tryz.func62 (by kernel_rfl) rfl #[.agg #[.int .i64 ((rd_T33 l0 x6_1).f0.f0), .slice A476_1 ((rd_T33 l0 x6_1).f0.f1).length c476_1], .agg #[.string ((rd_T70 t471 x8_2).f0), .string ((rd_T70 t471 x8_2).f1)]] (by rfl) rfl rfl (by (try simp only [List.map_toArray, List.map_cons, List.map_nil]); first | done | rfl | (simp only [List.length_drop, List.length_take]; rfl)) ?_
             with_reducible refine (concordanceref08_Places.calls k2 ((rd_T33 l0 x6_1).f0.f0) _ _ ((rd_T33 l0 x6_1).f0.f1) ((rd_T70 t471 x8_2).f0) ((rd_T70 t471 x8_2).f1) t478 _ ?side1 ?side2 A13.out).mono ?_
             (case side1 => repeat (first | exact (Kd.C_below HR476_1.out HB.out) | (with_reducible refine Kd.C_alloc ?_ _) | (with_reducible refine Kd.C_drewN ?_ _) | (with_reducible refine Kd.C_drew ?_)))
             (case side2 => exact HC476_1.out)
             rintro e w18 ⟨v479, rfl, ho0, hb⟩
             have HS3_ := (hb.cell (World.block_lt_of_cell? _ _ (hHeld.2.2.2.1))).trans (hHeld.2.2.2.1)
             have HS4_ := (hb.cell (World.block_lt_of_cell? _ _ (hHeld.2.2.2.2))).trans (hHeld.2.2.2.2)
             refine ⟨_, rfl, ?_⟩
             replace HO_5 := sA (Kd.S_elder' (by (with_reducible repeat (first | apply Kd.S_alloc | apply Kd.S_drewN | apply Kd.S_drew)); exact HO_5.out) (Kd.R_base ho0) hb)
             replace HO_7 := sA (Kd.R_below (sR HO_7.out) hb)
             have HO480 := sA (Kd.R_lower ho0 (below_size (sW HB.out)))
             replace HB := sA (below_step (sW HB.out) hb)
             (try clear hb)
             (try clear hb2)
             (try clear hk)
             (try clear hi)
             (try clear ho0)
             obtain ⟨Ao19, co19, eo19⟩ := Kd.R_slice HO480.out
             (first | subst eo19 | (injection eo19 with f1_ f2_ f3_; have f4_ := f1_.symm; have f5_ := f3_.symm; clear f1_ f2_ f3_; subst f4_; subst f5_))
             refine hK.out _ _ ⟨((HB.out.cell (World.block_lt_of_cell? w _ hw476_0)).trans hw476_0), ((HB.out.cell (World.block_lt_of_cell? w _ hw476_1)).trans hw476_1), ((HB.out.cell (World.block_lt_of_cell? w _ hw476_2)).trans hw476_2), HS3_, HS4_⟩ (fun hHeld => ?_)
             clear hK K
             refine norm_ (a' := ?_) ?_ ?_; rotate_left; (· show Act.put _ (some 45) _ = _; simp only [Act.put, List.setIfInBounds_toArray, List.set_cons_zero, List.set_cons_succ, i64_w, i32_w]; rfl)
             refine pure_ (i := 12) (N := some 46) (v := ?_) (a' := ?_) #[true, true, true, true, true, true, true, true, true, true, true, true, true, false, false, false] rfl rfl (any_of HT_.out (by kernel_rfl)) (fun _ _ _ h => h) (Or.inl ⟨by rfl, ?_⟩) ?_ ?_; rotate_left; (· intro w'; go_simp; with_reducible rfl); rotate_left; (· simp only [Act.put, List.setIfInBounds_toArray, List.set_cons_zero, List.set_cons_succ, i64_w, i32_w]; rfl)
             refine last_ (i := 13) (N := some 47) #[true, true, true, true, true, true, true, true, true, true, true, true, true, true, false, false] rfl rfl (one_of HT_.out (by kernel_rfl)) (by decide) (fun K hK => ?_)
             refine value_ (w1 := ?_) (v := ?_) (by rfl) rfl ?_ ?_
             rotate_left 2
             ·go_simp
              constructor
              ·rfl
              ·rfl
             refine hK.out _ _ ?_
             clear hK K
             refine norm_ (a' := ?_) ?_ ?_; rotate_left; (· show Act.put _ (some 47) _ = _; simp only [Act.put, List.setIfInBounds_toArray, List.set_cons_zero, List.set_cons_succ, i64_w, i32_w]; rfl)
             refine last_ (i := 14) (N := some 48) #[true, true, true, true, true, true, true, true, true, true, true, true, true, true, true, false] rfl rfl (one_of HT_.out (by kernel_rfl)) (by decide) (fun K hK => ?_)
             refine Kd.S_append_step k41 (w0 := w) w.heap.size (by rfl) (.tmp 34) (.tmp 47) 36 41 (.agg #[(.int .i64 0), (.slice none 0 0)]) 32 rfl Tryz.underlying36 info41 rfl (by decide) (by omega) u5 x5_2 (⟨x6_1, t478⟩ : S41) [.int .i64 x6_1, .slice Ao19 t478.length co19] (fun _ => True) (fun k_ => some k_ = (.slice Ao19 t478.length co19 : Value).ownBlock) rfl rfl ?aP (fun k_ hk_ => ((Kd.R_mono (ok' := fun k_ => ((fun _ => True)) k_ ∧ some k_ ≠ (u5 : Value).ownBlock) (Kd.R_apart' (HO480.out) (Kd.S_typed HO_5.out) (by decide)) (fun k_ hk => ⟨trivial, hk.2⟩))).1 k_ hk_.symm) ?aF ?aO ?aB ?aS ?aL ?_
             (case aP => exact k41_mkM _ _ _ (⟨x6_1, t478⟩ : S41) (Kd.R_mono (Kd.R_tight rfl (Kd.R_mono (ok' := fun k_ => ((fun _ => True)) k_ ∧ some k_ ≠ (u5 : Value).ownBlock) (Kd.R_apart' (HO480.out) (Kd.S_typed HO_5.out) (by decide)) (fun k_ hk => ⟨trivial, hk.2⟩))) (fun _ h_ => h_)))
             (case aB => exact (sW HB.out))
             (case aF => exact (fun _ _ => trivial))
             (case aO => exact (by (with_reducible repeat (first | apply Kd.S_alloc | apply Kd.S_drewN | apply Kd.S_drew)); exact Kd.S_mono HO_5.out (fun k_ hk => ⟨trivial, fun e_ => hk.2 e_⟩)))
             (case aS => exact (below_size (sW HB.out)))
             (case aL => have := LMc14.out; omega)
             intro v482 w20 ho hb hg hat
             rw [← Ny481.out] at ho
             replace HO_7 := sA (Kd.R_over' (sR HO_7.out) (Kd.S_typed (by (with_reducible repeat (first | apply Kd.S_alloc | apply Kd.S_drewN | apply Kd.S_drew)); exact HO_5.out)) (by decide) hg)
             replace HB := sA (hb)
             have HO483 := sA (ho)
             clear HO_5 HO480
             clear ho hb hg hat
             refine hK.out _ _ ?_
             clear hK K
             refine norm_ (a' := ?_) ?_ ?_; rotate_left; (· show Act.put _ (some 48) _ = _; simp only [Act.put, List.setIfInBounds_toArray, List.set_cons_zero, List.set_cons_succ, i64_w, i32_w]; rfl)
             refine pure_ (i := 15) (N := some 5) (v := ?_) (a' := ?_) #[true, true, true, true, true, true, true, true, true, true, true, true, true, true, true, true] rfl rfl (any_of HT_.out (by kernel_rfl)) (fun _ _ _ h => h) (Or.inl ⟨by rfl, ?_⟩) ?_ ?_; rotate_left; (· intro w'; go_simp; with_reducible rfl); rotate_left; (· simp only [Act.put, List.setIfInBounds_toArray, List.set_cons_zero, List.set_cons_succ, i64_w, i32_w]; rfl)
             refine done_ (done_of HT_.out (by kernel_rfl)) ?_
             try go_wp2
             go_roundg k2
             case measure => have := HK1.out; have := HK2.out; omega
             case rel => exact ⟨(y481), (wrap64 (x8_2 + 1)), (by first | rfl | (simp; done) | (simp [*]; done)), H', ⟨by have := HK1.out; have := HK2.out; omega⟩, ⟨by (with_reducible repeat (first | apply Kd.S_alloc | apply Kd.S_drewN | apply Kd.S_drew)); exact HO483.out⟩, ⟨sR HO_7.out⟩, ⟨sW HB.out⟩⟩
            ·rw [if_neg c14] at H
             exact absurd H (by simp)
           ·rw [if_neg c12] at H
            exact absurd H (by simp)
          ·rw [if_neg c11] at H
           exact absurd H (by simp)
         ·rw [if_neg c10] at H
          have c10b0 : (t475.toList == a1.toList) = false := beq_eq_false_iff_ne.mpr c10
          have c10b1 : (t475.toList != a1.toList) = true := bne_iff_ne.mpr c10
          have H' := Aside0.mk H
          clear H
          obtain ⟨Ao21, co21, eo21⟩ := Kd.R_slice HO_7.out
          subst eo21
          have p474 : 0 ≤ (x8_2 : Int) := of_decide_eq_true (by assumption)
          have q474 : x8_2 < (t471.length : Int) := of_decide_eq_true (by assumption)
          obtain ⟨ad474, e474, hx474_0, hx474_1⟩ := at_T70 (Kd.R_reads' HO_7.out).2.2 x8_2 p474 q474
          cases e474
          replace p474 := eq_true p474
          replace q474 := eq_true q474
          go_wp2_with (first | ((with_reducible refine gate_callee (f := 60) rfl ?_); refine goesL_ (some 31) rfl rfl Tryz.func60 (by kernel_rfl) rfl #[.agg #[.string ((rd_T70 t471 x8_2).f0), .string ((rd_T70 t471 x8_2).f1)]] rfl (by (try simp only [List.map_toArray, List.map_cons, List.map_nil]); first | done | rfl | (simp only [List.length_drop, List.length_take]; rfl)) ?_; (with_reducible refine (concordanceref02_Key.calls ((rd_T70 t471 x8_2).f0) ((rd_T70 t471 x8_2).f1) t475 _ A9.out).mono ?_); rintro e w22 ⟨rfl, hb⟩; refine ⟨_, rfl, ?_⟩; replace HO_5 := sA (Kd.S_below (by (with_reducible repeat (first | apply Kd.S_alloc | apply Kd.S_drewN | apply Kd.S_drew)); exact HO_5.out) hb); replace HO_7 := sA (Kd.R_below (sR HO_7.out) hb); replace HB := sA (below_step (sW HB.out) hb); (try clear hb); (try clear hb2); (try clear hk); (try clear hi)))
          go_roundg k2
          case measure => have := HK1.out; have := HK2.out; omega
          case rel => exact ⟨(x5_2), (wrap64 (x8_2 + 1)), (by first | rfl | (simp; done) | (simp [*]; done)), H', ⟨by have := HK1.out; have := HK2.out; omega⟩, ⟨by (with_reducible repeat (first | apply Kd.S_alloc | apply Kd.S_drewN | apply Kd.S_drew)); exact HO_5.out⟩, ⟨sR HO_7.out⟩, ⟨sW HB.out⟩⟩
        ·rw [if_neg c8] at H
         exact absurd H (by simp)
       ·rw [if_neg c7] at H
        have c7b0 : decide (x8_2 < (t471.length : Int)) = false := decide_eq_false c7
        clear c7
        have H' := Aside0.mk H
        clear H
        obtain ⟨Ao23, co23, eo23⟩ := Kd.R_slice HO_7.out
        subst eo23
        go_wp2
        go_roundg k2
        case measure => have := HK1.out; have := HK2.out; omega
        case rel => exact ⟨(x5_2), (wrap64 (x6_1 + 1)), (by first | rfl | (simp; done) | (simp [*]; done)), H', ⟨by have := HK1.out; have := HK2.out; omega⟩, ⟨by (with_reducible repeat (first | apply Kd.S_alloc | apply Kd.S_drewN | apply Kd.S_drew)); exact HO_5.out⟩, ⟨sW HB.out⟩⟩
    ·rw [if_neg c4] at H
     exact absurd H (by simp)
   ·rw [if_neg c3] at H
    have c3b0 : decide (x6_1 < (l0.length : Int)) = false := decide_eq_false c3
    clear c3
    obtain rfl := Option.some.inj H
    go_wp2
    go_ret
    exact ⟨_, by first | rfl | (simp [errW_none, errW_some] <;> rfl) | (simp [*, errW_none, errW_some] <;> rfl), by (with_reducible repeat (first | apply Kd.S_alloc | apply Kd.S_drewN | apply Kd.S_drew)); exact HO_5.out, sW HB.out⟩

end Go.Proofs.YteidebllianiiaaGreatDoor.PAll
