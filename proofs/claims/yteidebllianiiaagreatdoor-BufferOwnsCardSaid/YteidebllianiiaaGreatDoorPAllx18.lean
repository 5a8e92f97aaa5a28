-- written by a program of this session (wip/px): the walk of printed functions
import Derived.Test.YteidebllianiiaaGreatDoorPAllx0
import Derived.Test.YteidebllianiiaaGreatDoorSq
import Derived.Test.YteidebllianiiaaGreatDoorLeq
import Derived.Test.YteidebllianiiaaGreatDoorPAllx13
import Derived.Test.YteidebllianiiaaGreatDoorPAllx17
namespace Go.Proofs.YteidebllianiiaaGreatDoor.PAll
open Go.RowKit Go.Proofs.YteidebllianiiaaGreatDoorW.PrintWords Go.Proofs.YteidebllianiiaaGreatDoorW.PrintLast Go.Proofs.YteidebllianiiaaGreatDoorW.PrintMore
attribute [local go_sem] max2_int min2_int max_two min_two max_three min_three max_four min_four   -- for this text's walks alone
set_option linter.unusedVariables false
set_option linter.unusedSimpArgs false

/-! ### concordanceref08_Terms: function 58 -/
mutual
def concordanceref08_Terms.l0 : Nat → List (S70) → Int → Int → List (S50) → Option ((List (S70)))
 | 0, _, _, _, _ => none
 | k + 1, x3, x4, x413000, x413001 => if x4 < (x413001.length : Int) then (if 0 ≤ x4 then ((concordanceref08_Words.f k x413000 x413001 ((rd_T50 x413001 x4).f0)).bind fun t414 => (concordanceref08_Terms.l1 k x3 x4 t414 0 x413000 x413001)) else (none)) else (some x3)
def concordanceref08_Terms.l1 : Nat → List (S70) → Int → List ByteArray → Int → Int → List (S50) → Option ((List (S70)))
 | 0, _, _, _, _, _, _ => none
 | k + 1, x3, x4, x5, x6, x413000, x413001 => if x6 < (x5.length : Int) then (if 0 ≤ x4 then (if x4 < (x413001.length : Int) then (if 0 ≤ x6 then ((concordanceref08_PutTerm.f k x3 ((rd_T50 x413001 x4).f0) (rdOf ByteArray.empty x5 x6)).bind fun t419 => (concordanceref08_Terms.l1 k t419 x4 x5 (wrap64 (x6 + 1)) x413000 x413001)) else (none)) else (none)) else (none)) else (concordanceref08_Terms.l0 k x3 (wrap64 (x4 + 1)) x413000 x413001)
end
def concordanceref08_Terms.f (k : Nat) (a0_0 : Int) (l0_1 : List (S50)) : Option ((List (S70))) := concordanceref08_Terms.l0 k ([] : List (S70)) 0 a0_0 l0_1
theorem concordanceref08_Terms.mono_l : ∀ k, (∀ y0 y1 y2 y3, LeO (concordanceref08_Terms.l0 k y0 y1 y2 y3) (concordanceref08_Terms.l0 (k + 1) y0 y1 y2 y3)) ∧ (∀ y0 y1 y2 y3 y4 y5, LeO (concordanceref08_Terms.l1 k y0 y1 y2 y3 y4 y5) (concordanceref08_Terms.l1 (k + 1) y0 y1 y2 y3 y4 y5))
 | 0 => ⟨fun _ _ _ _ r h => by simp [concordanceref08_Terms.l0] at h, fun _ _ _ _ _ _ r h => by simp [concordanceref08_Terms.l1] at h⟩
 | k + 1 => by
  obtain ⟨ih0, ih1⟩ := concordanceref08_Terms.mono_l k
  refine ⟨?_, ?_⟩
  ·intro y0 y1 y2 y3
   unfold concordanceref08_Terms.l0
   repeat' first
   | (with_reducible exact ih0 _ _ _ _)
   | (with_reducible exact ih1 _ _ _ _ _ _)
   | (with_reducible exact concordanceref08_PutTerm.mono _ _ _ _)
   | (with_reducible exact concordanceref08_Words.mono _ _ _ _)
   | (with_reducible exact LeO.refl _)
   | (with_reducible exact LeO.none _)
   | (with_reducible refine LeO.ite ?_ ?_)
   | (with_reducible refine LeO.bind ?_ (fun _ => ?_))
   | exact ih0 _ _ _ _
   | exact ih1 _ _ _ _ _ _
   | exact concordanceref08_PutTerm.mono _ _ _ _
   | exact concordanceref08_Words.mono _ _ _ _
   | exact LeO.none _
   | refine LeO.ite ?_ ?_
   | refine LeO.bind ?_ (fun _ => ?_)
  ·intro y0 y1 y2 y3 y4 y5
   unfold concordanceref08_Terms.l1
   repeat' first
   | (with_reducible exact ih0 _ _ _ _)
   | (with_reducible exact ih1 _ _ _ _ _ _)
   | (with_reducible exact concordanceref08_PutTerm.mono _ _ _ _)
   | (with_reducible exact concordanceref08_Words.mono _ _ _ _)
   | (with_reducible exact LeO.refl _)
   | (with_reducible exact LeO.none _)
   | (with_reducible refine LeO.ite ?_ ?_)
   | (with_reducible refine LeO.bind ?_ (fun _ => ?_))
   | exact ih0 _ _ _ _
   | exact ih1 _ _ _ _ _ _
   | exact concordanceref08_PutTerm.mono _ _ _ _
   | exact concordanceref08_Words.mono _ _ _ _
   | exact LeO.none _
   | refine LeO.ite ?_ ?_
   | refine LeO.bind ?_ (fun _ => ?_)
theorem concordanceref08_Terms.mono : ∀ a0 a1 k, LeO (concordanceref08_Terms.f k a0 a1) (concordanceref08_Terms.f (k + 1) a0 a1) := by
 intro a0 a1 k
 obtain ⟨ih0, ih1⟩ := concordanceref08_Terms.mono_l k
 unfold concordanceref08_Terms.f
 repeat' first
   | (with_reducible exact ih0 _ _ _ _)
   | (with_reducible exact ih1 _ _ _ _ _ _)
   | (with_reducible exact concordanceref08_PutTerm.mono _ _ _ _)
   | (with_reducible exact concordanceref08_Words.mono _ _ _ _)
   | (with_reducible exact LeO.refl _)
   | (with_reducible exact LeO.none _)
   | (with_reducible refine LeO.ite ?_ ?_)
   | (with_reducible refine LeO.bind ?_ (fun _ => ?_))
   | exact ih0 _ _ _ _
   | exact ih1 _ _ _ _ _ _
   | exact concordanceref08_PutTerm.mono _ _ _ _
   | exact concordanceref08_Words.mono _ _ _ _
   | exact LeO.none _
   | refine LeO.ite ?_ ?_
   | refine LeO.bind ?_ (fun _ => ?_)
def concordanceref08_Terms.T5 : Bool × List (List Nat × List Nat) := (true, [([], []), ([], []), ([1], [1]), ([], []), ([2, 3], [2, 3]), ([4], [4]), ([5], [5]), ([0, 6], [0, 6]), ([7, 7, 0, 1, 2, 3, 4, 5, 6, 7], [7])])
def concordanceref08_Terms.B5 : List Nat := [0, 0, 2, 0, 14, 30, 62, 127, 255]
theorem concordanceref08_Terms.tab5 : rtab .any (opsOf Tryz.f58 5) = concordanceref08_Terms.T5 := by kernel_rfl
theorem concordanceref08_Terms.bits5 : waitsOk concordanceref08_Terms.T5.2 concordanceref08_Terms.B5 = true := by kernel_rfl
def concordanceref08_Terms.T9 : Bool × List (List Nat × List Nat) := (true, [([], []), ([], []), ([1], [1]), ([], []), ([2, 3], [2, 3]), ([4], [4]), ([5], [5]), ([], []), ([], []), ([7, 8], [7, 8]), ([9], [9]), ([6, 10], [6, 10]), ([0, 11], [0, 11]), ([12, 12, 0, 1, 2, 3, 4, 5, 6, 7, 8, 9, 10, 11, 12], [0, 12])])
def concordanceref08_Terms.B9 : List Nat := [0, 0, 2, 0, 14, 30, 62, 0, 0, 384, 896, 2046, 4095, 8191]
theorem concordanceref08_Terms.tab9 : rtab .any (opsOf Tryz.f58 9) = concordanceref08_Terms.T9 := by kernel_rfl
theorem concordanceref08_Terms.bits9 : waitsOk concordanceref08_Terms.T9.2 concordanceref08_Terms.B9 = true := by kernel_rfl
set_option maxHeartbeats 8000000 in
set_option maxRecDepth 100000 in
theorem concordanceref08_Terms.calls (k : Nat) (a0_0 : Int) (A0_1 : Option Addr) (c0_1 : Nat) (l0_1 : List (S50)) (r : List (S70)) (w : World) (hr0_1 : Kd.C k50 w A0_1 l0_1.length l0_1) (hc0_1 : l0_1.length ≤ c0_1) (h : concordanceref08_Terms.f k a0_0 l0_1 = some r) :
  Calls Tryz.prog 58 #[.agg #[.int .i64 a0_0, .slice A0_1 l0_1.length c0_1]] w fun e w' => ∃ v0_ : Value, e = .returned (v0_) ∧ Kd.R k70 70 w' w.heap.size (fun _ => True) v0_ r ∧ Below w.heap.size w w' := by
 have hu31 := Tryz.underlying31
 have hu70 := Tryz.underlying70
 have HR0_1 := Aside0.mk hr0_1
 have HC0_1 := Aside0.mk hc0_1
 clear hr0_1 hc0_1
 have HB := sA (Below.refl w.heap.size w)
 have H : (concordanceref08_Terms.l0 k ([] : List (S70)) 0 a0_0 l0_1) = some r := h
 clear h
 have H' := Aside0.mk H
 clear H
 go_enter Tryz.func58, Tryz.ntmps58
 go_wp2_with (first | ((with_reducible refine gate_dst (N := 1) rfl ?_); refine box_event ?hg (N := 1) ?hd (cs := #[.int .i64 a0_0, .slice A0_1 l0_1.length c0_1]) (t := 31) ?hr ?_; (case hd => rfl); (case hg => rfl); (case hr => first | (go_simp; done) | (go_simp; rfl)); intro gb412 hg w2 hbox hb; have BK412 := sA (hbox); have GW412 := sA ((by rw [hg]; exact (below_size (sW HB.out)) : w.heap.size ≤ gb412)); have GE412 := sA ((by rw [hg]; exact (below_size (sW HB.out)) : w.heap.size ≤ gb412)); replace HB := sA (below_step (sW HB.out) hb); clear hb hbox hg))
 go_loopg [3, 4] k (fun kq v3 v4 w' => ∃ (x3_1 : List (S70)) (x4_1 : Int), v4 = .int .i64 x4_1 ∧ Aside0 (concordanceref08_Terms.l0 kq x3_1 x4_1 a0_0 l0_1 = some r) ∧ Aside0 (kq ≤ k) ∧ Aside0 (Kd.R k70 70 w' w.heap.size (fun _ => True) v3 x3_1) ∧ Aside0 (w'.heap[gb412]? = some (.cells #[.int .i64 a0_0, (.slice A0_1 l0_1.length c0_1)] 31 (0, 0))) ∧ Aside0 (Below w.heap.size w w'))
 case atStart => exact ⟨(([] : List (S70))), (0), (by first | rfl | (simp; done) | (simp [*]; done)), H', ⟨Nat.le_refl _⟩, ⟨by first | exact Kd.R_nil _ _ _ _ _ | exact Kd.N_nil _ _ _ _ _ | exact Kd.V_nil _ _ _ _ _ | exact Kd.Q_nil _ _ _ _ _ | exact Kd.S_nil _ _ _ _ _⟩, ⟨sB BK412.out⟩, ⟨by repeat (first | exact sW HB.out | refine sS ?_)⟩⟩
 case round =>
  clear H'
  try clear p2
  obtain ⟨x3_1, x4_1, rfl, HA, HK1, HO_3, BK412, HB⟩ := hrel
  cases gk with
  | zero => exact absurd HA.out (by simp [concordanceref08_Terms.l0])
  | succ k1 =>
   have H := HA.out
   clear HA
   simp only [concordanceref08_Terms.l0] at H
   by_cases c3 : x4_1 < (l0_1.length : Int)
   ·rw [if_pos c3] at H
    have c3b0 : decide (x4_1 < (l0_1.length : Int)) = true := decide_eq_true c3
    clear c3
    by_cases c4 : 0 ≤ x4_1
    ·rw [if_pos c4] at H
     have c4b0 : decide (0 ≤ x4_1) = true := decide_eq_true c4
     clear c4
     replace H := Option.bind_eq_some_iff.mp H
     obtain ⟨t414, A50, H⟩ := H
     have A5 := Aside0.mk A50
     clear A50
     have H' := Aside0.mk H
     clear H
     have hcz6_0 := c0 BK412.out
     have hcz6_1 := c1 BK412.out
     have hfz6_0 := blk_frozen BK412.out 0
     have hfz6_1 := blk_frozen BK412.out 1
     try go_wp2
     replace HO_3 := sA (Kd.R_drew HO_3.out)
     replace BK412 := sA (blk_drew BK412.out)
     replace HB := sA (below_drew1 HB.out)
     have p413 : 0 ≤ (x4_1 : Int) := of_decide_eq_true (by assumption)
     have q413 : x4_1 < (l0_1.length : Int) := of_decide_eq_true (by assumption)
     obtain ⟨ad413, e413, hx413_0, hx413_1⟩ := at_T50 HR0_1.out x4_1 p413 q413
     have hw413_1 := hx413_1
     have hw413_0 := hx413_0
     cases e413
     replace hx413_0 := (HB.out.cell (World.block_lt_of_cell? w _ hx413_0)).trans hx413_0
     replace hx413_1 := (HB.out.cell (World.block_lt_of_cell? w _ hx413_1)).trans hx413_1
     replace p413 := eq_true p413
     replace q413 := eq_true q413
     refine start_ (n := 9) (S := fun w' => w'.cell? ⟨gb412, 0, none⟩ = some (.int .i64 a0_0) ∧ w'.cell? ⟨gb412, 1, none⟩ = some (.slice (some ad413) l0_1.length c0_1) ∧ w'.cell? (ad413.add ((x4_1).toNat * 2)) = some (.string ((rd_T50 l0_1 x4_1).f0)) ∧ w'.cell? ⟨(ad413.add ((x4_1).toNat * 2)).block, (ad413.add ((x4_1).toNat * 2)).off + 1, none⟩ = some (.string ((rd_T50 l0_1 x4_1).f1))) (ds := []) #[false, false, false, false, false, false, false, false, false] (by kernel_rfl) rfl rfl ⟨c0 BK412.out, c1 BK412.out, ((HB.out.cell (World.block_lt_of_cell? w _ hw413_0)).trans hw413_0), ((HB.out.cell (World.block_lt_of_cell? w _ hw413_1)).trans hw413_1)⟩ (fun hHeld => ?_); refine with_tabW concordanceref08_Terms.tab5 concordanceref08_Terms.bits5 (fun HT_ HW_ => ?_)
     generalize wr.drew = w7 at HO_3 BK412 HB hx413_0 hx413_1 hHeld ⊢
     refine pure_ (i := 1) (N := some 15) (v := ?_) (a' := ?_) #[false, true, false, false, false, false, false, false, false] rfl rfl (any_of HT_.out (by kernel_rfl)) (fun _ _ _ h => h) (Or.inl ⟨by rfl, ?_⟩) ?_ ?_; rotate_left; (· intro w'; go_simp; with_reducible rfl); rotate_left; (· simp only [Act.put, List.setIfInBounds_toArray, List.set_cons_zero, List.set_cons_succ, i64_w, i32_w]; rfl)
     refine pure_ (i := 3) (N := some 17) (v := ?_) (a' := ?_) #[false, true, false, true, false, false, false, false, false] rfl rfl (any_of HT_.out (by kernel_rfl)) (fun _ _ _ h => h) (Or.inl ⟨by rfl, ?_⟩) ?_ ?_; rotate_left; (· intro w'; go_simp; with_reducible rfl); rotate_left; (· simp only [Act.put, List.setIfInBounds_toArray, List.set_cons_zero, List.set_cons_succ, i64_w, i32_w]; rfl)
     refine take_ (i := 0) (N := some 14) (v := ?_) (a' := ?_) #[true, true, false, true, false, false, false, false, false] rfl rfl (take_ofW HT_.out HW_.out (by kernel_rfl)) (fun _ _ _ h => h) (Or.inl ⟨by rfl, ?_⟩) hHeld ?_ ?_; rotate_left; (· rintro w' ⟨s0, s1, s2, s3⟩; go_simp; with_reducible rfl); rotate_left; (· simp only [Act.put, List.setIfInBounds_toArray, List.set_cons_zero, List.set_cons_succ, i64_w, i32_w]; rfl)
     refine take_ (i := 2) (N := some 16) (v := ?_) (a' := ?_) #[true, true, true, true, false, false, false, false, false] rfl rfl (take_ofW HT_.out HW_.out (by kernel_rfl)) (fun _ _ _ h => h) (Or.inl ⟨by rfl, ?_⟩) hHeld ?_ ?_; rotate_left; (· rintro w' ⟨s0, s1, s2, s3⟩; go_simp; with_reducible rfl); rotate_left; (· simp only [Act.put, List.setIfInBounds_toArray, List.set_cons_zero, List.set_cons_succ, i64_w, i32_w]; rfl)
     refine pure_ (i := 4) (N := some 18) (v := ?_) (a' := ?_) #[true, true, true, true, true, false, false, false, false] rfl rfl (any_of HT_.out (by kernel_rfl)) (fun _ _ _ h => h) (Or.inl ⟨by rfl, ?_⟩) ?_ ?_; rotate_left; (· intro w'; go_simp; with_reducible rfl); rotate_left; (· simp only [Act.put, List.setIfInBounds_toArray, List.set_cons_zero, List.set_cons_succ, i64_w, i32_w]; rfl)
     refine pure_ (i := 5) (N := some 19) (v := ?_) (a' := ?_) #[true, true, true, true, true, true, false, false, false] rfl rfl (any_of HT_.out (by kernel_rfl)) (fun _ _ _ h => h) (Or.inl ⟨by rfl, ?_⟩) ?_ ?_; rotate_left; (· intro w'; go_simp; with_reducible rfl); rotate_left; (· simp only [Act.put, List.setIfInBounds_toArray, List.set_cons_zero, List.set_cons_succ, i64_w, i32_w]; rfl)
     refine take_ (i := 6) (N := some 20) (v := ?_) (a' := ?_) #[true, true, true, true, true, true, true, false, false] rfl rfl (take_ofW HT_.out HW_.out (by kernel_rfl)) (fun _ _ _ h => h) (Or.inl ⟨by rfl, ?_⟩) hHeld ?_ ?_; rotate_left; (· rintro w' ⟨s0, s1, s2, s3⟩; go_simp; with_reducible rfl); rotate_left; (· simp only [Act.put, List.setIfInBounds_toArray, List.set_cons_zero, List.set_cons_succ, i64_w, i32_w]; rfl)
     refine one_ (i := 7) (N := some 21) #[true, true, true, true, true, true, true, true, false] rfl rfl (one_of HT_.out (by kernel_rfl)) (by decide) (fun K hK => ?_)
     refine goes_ Tryz.func57 (by kernel_rfl) rfl #[.agg #[.int .i64 a0_0, .slice (some ad413) l0_1.length c0_1], .string ((rd_T50 l0_1 x4_1).f0)] (by rfl) rfl rfl (by (try simp only [List.map_toArray, List.map_cons, List.map_nil]); first | done | rfl | (simp only [List.length_drop, List.length_take]; rfl)) ?_
     with_reducible refine (concordanceref08_Words.calls k1 a0_0 _ _ l0_1 ((rd_T50 l0_1 x4_1).f0) t414 _ ?side1 ?side2 A5.out).mono ?_
     (case side1 => repeat (first | exact (Kd.C_below HR0_1.out HB.out) | (with_reducible refine Kd.C_alloc ?_ _) | (with_reducible refine Kd.C_drewN ?_ _) | (with_reducible refine Kd.C_drew ?_)))
     (case side2 => exact HC0_1.out)
     rintro e w8 ⟨v415, rfl, ho0, hb⟩
     refine ⟨_, rfl, ?_⟩
     replace HO_3 := sA (Kd.R_below (sR HO_3.out) hb)
     have HO416 := sA (Kd.R_lower ho0 (below_size (by repeat (first | exact sW HB.out | refine sS ?_))))
     replace BK412 := sA (blk_below (sB BK412.out) hb)
     replace HB := sA (below_step (by repeat (first | exact sW HB.out | refine sS ?_)) hb)
     (try clear hb)
     (try clear hb2)
     (try clear hk)
     (try clear hi)
     (try clear ho0)
     refine hK.out _ _ ⟨c0 BK412.out, c1 BK412.out, ((HB.out.cell (World.block_lt_of_cell? w _ hw413_0)).trans hw413_0), ((HB.out.cell (World.block_lt_of_cell? w _ hw413_1)).trans hw413_1)⟩ (fun hHeld => ?_)
     clear hK K
     refine norm_ (a' := ?_) ?_ ?_; rotate_left; (· show Act.put _ (some 21) _ = _; simp only [Act.put, List.setIfInBounds_toArray, List.set_cons_zero, List.set_cons_succ, i64_w, i32_w]; rfl)
     refine pure_ (i := 8) (N := some 5) (v := ?_) (a' := ?_) #[true, true, true, true, true, true, true, true, true] rfl rfl (any_of HT_.out (by kernel_rfl)) (fun _ _ _ h => h) (Or.inl ⟨by rfl, ?_⟩) ?_ ?_; rotate_left; (· intro w'; go_simp; with_reducible rfl); rotate_left; (· simp only [Act.put, List.setIfInBounds_toArray, List.set_cons_zero, List.set_cons_succ, i64_w, i32_w]; rfl)
     refine done_ (done_of HT_.out (by kernel_rfl)) ?_
     try go_wp2
     go_loopg [3, 6] k1 (fun kq v3 v6 w' => ∃ (x3_2 : List (S70)) (x6_2 : Int), v6 = .int .i64 x6_2 ∧ Aside0 (concordanceref08_Terms.l1 kq x3_2 x4_1 t414 x6_2 a0_0 l0_1 = some r) ∧ Aside0 (kq ≤ k1) ∧ Aside0 (Kd.R k70 70 w' w.heap.size (fun _ => True) v3 x3_2) ∧ Aside0 (Kd.R Kd.string 9 w' w.heap.size (fun _ => True) v415 t414) ∧ Aside0 (w'.heap[gb412]? = some (.cells #[.int .i64 a0_0, (.slice (some ad413) l0_1.length c0_1)] 31 (0, 0))) ∧ Aside0 (Below w.heap.size w w'))
     case atStart => exact ⟨(x3_1), (0), (by first | rfl | (simp; done) | (simp [*]; done)), H', ⟨Nat.le_refl _⟩, ⟨sR HO_3.out⟩, ⟨sR HO416.out⟩, ⟨sB BK412.out⟩, ⟨by repeat (first | exact sW HB.out | refine sS ?_)⟩⟩
     case round =>
      clear H'
      try clear p2; try clear c3; try clear c3b0; try clear c4; try clear c4b0; try clear p4; try clear q4; try clear hx4; try clear c5; try clear hcz6_0; try clear hcz6_1; try clear hfz6_0; try clear hfz6_1; try clear hx413_0; try clear hx413_1; try clear p2; try clear p413; try clear q413
      obtain ⟨x3_2, x6_2, rfl, HA, HK2, HO_3, HO_5, BK412, HB⟩ := hrel
      cases gk with
      | zero => exact absurd HA.out (by simp [concordanceref08_Terms.l1])
      | succ k2 =>
       have H := HA.out
       clear HA
       simp only [concordanceref08_Terms.l1] at H
       by_cases c9 : x6_2 < (t414.length : Int)
       ·rw [if_pos c9] at H
        have c9b0 : decide (x6_2 < (t414.length : Int)) = true := decide_eq_true c9
        clear c9
        by_cases c10 : 0 ≤ x4_1
        ·rw [if_pos c10] at H
         have c10b0 : decide (0 ≤ x4_1) = true := decide_eq_true c10
         clear c10
         by_cases c11 : x4_1 < (l0_1.length : Int)
         ·rw [if_pos c11] at H
          have c11b0 : decide (x4_1 < (l0_1.length : Int)) = true := decide_eq_true c11
          clear c11
          by_cases c12 : 0 ≤ x6_2
          ·rw [if_pos c12] at H
           have c12b0 : decide (0 ≤ x6_2) = true := decide_eq_true c12
           clear c12
           replace H := Option.bind_eq_some_iff.mp H
           obtain ⟨t419, A130, H⟩ := H
           have A13 := Aside0.mk A130
           clear A130
           have H' := Aside0.mk H
           clear H
           obtain ⟨Ao14, co14, eo14⟩ := Kd.R_slice HO_5.out
           subst eo14
           try go_wp2
           replace HO_3 := sA (Kd.R_drew HO_3.out)
           replace HO_5 := sA (Kd.R_drew HO_5.out)
           replace BK412 := sA (blk_drew BK412.out)
           replace HB := sA (below_drew1 HB.out)
           have p417 : 0 ≤ (x4_1 : Int) := of_decide_eq_true (by assumption)
           have q417 : x4_1 < (l0_1.length : Int) := of_decide_eq_true (by assumption)
           obtain ⟨ad417, e417, hx417_0, hx417_1⟩ := at_T50 HR0_1.out x4_1 p417 q417
           have hw417_1 := hx417_1
           have hw417_0 := hx417_0
           obtain rfl : ad413 = ad417 := (by injection e417)
           replace hx417_0 := (HB.out.cell (World.block_lt_of_cell? w _ hx417_0)).trans hx417_0
           replace hx417_1 := (HB.out.cell (World.block_lt_of_cell? w _ hx417_1)).trans hx417_1
           replace p417 := eq_true p417
           replace q417 := eq_true q417
           have p418 : 0 ≤ (x6_2 : Int) := of_decide_eq_true (by assumption)
           have q418 : x6_2 < (t414.length : Int) := of_decide_eq_true (by assumption)
           obtain ⟨ad418, e418, hx418_0⟩ := Kd.at_string (Kd.R_reads' HO_5.out).2.2 x6_2 p418 q418
           cases e418
           replace p418 := eq_true p418
           replace q418 := eq_true q418
           obtain ⟨Ao16, co16, eo16⟩ := Kd.R_slice HO_3.out
           (first | subst eo16 | (injection eo16 with f1_ f2_ f3_; have f4_ := f1_.symm; have f5_ := f3_.symm; clear f1_ f2_ f3_; subst f4_; subst f5_))
           refine start_ (n := 14) (S := fun w' => w'.cell? ⟨gb412, 0, none⟩ = some (.int .i64 a0_0) ∧ w'.cell? ⟨gb412, 1, none⟩ = some (.slice (some ad413) l0_1.length c0_1) ∧ w'.cell? (ad413.add ((x4_1).toNat * 2)) = some (.string ((rd_T50 l0_1 x4_1).f0)) ∧ w'.cell? ⟨(ad413.add ((x4_1).toNat * 2)).block, (ad413.add ((x4_1).toNat * 2)).off + 1, none⟩ = some (.string ((rd_T50 l0_1 x4_1).f1)) ∧ w'.cell? (ad418.add (x6_2).toNat) = some (.string (rdOf ByteArray.empty t414 x6_2))) (ds := []) #[false, false, false, false, false, false, false, false, false, false, false, false, false, false] (by kernel_rfl) rfl rfl ⟨c0 BK412.out, c1 BK412.out, ((HB.out.cell (World.block_lt_of_cell? w _ hw417_0)).trans hw417_0), ((HB.out.cell (World.block_lt_of_cell? w _ hw417_1)).trans hw417_1), hx418_0⟩ (fun hHeld => ?_); refine with_tabW concordanceref08_Terms.tab9 concordanceref08_Terms.bits9 (fun HT_ HW_ => ?_)
           generalize wr.drew = w15 at HO_3 HO_5 BK412 HB hx417_0 hx417_1 hx418_0 hHeld ⊢
           refine pure_ (i := 0) (N := some 28) (v := ?_) (a' := ?_) #[true, false, false, false, false, false, false, false, false, false, false, false, false, false] rfl rfl (any_of HT_.out (by kernel_rfl)) (fun _ _ _ h => h) (Or.inl ⟨by rfl, ?_⟩) ?_ ?_; rotate_left; (· intro w'; go_simp; with_reducible rfl); rotate_left; (· simp only [Act.put, List.setIfInBounds_toArray, List.set_cons_zero, List.set_cons_succ, i64_w, i32_w]; rfl)
           refine pure_ (i := 1) (N := some 29) (v := ?_) (a' := ?_) #[true, true, false, false, false, false, false, false, false, false, false, false, false, false] rfl rfl (any_of HT_.out (by kernel_rfl)) (fun _ _ _ h => h) (Or.inl ⟨by rfl, ?_⟩) ?_ ?_; rotate_left; (· intro w'; go_simp; with_reducible rfl); rotate_left; (· simp only [Act.put, List.setIfInBounds_toArray, List.set_cons_zero, List.set_cons_succ, i64_w, i32_w]; rfl)
           refine pure_ (i := 3) (N := some 31) (v := ?_) (a' := ?_) #[true, true, false, true, false, false, false, false, false, false, false, false, false, false] rfl rfl (any_of HT_.out (by kernel_rfl)) (fun _ _ _ h => h) (Or.inl ⟨by rfl, ?_⟩) ?_ ?_; rotate_left; (· intro w'; go_simp; with_reducible rfl); rotate_left; (· simp only [Act.put, List.setIfInBounds_toArray, List.set_cons_zero, List.set_cons_succ, i64_w, i32_w]; rfl)
           refine pure_ (i := 7) (N := some 35) (v := ?_) (a' := ?_) #[true, true, false, true, false, false, false, true, false, false, false, false, false, false] rfl rfl (any_of HT_.out (by kernel_rfl)) (fun _ _ _ h => h) (Or.inl ⟨by rfl, ?_⟩) ?_ ?_; rotate_left; (· intro w'; go_simp; with_reducible rfl); rotate_left; (· simp only [Act.put, List.setIfInBounds_toArray, List.set_cons_zero, List.set_cons_succ, i64_w, i32_w]; rfl)
           refine pure_ (i := 8) (N := some 36) (v := ?_) (a' := ?_) #[true, true, false, true, false, false, false, true, true, false, false, false, false, false] rfl rfl (any_of HT_.out (by kernel_rfl)) (fun _ _ _ h => h) (Or.inl ⟨by rfl, ?_⟩) ?_ ?_; rotate_left; (· intro w'; go_simp; with_reducible rfl); rotate_left; (· simp only [Act.put, List.setIfInBounds_toArray, List.set_cons_zero, List.set_cons_succ, i64_w, i32_w]; rfl)
           refine pure_ (i := 9) (N := some 37) (v := ?_) (a' := ?_) #[true, true, false, true, false, false, false, true, true, true, false, false, false, false] rfl rfl (any_of HT_.out (by kernel_rfl)) (fun _ _ _ h => h) (Or.inl ⟨by rfl, ?_⟩) ?_ ?_; rotate_left; (· intro w'; go_simp; with_reducible rfl); rotate_left; (· simp only [Act.put, List.setIfInBounds_toArray, List.set_cons_zero, List.set_cons_succ, i64_w, i32_w]; rfl)
           refine take_ (i := 2) (N := some 30) (v := ?_) (a' := ?_) #[true, true, true, true, false, false, false, true, true, true, false, false, false, false] rfl rfl (take_ofW HT_.out HW_.out (by kernel_rfl)) (fun _ _ _ h => h) (Or.inl ⟨by rfl, ?_⟩) hHeld ?_ ?_; rotate_left; (· rintro w' ⟨s0, s1, s2, s3, s4⟩; go_simp; with_reducible rfl); rotate_left; (· simp only [Act.put, List.setIfInBounds_toArray, List.set_cons_zero, List.set_cons_succ, i64_w, i32_w]; rfl)
           refine pure_ (i := 4) (N := some 32) (v := ?_) (a' := ?_) #[true, true, true, true, true, false, false, true, true, true, false, false, false, false] rfl rfl (any_of HT_.out (by kernel_rfl)) (fun _ _ _ h => h) (Or.inl ⟨by rfl, ?_⟩) ?_ ?_; rotate_left; (· intro w'; go_simp; with_reducible rfl); rotate_left; (· simp only [Act.put, List.setIfInBounds_toArray, List.set_cons_zero, List.set_cons_succ, i64_w, i32_w]; rfl)
           refine pure_ (i := 5) (N := some 33) (v := ?_) (a' := ?_) #[true, true, true, true, true, true, false, true, true, true, false, false, false, false] rfl rfl (any_of HT_.out (by kernel_rfl)) (fun _ _ _ h => h) (Or.inl ⟨by rfl, ?_⟩) ?_ ?_; rotate_left; (· intro w'; go_simp; with_reducible rfl); rotate_left; (· simp only [Act.put, List.setIfInBounds_toArray, List.set_cons_zero, List.set_cons_succ, i64_w, i32_w]; rfl)
           refine take_ (i := 6) (N := some 34) (v := ?_) (a' := ?_) #[true, true, true, true, true, true, true, true, true, true, false, false, false, false] rfl rfl (take_ofW HT_.out HW_.out (by kernel_rfl)) (fun _ _ _ h => h) (Or.inl ⟨by rfl, ?_⟩) hHeld ?_ ?_; rotate_left; (· rintro w' ⟨s0, s1, s2, s3, s4⟩; go_simp; with_reducible rfl); rotate_left; (· simp only [Act.put, List.setIfInBounds_toArray, List.set_cons_zero, List.set_cons_succ, i64_w, i32_w]; rfl)
           refine take_ (i := 10) (N := some 38) (v := ?_) (a' := ?_) #[true, true, true, true, true, true, true, true, true, true, true, false, false, false] rfl rfl (take_ofW HT_.out HW_.out (by kernel_rfl)) (fun _ _ _ h => h) (Or.inl ⟨by rfl, ?_⟩) hHeld ?_ ?_; rotate_left; (· rintro w' ⟨s0, s1, s2, s3, s4⟩; go_simp; with_reducible rfl); rotate_left; (· simp only [Act.put, List.setIfInBounds_toArray, List.set_cons_zero, List.set_cons_succ, i64_w, i32_w]; rfl)
           refine pure_ (i := 11) (N := some 39) (v := ?_) (a' := ?_) #[true, true, true, true, true, true, true, true, true, true, true, true, false, false] rfl rfl (any_of HT_.out (by kernel_rfl)) (fun _ _ _ h => h) (Or.inl ⟨by rfl, ?_⟩) ?_ ?_; rotate_left; (· intro w'; go_simp; with_reducible rfl); rotate_left; (· simp only [Act.put, List.setIfInBounds_toArray, List.set_cons_zero, List.set_cons_succ, i64_w, i32_w]; rfl)
           refine one_ (i := 12) (N := some 40) #[true, true, true, true, true, true, true, true, true, true, true, true, true, false] rfl rfl (one_of HT_.out (by kernel_rfl)) (by decide) (fun K hK => ?_)
           refine goes_ Tryz.func76 (by kernel_rfl) rfl #[.slice Ao16 x3_2.length co16, .agg #[.string ((rd_T50 l0_1 x4_1).f0), .string (rdOf ByteArray.empty t414 x6_2)]] (by rfl) rfl rfl (by (try simp only [List.map_toArray, List.map_cons, List.map_nil]); first | done | rfl | (simp only [List.length_drop, List.length_take]; rfl)) ?_
           with_reducible refine (concordanceref08_PutTerm.calls k2 (fun k_ => some k_ = (.slice Ao16 x3_2.length co16 : Value).ownBlock) (.slice Ao16 x3_2.length co16) x3_2 ((rd_T50 l0_1 x4_1).f0) (rdOf ByteArray.empty t414 x6_2) t419 w _ ?side1 ?side2 A13.out).mono ?_
           (case side1 => repeat (first | (with_reducible first | exact HB.out | apply below_alloc | apply pw_below_drewN | apply below_drew1 | refine below_set ?_ GE412.out) | exact HB.out))
           (case side2 => exact Kd.R_tight rfl HO_3.out)
           rintro e w17 ⟨v420, rfl, ho0, hb, hkp⟩
           have HS4_ := cell_kept (hHeld.2.2.2.2) hkp (by first | (rw [add_block]; exact (fun hs_ => ((((Kd.R_apart' HO_5.out (Kd.R_typed HO_3.out) (by decide))).1 _ rfl).2) hs_)) | (show ¬ _; simp only [add_block]; exact (fun hs_ => ((((Kd.R_apart' HO_5.out (Kd.R_typed HO_3.out) (by decide))).1 _ rfl).2) hs_)) | exact (fun hs_ => ((((Kd.R_apart' HO_5.out (Kd.R_typed HO_3.out) (by decide))).1 _ rfl).2) hs_))
           refine ⟨_, rfl, ?_⟩
           replace HO_5 := sA (Kd.R_mono (ok' := fun k_ => True) (Kd.R_keptB ((Kd.R_apart' HO_5.out (Kd.R_typed HO_3.out) (by decide))) hkp (fun k_ hk_ hs_ => (hk_.2) hs_)) (fun k_ hk_ => trivial))
           replace BK412 := sA (blk_kept (sB BK412.out) hkp (fun hs_ => (fun e_ => (Kd.R_ne HO_3.out BK412.out (by decide)) e_) hs_))
           have HO421 := sA (Kd.R_mono (ok' := fun k_ => True) ho0 (fun k_ hk_ => trivial))
           replace HB := sA (hb)
           clear HO_3
           (try clear hb)
           (try clear hkp)
           (try clear ho0)
           refine hK.out _ _ ⟨c0 BK412.out, c1 BK412.out, ((HB.out.cell (World.block_lt_of_cell? w _ hw417_0)).trans hw417_0), ((HB.out.cell (World.block_lt_of_cell? w _ hw417_1)).trans hw417_1), HS4_⟩ (fun hHeld => ?_)
           clear hK K
           refine norm_ (a' := ?_) ?_ ?_; rotate_left; (· show Act.put _ (some 40) _ = _; simp only [Act.put, List.setIfInBounds_toArray, List.set_cons_zero, List.set_cons_succ, i64_w, i32_w]; rfl)
           refine pure_ (i := 13) (N := some 3) (v := ?_) (a' := ?_) #[true, true, true, true, true, true, true, true, true, true, true, true, true, true] rfl rfl (any_of HT_.out (by kernel_rfl)) (fun _ _ _ h => h) (Or.inl ⟨by rfl, ?_⟩) ?_ ?_; rotate_left; (· intro w'; go_simp; with_reducible rfl); rotate_left; (· simp only [Act.put, List.setIfInBounds_toArray, List.set_cons_zero, List.set_cons_succ, i64_w, i32_w]; rfl)
           refine done_ (done_of HT_.out (by kernel_rfl)) ?_
           try go_wp2
           go_roundg k2
           case measure => have := HK1.out; have := HK2.out; omega
           case rel => exact ⟨(t419), (wrap64 (x6_2 + 1)), (by first | rfl | (simp; done) | (simp [*]; done)), H', ⟨by have := HK1.out; have := HK2.out; omega⟩, ⟨sR HO421.out⟩, ⟨sR HO_5.out⟩, ⟨sB BK412.out⟩, ⟨by repeat (first | exact sW HB.out | refine sS ?_)⟩⟩
          ·rw [if_neg c12] at H
           exact absurd H (by simp)
         ·rw [if_neg c11] at H
          exact absurd H (by simp)
        ·rw [if_neg c10] at H
         exact absurd H (by simp)
       ·rw [if_neg c9] at H
        have c9b0 : decide (x6_2 < (t414.length : Int)) = false := decide_eq_false c9
        clear c9
        have H' := Aside0.mk H
        clear H
        obtain ⟨Ao18, co18, eo18⟩ := Kd.R_slice HO_5.out
        subst eo18
        go_wp2
        go_roundg k2
        case measure => have := HK1.out; have := HK2.out; omega
        case rel => exact ⟨(x3_2), (wrap64 (x4_1 + 1)), (by first | rfl | (simp; done) | (simp [*]; done)), H', ⟨by have := HK1.out; have := HK2.out; omega⟩, ⟨sR HO_3.out⟩, ⟨sB BK412.out⟩, ⟨by repeat (first | exact sW HB.out | refine sS ?_)⟩⟩
    ·rw [if_neg c4] at H
     exact absurd H (by simp)
   ·rw [if_neg c3] at H
    have c3b0 : decide (x4_1 < (l0_1.length : Int)) = false := decide_eq_false c3
    clear c3
    obtain rfl := Option.some.inj H
    have hcz19_0 := c0 BK412.out
    have hcz19_1 := c1 BK412.out
    have hfz19_0 := blk_frozen BK412.out 0
    have hfz19_1 := blk_frozen BK412.out 1
    go_wp2
    go_ret
    exact ⟨_, by first | rfl | (simp [errW_none, errW_some] <;> rfl) | (simp [*, errW_none, errW_some] <;> rfl), sR HO_3.out, by repeat (first | exact sW HB.out | refine sS ?_)⟩

/-! ### concordanceref07_Place: function 77 -/
def concordanceref07_Place.l0 : Nat → List ByteArray → ByteArray → Int → Option (Int × Bool)
 | 0, _, _, _ => none
 | k + 1, x0, x1, x6 => if x6 < (x0.length : Int) then (if 0 ≤ x6 then (if ((Op.bytesLess ((rdOf ByteArray.empty x0 x6).toList) x1.toList) = true) then (concordanceref07_Place.l0 k x0 x1 (wrap64 (x6 + 1))) else (some (x6, ((rdOf ByteArray.empty x0 x6).toList == x1.toList)))) else (none)) else (some ((x0.length : Int), false))
def concordanceref07_Place.f (k : Nat) (l0 : List ByteArray) (a1 : ByteArray) : Option (Int × Bool) := concordanceref07_Place.l0 k l0 a1 0
theorem concordanceref07_Place.mono_l : ∀ k, (∀ y0 y1 y2, LeO (concordanceref07_Place.l0 k y0 y1 y2) (concordanceref07_Place.l0 (k + 1) y0 y1 y2))
 | 0 => fun _ _ _ r h => by simp [concordanceref07_Place.l0] at h
 | k + 1 => by
  have ih0 := concordanceref07_Place.mono_l k
  ·intro y0 y1 y2
   unfold concordanceref07_Place.l0
   repeat' first
   | (with_reducible exact ih0 _ _ _)
   | (with_reducible exact LeO.refl _)
   | (with_reducible exact LeO.none _)
   | (with_reducible refine LeO.ite ?_ ?_)
   | (with_reducible refine LeO.bind ?_ (fun _ => ?_))
   | exact ih0 _ _ _
   | exact LeO.none _
   | refine LeO.ite ?_ ?_
   | refine LeO.bind ?_ (fun _ => ?_)
theorem concordanceref07_Place.mono : ∀ a0 a1 k, LeO (concordanceref07_Place.f k a0 a1) (concordanceref07_Place.f (k + 1) a0 a1) := by
 intro a0 a1 k
 have ih0 := concordanceref07_Place.mono_l k
 unfold concordanceref07_Place.f
 repeat' first
   | (with_reducible exact ih0 _ _ _)
   | (with_reducible exact LeO.refl _)
   | (with_reducible exact LeO.none _)
   | (with_reducible refine LeO.ite ?_ ?_)
   | (with_reducible refine LeO.bind ?_ (fun _ => ?_))
   | exact ih0 _ _ _
   | exact LeO.none _
   | refine LeO.ite ?_ ?_
   | refine LeO.bind ?_ (fun _ => ?_)
set_option maxHeartbeats 8000000 in
set_option maxRecDepth 100000 in
theorem concordanceref07_Place.calls (k : Nat) (A0 : Option Addr) (c0 : Nat) (l0 : List ByteArray) (a1 : ByteArray) (r1 : Int) (r2 : Bool) (w : World) (hr0 : Kd.C Kd.string w A0 l0.length l0) (hc0 : l0.length ≤ c0) (h : concordanceref07_Place.f k l0 a1 = some (r1, r2)) :
  Calls Tryz.prog 77 #[.slice A0 l0.length c0, .string a1] w fun e w' => e = .returned (.tuple #[.int .i64 r1, .bool r2]) ∧ Drawn0 w w' := by
 have HR0 := Aside0.mk hr0
 have HC0 := Aside0.mk hc0
 clear hr0 hc0
 have H : (concordanceref07_Place.l0 k l0 a1 0) = some (r1, r2) := h
 clear h
 have H' := Aside0.mk H
 clear H
 go_enter Tryz.func77, Tryz.ntmps77
 go_wp2
 repeat (go_quiet (fail); try go_wp2)
 go_loopg [6] k (fun kq v6 w' => ∃ (x6_1 : Int), v6 = .int .i64 x6_1 ∧ Aside0 (concordanceref07_Place.l0 kq l0 a1 x6_1 = some (r1, r2)) ∧ Aside0 (kq ≤ k) ∧ Drawn0 w w')
 case atStart => exact ⟨(0), (by first | rfl | (simp; done) | (simp [*]; done)), H', ⟨Nat.le_refl _⟩, by repeat (first | exact Drawn0.refl _ | apply Drawn0.step)⟩
 case round =>
  clear H'
  try clear p2
  obtain ⟨x6_1, rfl, HA, HK1, ⟨m1, rfl⟩⟩ := hrel
  cases gk with
  | zero => exact absurd HA.out (by simp [concordanceref07_Place.l0])
  | succ k1 =>
   have H := HA.out
   clear HA
   simp only [concordanceref07_Place.l0] at H
   by_cases c3 : x6_1 < (l0.length : Int)
   ·rw [if_pos c3] at H
    have c3b0 : decide (x6_1 < (l0.length : Int)) = true := decide_eq_true c3
    clear c3
    by_cases c4 : 0 ≤ x6_1
    ·rw [if_pos c4] at H
     have c4b0 : decide (0 ≤ x6_1) = true := decide_eq_true c4
     clear c4
     by_cases c5 : ((Op.bytesLess ((rdOf ByteArray.empty l0 x6_1).toList) a1.toList) = true)
     ·rw [if_pos c5] at H
      have c5b0 : (Op.bytesLess ((rdOf ByteArray.empty l0 x6_1).toList) a1.toList) = true := c5
      clear c5
      have H' := Aside0.mk H
      clear H
      have p422 : 0 ≤ (x6_1 : Int) := of_decide_eq_true (by assumption)
      have q422 : x6_1 < (l0.length : Int) := of_decide_eq_true (by assumption)
      obtain ⟨ad422, e422, hx422_0⟩ := Kd.at_string HR0.out x6_1 p422 q422
      cases e422
      replace p422 := eq_true p422
      replace q422 := eq_true q422
      go_wp2
      repeat (go_quiet (fail); try go_wp2)
      go_roundg k1
      case measure => have := HK1.out; omega
      case rel => exact ⟨(wrap64 (x6_1 + 1)), (by first | rfl | (simp; done) | (simp [*]; done)), H', ⟨by have := HK1.out; omega⟩, by repeat (first | exact Drawn0.refl _ | apply Drawn0.step)⟩
     ·rw [if_neg c5] at H
      have c5b0 : (Op.bytesLess ((rdOf ByteArray.empty l0 x6_1).toList) a1.toList) = false := by simpa using c5
      clear c5
      simp only [Option.some.injEq, Prod.mk.injEq] at H
      obtain ⟨rfl, rfl⟩ := H
      have p422 : 0 ≤ (x6_1 : Int) := of_decide_eq_true (by assumption)
      have q422 : x6_1 < (l0.length : Int) := of_decide_eq_true (by assumption)
      obtain ⟨ad422, e422, hx422_0⟩ := Kd.at_string HR0.out x6_1 p422 q422
      cases e422
      replace p422 := eq_true p422
      replace q422 := eq_true q422
      have p423 : 0 ≤ (x6_1 : Int) := of_decide_eq_true (by assumption)
      have q423 : x6_1 < (l0.length : Int) := of_decide_eq_true (by assumption)
      obtain ⟨ad423, e423, hx423_0⟩ := Kd.at_string HR0.out x6_1 p423 q423
      obtain rfl : ad422 = ad423 := (by injection e423)
      replace p423 := eq_true p423
      replace q423 := eq_true q423
      go_wp2
      repeat (go_quiet (fail); try go_wp2)
      go_ret2
      exact ⟨by first | rfl | (simp; done) | (simp [*]; done), by repeat (first | exact Drawn0.refl _ | apply Drawn0.step)⟩
    ·rw [if_neg c4] at H
     exact absurd H (by simp)
   ·rw [if_neg c3] at H
    have c3b0 : decide (x6_1 < (l0.length : Int)) = false := decide_eq_false c3
    clear c3
    simp only [Option.some.injEq, Prod.mk.injEq] at H
    obtain ⟨rfl, rfl⟩ := H
    go_wp2
    repeat (go_quiet (fail); try go_wp2)
    go_ret2
    exact ⟨by first | rfl | (simp; done) | (simp [*]; done), by repeat (first | exact Drawn0.refl _ | apply Drawn0.step)⟩

/-! ### concordanceref07_Put: function 59 -/
def concordanceref07_Put.f (k : Nat) (l0 : List ByteArray) (a1 : ByteArray) : Option (List ByteArray) := (concordanceref07_Place.f k l0 a1).bind fun bt424 => (if bt424.2 = true then (some l0) else (if 0 ≤ bt424.1 then (if bt424.1 ≤ (l0.length : Int) then ((some (l0.take (bt424.1 : Int).toNat : List ByteArray)).bind fun y426 => (if ([] : List ByteArray).length + y426.length < 8796093022208 then ((some (([] : List ByteArray) ++ y426 : List ByteArray)).bind fun y430 => (if y430.length < 8796093022208 then ((some (y430 ++ [a1] : List ByteArray)).bind fun y433 => ((some (l0.drop (bt424.1 : Int).toNat : List ByteArray)).bind fun y436 => (if y433.length + y436.length < 8796093022208 then (some (y433 ++ y436)) else (none)))) else (none))) else (none))) else (none)) else (none)))
theorem concordanceref07_Put.mono : ∀ a0 a1 k, LeO (concordanceref07_Put.f k a0 a1) (concordanceref07_Put.f (k + 1) a0 a1) := by
 intro a0 a1 k
 unfold concordanceref07_Put.f
 repeat' first
   | (with_reducible exact concordanceref07_Place.mono _ _ _)
   | (with_reducible exact LeO.refl _)
   | (with_reducible exact LeO.none _)
   | (with_reducible refine LeO.ite ?_ ?_)
   | (with_reducible refine LeO.bind ?_ (fun _ => ?_))
   | exact concordanceref07_Place.mono _ _ _
   | exact LeO.none _
   | refine LeO.ite ?_ ?_
   | refine LeO.bind ?_ (fun _ => ?_)
set_option maxHeartbeats 8000000 in
set_option maxRecDepth 100000 in
theorem concordanceref07_Put.calls (k : Nat) (P0_ : Nat → Prop) (u9000_ : Value) (l0 : List ByteArray) (a1 : ByteArray) (r : List ByteArray) (w0 w : World) (hB : Below w0.heap.size w0 w) (ho0 : Kd.R Kd.string 9 w w0.heap.size P0_ u9000_ l0) (h : concordanceref07_Put.f k l0 a1 = some r) :
  Calls Tryz.prog 59 #[u9000_, .string a1] w fun e w' => ∃ v0_ : Value, e = .returned (v0_) ∧ Kd.R Kd.string 9 w' w0.heap.size (fun k_ => (P0_ k_ ∨ w.heap.size ≤ k_)) v0_ r ∧ Below w0.heap.size w0 w' ∧ Kept w w' (fun k_ => P0_ k_) := by
 have HO0 := sA (show Kd.R Kd.string 9 w w0.heap.size (fun k_ => (P0_ k_ ∨ w.heap.size ≤ k_)) u9000_ l0 from Kd.R_mono ho0 (fun k_ hk => (.inl hk)))
 have HK := sA (Kept.refl w (fun k_ => P0_ k_))
 have HW0 := Aside0.mk hB.size
 have HB := Aside0.mk hB
 clear hB
 have H : ((concordanceref07_Place.f k l0 a1).bind fun bt424 => (if bt424.2 = true then (some l0) else (if 0 ≤ bt424.1 then (if bt424.1 ≤ (l0.length : Int) then ((some (l0.take (bt424.1 : Int).toNat : List ByteArray)).bind fun y426 => (if ([] : List ByteArray).length + y426.length < 8796093022208 then ((some (([] : List ByteArray) ++ y426 : List ByteArray)).bind fun y430 => (if y430.length < 8796093022208 then ((some (y430 ++ [a1] : List ByteArray)).bind fun y433 => ((some (l0.drop (bt424.1 : Int).toNat : List ByteArray)).bind fun y436 => (if y433.length + y436.length < 8796093022208 then (some (y433 ++ y436)) else (none)))) else (none))) else (none))) else (none)) else (none)))) = some r := h
 clear h
 replace H := Option.bind_eq_some_iff.mp H
 obtain ⟨⟨t424, t425⟩, A30, H⟩ := H
 have A3 := Aside0.mk A30
 clear A30
 by_cases c4 : t425 = true
 ·subst c4
  have H1 : (some l0) = some r := by rw [if_pos rfl] at H; exact H
  clear H
  have H := H1
  clear H1
  obtain rfl := Option.some.inj H
  obtain ⟨Ao5, co5, eo5⟩ := Kd.R_slice HO0.out
  subst eo5
  go_enter Tryz.func59, Tryz.ntmps59
  go_wp2_with (first | ((with_reducible refine gate_callee (f := 77) rfl ?_); refine goesL_ (some 11) rfl rfl Tryz.func77 (by kernel_rfl) rfl #[.slice Ao5 l0.length co5, .string a1] rfl (by (try simp only [List.map_toArray, List.map_cons, List.map_nil]); first | done | rfl | (simp only [List.length_drop, List.length_take]; rfl)) ?_; (with_reducible refine (concordanceref07_Place.calls k _ _ l0 a1 t424 true _ ?side1 ?side2 A3.out).mono ?_); (case side1 => exact sC (Kd.R_reads' HO0.out).2.2); (case side2 => exact (Kd.R_reads' HO0.out).2.1); rintro e w' ⟨rfl, ⟨nd, rfl⟩⟩; refine ⟨_, rfl, ?_⟩))
  go_ret
  exact ⟨_, by first | rfl | (simp [errW_none, errW_some] <;> rfl) | (simp [*, errW_none, errW_some] <;> rfl), sR HO0.out, sW HB.out, sK HK.out⟩
 ·replace c4 := Bool.eq_false_iff.mpr c4
  subst c4
  have H1 : (if 0 ≤ t424 then (if t424 ≤ (l0.length : Int) then ((some (l0.take (t424 : Int).toNat : List ByteArray)).bind fun y426 => (if ([] : List ByteArray).length + y426.length < 8796093022208 then ((some (([] : List ByteArray) ++ y426 : List ByteArray)).bind fun y430 => (if y430.length < 8796093022208 then ((some (y430 ++ [a1] : List ByteArray)).bind fun y433 => ((some (l0.drop (t424 : Int).toNat : List ByteArray)).bind fun y436 => (if y433.length + y436.length < 8796093022208 then (some (y433 ++ y436)) else (none)))) else (none))) else (none))) else (none)) else (none)) = some r := by rw [if_neg (show ¬ (false = true) by decide)] at H; exact H
  clear H
  have H := H1
  clear H1
  by_cases c6 : 0 ≤ t424
  ·rw [if_pos c6] at H
   have c6b0 := eq_true c6
   have c6b1 : decide (0 ≤ t424) = true := decide_eq_true c6
   clear c6
   by_cases c7 : t424 ≤ (l0.length : Int)
   ·rw [if_pos c7] at H
    have c7b0 := eq_true c7
    have c7b1 : decide (t424 ≤ (l0.length : Int)) = true := decide_eq_true c7
    clear c7
    obtain ⟨y426, hy426⟩ : ∃ y_ : List ByteArray, y_ = (l0.take (t424 : Int).toNat) := ⟨_, rfl⟩
    replace H : (if ([] : List ByteArray).length + y426.length < 8796093022208 then ((some (([] : List ByteArray) ++ y426 : List ByteArray)).bind fun y430 => (if y430.length < 8796093022208 then ((some (y430 ++ [a1] : List ByteArray)).bind fun y433 => ((some (l0.drop (t424 : Int).toNat : List ByteArray)).bind fun y436 => (if y433.length + y436.length < 8796093022208 then (some (y433 ++ y436)) else (none)))) else (none))) else (none)) = some r := by first | (rw [hy426]; with_reducible exact H) | (have H2_ := (Option.bind_some _ _).symm.trans H; rw [hy426]; with_reducible exact H2_) | (have H2_ := (Option.bind_some _ _).symm.trans H; with_reducible exact H2_) | with_reducible exact H | (rw [hy426]; exact H) | exact H
    have Ny426 := Aside0.mk hy426
    clear hy426
    by_cases c8 : ([] : List ByteArray).length + y426.length < 8796093022208
    ·rw [if_pos c8] at H
     have LMc8 := Aside0.mk c8
     clear c8
     obtain ⟨y430, hy430⟩ : ∃ y_ : List ByteArray, y_ = (([] : List ByteArray) ++ y426) := ⟨_, rfl⟩
     replace H : (if y430.length < 8796093022208 then ((some (y430 ++ [a1] : List ByteArray)).bind fun y433 => ((some (l0.drop (t424 : Int).toNat : List ByteArray)).bind fun y436 => (if y433.length + y436.length < 8796093022208 then (some (y433 ++ y436)) else (none)))) else (none)) = some r := by first | (rw [hy430]; with_reducible exact H) | (have H2_ := (Option.bind_some _ _).symm.trans H; rw [hy430]; with_reducible exact H2_) | (have H2_ := (Option.bind_some _ _).symm.trans H; with_reducible exact H2_) | with_reducible exact H | (rw [hy430]; exact H) | exact H
     have Ny430 := Aside0.mk hy430
     clear hy430
     by_cases c9 : y430.length < 8796093022208
     ·rw [if_pos c9] at H
      have LMc9 := Aside0.mk c9
      clear c9
      obtain ⟨y433, hy433⟩ : ∃ y_ : List ByteArray, y_ = (y430 ++ [a1]) := ⟨_, rfl⟩
      replace H : ((some (l0.drop (t424 : Int).toNat : List ByteArray)).bind fun y436 => (if y433.length + y436.length < 8796093022208 then (some (y433 ++ y436)) else (none))) = some r := by first | (rw [hy433]; with_reducible exact H) | (have H2_ := (Option.bind_some _ _).symm.trans H; rw [hy433]; with_reducible exact H2_) | (have H2_ := (Option.bind_some _ _).symm.trans H; with_reducible exact H2_) | with_reducible exact H | (rw [hy433]; exact H) | exact H
      have Ny433 := Aside0.mk hy433
      clear hy433
      have c10b0 := eq_true (of_decide_eq_true (by assumption) : 0 ≤ t424)
      have c11b0 := eq_true (of_decide_eq_true (by assumption) : t424 ≤ (l0.length : Int))
      obtain ⟨y436, hy436⟩ : ∃ y_ : List ByteArray, y_ = (l0.drop (t424 : Int).toNat) := ⟨_, rfl⟩
      replace H : (if y433.length + y436.length < 8796093022208 then (some (y433 ++ y436)) else (none)) = some r := by first | (rw [hy436]; with_reducible exact H) | (have H2_ := (Option.bind_some _ _).symm.trans H; rw [hy436]; with_reducible exact H2_) | (have H2_ := (Option.bind_some _ _).symm.trans H; with_reducible exact H2_) | with_reducible exact H | (rw [hy436]; exact H) | exact H
      have Ny436 := Aside0.mk hy436
      clear hy436
      by_cases c12 : y433.length + y436.length < 8796093022208
      ·rw [if_pos c12] at H
       have LMc12 := Aside0.mk c12
       clear c12
       obtain ⟨y440, hy440⟩ : ∃ y_ : List ByteArray, y_ = (y433 ++ y436) := ⟨_, rfl⟩
       replace H : (some y440) = some r := by first | (rw [hy440]; with_reducible exact H) | (have H2_ := (Option.bind_some _ _).symm.trans H; rw [hy440]; with_reducible exact H2_) | (have H2_ := (Option.bind_some _ _).symm.trans H; with_reducible exact H2_) | with_reducible exact H | (rw [hy440]; exact H) | exact H
       have Ny440 := Aside0.mk hy440
       clear hy440
       obtain rfl := Option.some.inj H
       obtain ⟨Ao13, co13, eo13⟩ := Kd.R_slice HO0.out
       subst eo13
       go_enter Tryz.func59, Tryz.ntmps59
       go_wp2_with (first | ((with_reducible refine gate_callee (f := 77) rfl ?_); refine goesL_ (some 11) rfl rfl Tryz.func77 (by kernel_rfl) rfl #[.slice Ao13 l0.length co13, .string a1] rfl (by (try simp only [List.map_toArray, List.map_cons, List.map_nil]); first | done | rfl | (simp only [List.length_drop, List.length_take]; rfl)) ?_; (with_reducible refine (concordanceref07_Place.calls k _ _ l0 a1 t424 false _ ?side1 ?side2 A3.out).mono ?_); (case side1 => exact sC (Kd.R_reads' HO0.out).2.2); (case side2 => exact (Kd.R_reads' HO0.out).2.1); rintro e w' ⟨rfl, ⟨nd, rfl⟩⟩; refine ⟨_, rfl, ?_⟩; have q14 : (t424 : Int) ≤ ((l0.length : Int) : Int) := of_decide_eq_true (by assumption); obtain ⟨i014, hi014, _, hsz14, _⟩ := info_parts info9; have hroom14 : l0.length ≤ co13 := (Kd.R_reads' HO0.out).2.1; have hC14 : Kd.C Kd.string _ Ao13 l0.length l0 := (Kd.R_reads' HO0.out).2.2; have hcut14 := cut_to (P := Tryz.prog) 34 9 .i64 Tryz.underlying34 hi014 Ao13 l0.length co13 t424 (of_decide_eq_true (by assumption)) q14 hroom14; have hr14 := Kd.C_take (m := (t424 : Int).toNat) hC14 (by omega); have hy14 : y426.length = (t424 : Int).toNat := (by rw [Ny426.out, List.length_take]; omega); rw [← Ny426.out] at hr14; rw [← hy14] at hcut14; have HR429 := Aside0.mk hr14; have HC429 := sA (show y426.length ≤ co13 from by omega); clear hr14 hC14 hroom14 hi014 hsz14; have KY14 := Aside0.mk hy14; clear hy14; have KL14 := sA (show (t424 : Int).toNat ≤ l0.length from by omega); replace q14 := eq_true q14) | ((with_reducible refine gate_builtin (b := .append) (xs := #[.tmp 16, .tmp 19]) rfl ?_); at_builtin; refine Kd.R_append_rows Kd.string (w0 := w0) w0.heap.size rfl (.tmp 16) (.tmp 19) 34 9 (.string ⟨#[]⟩) 16 rfl Tryz.underlying34 info9 rfl (by decide) (by omega) (.slice none 0 0) ([] : List ByteArray) y426 _ _ _ (fun k_ => (P0_ k_ ∨ w.heap.size ≤ k_) ∧ some k_ ≠ (.slice Ao13 l0.length co13 : Value).ownBlock) (fun _ => False) rfl rfl ?aO ?aR (fun _ _ h => h) (fun _ h => h.elim) ?aF ?aB ?aS ?aL ?_; (case aR => repeat (first | exact (by repeat (first | (with_reducible exact HR429.out) | (with_reducible refine Kd.C_alloc ?_ _) | (with_reducible refine Kd.C_drewN ?_ _) | (with_reducible refine Kd.C_drew ?_) | exact HR429.out)) | (with_reducible refine Kd.C_alloc ?_ _) | (with_reducible refine Kd.C_drewN ?_ _) | (with_reducible refine Kd.C_drew ?_))); (case aB => exact (sW HB.out)); (case aF => exact (fun k_ hk => ⟨(.inr (Nat.le_trans (by first | exact HK.out.1 | exact (show Kept w _ (fun k_ => P0_ k_) from sK HK.out).1) hk)), Kd.fresh' (Kd.R_lt (sR HO0.out)) k_ hk⟩)); (case aO => exact ((Kd.R_nil _ _ _ _ (fun k_ => (P0_ k_ ∨ w.heap.size ≤ k_) ∧ some k_ ≠ (.slice Ao13 l0.length co13 : Value).ownBlock)))); (case aS => exact (below_size (sW HB.out))); (case aL => have := LMc8.out; omega); intro v431 w15 ho hb hg hat; rw [← Ny430.out] at ho; replace HB := sA (hb); replace HK := sA (Kept.of_grown (S := (fun k_ => P0_ k_)) hg (sK HK.out) (fun k_ e_ => by simp [Value.ownBlock] at e_)); replace HR429 := sA ((show Kd.C Kd.string w15 Ao13 y426.length y426 from by rw [Ny426.out]; exact Kd.C_take (m := (t424 : Int).toNat) ((Kd.R_reads' (Kd.R_after (Kd.R_apart_nil (sR HO0.out)) hg hat)).2.2) KL14.out)); replace HO0 := sA (Kd.R_after (Kd.R_apart_nil (sR HO0.out)) hg hat); have HO432 := sA (ho); clear ho hb hg hat) | ((with_reducible refine gate_builtin (b := .append) (xs := #[.tmp 21, .tmp 23]) rfl ?_); at_builtin; refine Kd.R_append Kd.string (w0 := w0) w0.heap.size rfl (.tmp 21) (.tmp 23) 34 9 (.string ⟨#[]⟩) 16 rfl Tryz.underlying34 info9 rfl (by decide) (by omega) v431 y430 a1 [.string a1] (fun k_ => (P0_ k_ ∨ w.heap.size ≤ k_) ∧ some k_ ≠ (.slice Ao13 l0.length co13 : Value).ownBlock) (fun _ => False) rfl rfl ?aP (fun _ hk => hk.elim) ?aF ?aO ?aB ?aS ?aL ?_; (case aP => exact rfl); (case aB => exact (sW HB.out)); (case aF => exact (fun k_ hk => ⟨(.inr (Nat.le_trans (by first | exact HK.out.1 | exact (show Kept w _ (fun k_ => P0_ k_) from sK HK.out).1) hk)), Kd.fresh' (Kd.R_lt (sR HO0.out)) k_ hk⟩)); (case aO => exact (sR HO432.out)); (case aS => exact (below_size (sW HB.out))); (case aL => have := LMc9.out; omega); intro v434 w16 ho hb hg hat; rw [← Ny433.out] at ho; replace HB := sA (hb); replace HK := sA (Kept.of_grown (S := (fun k_ => P0_ k_)) hg (sK HK.out) (fun k_ e_ => (HO432.out.1 k_ e_).1)); replace HR429 := sA ((show Kd.C Kd.string w16 Ao13 y426.length y426 from by rw [Ny426.out]; exact Kd.C_take (m := (t424 : Int).toNat) ((Kd.R_reads' (Kd.R_after (ok := (fun k_ => (P0_ k_ ∨ w.heap.size ≤ k_))) (sR HO0.out) hg hat)).2.2) KL14.out)); replace HO0 := sA (Kd.R_after (ok := (fun k_ => (P0_ k_ ∨ w.heap.size ≤ k_))) (sR HO0.out) hg hat); have HO435 := sA (ho); clear HO432; clear ho hb hg hat; have q17 : (t424 : Int) ≤ ((l0.length : Int) : Int) := of_decide_eq_true (by assumption); obtain ⟨i017, hi017, _, hsz17, _⟩ := info_parts info9; have hroom17 : l0.length ≤ co13 := (Kd.R_reads' HO0.out).2.1; have hC17 : Kd.C Kd.string _ Ao13 l0.length l0 := (Kd.R_reads' HO0.out).2.2; have q017 : (0 : Int) ≤ (t424 : Int) := of_decide_eq_true (by assumption); have hcut17 := cut_from (P := Tryz.prog) 34 9 .i64 Tryz.underlying34 hi017 1 hsz17 Ao13 l0.length co13 t424 q017 q17; have hr17 := Kd.C_drop (m := (t424 : Int).toNat) (c := co13) hC17 (by omega) hroom17; obtain ⟨A17, hA17⟩ : ∃ A1, A1 = (if co13 = (t424 : Int).toNat then Ao13 else (Ao13 : Option Addr).map (·.add ((t424 : Int).toNat * 1))) := ⟨_, rfl⟩; obtain ⟨c17, hc17⟩ : ∃ c1, c1 = co13 - (t424 : Int).toNat := ⟨_, rfl⟩; have hy17 : y436.length = l0.length - (t424 : Int).toNat := (by rw [Ny436.out, List.length_drop] <;> omega); rw [show (l0).drop (t424 : Int).toNat = y436 from Ny436.out.symm] at hr17; replace hr17 : Kd.C Kd.string _ A17 y436.length y436 := (by rw [hA17]; exact hr17); rw [← hy17, ← hA17, ← hc17] at hcut17; have HR439 := Aside0.mk hr17; have HC439 := sA (show y436.length ≤ c17 from by rw [hy17, hc17]; exact Nat.sub_le_sub_right hroom17 _); clear hr17 hC17 hroom17 hi017 hsz17 hc17; have KY17 := Aside0.mk hy17; have KA17 := Aside0.mk hA17; clear hy17 hA17; have KL17 := sA (show (t424 : Int).toNat ≤ l0.length from by omega); replace q17 := eq_true q17) | ((with_reducible refine gate_builtin (b := .append) (xs := #[.tmp 25, .tmp 28]) rfl ?_); at_builtin; refine Kd.R_append_rows Kd.string (w0 := w0) w0.heap.size rfl (.tmp 25) (.tmp 28) 34 9 (.string ⟨#[]⟩) 16 rfl Tryz.underlying34 info9 rfl (by decide) (by omega) v434 y433 y436 _ _ _ (fun k_ => (P0_ k_ ∨ w.heap.size ≤ k_) ∧ some k_ ≠ (.slice Ao13 l0.length co13 : Value).ownBlock) (fun _ => False) rfl rfl ?aO ?aR (fun _ _ h => h) (fun _ h => h.elim) ?aF ?aB ?aS ?aL ?_; (case aR => repeat (first | exact (by repeat (first | (with_reducible exact HR439.out) | (with_reducible refine Kd.C_alloc ?_ _) | (with_reducible refine Kd.C_drewN ?_ _) | (with_reducible refine Kd.C_drew ?_) | exact HR439.out)) | (with_reducible refine Kd.C_alloc ?_ _) | (with_reducible refine Kd.C_drewN ?_ _) | (with_reducible refine Kd.C_drew ?_))); (case aB => exact (sW HB.out)); (case aF => exact (fun k_ hk => ⟨(.inr (Nat.le_trans (by first | exact HK.out.1 | exact (show Kept w _ (fun k_ => P0_ k_) from sK HK.out).1) hk)), Kd.fresh' (Kd.R_lt (sR HO0.out)) k_ hk⟩)); (case aO => exact (sR HO435.out)); (case aS => exact (below_size (sW HB.out))); (case aL => have := LMc12.out; omega); intro v441 w18 ho hb hg hat; rw [← Ny440.out] at ho; replace HB := sA (hb); replace HK := sA (Kept.of_grown (S := (fun k_ => P0_ k_)) hg (sK HK.out) (fun k_ e_ => (HO435.out.1 k_ e_).1)); replace HR429 := sA ((show Kd.C Kd.string w18 Ao13 y426.length y426 from by rw [Ny426.out]; exact Kd.C_take (m := (t424 : Int).toNat) ((Kd.R_reads' (Kd.R_after (ok := (fun k_ => (P0_ k_ ∨ w.heap.size ≤ k_))) (sR HO0.out) hg hat)).2.2) KL14.out)); replace HR439 := sA ((show Kd.C Kd.string w18 A17 y436.length y436 from by rw [Ny436.out, KA17.out]; exact Kd.C_drop (m := (t424 : Int).toNat) (c := co13) ((Kd.R_reads' (Kd.R_after (ok := (fun k_ => (P0_ k_ ∨ w.heap.size ≤ k_))) (sR HO0.out) hg hat)).2.2) KL17.out ((Kd.R_reads' (Kd.R_after (ok := (fun k_ => (P0_ k_ ∨ w.heap.size ≤ k_))) (sR HO0.out) hg hat)).2.1))); replace HO0 := sA (Kd.R_after (ok := (fun k_ => (P0_ k_ ∨ w.heap.size ≤ k_))) (sR HO0.out) hg hat); have HO442 := sA (ho); clear HO435; clear ho hb hg hat))
       go_ret
       exact ⟨_, by first | rfl | (simp [errW_none, errW_some] <;> rfl) | (simp [*, errW_none, errW_some] <;> rfl), by apply sR; first | exact Kd.R_mono HO442.out (fun _ hk => hk.1) | exact Kd.R_mono HO442.out (fun _ _ => trivial), sW HB.out, sK HK.out⟩
      ·rw [if_neg c12] at H
       exact absurd H (by simp)
     ·rw [if_neg c9] at H
      exact absurd H (by simp)
    ·rw [if_neg c8] at H
     exact absurd H (by simp)
   ·rw [if_neg c7] at H
    exact absurd H (by simp)
  ·rw [if_neg c6] at H
   exact absurd H (by simp)

end Go.Proofs.YteidebllianiiaaGreatDoor.PAll
