-- written by a program of this session (wip/px): the walk of printed functions
import Derived.Test.YteidebllianiiaaGreatDoorPAllx0
import Derived.Test.YteidebllianiiaaGreatDoorSq
import Derived.Test.YteidebllianiiaaGreatDoorPAllx1
import Derived.Test.YteidebllianiiaaGreatDoorPAllx13
namespace Go.Proofs.YteidebllianiiaaGreatDoor.PAll
open Go.RowKit Go.Proofs.YteidebllianiiaaGreatDoorW.PrintWords Go.Proofs.YteidebllianiiaaGreatDoorW.PrintLast Go.Proofs.YteidebllianiiaaGreatDoorW.PrintMore
attribute [local go_sem] max2_int min2_int max_two min_two max_three min_three max_four min_four   -- for this text's walks alone
set_option linter.unusedVariables false
set_option linter.unusedSimpArgs false

attribute [local go_sem high] eqA50
/-! ### concordanceref08_Weight: function 34 -/
def concordanceref08_Weight.l0 : Nat → Int → Int → Int → List (S50) → Option (Int)
 | 0, _, _, _, _ => none
 | k + 1, x3, x4, x357000, x357001 => if x4 < (x357001.length : Int) then (if 0 ≤ x4 then ((concordanceref08_Words.f k x357000 x357001 ((rd_T50 x357001 x4).f0)).bind fun t358 => (concordanceref08_Weight.l0 k (wrap64 (x3 + (t358.length : Int))) (wrap64 (x4 + 1)) x357000 x357001)) else (none)) else (some x3)
def concordanceref08_Weight.f (k : Nat) (a0_0 : Int) (l0_1 : List (S50)) : Option (Int) := concordanceref08_Weight.l0 k 0 0 a0_0 l0_1
theorem concordanceref08_Weight.mono_l : ∀ k, (∀ y0 y1 y2 y3, LeO (concordanceref08_Weight.l0 k y0 y1 y2 y3) (concordanceref08_Weight.l0 (k + 1) y0 y1 y2 y3))
 | 0 => fun _ _ _ _ r h => by simp [concordanceref08_Weight.l0] at h
 | k + 1 => by
  have ih0 := concordanceref08_Weight.mono_l k
  ·intro y0 y1 y2 y3
   unfold concordanceref08_Weight.l0
   repeat' first
   | (with_reducible exact ih0 _ _ _ _)
   | (with_reducible exact concordanceref08_Words.mono _ _ _ _)
   | (with_reducible exact LeO.refl _)
   | (with_reducible exact LeO.none _)
   | (with_reducible refine LeO.ite ?_ ?_)
   | (with_reducible refine LeO.bind ?_ (fun _ => ?_))
   | exact ih0 _ _ _ _
   | exact concordanceref08_Words.mono _ _ _ _
   | exact LeO.none _
   | refine LeO.ite ?_ ?_
   | refine LeO.bind ?_ (fun _ => ?_)
theorem concordanceref08_Weight.mono : ∀ a0 a1 k, LeO (concordanceref08_Weight.f k a0 a1) (concordanceref08_Weight.f (k + 1) a0 a1) := by
 intro a0 a1 k
 have ih0 := concordanceref08_Weight.mono_l k
 unfold concordanceref08_Weight.f
 repeat' first
   | (with_reducible exact ih0 _ _ _ _)
   | (with_reducible exact concordanceref08_Words.mono _ _ _ _)
   | (with_reducible exact LeO.refl _)
   | (with_reducible exact LeO.none _)
   | (with_reducible refine LeO.ite ?_ ?_)
   | (with_reducible refine LeO.bind ?_ (fun _ => ?_))
   | exact ih0 _ _ _ _
   | exact concordanceref08_Words.mono _ _ _ _
   | exact LeO.none _
   | refine LeO.ite ?_ ?_
   | refine LeO.bind ?_ (fun _ => ?_)
def concordanceref08_Weight.T5 : Bool × List (List Nat × List Nat) := (true, [([], []), ([], []), ([], []), ([2], [2]), ([], []), ([3, 4], [3, 4]), ([5], [5]), ([6], [6]), ([1, 7], [1, 7]), ([8], [8]), ([0, 9], [0, 9]), ([10, 8, 0, 1, 2, 3, 4, 5, 6, 7, 8, 9, 10], [0, 10])])
def concordanceref08_Weight.B5 : List Nat := [0, 0, 0, 4, 0, 28, 60, 124, 254, 510, 1023, 2047]
theorem concordanceref08_Weight.tab5 : rtab .any (opsOf Tryz.f34 5) = concordanceref08_Weight.T5 := by kernel_rfl
theorem concordanceref08_Weight.bits5 : waitsOk concordanceref08_Weight.T5.2 concordanceref08_Weight.B5 = true := by kernel_rfl
set_option maxHeartbeats 8000000 in
set_option maxRecDepth 100000 in
theorem concordanceref08_Weight.calls (k : Nat) (a0_0 : Int) (A0_1 : Option Addr) (c0_1 : Nat) (l0_1 : List (S50)) (r : Int) (w : World) (hr0_1 : Kd.C k50 w A0_1 l0_1.length l0_1) (hc0_1 : l0_1.length ≤ c0_1) (h : concordanceref08_Weight.f k a0_0 l0_1 = some r) :
  Calls Tryz.prog 34 #[.agg #[.int .i64 a0_0, .slice A0_1 l0_1.length c0_1]] w fun e w' => e = .returned (.int .i64 r) ∧ Below w.heap.size w w' := by
 have hu31 := Tryz.underlying31
 have HR0_1 := Aside0.mk hr0_1
 have HC0_1 := Aside0.mk hc0_1
 clear hr0_1 hc0_1
 have HB := sA (Below.refl w.heap.size w)
 have H : (concordanceref08_Weight.l0 k 0 0 a0_0 l0_1) = some r := h
 clear h
 have H' := Aside0.mk H
 clear H
 go_enter Tryz.func34, Tryz.ntmps34
 go_wp2_with (first | ((with_reducible refine gate_dst (N := 1) rfl ?_); refine box_event ?hg (N := 1) ?hd (cs := #[.int .i64 a0_0, .slice A0_1 l0_1.length c0_1]) (t := 31) ?hr ?_; (case hd => rfl); (case hg => rfl); (case hr => first | (go_simp; done) | (go_simp; rfl)); intro gb356 hg w2 hbox hb; have BK356 := sA (hbox); have GW356 := sA ((by rw [hg]; exact (below_size (sW HB.out)) : w.heap.size ≤ gb356)); have GE356 := sA ((by rw [hg]; exact (below_size (sW HB.out)) : w.heap.size ≤ gb356)); replace HB := sA (below_step (sW HB.out) hb); clear hb hbox hg))
 go_loopg [3, 4] k (fun kq v3 v4 w' => ∃ (x3_1 : Int) (x4_1 : Int), v3 = .int .i64 x3_1 ∧ v4 = .int .i64 x4_1 ∧ Aside0 (concordanceref08_Weight.l0 kq x3_1 x4_1 a0_0 l0_1 = some r) ∧ Aside0 (kq ≤ k) ∧ Aside0 (w'.heap[gb356]? = some (.cells #[.int .i64 a0_0, (.slice A0_1 l0_1.length c0_1)] 31 (0, 0))) ∧ Aside0 (Below w.heap.size w w'))
 case atStart => exact ⟨(0), (0), (by first | rfl | (simp; done) | (simp [*]; done)), (by first | rfl | (simp; done) | (simp [*]; done)), H', ⟨Nat.le_refl _⟩, ⟨sB BK356.out⟩, ⟨by repeat (first | exact sW HB.out | refine sS ?_)⟩⟩
 case round =>
  clear H'
  try clear p2
  obtain ⟨x3_1, x4_1, rfl, rfl, HA, HK1, BK356, HB⟩ := hrel
  cases gk with
  | zero => exact absurd HA.out (by simp [concordanceref08_Weight.l0])
  | succ k1 =>
   have H := HA.out
   clear HA
   simp only [concordanceref08_Weight.l0] at H
   by_cases c3 : x4_1 < (l0_1.length : Int)
   ·rw [if_pos c3] at H
    have c3b0 : decide (x4_1 < (l0_1.length : Int)) = true := decide_eq_true c3
    clear c3
    by_cases c4 : 0 ≤ x4_1
    ·rw [if_pos c4] at H
     have c4b0 : decide (0 ≤ x4_1) = true := decide_eq_true c4
     clear c4
     replace H := Option.bind_eq_some_iff.mp H
     obtain ⟨t358, A50, H⟩ := H
     have A5 := Aside0.mk A50
     clear A50
     have H' := Aside0.mk H
     clear H
     have hcz6_0 := c0 BK356.out
     have hcz6_1 := c1 BK356.out
     have hfz6_0 := blk_frozen BK356.out 0
     have hfz6_1 := blk_frozen BK356.out 1
     try go_wp2
     replace BK356 := sA (blk_drew BK356.out)
     replace HB := sA (below_drew1 HB.out)
     have p357 : 0 ≤ (x4_1 : Int) := of_decide_eq_true (by assumption)
     have q357 : x4_1 < (l0_1.length : Int) := of_decide_eq_true (by assumption)
     obtain ⟨ad357, e357, hx357_0, hx357_1⟩ := at_T50 HR0_1.out x4_1 p357 q357
     have hw357_1 := hx357_1
     have hw357_0 := hx357_0
     cases e357
     replace hx357_0 := (HB.out.cell (World.block_lt_of_cell? w _ hx357_0)).trans hx357_0
     replace hx357_1 := (HB.out.cell (World.block_lt_of_cell? w _ hx357_1)).trans hx357_1
     replace p357 := eq_true p357
     replace q357 := eq_true q357
     refine start_ (n := 12) (S := fun w' => w'.cell? ⟨gb356, 0, none⟩ = some (.int .i64 a0_0) ∧ w'.cell? ⟨gb356, 1, none⟩ = some (.slice (some ad357) l0_1.length c0_1) ∧ w'.cell? (ad357.add ((x4_1).toNat * 2)) = some (.string ((rd_T50 l0_1 x4_1).f0)) ∧ w'.cell? ⟨(ad357.add ((x4_1).toNat * 2)).block, (ad357.add ((x4_1).toNat * 2)).off + 1, none⟩ = some (.string ((rd_T50 l0_1 x4_1).f1))) (ds := []) #[false, false, false, false, false, false, false, false, false, false, false, false] (by kernel_rfl) rfl rfl ⟨c0 BK356.out, c1 BK356.out, ((HB.out.cell (World.block_lt_of_cell? w _ hw357_0)).trans hw357_0), ((HB.out.cell (World.block_lt_of_cell? w _ hw357_1)).trans hw357_1)⟩ (fun hHeld => ?_); refine with_tabW concordanceref08_Weight.tab5 concordanceref08_Weight.bits5 (fun HT_ HW_ => ?_)
     generalize wr.drew = w7 at BK356 HB hx357_0 hx357_1 hHeld ⊢
     refine pure_ (i := 0) (N := some 12) (v := ?_) (a' := ?_) #[true, false, false, false, false, false, false, false, false, false, false, false] rfl rfl (any_of HT_.out (by kernel_rfl)) (fun _ _ _ h => h) (Or.inl ⟨by rfl, ?_⟩) ?_ ?_; rotate_left; (· intro w'; go_simp; with_reducible rfl); rotate_left; (· simp only [Act.put, List.setIfInBounds_toArray, List.set_cons_zero, List.set_cons_succ, i64_w, i32_w]; rfl)
     refine pure_ (i := 2) (N := some 14) (v := ?_) (a' := ?_) #[true, false, true, false, false, false, false, false, false, false, false, false] rfl rfl (any_of HT_.out (by kernel_rfl)) (fun _ _ _ h => h) (Or.inl ⟨by rfl, ?_⟩) ?_ ?_; rotate_left; (· intro w'; go_simp; with_reducible rfl); rotate_left; (· simp only [Act.put, List.setIfInBounds_toArray, List.set_cons_zero, List.set_cons_succ, i64_w, i32_w]; rfl)
     refine pure_ (i := 4) (N := some 16) (v := ?_) (a' := ?_) #[true, false, true, false, true, false, false, false, false, false, false, false] rfl rfl (any_of HT_.out (by kernel_rfl)) (fun _ _ _ h => h) (Or.inl ⟨by rfl, ?_⟩) ?_ ?_; rotate_left; (· intro w'; go_simp; with_reducible rfl); rotate_left; (· simp only [Act.put, List.setIfInBounds_toArray, List.set_cons_zero, List.set_cons_succ, i64_w, i32_w]; rfl)
     refine take_ (i := 1) (N := some 13) (v := ?_) (a' := ?_) #[true, true, true, false, true, false, false, false, false, false, false, false] rfl rfl (take_ofW HT_.out HW_.out (by kernel_rfl)) (fun _ _ _ h => h) (Or.inl ⟨by rfl, ?_⟩) hHeld ?_ ?_; rotate_left; (· rintro w' ⟨s0, s1, s2, s3⟩; go_simp; with_reducible rfl); rotate_left; (· simp only [Act.put, List.setIfInBounds_toArray, List.set_cons_zero, List.set_cons_succ, i64_w, i32_w]; rfl)
     refine take_ (i := 3) (N := some 15) (v := ?_) (a' := ?_) #[true, true, true, true, true, false, false, false, false, false, false, false] rfl rfl (take_ofW HT_.out HW_.out (by kernel_rfl)) (fun _ _ _ h => h) (Or.inl ⟨by rfl, ?_⟩) hHeld ?_ ?_; rotate_left; (· rintro w' ⟨s0, s1, s2, s3⟩; go_simp; with_reducible rfl); rotate_left; (· simp only [Act.put, List.setIfInBounds_toArray, List.set_cons_zero, List.set_cons_succ, i64_w, i32_w]; rfl)
     refine pure_ (i := 5) (N := some 17) (v := ?_) (a' := ?_) #[true, true, true, true, true, true, false, false, false, false, false, false] rfl rfl (any_of HT_.out (by kernel_rfl)) (fun _ _ _ h => h) (Or.inl ⟨by rfl, ?_⟩) ?_ ?_; rotate_left; (· intro w'; go_simp; with_reducible rfl); rotate_left; (· simp only [Act.put, List.setIfInBounds_toArray, List.set_cons_zero, List.set_cons_succ, i64_w, i32_w]; rfl)
     refine pure_ (i := 6) (N := some 18) (v := ?_) (a' := ?_) #[true, true, true, true, true, true, true, false, false, false, false, false] rfl rfl (any_of HT_.out (by kernel_rfl)) (fun _ _ _ h => h) (Or.inl ⟨by rfl, ?_⟩) ?_ ?_; rotate_left; (· intro w'; go_simp; with_reducible rfl); rotate_left; (· simp only [Act.put, List.setIfInBounds_toArray, List.set_cons_zero, List.set_cons_succ, i64_w, i32_w]; rfl)
     refine take_ (i := 7) (N := some 19) (v := ?_) (a' := ?_) #[true, true, true, true, true, true, true, true, false, false, false, false] rfl rfl (take_ofW HT_.out HW_.out (by kernel_rfl)) (fun _ _ _ h => h) (Or.inl ⟨by rfl, ?_⟩) hHeld ?_ ?_; rotate_left; (· rintro w' ⟨s0, s1, s2, s3⟩; go_simp; with_reducible rfl); rotate_left; (· simp only [Act.put, List.setIfInBounds_toArray, List.set_cons_zero, List.set_cons_succ, i64_w, i32_w]; rfl)
     refine one_ (i := 8) (N := some 20) #[true, true, true, true, true, true, true, true, true, false, false, false] rfl rfl (one_of HT_.out (by kernel_rfl)) (by decide) (fun K hK => ?_)
     refine goes_ Tryz.func57 (by kernel_rfl) rfl #[.agg #[.int .i64 a0_0, .slice (some ad357) l0_1.length c0_1], .string ((rd_T50 l0_1 x4_1).f0)] (by rfl) rfl rfl (by (try simp only [List.map_toArray, List.map_cons, List.map_nil]); first | done | rfl | (simp only [List.length_drop, List.length_take]; rfl)) ?_
     with_reducible refine (concordanceref08_Words.calls k1 a0_0 _ _ l0_1 ((rd_T50 l0_1 x4_1).f0) t358 _ ?side1 ?side2 A5.out).mono ?_
     (case side1 => repeat (first | exact (Kd.C_below HR0_1.out HB.out) | (with_reducible refine Kd.C_alloc ?_ _) | (with_reducible refine Kd.C_drewN ?_ _) | (with_reducible refine Kd.C_drew ?_)))
     (case side2 => exact HC0_1.out)
     rintro e w8 ⟨v359, rfl, ho0, hb⟩
     refine ⟨_, rfl, ?_⟩
     have HO360 := sA (Kd.R_lower ho0 (below_size (by repeat (first | exact sW HB.out | refine sS ?_))))
     replace BK356 := sA (blk_below (sB BK356.out) hb)
     replace HB := sA (below_step (by repeat (first | exact sW HB.out | refine sS ?_)) hb)
     (try clear hb)
     (try clear hb2)
     (try clear hk)
     (try clear hi)
     (try clear ho0)
     obtain ⟨Ao9, co9, eo9⟩ := Kd.R_slice HO360.out
     (first | subst eo9 | (injection eo9 with f1_ f2_ f3_; have f4_ := f1_.symm; have f5_ := f3_.symm; clear f1_ f2_ f3_; subst f4_; subst f5_))
     refine hK.out _ _ ⟨c0 BK356.out, c1 BK356.out, ((HB.out.cell (World.block_lt_of_cell? w _ hw357_0)).trans hw357_0), ((HB.out.cell (World.block_lt_of_cell? w _ hw357_1)).trans hw357_1)⟩ (fun hHeld => ?_)
     clear hK K
     refine norm_ (a' := ?_) ?_ ?_; rotate_left; (· show Act.put _ (some 20) _ = _; simp only [Act.put, List.setIfInBounds_toArray, List.set_cons_zero, List.set_cons_succ, i64_w, i32_w]; rfl)
     refine pure_ (i := 9) (N := some 21) (v := ?_) (a' := ?_) #[true, true, true, true, true, true, true, true, true, true, false, false] rfl rfl (any_of HT_.out (by kernel_rfl)) (fun _ _ _ h => h) (Or.inl ⟨by rfl, ?_⟩) ?_ ?_; rotate_left; (· intro w'; go_simp; with_reducible rfl); rotate_left; (· simp only [Act.put, List.setIfInBounds_toArray, List.set_cons_zero, List.set_cons_succ, i64_w, i32_w]; rfl)
     refine pure_ (i := 10) (N := some 22) (v := ?_) (a' := ?_) #[true, true, true, true, true, true, true, true, true, true, true, false] rfl rfl (any_of HT_.out (by kernel_rfl)) (fun _ _ _ h => h) (Or.inl ⟨by rfl, ?_⟩) ?_ ?_; rotate_left; (· intro w'; go_simp; with_reducible rfl); rotate_left; (· simp only [Act.put, List.setIfInBounds_toArray, List.set_cons_zero, List.set_cons_succ, i64_w, i32_w]; rfl)
     refine pure_ (i := 11) (N := some 3) (v := ?_) (a' := ?_) #[true, true, true, true, true, true, true, true, true, true, true, true] rfl rfl (any_of HT_.out (by kernel_rfl)) (fun _ _ _ h => h) (Or.inl ⟨by rfl, ?_⟩) ?_ ?_; rotate_left; (· intro w'; go_simp; with_reducible rfl); rotate_left; (· simp only [Act.put, List.setIfInBounds_toArray, List.set_cons_zero, List.set_cons_succ, i64_w, i32_w]; rfl)
     refine done_ (done_of HT_.out (by kernel_rfl)) ?_
     try go_wp2
     go_roundg k1
     case measure => have := HK1.out; omega
     case rel => exact ⟨(wrap64 (x3_1 + (t358.length : Int))), (wrap64 (x4_1 + 1)), (by first | rfl | (simp; done) | (simp [*]; done)), (by first | rfl | (simp; done) | (simp [*]; done)), H', ⟨by have := HK1.out; omega⟩, ⟨sB BK356.out⟩, ⟨by repeat (first | exact sW HB.out | refine sS ?_)⟩⟩
    ·rw [if_neg c4] at H
     exact absurd H (by simp)
   ·rw [if_neg c3] at H
    have c3b0 : decide (x4_1 < (l0_1.length : Int)) = false := decide_eq_false c3
    clear c3
    obtain rfl := Option.some.inj H
    have hcz10_0 := c0 BK356.out
    have hcz10_1 := c1 BK356.out
    have hfz10_0 := blk_frozen BK356.out 0
    have hfz10_1 := blk_frozen BK356.out 1
    go_wp2
    go_ret
    exact ⟨by first | rfl | (simp [errW_none, errW_some] <;> rfl) | (simp [*, errW_none, errW_some] <;> rfl), by repeat (first | exact sW HB.out | refine sS ?_)⟩

/-! ### concordanceref09_Words: function 14 -/
def concordanceref09_Words.l0 : Nat → List (S33) → Int → Int → Option (Int)
 | 0, _, _, _ => none
 | k + 1, x0, x3, x4 => if x4 < (x0.length : Int) then (if 0 ≤ x4 then ((concordanceref08_Weight.f k ((rd_T33 x0 x4).f0.f0) ((rd_T33 x0 x4).f0.f1)).bind fun t362 => (concordanceref09_Words.l0 k x0 (wrap64 (x3 + t362)) (wrap64 (x4 + 1)))) else (none)) else (some x3)
def concordanceref09_Words.f (k : Nat) (l0 : List (S33)) : Option (Int) := concordanceref09_Words.l0 k l0 0 0
theorem concordanceref09_Words.mono_l : ∀ k, (∀ y0 y1 y2, LeO (concordanceref09_Words.l0 k y0 y1 y2) (concordanceref09_Words.l0 (k + 1) y0 y1 y2))
 | 0 => fun _ _ _ r h => by simp [concordanceref09_Words.l0] at h
 | k + 1 => by
  have ih0 := concordanceref09_Words.mono_l k
  ·intro y0 y1 y2
   unfold concordanceref09_Words.l0
   repeat' first
   | (with_reducible exact ih0 _ _ _)
   | (with_reducible exact concordanceref08_Weight.mono _ _ _)
   | (with_reducible exact LeO.refl _)
   | (with_reducible exact LeO.none _)
   | (with_reducible refine LeO.ite ?_ ?_)
   | (with_reducible refine LeO.bind ?_ (fun _ => ?_))
   | exact ih0 _ _ _
   | exact concordanceref08_Weight.mono _ _ _
   | exact LeO.none _
   | refine LeO.ite ?_ ?_
   | refine LeO.bind ?_ (fun _ => ?_)
theorem concordanceref09_Words.mono : ∀ a0 k, LeO (concordanceref09_Words.f k a0) (concordanceref09_Words.f (k + 1) a0) := by
 intro a0 k
 have ih0 := concordanceref09_Words.mono_l k
 unfold concordanceref09_Words.f
 repeat' first
   | (with_reducible exact ih0 _ _ _)
   | (with_reducible exact concordanceref08_Weight.mono _ _ _)
   | (with_reducible exact LeO.refl _)
   | (with_reducible exact LeO.none _)
   | (with_reducible refine LeO.ite ?_ ?_)
   | (with_reducible refine LeO.bind ?_ (fun _ => ?_))
   | exact ih0 _ _ _
   | exact concordanceref08_Weight.mono _ _ _
   | exact LeO.none _
   | refine LeO.ite ?_ ?_
   | refine LeO.bind ?_ (fun _ => ?_)
set_option maxHeartbeats 8000000 in
set_option maxRecDepth 100000 in
theorem concordanceref09_Words.calls (k : Nat) (A0 : Option Addr) (c0 : Nat) (l0 : List (S33)) (r : Int) (w : World) (hr0 : Kd.C k33 w A0 l0.length l0) (hc0 : l0.length ≤ c0) (h : concordanceref09_Words.f k l0 = some r) :
  Calls Tryz.prog 14 #[.slice A0 l0.length c0] w fun e w' => e = .returned (.int .i64 r) ∧ Below w.heap.size w w' := by
 have hu31 := Tryz.underlying31
 have HR0 := Aside0.mk hr0
 have HC0 := Aside0.mk hc0
 clear hr0 hc0
 have HB := sA (Below.refl w.heap.size w)
 have H : (concordanceref09_Words.l0 k l0 0 0) = some r := h
 clear h
 have H' := Aside0.mk H
 clear H
 go_enter Tryz.func14, Tryz.ntmps14
 go_wp2
 go_loopg [3, 4] k (fun kq v3 v4 w' => ∃ (x3_1 : Int) (x4_1 : Int), v3 = .int .i64 x3_1 ∧ v4 = .int .i64 x4_1 ∧ Aside0 (concordanceref09_Words.l0 kq l0 x3_1 x4_1 = some r) ∧ Aside0 (kq ≤ k) ∧ Aside0 (Below w.heap.size w w'))
 case atStart => exact ⟨(0), (0), (by first | rfl | (simp; done) | (simp [*]; done)), (by first | rfl | (simp; done) | (simp [*]; done)), H', ⟨Nat.le_refl _⟩, ⟨sW HB.out⟩⟩
 case round =>
  clear H'
  try clear c1
  obtain ⟨x3_1, x4_1, rfl, rfl, HA, HK1, HB⟩ := hrel
  cases gk with
  | zero => exact absurd HA.out (by simp [concordanceref09_Words.l0])
  | succ k1 =>
   have H := HA.out
   clear HA
   simp only [concordanceref09_Words.l0] at H
   by_cases c2 : x4_1 < (l0.length : Int)
   ·rw [if_pos c2] at H
    have c2b0 : decide (x4_1 < (l0.length : Int)) = true := decide_eq_true c2
    clear c2
    by_cases c3 : 0 ≤ x4_1
    ·rw [if_pos c3] at H
     have c3b0 : decide (0 ≤ x4_1) = true := decide_eq_true c3
     clear c3
     replace H := Option.bind_eq_some_iff.mp H
     obtain ⟨t362, A40, H⟩ := H
     have A4 := Aside0.mk A40
     clear A40
     have H' := Aside0.mk H
     clear H
     have p361 : 0 ≤ (x4_1 : Int) := of_decide_eq_true (by assumption)
     have q361 : x4_1 < (l0.length : Int) := of_decide_eq_true (by assumption)
     obtain ⟨ad361, A361_1, c361_1, e361, hx361_0, hx361_1, hx361_2, hl361_1, hi361_1⟩ := at_T33 HR0.out x4_1 p361 q361
     cases e361
     replace hx361_0 := (HB.out.cell (World.block_lt_of_cell? w _ hx361_0)).trans hx361_0
     replace hx361_1 := (HB.out.cell (World.block_lt_of_cell? w _ hx361_1)).trans hx361_1
     replace hx361_2 := (HB.out.cell (World.block_lt_of_cell? w _ hx361_2)).trans hx361_2
     have HR361_1 := Aside0.mk hi361_1
     have HC361_1 := Aside0.mk hl361_1
     clear hi361_1 hl361_1
     replace p361 := eq_true p361
     replace q361 := eq_true q361
     go_wp2_with (first | ((with_reducible refine gate_callee (f := 34) rfl ?_); refine goesL_ (some 17) rfl rfl Tryz.func34 (by kernel_rfl) rfl #[.agg #[.int .i64 ((rd_T33 l0 x4_1).f0.f0), .slice A361_1 ((rd_T33 l0 x4_1).f0.f1).length c361_1]] rfl (by (try simp only [List.map_toArray, List.map_cons, List.map_nil]); first | done | rfl | (simp only [List.length_drop, List.length_take]; rfl)) ?_; (with_reducible refine (concordanceref08_Weight.calls k1 ((rd_T33 l0 x4_1).f0.f0) _ _ ((rd_T33 l0 x4_1).f0.f1) t362 _ ?side1 ?side2 A4.out).mono ?_); (case side1 => repeat (first | exact (Kd.C_below HR361_1.out HB.out) | (with_reducible refine Kd.C_alloc ?_ _) | (with_reducible refine Kd.C_drewN ?_ _) | (with_reducible refine Kd.C_drew ?_))); (case side2 => exact HC361_1.out); rintro e w5 ⟨rfl, hb⟩; refine ⟨_, rfl, ?_⟩; replace HB := sA (below_step (sW HB.out) hb); (try clear hb); (try clear hb2); (try clear hk); (try clear hi)))
     go_roundg k1
     case measure => have := HK1.out; omega
     case rel => exact ⟨(wrap64 (x3_1 + t362)), (wrap64 (x4_1 + 1)), (by first | rfl | (simp; done) | (simp [*]; done)), (by first | rfl | (simp; done) | (simp [*]; done)), H', ⟨by have := HK1.out; omega⟩, ⟨sW HB.out⟩⟩
    ·rw [if_neg c3] at H
     exact absurd H (by simp)
   ·rw [if_neg c2] at H
    have c2b0 : decide (x4_1 < (l0.length : Int)) = false := decide_eq_false c2
    clear c2
    obtain rfl := Option.some.inj H
    go_wp2
    go_ret
    exact ⟨by first | rfl | (simp [errW_none, errW_some] <;> rfl) | (simp [*, errW_none, errW_some] <;> rfl), sW HB.out⟩

-- NOT PRINTED: function 16 (buffer_Buffer_Seal)

-- NOT PRINTED: function 17 (buffer_Buffer_Len)

-- NOT PRINTED: function 18 (buffer_Buffer_Last)

/-! ### concordanceref08_Same: function 35 -/
mutual
def concordanceref08_Same.j0 : Nat → Bool → Int → List (S50) → Int → List (S50) → Option (Bool)
 | 0, _, _, _, _, _ => none
 | k + 1, x19, x364000, x364001, x365000, x365001 => if x19 = true then (some false) else (concordanceref08_Same.l0 k 0 x364000 x364001 x365000 x365001)
def concordanceref08_Same.l0 : Nat → Int → Int → List (S50) → Int → List (S50) → Option (Bool)
 | 0, _, _, _, _, _ => none
 | k + 1, x5, x364000, x364001, x365000, x365001 => if x5 < (x364001.length : Int) then (if 0 ≤ x5 then (if x5 < (x365001.length : Int) then (if (!((((rd_T50 x364001 x5).f0).toList) == (((rd_T50 x365001 x5).f0).toList)) || (!((((rd_T50 x364001 x5).f1).toList) == (((rd_T50 x365001 x5).f1).toList)))) = true then (some false) else (concordanceref08_Same.l0 k (wrap64 (x5 + 1)) x364000 x364001 x365000 x365001)) else (none)) else (none)) else (some true)
end
def concordanceref08_Same.f (k : Nat) (a0_0 : Int) (l0_1 : List (S50)) (a1_0 : Int) (l1_1 : List (S50)) : Option (Bool) := if a0_0 = a1_0 then (concordanceref08_Same.j0 k ((l0_1.length : Int) != (l1_1.length : Int)) a0_0 l0_1 a1_0 l1_1) else (concordanceref08_Same.j0 k true a0_0 l0_1 a1_0 l1_1)
theorem concordanceref08_Same.mono_l : ∀ k, (∀ y0 y1 y2 y3 y4, LeO (concordanceref08_Same.j0 k y0 y1 y2 y3 y4) (concordanceref08_Same.j0 (k + 1) y0 y1 y2 y3 y4)) ∧ (∀ y0 y1 y2 y3 y4, LeO (concordanceref08_Same.l0 k y0 y1 y2 y3 y4) (concordanceref08_Same.l0 (k + 1) y0 y1 y2 y3 y4))
 | 0 => ⟨fun _ _ _ _ _ r h => by simp [concordanceref08_Same.j0] at h, fun _ _ _ _ _ r h => by simp [concordanceref08_Same.l0] at h⟩
 | k + 1 => by
  obtain ⟨ih0, ih1⟩ := concordanceref08_Same.mono_l k
  refine ⟨?_, ?_⟩
  ·intro y0 y1 y2 y3 y4
   unfold concordanceref08_Same.j0
   repeat' first
   | (with_reducible exact ih0 _ _ _ _ _)
   | (with_reducible exact ih1 _ _ _ _ _)
   | (with_reducible exact LeO.refl _)
   | (with_reducible exact LeO.none _)
   | (with_reducible refine LeO.ite ?_ ?_)
   | (with_reducible refine LeO.bind ?_ (fun _ => ?_))
   | exact ih0 _ _ _ _ _
   | exact ih1 _ _ _ _ _
   | exact LeO.none _
   | refine LeO.ite ?_ ?_
   | refine LeO.bind ?_ (fun _ => ?_)
  ·intro y0 y1 y2 y3 y4
   unfold concordanceref08_Same.l0
   repeat' first
   | (with_reducible exact ih0 _ _ _ _ _)
   | (with_reducible exact ih1 _ _ _ _ _)
   | (with_reducible exact LeO.refl _)
   | (with_reducible exact LeO.none _)
   | (with_reducible refine LeO.ite ?_ ?_)
   | (with_reducible refine LeO.bind ?_ (fun _ => ?_))
   | exact ih0 _ _ _ _ _
   | exact ih1 _ _ _ _ _
   | exact LeO.none _
   | refine LeO.ite ?_ ?_
   | refine LeO.bind ?_ (fun _ => ?_)
theorem concordanceref08_Same.mono : ∀ a0 a1 a2 a3 k, LeO (concordanceref08_Same.f k a0 a1 a2 a3) (concordanceref08_Same.f (k + 1) a0 a1 a2 a3) := by
 intro a0 a1 a2 a3 k
 obtain ⟨ih0, ih1⟩ := concordanceref08_Same.mono_l k
 unfold concordanceref08_Same.f
 repeat' first
   | (with_reducible exact ih0 _ _ _ _ _)
   | (with_reducible exact ih1 _ _ _ _ _)
   | (with_reducible exact LeO.refl _)
   | (with_reducible exact LeO.none _)
   | (with_reducible refine LeO.ite ?_ ?_)
   | (with_reducible refine LeO.bind ?_ (fun _ => ?_))
   | exact ih0 _ _ _ _ _
   | exact ih1 _ _ _ _ _
   | exact LeO.none _
   | refine LeO.ite ?_ ?_
   | refine LeO.bind ?_ (fun _ => ?_)
set_option maxHeartbeats 8000000 in
set_option maxRecDepth 100000 in
theorem concordanceref08_Same.calls (k : Nat) (a0_0 : Int) (A0_1 : Option Addr) (c0_1 : Nat) (l0_1 : List (S50)) (a1_0 : Int) (A1_1 : Option Addr) (c1_1 : Nat) (l1_1 : List (S50)) (r : Bool) (w : World) (hr0_1 : Kd.C k50 w A0_1 l0_1.length l0_1) (hc0_1 : l0_1.length ≤ c0_1) (hr1_1 : Kd.C k50 w A1_1 l1_1.length l1_1) (hc1_1 : l1_1.length ≤ c1_1) (h : concordanceref08_Same.f k a0_0 l0_1 a1_0 l1_1 = some r) :
  Calls Tryz.prog 35 #[.agg #[.int .i64 a0_0, .slice A0_1 l0_1.length c0_1], .agg #[.int .i64 a1_0, .slice A1_1 l1_1.length c1_1]] w fun e w' => e = .returned (.bool r) ∧ Below w.heap.size w w' := by
 have hu31 := Tryz.underlying31
 have hu50 := Tryz.underlying50
 have HR0_1 := Aside0.mk hr0_1
 have HC0_1 := Aside0.mk hc0_1
 clear hr0_1 hc0_1
 have HR1_1 := Aside0.mk hr1_1
 have HC1_1 := Aside0.mk hc1_1
 clear hr1_1 hc1_1
 have HB := sA (Below.refl w.heap.size w)
 have H : (if a0_0 = a1_0 then (concordanceref08_Same.j0 k ((l0_1.length : Int) != (l1_1.length : Int)) a0_0 l0_1 a1_0 l1_1) else (concordanceref08_Same.j0 k true a0_0 l0_1 a1_0 l1_1)) = some r := h
 clear h
 have HC3 := Aside0.mk H
 clear H
 go_enter Tryz.func35, Tryz.ntmps35
 go_upto_region 1 with (first | ((with_reducible refine gate_dst (N := 2) rfl ?_); (try (refine gate_guard (by rfl) ?_; dsimp only)); refine box_event ?hg (N := 2) ?hd (cs := #[.int .i64 a0_0, .slice A0_1 l0_1.length c0_1]) (t := 31) ?hr ?_; (case hd => rfl); (case hg => rfl); (case hr => first | (go_simp; done) | (go_simp; rfl)); intro gb363 hg w4 hbox hb; have BK363 := sA (hbox); have GW363 := sA ((by rw [hg]; exact (below_size (sW HB.out)) : w.heap.size ≤ gb363)); have GE363 := sA ((by rw [hg]; exact (below_size (sW HB.out)) : w.heap.size ≤ gb363)); replace HB := sA (below_step (sW HB.out) hb); clear hb hbox hg) | ((with_reducible refine gate_dst (N := 3) rfl ?_); (try (refine gate_guard (by rfl) ?_; dsimp only)); refine box_event ?hg (N := 3) ?hd (cs := #[.int .i64 a1_0, .slice A1_1 l1_1.length c1_1]) (t := 31) ?hr ?_; (case hd => rfl); (case hg => rfl); (case hr => first | (go_simp; done) | (go_simp; rfl)); intro gb364 hg w5 hbox hb; have BK364 := sA (hbox); have GW364 := sA ((by rw [hg]; exact (below_size (by repeat (first | exact sW HB.out | refine sS ?_))) : w.heap.size ≤ gb364)); have GE364 := sA ((by rw [hg]; exact (below_size (by repeat (first | exact sW HB.out | refine sS ?_))) : w.heap.size ≤ gb364)); replace HB := sA (below_step (by repeat (first | exact sW HB.out | refine sS ?_)) hb); have NB363_364 := sA ((by rw [hg]; exact Nat.ne_of_lt (blk_lt (sB BK363.out)) : gb363 ≠ gb364)); have NB364_363 := sA ((by rw [hg]; exact Nat.ne_of_gt (blk_lt (sB BK363.out)) : gb364 ≠ gb363)); replace BK363 := sA (blk_below (sB BK363.out) hb); clear hb hbox hg))
 repeat (go_quiet (first | ((with_reducible refine gate_dst (N := 2) rfl ?_); (try (refine gate_guard (by rfl) ?_; dsimp only)); refine box_event ?hg (N := 2) ?hd (cs := #[.int .i64 a0_0, .slice A0_1 l0_1.length c0_1]) (t := 31) ?hr ?_; (case hd => rfl); (case hg => rfl); (case hr => first | (go_simp; done) | (go_simp; rfl)); intro gb363 hg w4 hbox hb; have BK363 := sA (hbox); have GW363 := sA ((by rw [hg]; exact (below_size (sW HB.out)) : w.heap.size ≤ gb363)); have GE363 := sA ((by rw [hg]; exact (below_size (sW HB.out)) : w.heap.size ≤ gb363)); replace HB := sA (below_step (sW HB.out) hb); clear hb hbox hg) | ((with_reducible refine gate_dst (N := 3) rfl ?_); (try (refine gate_guard (by rfl) ?_; dsimp only)); refine box_event ?hg (N := 3) ?hd (cs := #[.int .i64 a1_0, .slice A1_1 l1_1.length c1_1]) (t := 31) ?hr ?_; (case hd => rfl); (case hg => rfl); (case hr => first | (go_simp; done) | (go_simp; rfl)); intro gb364 hg w5 hbox hb; have BK364 := sA (hbox); have GW364 := sA ((by rw [hg]; exact (below_size (by repeat (first | exact sW HB.out | refine sS ?_))) : w.heap.size ≤ gb364)); have GE364 := sA ((by rw [hg]; exact (below_size (by repeat (first | exact sW HB.out | refine sS ?_))) : w.heap.size ≤ gb364)); replace HB := sA (below_step (by repeat (first | exact sW HB.out | refine sS ?_)) hb); have NB363_364 := sA ((by rw [hg]; exact Nat.ne_of_lt (blk_lt (sB BK363.out)) : gb363 ≠ gb364)); have NB364_363 := sA ((by rw [hg]; exact Nat.ne_of_gt (blk_lt (sB BK363.out)) : gb364 ≠ gb363)); replace BK363 := sA (blk_below (sB BK363.out) hb); clear hb hbox hg)); go_upto_region 1 with (first | ((with_reducible refine gate_dst (N := 2) rfl ?_); (try (refine gate_guard (by rfl) ?_; dsimp only)); refine box_event ?hg (N := 2) ?hd (cs := #[.int .i64 a0_0, .slice A0_1 l0_1.length c0_1]) (t := 31) ?hr ?_; (case hd => rfl); (case hg => rfl); (case hr => first | (go_simp; done) | (go_simp; rfl)); intro gb363 hg w4 hbox hb; have BK363 := sA (hbox); have GW363 := sA ((by rw [hg]; exact (below_size (sW HB.out)) : w.heap.size ≤ gb363)); have GE363 := sA ((by rw [hg]; exact (below_size (sW HB.out)) : w.heap.size ≤ gb363)); replace HB := sA (below_step (sW HB.out) hb); clear hb hbox hg) | ((with_reducible refine gate_dst (N := 3) rfl ?_); (try (refine gate_guard (by rfl) ?_; dsimp only)); refine box_event ?hg (N := 3) ?hd (cs := #[.int .i64 a1_0, .slice A1_1 l1_1.length c1_1]) (t := 31) ?hr ?_; (case hd => rfl); (case hg => rfl); (case hr => first | (go_simp; done) | (go_simp; rfl)); intro gb364 hg w5 hbox hb; have BK364 := sA (hbox); have GW364 := sA ((by rw [hg]; exact (below_size (by repeat (first | exact sW HB.out | refine sS ?_))) : w.heap.size ≤ gb364)); have GE364 := sA ((by rw [hg]; exact (below_size (by repeat (first | exact sW HB.out | refine sS ?_))) : w.heap.size ≤ gb364)); replace HB := sA (below_step (by repeat (first | exact sW HB.out | refine sS ?_)) hb); have NB363_364 := sA ((by rw [hg]; exact Nat.ne_of_lt (blk_lt (sB BK363.out)) : gb363 ≠ gb364)); have NB364_363 := sA ((by rw [hg]; exact Nat.ne_of_gt (blk_lt (sB BK363.out)) : gb364 ≠ gb363)); replace BK363 := sA (blk_below (sB BK363.out) hb); clear hb hbox hg)))
 (try simp only [Act.put, List.setIfInBounds_toArray, List.set_cons_zero, List.set_cons_succ])
 go_cut [19] (fun v19 wc => ∃ (kq : Nat) (x19_2 : Bool), v19 = .bool x19_2 ∧ Aside0 (concordanceref08_Same.j0 kq x19_2 a0_0 l0_1 a1_0 l1_1 = some r) ∧ Aside0 (kq ≤ k) ∧ Aside0 (wc.heap[gb363]? = some (.cells #[.int .i64 a0_0, (.slice A0_1 l0_1.length c0_1)] 31 (0, 0))) ∧ Aside0 (wc.heap[gb364]? = some (.cells #[.int .i64 a1_0, (.slice A1_1 l1_1.length c1_1)] 31 (0, 0))) ∧ Aside0 (Below w.heap.size w wc))
 case first =>
  have H := HC3.out
  clear HC3
  by_cases c6 : a0_0 = a1_0
  ·rw [if_pos c6] at H
   have c6b0 : (a0_0 == a1_0) = true := beq_iff_eq.mpr c6
   have c6b1 : (a0_0 != a1_0) = false := bne_eq_false_iff_eq.mpr c6
   clear c6
   (first | rw [c6b0] | (simp only [i64_w, i32_w]; rw [c6b0]) | skip)
   have H' := Aside0.mk H
   clear H
   have hnb7 := NB363_364.out
   have hnc7 := NB364_363.out
   have hcz8_0 := c0 BK363.out
   have hcz8_1 := c1 BK363.out
   have hfz8_0 := blk_frozen BK363.out 0
   have hfz8_1 := blk_frozen BK363.out 1
   have hcz9_0 := c0 BK364.out
   have hcz9_1 := c1 BK364.out
   have hfz9_0 := blk_frozen BK364.out 0
   have hfz9_1 := blk_frozen BK364.out 1
   go_wp2
   repeat (go_quiet (fail); try go_wp2)
   go_meet
   case rel => exact ⟨_, (((l0_1.length : Int) != (l1_1.length : Int))), (by first | rfl | (simp; done) | (simp [*]; done)), H', ⟨by first | omega | exact Nat.le_refl _⟩, ⟨sB BK363.out⟩, ⟨sB BK364.out⟩, ⟨by repeat (first | exact sW HB.out | refine sS ?_)⟩⟩
  ·rw [if_neg c6] at H
   have c6b0 : (a0_0 == a1_0) = false := beq_eq_false_iff_ne.mpr c6
   have c6b1 : (a0_0 != a1_0) = true := bne_iff_ne.mpr c6
   (first | rw [c6b0] | (simp only [i64_w, i32_w]; rw [c6b0]) | skip)
   have H' := Aside0.mk H
   clear H
   have hnb10 := NB363_364.out
   have hnc10 := NB364_363.out
   have hcz11_0 := c0 BK363.out
   have hcz11_1 := c1 BK363.out
   have hfz11_0 := blk_frozen BK363.out 0
   have hfz11_1 := blk_frozen BK363.out 1
   have hcz12_0 := c0 BK364.out
   have hcz12_1 := c1 BK364.out
   have hfz12_0 := blk_frozen BK364.out 0
   have hfz12_1 := blk_frozen BK364.out 1
   go_wp2
   repeat (go_quiet (fail); try go_wp2)
   go_meet
   case rel => exact ⟨_, (true), (by first | rfl | (simp; done) | (simp [*]; done)), H', ⟨by first | omega | exact Nat.le_refl _⟩, ⟨sB BK363.out⟩, ⟨sB BK364.out⟩, ⟨by repeat (first | exact sW HB.out | refine sS ?_)⟩⟩
 case rest =>
  clear HC3
  try clear c1; try clear p2; try clear c3; try clear c6; try clear c6b0; try clear c6b1; try clear c7; try clear c10; try clear hcz11_0; try clear hcz11_1; try clear hcz12_0; try clear hcz12_1; try clear hcz8_0; try clear hcz8_1; try clear hcz9_0; try clear hcz9_1; try clear hfz11_0; try clear hfz11_1; try clear hfz12_0; try clear hfz12_1; try clear hfz8_0; try clear hfz8_1; try clear hfz9_0; try clear hfz9_1
  obtain ⟨kq, x19_2, rfl, HA, HJ2, BK363, BK364, HB⟩ := hcut
  cases kq with
  | zero => exact absurd HA.out (by simp [concordanceref08_Same.j0])
  | succ kj2 =>
   have H := HA.out
   clear HA
   simp only [concordanceref08_Same.j0] at H
   by_cases c13 : x19_2 = true
   ·subst c13
    have H1 : (some false) = some r := by rw [if_pos rfl] at H; exact H
    clear H
    have H := H1
    clear H1
    obtain rfl := Option.some.inj H
    go_wp2
    repeat (go_quiet (fail); try go_wp2)
    go_ret
    exact ⟨by first | rfl | (simp [errW_none, errW_some] <;> rfl) | (simp [*, errW_none, errW_some] <;> rfl), by repeat (first | exact sW HB.out | refine sS ?_)⟩
   ·replace c13 := Bool.eq_false_iff.mpr c13
    subst c13
    have H1 : (concordanceref08_Same.l0 kj2 0 a0_0 l0_1 a1_0 l1_1) = some r := by rw [if_neg (show ¬ (false = true) by decide)] at H; exact H
    clear H
    have H := H1
    clear H1
    have H' := Aside0.mk H
    clear H
    go_wp2
    repeat (go_quiet (fail); try go_wp2)
    go_loopg [5] kj2 (fun kq v5 w' => ∃ (x5_2 : Int), v5 = .int .i64 x5_2 ∧ Aside0 (concordanceref08_Same.l0 kq x5_2 a0_0 l0_1 a1_0 l1_1 = some r) ∧ Aside0 (kq ≤ kj2) ∧ Aside0 (w'.heap[gb363]? = some (.cells #[.int .i64 a0_0, (.slice A0_1 l0_1.length c0_1)] 31 (0, 0))) ∧ Aside0 (w'.heap[gb364]? = some (.cells #[.int .i64 a1_0, (.slice A1_1 l1_1.length c1_1)] 31 (0, 0))) ∧ Aside0 (Below w.heap.size w w'))
    case atStart => exact ⟨(0), (by first | rfl | (simp; done) | (simp [*]; done)), H', ⟨Nat.le_refl _⟩, ⟨sB BK363.out⟩, ⟨sB BK364.out⟩, ⟨by repeat (first | exact sW HB.out | refine sS ?_)⟩⟩
    case round =>
     clear H'
     try clear c1; try clear p2; try clear c3; try clear c6; try clear c6b0; try clear c6b1; try clear c7; try clear c10; try clear c13; try clear hcz11_0; try clear hcz11_1; try clear hcz12_0; try clear hcz12_1; try clear hcz8_0; try clear hcz8_1; try clear hcz9_0; try clear hcz9_1; try clear hfz11_0; try clear hfz11_1; try clear hfz12_0; try clear hfz12_1; try clear hfz8_0; try clear hfz8_1; try clear hfz9_0; try clear hfz9_1; try clear p2
     obtain ⟨x5_2, rfl, HA, HK2, BK363, BK364, HB⟩ := hrel
     cases gk with
     | zero => exact absurd HA.out (by simp [concordanceref08_Same.l0])
     | succ k2 =>
      have H := HA.out
      clear HA
      simp only [concordanceref08_Same.l0] at H
      by_cases c14 : x5_2 < (l0_1.length : Int)
      ·rw [if_pos c14] at H
       have c14b0 : decide (x5_2 < (l0_1.length : Int)) = true := decide_eq_true c14
       clear c14
       by_cases c15 : 0 ≤ x5_2
       ·rw [if_pos c15] at H
        have c15b0 : decide (0 ≤ x5_2) = true := decide_eq_true c15
        clear c15
        by_cases c16 : x5_2 < (l1_1.length : Int)
        ·rw [if_pos c16] at H
         have c16b0 : decide (x5_2 < (l1_1.length : Int)) = true := decide_eq_true c16
         clear c16
         by_cases c17 : (!((((rd_T50 l0_1 x5_2).f0).toList) == (((rd_T50 l1_1 x5_2).f0).toList)) || (!((((rd_T50 l0_1 x5_2).f1).toList) == (((rd_T50 l1_1 x5_2).f1).toList)))) = true
         ·rw [if_pos c17] at H
          have c17b0 : (!((((rd_T50 l0_1 x5_2).f0).toList) == (((rd_T50 l1_1 x5_2).f0).toList)) || (!((((rd_T50 l0_1 x5_2).f1).toList) == (((rd_T50 l1_1 x5_2).f1).toList)))) = true := c17
          clear c17
          obtain rfl := Option.some.inj H
          have hnb18 := NB363_364.out
          have hnc18 := NB364_363.out
          have hcz19_0 := c0 BK363.out
          have hcz19_1 := c1 BK363.out
          have hfz19_0 := blk_frozen BK363.out 0
          have hfz19_1 := blk_frozen BK363.out 1
          have p365 : 0 ≤ (x5_2 : Int) := of_decide_eq_true (by assumption)
          have q365 : x5_2 < (l0_1.length : Int) := of_decide_eq_true (by assumption)
          obtain ⟨ad365, e365, hx365_0, hx365_1⟩ := at_T50 HR0_1.out x5_2 p365 q365
          cases e365
          replace hx365_0 := (HB.out.cell (World.block_lt_of_cell? w _ hx365_0)).trans hx365_0
          replace hx365_1 := (HB.out.cell (World.block_lt_of_cell? w _ hx365_1)).trans hx365_1
          replace p365 := eq_true p365
          replace q365 := eq_true q365
          have hcz20_0 := c0 BK364.out
          have hcz20_1 := c1 BK364.out
          have hfz20_0 := blk_frozen BK364.out 0
          have hfz20_1 := blk_frozen BK364.out 1
          have p366 : 0 ≤ (x5_2 : Int) := of_decide_eq_true (by assumption)
          have q366 : x5_2 < (l1_1.length : Int) := of_decide_eq_true (by assumption)
          obtain ⟨ad366, e366, hx366_0, hx366_1⟩ := at_T50 HR1_1.out x5_2 p366 q366
          cases e366
          replace hx366_0 := (HB.out.cell (World.block_lt_of_cell? w _ hx366_0)).trans hx366_0
          replace hx366_1 := (HB.out.cell (World.block_lt_of_cell? w _ hx366_1)).trans hx366_1
          replace p366 := eq_true p366
          replace q366 := eq_true q366
          go_wp2
          repeat (go_quiet (fail); try go_wp2)
          go_ret
          exact ⟨by first | rfl | (simp [errW_none, errW_some] <;> rfl) | (simp [*, errW_none, errW_some] <;> rfl), by repeat (first | exact sW HB.out | refine sS ?_)⟩
         ·rw [if_neg c17] at H
          have c17b0 : (!((((rd_T50 l0_1 x5_2).f0).toList) == (((rd_T50 l1_1 x5_2).f0).toList)) || (!((((rd_T50 l0_1 x5_2).f1).toList) == (((rd_T50 l1_1 x5_2).f1).toList)))) = false := by simpa using c17
          clear c17
          have H' := Aside0.mk H
          clear H
          have hnb21 := NB363_364.out
          have hnc21 := NB364_363.out
          have hcz22_0 := c0 BK363.out
          have hcz22_1 := c1 BK363.out
          have hfz22_0 := blk_frozen BK363.out 0
          have hfz22_1 := blk_frozen BK363.out 1
          have p365 : 0 ≤ (x5_2 : Int) := of_decide_eq_true (by assumption)
          have q365 : x5_2 < (l0_1.length : Int) := of_decide_eq_true (by assumption)
          obtain ⟨ad365, e365, hx365_0, hx365_1⟩ := at_T50 HR0_1.out x5_2 p365 q365
          cases e365
          replace hx365_0 := (HB.out.cell (World.block_lt_of_cell? w _ hx365_0)).trans hx365_0
          replace hx365_1 := (HB.out.cell (World.block_lt_of_cell? w _ hx365_1)).trans hx365_1
          replace p365 := eq_true p365
          replace q365 := eq_true q365
          have hcz23_0 := c0 BK364.out
          have hcz23_1 := c1 BK364.out
          have hfz23_0 := blk_frozen BK364.out 0
          have hfz23_1 := blk_frozen BK364.out 1
          have p366 : 0 ≤ (x5_2 : Int) := of_decide_eq_true (by assumption)
          have q366 : x5_2 < (l1_1.length : Int) := of_decide_eq_true (by assumption)
          obtain ⟨ad366, e366, hx366_0, hx366_1⟩ := at_T50 HR1_1.out x5_2 p366 q366
          cases e366
          replace hx366_0 := (HB.out.cell (World.block_lt_of_cell? w _ hx366_0)).trans hx366_0
          replace hx366_1 := (HB.out.cell (World.block_lt_of_cell? w _ hx366_1)).trans hx366_1
          replace p366 := eq_true p366
          replace q366 := eq_true q366
          go_wp2
          repeat (go_quiet (fail); try go_wp2)
          go_roundg k2
          case measure => have := HJ2.out; have := HK2.out; omega
          case rel => exact ⟨(wrap64 (x5_2 + 1)), (by first | rfl | (simp; done) | (simp [*]; done)), H', ⟨by have := HJ2.out; have := HK2.out; omega⟩, ⟨sB BK363.out⟩, ⟨sB BK364.out⟩, ⟨by repeat (first | exact sW HB.out | refine sS ?_)⟩⟩
        ·rw [if_neg c16] at H
         exact absurd H (by simp)
       ·rw [if_neg c15] at H
        exact absurd H (by simp)
      ·rw [if_neg c14] at H
       have c14b0 : decide (x5_2 < (l0_1.length : Int)) = false := decide_eq_false c14
       clear c14
       obtain rfl := Option.some.inj H
       have hnb24 := NB363_364.out
       have hnc24 := NB364_363.out
       have hcz25_0 := c0 BK363.out
       have hcz25_1 := c1 BK363.out
       have hfz25_0 := blk_frozen BK363.out 0
       have hfz25_1 := blk_frozen BK363.out 1
       go_wp2
       repeat (go_quiet (fail); try go_wp2)
       go_ret
       exact ⟨by first | rfl | (simp [errW_none, errW_some] <;> rfl) | (simp [*, errW_none, errW_some] <;> rfl), by repeat (first | exact sW HB.out | refine sS ?_)⟩

end Go.Proofs.YteidebllianiiaaGreatDoor.PAll
