-- written by a program of this session (wip/px): the walk of printed functions
import Derived.Test.YteidebllianiiaaGreatDoorPAllx0
import Derived.Test.YteidebllianiiaaGreatDoorSq
import Derived.Test.YteidebllianiiaaGreatDoorPAllx2
import Derived.Test.YteidebllianiiaaGreatDoorPAllx16
namespace Go.Proofs.YteidebllianiiaaGreatDoor.PAll
open Go.RowKit Go.Proofs.YteidebllianiiaaGreatDoorW.PrintWords Go.Proofs.YteidebllianiiaaGreatDoorW.PrintLast Go.Proofs.YteidebllianiiaaGreatDoorW.PrintMore
attribute [local go_sem] max2_int min2_int max_two min_two max_three min_three max_four min_four   -- for this text's walks alone
set_option linter.unusedVariables false
set_option linter.unusedSimpArgs false

attribute [local go_sem high] eqA70
/-! ### concordanceref08_PutTerm: function 76 -/
def concordanceref08_PutTerm.l0 : Nat → List (S70) → Int → ByteArray → ByteArray → Option ((List (S70)))
 | 0, _, _, _, _ => none
 | k + 1, x0, x5, x374000, x374001 => if x5 > 0 then ((concordanceref02_Key.f x374000 x374001).bind fun t374 => (if 0 ≤ (wrap64 (x5 - 1)) then (if (wrap64 (x5 - 1)) < (x0.length : Int) then ((concordanceref02_Key.f ((rd_T70 x0 (wrap64 (x5 - 1))).f0) ((rd_T70 x0 (wrap64 (x5 - 1))).f1)).bind fun t376 => (if (Op.bytesLess t374.toList t376.toList) = true then (concordanceref08_PutTerm.l0 k x0 (wrap64 (x5 - 1)) x374000 x374001) else (if ((((rd_T70 x0 (wrap64 (x5 - 1))).f0).toList) == x374000.toList && ((((rd_T70 x0 (wrap64 (x5 - 1))).f1).toList) == x374001.toList)) = true then (some x0) else (if 0 ≤ x5 then (if x5 ≤ (x0.length : Int) then ((some (x0.take (x5 : Int).toNat : List (S70))).bind fun y378 => (if ([] : List (S70)).length + y378.length < 4398046511104 then ((some (([] : List (S70)) ++ y378 : List (S70))).bind fun y382 => (if y382.length < 4398046511104 then ((some (y382 ++ [(⟨x374000, x374001⟩ : S70)] : List (S70))).bind fun y385 => ((some (x0.drop (x5 : Int).toNat : List (S70))).bind fun y388 => (if y385.length + y388.length < 4398046511104 then (some (y385 ++ y388)) else (none)))) else (none))) else (none))) else (none)) else (none))))) else (none)) else (none))) else (if 0 ≤ x5 then (if x5 ≤ (x0.length : Int) then ((some (x0.take (x5 : Int).toNat : List (S70))).bind fun y395 => (if ([] : List (S70)).length + y395.length < 4398046511104 then ((some (([] : List (S70)) ++ y395 : List (S70))).bind fun y399 => (if y399.length < 4398046511104 then ((some (y399 ++ [(⟨x374000, x374001⟩ : S70)] : List (S70))).bind fun y402 => ((some (x0.drop (x5 : Int).toNat : List (S70))).bind fun y405 => (if y402.length + y405.length < 4398046511104 then (some (y402 ++ y405)) else (none)))) else (none))) else (none))) else (none)) else (none))
def concordanceref08_PutTerm.f (k : Nat) (l0 : List (S70)) (a1_0 : ByteArray) (a1_1 : ByteArray) : Option ((List (S70))) := concordanceref08_PutTerm.l0 k l0 (l0.length : Int) a1_0 a1_1
theorem concordanceref08_PutTerm.mono_l : ∀ k, (∀ y0 y1 y2 y3, LeO (concordanceref08_PutTerm.l0 k y0 y1 y2 y3) (concordanceref08_PutTerm.l0 (k + 1) y0 y1 y2 y3))
 | 0 => fun _ _ _ _ r h => by simp [concordanceref08_PutTerm.l0] at h
 | k + 1 => by
  have ih0 := concordanceref08_PutTerm.mono_l k
  ·intro y0 y1 y2 y3
   unfold concordanceref08_PutTerm.l0
   repeat' first
   | (with_reducible exact ih0 _ _ _ _)
   | (with_reducible exact LeO.refl _)
   | (with_reducible exact LeO.none _)
   | (with_reducible refine LeO.ite ?_ ?_)
   | (with_reducible refine LeO.bind ?_ (fun _ => ?_))
   | exact ih0 _ _ _ _
   | exact LeO.none _
   | refine LeO.ite ?_ ?_
   | refine LeO.bind ?_ (fun _ => ?_)
theorem concordanceref08_PutTerm.mono : ∀ a0 a1 a2 k, LeO (concordanceref08_PutTerm.f k a0 a1 a2) (concordanceref08_PutTerm.f (k + 1) a0 a1 a2) := by
 intro a0 a1 a2 k
 have ih0 := concordanceref08_PutTerm.mono_l k
 unfold concordanceref08_PutTerm.f
 repeat' first
   | (with_reducible exact ih0 _ _ _ _)
   | (with_reducible exact LeO.refl _)
   | (with_reducible exact LeO.none _)
   | (with_reducible refine LeO.ite ?_ ?_)
   | (with_reducible refine LeO.bind ?_ (fun _ => ?_))
   | exact ih0 _ _ _ _
   | exact LeO.none _
   | refine LeO.ite ?_ ?_
   | refine LeO.bind ?_ (fun _ => ?_)
def concordanceref08_PutTerm.T2 : Bool × List (List Nat × List Nat) := (true, [([], []), ([0], [0]), ([1], [1]), ([2], [2]), ([3, 2, 2], [2, 3]), ([2], [2]), ([2], [2]), ([6, 2], [2, 6]), ([5, 7, 2], [2, 5, 7]), ([8, 2], [2, 8]), ([9, 4, 2], [2, 9]), ([4, 10, 2], [2, 4, 10]), ([2, 11], [2, 11])])
def concordanceref08_PutTerm.B2 : List Nat := [0, 1, 3, 7, 15, 7, 7, 71, 231, 487, 1023, 2047, 4095]
theorem concordanceref08_PutTerm.tab2 : rtab .any (opsOf Tryz.f76 2) = concordanceref08_PutTerm.T2 := by kernel_rfl
theorem concordanceref08_PutTerm.bits2 : waitsOk concordanceref08_PutTerm.T2.2 concordanceref08_PutTerm.B2 = true := by kernel_rfl
def concordanceref08_PutTerm.T4 : Bool × List (List Nat × List Nat) := (true, [([], []), ([0], [0]), ([1], [1]), ([2], [2]), ([2], [2]), ([4, 2], [2, 4]), ([3, 5, 2], [2, 3, 5]), ([6, 2], [2, 6]), ([2], [2]), ([7, 8, 2], [2, 7, 8]), ([2, 9], [2, 9])])
def concordanceref08_PutTerm.B4 : List Nat := [0, 1, 3, 7, 7, 23, 63, 127, 7, 511, 1023]
theorem concordanceref08_PutTerm.tab4 : rtab .any (opsOf Tryz.f76 4) = concordanceref08_PutTerm.T4 := by kernel_rfl
theorem concordanceref08_PutTerm.bits4 : waitsOk concordanceref08_PutTerm.T4.2 concordanceref08_PutTerm.B4 = true := by kernel_rfl
set_option maxHeartbeats 8000000 in
set_option maxRecDepth 100000 in
theorem concordanceref08_PutTerm.calls (k : Nat) (P0_ : Nat → Prop) (u9000_ : Value) (l0 : List (S70)) (a1_0 : ByteArray) (a1_1 : ByteArray) (r : List (S70)) (w0 w : World) (hB : Below w0.heap.size w0 w) (ho0 : Kd.R k70 70 w w0.heap.size P0_ u9000_ l0) (h : concordanceref08_PutTerm.f k l0 a1_0 a1_1 = some r) :
  Calls Tryz.prog 76 #[u9000_, .agg #[.string a1_0, .string a1_1]] w fun e w' => ∃ v0_ : Value, e = .returned (v0_) ∧ Kd.R k70 70 w' w0.heap.size (fun k_ => (P0_ k_ ∨ w.heap.size ≤ k_)) v0_ r ∧ Below w0.heap.size w0 w' ∧ Kept w w' (fun k_ => P0_ k_) := by
 have hu70 := Tryz.underlying70
 have HO0 := sA (show Kd.R k70 70 w w0.heap.size (fun k_ => (P0_ k_ ∨ w.heap.size ≤ k_)) u9000_ l0 from Kd.R_mono ho0 (fun k_ hk => (.inl hk)))
 have HK := sA (Kept.refl w (fun k_ => P0_ k_))
 have HW0 := Aside0.mk hB.size
 have HB := Aside0.mk hB
 clear hB
 have H : (concordanceref08_PutTerm.l0 k l0 (l0.length : Int) a1_0 a1_1) = some r := h
 clear h
 have H' := Aside0.mk H
 clear H
 go_enter Tryz.func76, Tryz.ntmps76
 go_wp2_with (first | ((with_reducible refine gate_dst (N := 3) rfl ?_); refine box_event ?hg (N := 3) ?hd (cs := #[.string a1_0, .string a1_1]) (t := 70) ?hr ?_; (case hd => rfl); (case hg => rfl); (case hr => first | (go_simp; done) | (go_simp; rfl)); intro gb373 hg w3 hbox hb; replace HO0 := sA (Kd.R_below (Kd.R_elderB (sR HO0.out) gb373 (Nat.le_of_eq hg.symm)) hb); have BK373 := sA (hbox); have GW373 := sA ((by rw [hg]; exact (by first | exact HK.out.1 | exact (show Kept w _ (fun k_ => P0_ k_) from sK HK.out).1) : w.heap.size ≤ gb373)); replace HK := sA (Kept.below (S := (fun k_ => P0_ k_)) (sK HK.out) hb); have GE373 := sA ((by rw [hg]; exact (below_size (sW HB.out)) : w0.heap.size ≤ gb373)); replace HB := sA (below_step (sW HB.out) hb); clear hb hbox hg; obtain ⟨Ao4, co4, eo4⟩ := Kd.R_slice HO0.out; subst eo4))
 go_loopg [5] k (fun kq v5 w' => ∃ (x5_1 : Int), v5 = .int .i64 x5_1 ∧ Aside0 (concordanceref08_PutTerm.l0 kq l0 x5_1 a1_0 a1_1 = some r) ∧ Aside0 (kq ≤ k) ∧ Aside0 (Kd.R k70 70 w' w0.heap.size (fun k_ => (P0_ k_ ∨ w.heap.size ≤ k_) ∧ k_ ≠ gb373) (.slice Ao4 l0.length co4) l0) ∧ Aside0 (w'.heap[gb373]? = some (.cells #[.string a1_0, .string a1_1] 70 (0, 0))) ∧ Aside0 (Kept w w' (fun k_ => P0_ k_)) ∧ Aside0 (Below w0.heap.size w0 w'))
 case atStart => exact ⟨((l0.length : Int)), (by first | rfl | (simp; done) | (simp [*]; done)), H', ⟨Nat.le_refl _⟩, ⟨sR HO0.out⟩, ⟨sB BK373.out⟩, ⟨by repeat (first | (with_reducible first | exact HK.out | apply Kept.alloc | apply Kept.drewN | apply Kept.drew | refine Kept.setCell ?_ (.inr GW373.out) _) | exact HK.out)⟩, ⟨by repeat (first | exact sW HB.out | refine sS ?_)⟩⟩
 case round =>
  clear H'
  try clear p2
  obtain ⟨x5_1, rfl, HA, HK1, HO_0, BK373, HK, HB⟩ := hrel
  cases gk with
  | zero => exact absurd HA.out (by simp [concordanceref08_PutTerm.l0])
  | succ k1 =>
   have H := HA.out
   clear HA
   simp only [concordanceref08_PutTerm.l0] at H
   by_cases c5 : x5_1 > 0
   ·rw [if_pos c5] at H
    have c5b0 : decide (0 < x5_1) = true := decide_eq_true c5
    clear c5
    replace H := Option.bind_eq_some_iff.mp H
    obtain ⟨t374, A60, H⟩ := H
    have A6 := Aside0.mk A60
    clear A60
    obtain ⟨ji7, hji7⟩ : ∃ j_ : Int, (wrap64 (x5_1 - 1)) = j_ := ⟨_, rfl⟩
    first | rw [hji7] at H | simp only [hji7] at H
    (try rw [hji7] at A6)
    have hji7w : (IntKind.i64.wrap (x5_1 - 1)) = ji7 := (i64_w _).trans hji7
    by_cases c8 : 0 ≤ (ji7)
    ·rw [if_pos c8] at H
     have c8b0 : decide (0 ≤ (ji7)) = true := decide_eq_true c8
     clear c8
     by_cases c9 : (ji7) < (l0.length : Int)
     ·rw [if_pos c9] at H
      have c9b0 : decide ((ji7) < (l0.length : Int)) = true := decide_eq_true c9
      clear c9
      replace H := Option.bind_eq_some_iff.mp H
      obtain ⟨t376, A100, H⟩ := H
      have A10 := Aside0.mk A100
      clear A100
      by_cases c11 : (Op.bytesLess t374.toList t376.toList) = true
      ·rw [if_pos c11] at H
       have c11b0 : (Op.bytesLess t374.toList t376.toList) = true := c11
       clear c11
       have H' := Aside0.mk H
       clear H
       try go_wp2
       replace HO_0 := sA (Kd.R_drew HO_0.out)
       replace BK373 := sA (blk_drew BK373.out)
       replace HK := sA (Kept.drew HK.out)
       replace HB := sA (below_drew1 HB.out)
       have p375 : 0 ≤ ((ji7) : Int) := of_decide_eq_true (by assumption)
       have q375 : (ji7) < (l0.length : Int) := of_decide_eq_true (by assumption)
       obtain ⟨ad375, e375, hx375_0, hx375_1⟩ := at_T70 (Kd.R_reads' HO_0.out).2.2 (ji7) p375 q375
       cases e375
       replace p375 := eq_true p375
       replace q375 := eq_true q375
       refine start_ (n := 13) (S := fun w' => w'.cell? ⟨gb373, 0, none⟩ = some (.string a1_0) ∧ w'.cell? ⟨gb373, 1, none⟩ = some (.string a1_1) ∧ w'.cell? (ad375.add (((ji7)).toNat * 2)) = some (.string ((rd_T70 l0 (ji7)).f0)) ∧ w'.cell? ⟨(ad375.add (((ji7)).toNat * 2)).block, (ad375.add (((ji7)).toNat * 2)).off + 1, none⟩ = some (.string ((rd_T70 l0 (ji7)).f1))) (ds := []) #[false, false, false, false, false, false, false, false, false, false, false, false, false] (by kernel_rfl) rfl rfl ⟨c0 BK373.out, c1 BK373.out, hx375_0, hx375_1⟩ (fun hHeld => ?_); refine with_tabW concordanceref08_PutTerm.tab2 concordanceref08_PutTerm.bits2 (fun HT_ HW_ => ?_)
       generalize wr.drew = w12 at HO_0 BK373 HK HB hx375_0 hx375_1 hHeld ⊢
       refine pure_ (i := 0) (N := some 9) (v := ?_) (a' := ?_) #[true, false, false, false, false, false, false, false, false, false, false, false, false] rfl rfl (any_of HT_.out (by kernel_rfl)) (fun _ _ _ h => h) (Or.inl ⟨by rfl, ?_⟩) ?_ ?_; rotate_left; (· intro w'; go_simp; with_reducible rfl); rotate_left; (· simp only [Act.put, List.setIfInBounds_toArray, List.set_cons_zero, List.set_cons_succ, i64_w, i32_w]; rfl)
       refine pure_ (i := 1) (N := some 10) (v := ?_) (a' := ?_) #[true, true, false, false, false, false, false, false, false, false, false, false, false] rfl rfl (any_of HT_.out (by kernel_rfl)) (fun _ _ _ h => h) (Or.inl ⟨by rfl, ?_⟩) ?_ ?_; rotate_left; (· intro w'; go_simp; with_reducible rfl); rotate_left; (· simp only [Act.put, List.setIfInBounds_toArray, List.set_cons_zero, List.set_cons_succ, i64_w, i32_w]; rfl)
       refine pure_ (i := 2) (N := some 11) (v := ?_) (a' := ?_) #[true, true, true, false, false, false, false, false, false, false, false, false, false] rfl rfl (any_of HT_.out (by kernel_rfl)) (fun _ _ _ h => h) (Or.inl ⟨by rfl, ?_⟩) ?_ ?_; rotate_left; (· intro w'; go_simp; with_reducible rfl); rotate_left; (· simp only [Act.put, List.setIfInBounds_toArray, List.set_cons_zero, List.set_cons_succ, i64_w, i32_w]; rfl)
       refine pure_ (i := 5) (N := some 14) (v := ?_) (a' := ?_) #[true, true, true, false, false, true, false, false, false, false, false, false, false] rfl rfl (any_of HT_.out (by kernel_rfl)) (fun _ _ _ h => h) (Or.inl ⟨by rfl, ?_⟩) ?_ ?_; rotate_left; (· intro w'; go_simp; with_reducible rfl); rotate_left; (· simp only [Act.put, List.setIfInBounds_toArray, List.set_cons_zero, List.set_cons_succ, i64_w, i32_w]; rfl)
       refine pure_ (i := 6) (N := some 15) (v := ?_) (a' := ?_) #[true, true, true, false, false, true, true, false, false, false, false, false, false] rfl rfl (any_of HT_.out (by kernel_rfl)) (fun _ _ _ h => h) (Or.inl ⟨by rfl, ?_⟩) ?_ ?_; rotate_left; (· intro w'; go_simp; with_reducible rfl); rotate_left; (· simp only [Act.put, List.setIfInBounds_toArray, List.set_cons_zero, List.set_cons_succ, i64_w, i32_w]; rfl)
       refine pure_ (i := 7) (N := some 16) (v := ?_) (a' := ?_) #[true, true, true, false, false, true, true, true, false, false, false, false, false] rfl rfl (any_of HT_.out (by kernel_rfl)) (fun _ _ _ h => h) (Or.inl ⟨by rfl, ?_⟩) ?_ ?_; rotate_left; (· intro w'; go_simp; with_reducible rfl); rotate_left; (· simp only [Act.put, List.setIfInBounds_toArray, List.set_cons_zero, List.set_cons_succ, i64_w, i32_w]; rfl)
       refine pure_ (i := 8) (N := some 17) (v := ?_) (a' := ?_) #[true, true, true, false, false, true, true, true, true, false, false, false, false] rfl rfl (any_of HT_.out (by kernel_rfl)) (fun _ _ _ h => h) (Or.inl ⟨by rfl, ?_⟩) ?_ ?_; rotate_left; (· intro w'; go_simp; with_reducible rfl); rotate_left; (· simp only [Act.put, List.setIfInBounds_toArray, List.set_cons_zero, List.set_cons_succ, i64_w, i32_w]; rfl)
       refine take_ (i := 3) (N := some 12) (v := ?_) (a' := ?_) #[true, true, true, true, false, true, true, true, true, false, false, false, false] rfl rfl (take_ofW HT_.out HW_.out (by kernel_rfl)) (fun _ _ _ h => h) (Or.inl ⟨by rfl, ?_⟩) hHeld ?_ ?_; rotate_left; (· rintro w' ⟨s0, s1, s2, s3⟩; go_simp; with_reducible rfl); rotate_left; (· simp only [Act.put, List.setIfInBounds_toArray, List.set_cons_zero, List.set_cons_succ, i64_w, i32_w]; rfl)
       refine take_ (i := 9) (N := some 18) (v := ?_) (a' := ?_) #[true, true, true, true, false, true, true, true, true, true, false, false, false] rfl rfl (take_ofW HT_.out HW_.out (by kernel_rfl)) (fun _ _ _ h => h) (Or.inl ⟨by rfl, ?_⟩) hHeld ?_ ?_; rotate_left; (· rintro w' ⟨s0, s1, s2, s3⟩; go_simp; with_reducible rfl); rotate_left; (· simp only [Act.put, List.setIfInBounds_toArray, List.set_cons_zero, List.set_cons_succ, i64_w, i32_w]; rfl)
       refine one_ (i := 4) (N := some 13) #[true, true, true, true, true, true, true, true, true, true, false, false, false] rfl rfl (one_of HT_.out (by kernel_rfl)) (by decide) (fun K hK => ?_)
       refine goes_ Tryz.func60 (by kernel_rfl) rfl #[.agg #[.string a1_0, .string a1_1]] (by rfl) rfl rfl (by (try simp only [List.map_toArray, List.map_cons, List.map_nil]); first | done | rfl | (simp only [List.length_drop, List.length_take]; rfl)) ?_
       with_reducible refine (concordanceref02_Key.calls a1_0 a1_1 t374 _ A6.out).mono ?_
       rintro e w13 ⟨rfl, hb⟩
       have HS2_ := (hb.cell (World.block_lt_of_cell? _ _ (hHeld.2.2.1))).trans (hHeld.2.2.1)
       have HS3_ := (hb.cell (World.block_lt_of_cell? _ _ (hHeld.2.2.2))).trans (hHeld.2.2.2)
       refine ⟨_, rfl, ?_⟩
       replace HO_0 := sA (Kd.R_below (sR HO_0.out) hb)
       replace BK373 := sA (blk_below (sB BK373.out) hb)
       replace HK := sA (Kept.below (S := (fun k_ => P0_ k_)) (by repeat (first | (with_reducible first | exact HK.out | apply Kept.alloc | apply Kept.drewN | apply Kept.drew | refine Kept.setCell ?_ (.inr GW373.out) _) | exact HK.out)) hb)
       replace HB := sA (below_step (by repeat (first | exact sW HB.out | refine sS ?_)) hb)
       (try clear hb)
       (try clear hb2)
       (try clear hk)
       (try clear hi)
       refine hK.out _ _ ⟨c0 BK373.out, c1 BK373.out, HS2_, HS3_⟩ (fun hHeld => ?_)
       clear hK K
       refine norm_ (a' := ?_) ?_ ?_; rotate_left; (· show Act.put _ (some 13) _ = _; simp only [Act.put, List.setIfInBounds_toArray, List.set_cons_zero, List.set_cons_succ, i64_w, i32_w]; rfl)
       refine one_ (i := 10) (N := some 19) #[true, true, true, true, true, true, true, true, true, true, true, false, false] rfl rfl (one_of HT_.out (by kernel_rfl)) (by decide) (fun K hK => ?_)
       refine goes_ Tryz.func60 (by kernel_rfl) rfl #[.agg #[.string ((rd_T70 l0 (ji7)).f0), .string ((rd_T70 l0 (ji7)).f1)]] (by rfl) rfl rfl (by (try simp only [List.map_toArray, List.map_cons, List.map_nil]); first | done | (simp only [hji7]; rfl) | rfl | (simp only [List.length_drop, List.length_take]; rfl)) ?_
       with_reducible refine (concordanceref02_Key.calls ((rd_T70 l0 (ji7)).f0) ((rd_T70 l0 (ji7)).f1) t376 _ A10.out).mono ?_
       rintro e w14 ⟨rfl, hb⟩
       have HS2_ := (hb.cell (World.block_lt_of_cell? _ _ (hHeld.2.2.1))).trans (hHeld.2.2.1)
       have HS3_ := (hb.cell (World.block_lt_of_cell? _ _ (hHeld.2.2.2))).trans (hHeld.2.2.2)
       refine ⟨_, rfl, ?_⟩
       replace HO_0 := sA (Kd.R_below (sR HO_0.out) hb)
       replace BK373 := sA (blk_below (sB BK373.out) hb)
       replace HK := sA (Kept.below (S := (fun k_ => P0_ k_)) (by repeat (first | (with_reducible first | exact HK.out | apply Kept.alloc | apply Kept.drewN | apply Kept.drew | refine Kept.setCell ?_ (.inr GW373.out) _) | exact HK.out)) hb)
       replace HB := sA (below_step (by repeat (first | exact sW HB.out | refine sS ?_)) hb)
       (try clear hb)
       (try clear hb2)
       (try clear hk)
       (try clear hi)
       refine hK.out _ _ ⟨c0 BK373.out, c1 BK373.out, HS2_, HS3_⟩ (fun hHeld => ?_)
       clear hK K
       refine norm_ (a' := ?_) ?_ ?_; rotate_left; (· show Act.put _ (some 19) _ = _; simp only [Act.put, List.setIfInBounds_toArray, List.set_cons_zero, List.set_cons_succ, i64_w, i32_w]; rfl)
       refine pure_ (i := 11) (N := some 20) (v := ?_) (a' := ?_) #[true, true, true, true, true, true, true, true, true, true, true, true, false] rfl rfl (any_of HT_.out (by kernel_rfl)) (fun _ _ _ h => h) (Or.inl ⟨by rfl, ?_⟩) ?_ ?_; rotate_left; (· intro w'; go_simp; with_reducible rfl); rotate_left; (· simp only [Act.put, List.setIfInBounds_toArray, List.set_cons_zero, List.set_cons_succ, i64_w, i32_w]; rfl)
       refine pure_ (i := 12) (N := some 21) (v := ?_) (a' := ?_) #[true, true, true, true, true, true, true, true, true, true, true, true, true] rfl rfl (any_of HT_.out (by kernel_rfl)) (fun _ _ _ h => h) (Or.inl ⟨by rfl, ?_⟩) ?_ ?_; rotate_left; (· intro w'; go_simp; with_reducible rfl); rotate_left; (· simp only [Act.put, List.setIfInBounds_toArray, List.set_cons_zero, List.set_cons_succ, i64_w, i32_w]; rfl)
       refine done_ (done_of HT_.out (by kernel_rfl)) ?_
       try go_wp2
       go_roundg k1
       case measure => have := HK1.out; omega
       case rel => exact ⟨(ji7), (by first | rfl | (simp; done) | (simp only [← hji7] <;> (first | rfl | simp)) | (simp [*]; done)), H', ⟨by have := HK1.out; omega⟩, ⟨sR HO_0.out⟩, ⟨sB BK373.out⟩, ⟨by repeat (first | (with_reducible first | exact HK.out | apply Kept.alloc | apply Kept.drewN | apply Kept.drew | refine Kept.setCell ?_ (.inr GW373.out) _) | exact HK.out)⟩, ⟨by repeat (first | exact sW HB.out | refine sS ?_)⟩⟩
      ·rw [if_neg c11] at H
       have c11b0 : (Op.bytesLess t374.toList t376.toList) = false := by simpa using c11
       clear c11
       by_cases c15 : ((((rd_T70 l0 (ji7)).f0).toList) == a1_0.toList && ((((rd_T70 l0 (ji7)).f1).toList) == a1_1.toList)) = true
       ·rw [if_pos c15] at H
        have c15b0 : ((((rd_T70 l0 (ji7)).f0).toList) == a1_0.toList && ((((rd_T70 l0 (ji7)).f1).toList) == a1_1.toList)) = true := c15
        (try (have c15b1 : decide ((((rd_T70 l0 (ji7)).f0).toList) = a1_0.toList && ((((rd_T70 l0 (ji7)).f1).toList) == a1_1.toList)) = true := by simpa using c15))
        (try (have c15b2 : ((((rd_T70 l0 (ji7)).f0).toList) == a1_0.toList && ((((rd_T70 l0 (ji7)).f1).toList) == a1_1.toList)) = true := by simpa using c15))
        clear c15
        obtain rfl := Option.some.inj H
        try go_wp2
        replace HO_0 := sA (Kd.R_drew HO_0.out)
        replace BK373 := sA (blk_drew BK373.out)
        replace HK := sA (Kept.drew HK.out)
        replace HB := sA (below_drew1 HB.out)
        have p375 : 0 ≤ ((ji7) : Int) := of_decide_eq_true (by assumption)
        have q375 : (ji7) < (l0.length : Int) := of_decide_eq_true (by assumption)
        obtain ⟨ad375, e375, hx375_0, hx375_1⟩ := at_T70 (Kd.R_reads' HO_0.out).2.2 (ji7) p375 q375
        cases e375
        replace p375 := eq_true p375
        replace q375 := eq_true q375
        refine start_ (n := 13) (S := fun w' => w'.cell? ⟨gb373, 0, none⟩ = some (.string a1_0) ∧ w'.cell? ⟨gb373, 1, none⟩ = some (.string a1_1) ∧ w'.cell? (ad375.add (((ji7)).toNat * 2)) = some (.string ((rd_T70 l0 (ji7)).f0)) ∧ w'.cell? ⟨(ad375.add (((ji7)).toNat * 2)).block, (ad375.add (((ji7)).toNat * 2)).off + 1, none⟩ = some (.string ((rd_T70 l0 (ji7)).f1))) (ds := []) #[false, false, false, false, false, false, false, false, false, false, false, false, false] (by kernel_rfl) rfl rfl ⟨c0 BK373.out, c1 BK373.out, hx375_0, hx375_1⟩ (fun hHeld => ?_); refine with_tabW concordanceref08_PutTerm.tab2 concordanceref08_PutTerm.bits2 (fun HT_ HW_ => ?_)
        generalize wr.drew = w16 at HO_0 BK373 HK HB hx375_0 hx375_1 hHeld ⊢
        refine pure_ (i := 0) (N := some 9) (v := ?_) (a' := ?_) #[true, false, false, false, false, false, false, false, false, false, false, false, false] rfl rfl (any_of HT_.out (by kernel_rfl)) (fun _ _ _ h => h) (Or.inl ⟨by rfl, ?_⟩) ?_ ?_; rotate_left; (· intro w'; go_simp; with_reducible rfl); rotate_left; (· simp only [Act.put, List.setIfInBounds_toArray, List.set_cons_zero, List.set_cons_succ, i64_w, i32_w]; rfl)
        refine pure_ (i := 1) (N := some 10) (v := ?_) (a' := ?_) #[true, true, false, false, false, false, false, false, false, false, false, false, false] rfl rfl (any_of HT_.out (by kernel_rfl)) (fun _ _ _ h => h) (Or.inl ⟨by rfl, ?_⟩) ?_ ?_; rotate_left; (· intro w'; go_simp; with_reducible rfl); rotate_left; (· simp only [Act.put, List.setIfInBounds_toArray, List.set_cons_zero, List.set_cons_succ, i64_w, i32_w]; rfl)
        refine pure_ (i := 2) (N := some 11) (v := ?_) (a' := ?_) #[true, true, true, false, false, false, false, false, false, false, false, false, false] rfl rfl (any_of HT_.out (by kernel_rfl)) (fun _ _ _ h => h) (Or.inl ⟨by rfl, ?_⟩) ?_ ?_; rotate_left; (· intro w'; go_simp; with_reducible rfl); rotate_left; (· simp only [Act.put, List.setIfInBounds_toArray, List.set_cons_zero, List.set_cons_succ, i64_w, i32_w]; rfl)
        refine pure_ (i := 5) (N := some 14) (v := ?_) (a' := ?_) #[true, true, true, false, false, true, false, false, false, false, false, false, false] rfl rfl (any_of HT_.out (by kernel_rfl)) (fun _ _ _ h => h) (Or.inl ⟨by rfl, ?_⟩) ?_ ?_; rotate_left; (· intro w'; go_simp; with_reducible rfl); rotate_left; (· simp only [Act.put, List.setIfInBounds_toArray, List.set_cons_zero, List.set_cons_succ, i64_w, i32_w]; rfl)
        refine pure_ (i := 6) (N := some 15) (v := ?_) (a' := ?_) #[true, true, true, false, false, true, true, false, false, false, false, false, false] rfl rfl (any_of HT_.out (by kernel_rfl)) (fun _ _ _ h => h) (Or.inl ⟨by rfl, ?_⟩) ?_ ?_; rotate_left; (· intro w'; go_simp; with_reducible rfl); rotate_left; (· simp only [Act.put, List.setIfInBounds_toArray, List.set_cons_zero, List.set_cons_succ, i64_w, i32_w]; rfl)
        refine pure_ (i := 7) (N := some 16) (v := ?_) (a' := ?_) #[true, true, true, false, false, true, true, true, false, false, false, false, false] rfl rfl (any_of HT_.out (by kernel_rfl)) (fun _ _ _ h => h) (Or.inl ⟨by rfl, ?_⟩) ?_ ?_; rotate_left; (· intro w'; go_simp; with_reducible rfl); rotate_left; (· simp only [Act.put, List.setIfInBounds_toArray, List.set_cons_zero, List.set_cons_succ, i64_w, i32_w]; rfl)
        refine pure_ (i := 8) (N := some 17) (v := ?_) (a' := ?_) #[true, true, true, false, false, true, true, true, true, false, false, false, false] rfl rfl (any_of HT_.out (by kernel_rfl)) (fun _ _ _ h => h) (Or.inl ⟨by rfl, ?_⟩) ?_ ?_; rotate_left; (· intro w'; go_simp; with_reducible rfl); rotate_left; (· simp only [Act.put, List.setIfInBounds_toArray, List.set_cons_zero, List.set_cons_succ, i64_w, i32_w]; rfl)
        refine take_ (i := 3) (N := some 12) (v := ?_) (a' := ?_) #[true, true, true, true, false, true, true, true, true, false, false, false, false] rfl rfl (take_ofW HT_.out HW_.out (by kernel_rfl)) (fun _ _ _ h => h) (Or.inl ⟨by rfl, ?_⟩) hHeld ?_ ?_; rotate_left; (· rintro w' ⟨s0, s1, s2, s3⟩; go_simp; with_reducible rfl); rotate_left; (· simp only [Act.put, List.setIfInBounds_toArray, List.set_cons_zero, List.set_cons_succ, i64_w, i32_w]; rfl)
        refine take_ (i := 9) (N := some 18) (v := ?_) (a' := ?_) #[true, true, true, true, false, true, true, true, true, true, false, false, false] rfl rfl (take_ofW HT_.out HW_.out (by kernel_rfl)) (fun _ _ _ h => h) (Or.inl ⟨by rfl, ?_⟩) hHeld ?_ ?_; rotate_left; (· rintro w' ⟨s0, s1, s2, s3⟩; go_simp; with_reducible rfl); rotate_left; (· simp only [Act.put, List.setIfInBounds_toArray, List.set_cons_zero, List.set_cons_succ, i64_w, i32_w]; rfl)
        refine one_ (i := 4) (N := some 13) #[true, true, true, true, true, true, true, true, true, true, false, false, false] rfl rfl (one_of HT_.out (by kernel_rfl)) (by decide) (fun K hK => ?_)
        refine goes_ Tryz.func60 (by kernel_rfl) rfl #[.agg #[.string a1_0, .string a1_1]] (by rfl) rfl rfl (by (try simp only [List.map_toArray, List.map_cons, List.map_nil]); first | done | rfl | (simp only [List.length_drop, List.length_take]; rfl)) ?_
        with_reducible refine (concordanceref02_Key.calls a1_0 a1_1 t374 _ A6.out).mono ?_
        rintro e w17 ⟨rfl, hb⟩
        have HS2_ := (hb.cell (World.block_lt_of_cell? _ _ (hHeld.2.2.1))).trans (hHeld.2.2.1)
        have HS3_ := (hb.cell (World.block_lt_of_cell? _ _ (hHeld.2.2.2))).trans (hHeld.2.2.2)
        refine ⟨_, rfl, ?_⟩
        replace HO_0 := sA (Kd.R_below (sR HO_0.out) hb)
        replace BK373 := sA (blk_below (sB BK373.out) hb)
        replace HK := sA (Kept.below (S := (fun k_ => P0_ k_)) (by repeat (first | (with_reducible first | exact HK.out | apply Kept.alloc | apply Kept.drewN | apply Kept.drew | refine Kept.setCell ?_ (.inr GW373.out) _) | exact HK.out)) hb)
        replace HB := sA (below_step (by repeat (first | exact sW HB.out | refine sS ?_)) hb)
        (try clear hb)
        (try clear hb2)
        (try clear hk)
        (try clear hi)
        refine hK.out _ _ ⟨c0 BK373.out, c1 BK373.out, HS2_, HS3_⟩ (fun hHeld => ?_)
        clear hK K
        refine norm_ (a' := ?_) ?_ ?_; rotate_left; (· show Act.put _ (some 13) _ = _; simp only [Act.put, List.setIfInBounds_toArray, List.set_cons_zero, List.set_cons_succ, i64_w, i32_w]; rfl)
        refine one_ (i := 10) (N := some 19) #[true, true, true, true, true, true, true, true, true, true, true, false, false] rfl rfl (one_of HT_.out (by kernel_rfl)) (by decide) (fun K hK => ?_)
        refine goes_ Tryz.func60 (by kernel_rfl) rfl #[.agg #[.string ((rd_T70 l0 (ji7)).f0), .string ((rd_T70 l0 (ji7)).f1)]] (by rfl) rfl rfl (by (try simp only [List.map_toArray, List.map_cons, List.map_nil]); first | done | (simp only [hji7]; rfl) | rfl | (simp only [List.length_drop, List.length_take]; rfl)) ?_
        with_reducible refine (concordanceref02_Key.calls ((rd_T70 l0 (ji7)).f0) ((rd_T70 l0 (ji7)).f1) t376 _ A10.out).mono ?_
        rintro e w18 ⟨rfl, hb⟩
        have HS2_ := (hb.cell (World.block_lt_of_cell? _ _ (hHeld.2.2.1))).trans (hHeld.2.2.1)
        have HS3_ := (hb.cell (World.block_lt_of_cell? _ _ (hHeld.2.2.2))).trans (hHeld.2.2.2)
        refine ⟨_, rfl, ?_⟩
        replace HO_0 := sA (Kd.R_below (sR HO_0.out) hb)
        replace BK373 := sA (blk_below (sB BK373.out) hb)
        replace HK := sA (Kept.below (S := (fun k_ => P0_ k_)) (by repeat (first | (with_reducible first | exact HK.out | apply Kept.alloc | apply Kept.drewN | apply Kept.drew | refine Kept.setCell ?_ (.inr GW373.out) _) | exact HK.out)) hb)
        replace HB := sA (below_step (by repeat (first | exact sW HB.out | refine sS ?_)) hb)
        (try clear hb)
        (try clear hb2)
        (try clear hk)
        (try clear hi)
        refine hK.out _ _ ⟨c0 BK373.out, c1 BK373.out, HS2_, HS3_⟩ (fun hHeld => ?_)
        clear hK K
        refine norm_ (a' := ?_) ?_ ?_; rotate_left; (· show Act.put _ (some 19) _ = _; simp only [Act.put, List.setIfInBounds_toArray, List.set_cons_zero, List.set_cons_succ, i64_w, i32_w]; rfl)
        refine pure_ (i := 11) (N := some 20) (v := ?_) (a' := ?_) #[true, true, true, true, true, true, true, true, true, true, true, true, false] rfl rfl (any_of HT_.out (by kernel_rfl)) (fun _ _ _ h => h) (Or.inl ⟨by rfl, ?_⟩) ?_ ?_; rotate_left; (· intro w'; go_simp; with_reducible rfl); rotate_left; (· simp only [Act.put, List.setIfInBounds_toArray, List.set_cons_zero, List.set_cons_succ, i64_w, i32_w]; rfl)
        refine pure_ (i := 12) (N := some 21) (v := ?_) (a' := ?_) #[true, true, true, true, true, true, true, true, true, true, true, true, true] rfl rfl (any_of HT_.out (by kernel_rfl)) (fun _ _ _ h => h) (Or.inl ⟨by rfl, ?_⟩) ?_ ?_; rotate_left; (· intro w'; go_simp; with_reducible rfl); rotate_left; (· simp only [Act.put, List.setIfInBounds_toArray, List.set_cons_zero, List.set_cons_succ, i64_w, i32_w]; rfl)
        refine done_ (done_of HT_.out (by kernel_rfl)) ?_
        try go_wp2
        replace HO_0 := sA (Kd.R_drew HO_0.out)
        replace BK373 := sA (blk_drew BK373.out)
        replace HK := sA (Kept.drew HK.out)
        replace HB := sA (below_drew1 HB.out)
        have p377 : 0 ≤ ((ji7) : Int) := of_decide_eq_true (by assumption)
        have q377 : (ji7) < (l0.length : Int) := of_decide_eq_true (by assumption)
        obtain ⟨ad377, e377, hx377_0, hx377_1⟩ := at_T70 (Kd.R_reads' HO_0.out).2.2 (ji7) p377 q377
        obtain rfl : ad375 = ad377 := (by injection e377)
        replace p377 := eq_true p377
        replace q377 := eq_true q377
        refine start_ (n := 11) (S := fun w' => w'.cell? ⟨gb373, 0, none⟩ = some (.string a1_0) ∧ w'.cell? ⟨gb373, 1, none⟩ = some (.string a1_1) ∧ w'.cell? (ad375.add (((ji7)).toNat * 2)) = some (.string ((rd_T70 l0 (ji7)).f0)) ∧ w'.cell? ⟨(ad375.add (((ji7)).toNat * 2)).block, (ad375.add (((ji7)).toNat * 2)).off + 1, none⟩ = some (.string ((rd_T70 l0 (ji7)).f1))) (ds := []) #[false, false, false, false, false, false, false, false, false, false, false] (by kernel_rfl) rfl rfl ⟨c0 BK373.out, c1 BK373.out, hx377_0, hx377_1⟩ (fun hHeld => ?_); refine with_tabW concordanceref08_PutTerm.tab4 concordanceref08_PutTerm.bits4 (fun HT_ HW_ => ?_)
        generalize w18.drew = w19 at HO_0 BK373 HK HB hx377_0 hx377_1 hHeld ⊢
        refine pure_ (i := 0) (N := some 24) (v := ?_) (a' := ?_) #[true, false, false, false, false, false, false, false, false, false, false] rfl rfl (any_of HT_.out (by kernel_rfl)) (fun _ _ _ h => h) (Or.inl ⟨by rfl, ?_⟩) ?_ ?_; rotate_left; (· intro w'; go_simp; with_reducible rfl); rotate_left; (· simp only [Act.put, List.setIfInBounds_toArray, List.set_cons_zero, List.set_cons_succ, i64_w, i32_w]; rfl)
        refine pure_ (i := 1) (N := some 25) (v := ?_) (a' := ?_) #[true, true, false, false, false, false, false, false, false, false, false] rfl rfl (any_of HT_.out (by kernel_rfl)) (fun _ _ _ h => h) (Or.inl ⟨by rfl, ?_⟩) ?_ ?_; rotate_left; (· intro w'; go_simp; with_reducible rfl); rotate_left; (· simp only [Act.put, List.setIfInBounds_toArray, List.set_cons_zero, List.set_cons_succ, i64_w, i32_w]; rfl)
        refine pure_ (i := 2) (N := some 26) (v := ?_) (a' := ?_) #[true, true, true, false, false, false, false, false, false, false, false] rfl rfl (any_of HT_.out (by kernel_rfl)) (fun _ _ _ h => h) (Or.inl ⟨by rfl, ?_⟩) ?_ ?_; rotate_left; (· intro w'; go_simp; with_reducible rfl); rotate_left; (· simp only [Act.put, List.setIfInBounds_toArray, List.set_cons_zero, List.set_cons_succ, i64_w, i32_w]; rfl)
        refine pure_ (i := 3) (N := some 27) (v := ?_) (a' := ?_) #[true, true, true, true, false, false, false, false, false, false, false] rfl rfl (any_of HT_.out (by kernel_rfl)) (fun _ _ _ h => h) (Or.inl ⟨by rfl, ?_⟩) ?_ ?_; rotate_left; (· intro w'; go_simp; with_reducible rfl); rotate_left; (· simp only [Act.put, List.setIfInBounds_toArray, List.set_cons_zero, List.set_cons_succ, i64_w, i32_w]; rfl)
        refine pure_ (i := 4) (N := some 28) (v := ?_) (a' := ?_) #[true, true, true, true, true, false, false, false, false, false, false] rfl rfl (any_of HT_.out (by kernel_rfl)) (fun _ _ _ h => h) (Or.inl ⟨by rfl, ?_⟩) ?_ ?_; rotate_left; (· intro w'; go_simp; with_reducible rfl); rotate_left; (· simp only [Act.put, List.setIfInBounds_toArray, List.set_cons_zero, List.set_cons_succ, i64_w, i32_w]; rfl)
        refine pure_ (i := 5) (N := some 29) (v := ?_) (a' := ?_) #[true, true, true, true, true, true, false, false, false, false, false] rfl rfl (any_of HT_.out (by kernel_rfl)) (fun _ _ _ h => h) (Or.inl ⟨by rfl, ?_⟩) ?_ ?_; rotate_left; (· intro w'; go_simp; with_reducible rfl); rotate_left; (· simp only [Act.put, List.setIfInBounds_toArray, List.set_cons_zero, List.set_cons_succ, i64_w, i32_w]; rfl)
        refine pure_ (i := 6) (N := some 30) (v := ?_) (a' := ?_) #[true, true, true, true, true, true, true, false, false, false, false] rfl rfl (any_of HT_.out (by kernel_rfl)) (fun _ _ _ h => h) (Or.inl ⟨by rfl, ?_⟩) ?_ ?_; rotate_left; (· intro w'; go_simp; with_reducible rfl); rotate_left; (· simp only [Act.put, List.setIfInBounds_toArray, List.set_cons_zero, List.set_cons_succ, i64_w, i32_w]; rfl)
        refine take_ (i := 7) (N := some 31) (v := ?_) (a' := ?_) #[true, true, true, true, true, true, true, true, false, false, false] rfl rfl (take_ofW HT_.out HW_.out (by kernel_rfl)) (fun _ _ _ h => h) (Or.inl ⟨by rfl, ?_⟩) hHeld ?_ ?_; rotate_left; (· rintro w' ⟨s0, s1, s2, s3⟩; go_simp; with_reducible rfl); rotate_left; (· simp only [Act.put, List.setIfInBounds_toArray, List.set_cons_zero, List.set_cons_succ, i64_w, i32_w]; rfl)
        refine take_ (i := 8) (N := some 32) (v := ?_) (a' := ?_) #[true, true, true, true, true, true, true, true, true, false, false] rfl rfl (take_ofW HT_.out HW_.out (by kernel_rfl)) (fun _ _ _ h => h) (Or.inl ⟨by rfl, ?_⟩) hHeld ?_ ?_; rotate_left; (· rintro w' ⟨s0, s1, s2, s3⟩; go_simp; with_reducible rfl); rotate_left; (· simp only [Act.put, List.setIfInBounds_toArray, List.set_cons_zero, List.set_cons_succ, i64_w, i32_w]; rfl)
        refine pure_ (i := 9) (N := some 33) (v := ?_) (a' := ?_) #[true, true, true, true, true, true, true, true, true, true, false] rfl rfl (any_of HT_.out (by kernel_rfl)) (fun _ _ _ h => h) (Or.inl ⟨by rfl, ?_⟩) ?_ ?_; rotate_left; (· intro w'; go_simp; with_reducible rfl); rotate_left; (· simp only [Act.put, List.setIfInBounds_toArray, List.set_cons_zero, List.set_cons_succ, i64_w, i32_w]; rfl)
        refine pure_ (i := 10) (N := some 34) (v := ?_) (a' := ?_) #[true, true, true, true, true, true, true, true, true, true, true] rfl rfl (any_of HT_.out (by kernel_rfl)) (fun _ _ _ h => h) (Or.inl ⟨by rfl, ?_⟩) ?_ ?_; rotate_left; (· intro w'; go_simp; with_reducible rfl); rotate_left; (· simp only [Act.put, List.setIfInBounds_toArray, List.set_cons_zero, List.set_cons_succ, i64_w, i32_w]; rfl)
        refine done_ (done_of HT_.out (by kernel_rfl)) ?_
        try go_wp2
        go_ret
        exact ⟨_, by first | rfl | (simp [errW_none, errW_some] <;> rfl) | (simp only [← hji7]; first | rfl | (simp [errW_none, errW_some] <;> rfl)) | (simp [*, errW_none, errW_some] <;> rfl), by apply sR; first | exact Kd.R_mono HO_0.out (fun _ hk => hk.1) | exact Kd.R_mono HO_0.out (fun _ _ => trivial), by repeat (first | exact sW HB.out | refine sS ?_), by repeat (first | (with_reducible first | exact HK.out | apply Kept.alloc | apply Kept.drewN | apply Kept.drew | refine Kept.setCell ?_ (.inr GW373.out) _) | exact HK.out)⟩
       ·rw [if_neg c15] at H
        have c15b0 : ((((rd_T70 l0 (ji7)).f0).toList) == a1_0.toList && ((((rd_T70 l0 (ji7)).f1).toList) == a1_1.toList)) = false := by simpa using c15
        (try (have c15b1 : decide ((((rd_T70 l0 (ji7)).f0).toList) = a1_0.toList && ((((rd_T70 l0 (ji7)).f1).toList) == a1_1.toList)) = false := by simpa using c15))
        (try (have c15b2 : ((((rd_T70 l0 (ji7)).f0).toList) == a1_0.toList && ((((rd_T70 l0 (ji7)).f1).toList) == a1_1.toList)) = false := by simpa using c15))
        (try (have c15b3 : ¬ ((((rd_T70 l0 (ji7)).f0).toList) = a1_0.toList && ((((rd_T70 l0 (ji7)).f1).toList) == a1_1.toList)) := by simpa using c15))
        clear c15
        by_cases c20 : 0 ≤ x5_1
        ·rw [if_pos c20] at H
         have c20b0 := eq_true c20
         have c20b1 : decide (0 ≤ x5_1) = true := decide_eq_true c20
         clear c20
         by_cases c21 : x5_1 ≤ (l0.length : Int)
         ·rw [if_pos c21] at H
          have c21b0 := eq_true c21
          have c21b1 : decide (x5_1 ≤ (l0.length : Int)) = true := decide_eq_true c21
          clear c21
          obtain ⟨y378, hy378⟩ : ∃ y_ : List (S70), y_ = (l0.take (x5_1 : Int).toNat) := ⟨_, rfl⟩
          replace H : (if ([] : List (S70)).length + y378.length < 4398046511104 then ((some (([] : List (S70)) ++ y378 : List (S70))).bind fun y382 => (if y382.length < 4398046511104 then ((some (y382 ++ [(⟨a1_0, a1_1⟩ : S70)] : List (S70))).bind fun y385 => ((some (l0.drop (x5_1 : Int).toNat : List (S70))).bind fun y388 => (if y385.length + y388.length < 4398046511104 then (some (y385 ++ y388)) else (none)))) else (none))) else (none)) = some r := by first | (rw [hy378]; with_reducible exact H) | (have H2_ := (Option.bind_some _ _).symm.trans H; rw [hy378]; with_reducible exact H2_) | (have H2_ := (Option.bind_some _ _).symm.trans H; with_reducible exact H2_) | with_reducible exact H | (rw [hy378]; exact H) | exact H
          have Ny378 := Aside0.mk hy378
          clear hy378
          by_cases c22 : ([] : List (S70)).length + y378.length < 4398046511104
          ·rw [if_pos c22] at H
           have LMc22 := Aside0.mk c22
           clear c22
           obtain ⟨y382, hy382⟩ : ∃ y_ : List (S70), y_ = (([] : List (S70)) ++ y378) := ⟨_, rfl⟩
           replace H : (if y382.length < 4398046511104 then ((some (y382 ++ [(⟨a1_0, a1_1⟩ : S70)] : List (S70))).bind fun y385 => ((some (l0.drop (x5_1 : Int).toNat : List (S70))).bind fun y388 => (if y385.length + y388.length < 4398046511104 then (some (y385 ++ y388)) else (none)))) else (none)) = some r := by first | (rw [hy382]; with_reducible exact H) | (have H2_ := (Option.bind_some _ _).symm.trans H; rw [hy382]; with_reducible exact H2_) | (have H2_ := (Option.bind_some _ _).symm.trans H; with_reducible exact H2_) | with_reducible exact H | (rw [hy382]; exact H) | exact H
           have Ny382 := Aside0.mk hy382
           clear hy382
           by_cases c23 : y382.length < 4398046511104
           ·rw [if_pos c23] at H
            have LMc23 := Aside0.mk c23
            clear c23
            obtain ⟨y385, hy385⟩ : ∃ y_ : List (S70), y_ = (y382 ++ [(⟨a1_0, a1_1⟩ : S70)]) := ⟨_, rfl⟩
            replace H : ((some (l0.drop (x5_1 : Int).toNat : List (S70))).bind fun y388 => (if y385.length + y388.length < 4398046511104 then (some (y385 ++ y388)) else (none))) = some r := by first | (rw [hy385]; with_reducible exact H) | (have H2_ := (Option.bind_some _ _).symm.trans H; rw [hy385]; with_reducible exact H2_) | (have H2_ := (Option.bind_some _ _).symm.trans H; with_reducible exact H2_) | with_reducible exact H | (rw [hy385]; exact H) | exact H
            have Ny385 := Aside0.mk hy385
            clear hy385
            have c24b0 := eq_true (of_decide_eq_true (by assumption) : 0 ≤ x5_1)
            have c25b0 := eq_true (of_decide_eq_true (by assumption) : x5_1 ≤ (l0.length : Int))
            obtain ⟨y388, hy388⟩ : ∃ y_ : List (S70), y_ = (l0.drop (x5_1 : Int).toNat) := ⟨_, rfl⟩
            replace H : (if y385.length + y388.length < 4398046511104 then (some (y385 ++ y388)) else (none)) = some r := by first | (rw [hy388]; with_reducible exact H) | (have H2_ := (Option.bind_some _ _).symm.trans H; rw [hy388]; with_reducible exact H2_) | (have H2_ := (Option.bind_some _ _).symm.trans H; with_reducible exact H2_) | with_reducible exact H | (rw [hy388]; exact H) | exact H
            have Ny388 := Aside0.mk hy388
            clear hy388
            by_cases c26 : y385.length + y388.length < 4398046511104
            ·rw [if_pos c26] at H
             have LMc26 := Aside0.mk c26
             clear c26
             obtain ⟨y392, hy392⟩ : ∃ y_ : List (S70), y_ = (y385 ++ y388) := ⟨_, rfl⟩
             replace H : (some y392) = some r := by first | (rw [hy392]; with_reducible exact H) | (have H2_ := (Option.bind_some _ _).symm.trans H; rw [hy392]; with_reducible exact H2_) | (have H2_ := (Option.bind_some _ _).symm.trans H; with_reducible exact H2_) | with_reducible exact H | (rw [hy392]; exact H) | exact H
             have Ny392 := Aside0.mk hy392
             clear hy392
             obtain rfl := Option.some.inj H
             try go_wp2
             replace HO_0 := sA (Kd.R_drew HO_0.out)
             replace BK373 := sA (blk_drew BK373.out)
             replace HK := sA (Kept.drew HK.out)
             replace HB := sA (below_drew1 HB.out)
             have p375 : 0 ≤ ((ji7) : Int) := of_decide_eq_true (by assumption)
             have q375 : (ji7) < (l0.length : Int) := of_decide_eq_true (by assumption)
             obtain ⟨ad375, e375, hx375_0, hx375_1⟩ := at_T70 (Kd.R_reads' HO_0.out).2.2 (ji7) p375 q375
             cases e375
             replace p375 := eq_true p375
             replace q375 := eq_true q375
             refine start_ (n := 13) (S := fun w' => w'.cell? ⟨gb373, 0, none⟩ = some (.string a1_0) ∧ w'.cell? ⟨gb373, 1, none⟩ = some (.string a1_1) ∧ w'.cell? (ad375.add (((ji7)).toNat * 2)) = some (.string ((rd_T70 l0 (ji7)).f0)) ∧ w'.cell? ⟨(ad375.add (((ji7)).toNat * 2)).block, (ad375.add (((ji7)).toNat * 2)).off + 1, none⟩ = some (.string ((rd_T70 l0 (ji7)).f1))) (ds := []) #[false, false, false, false, false, false, false, false, false, false, false, false, false] (by kernel_rfl) rfl rfl ⟨c0 BK373.out, c1 BK373.out, hx375_0, hx375_1⟩ (fun hHeld => ?_); refine with_tabW concordanceref08_PutTerm.tab2 concordanceref08_PutTerm.bits2 (fun HT_ HW_ => ?_)
             generalize wr.drew = w27 at HO_0 BK373 HK HB hx375_0 hx375_1 hHeld ⊢
             refine pure_ (i := 0) (N := some 9) (v := ?_) (a' := ?_) #[true, false, false, false, false, false, false, false, false, false, false, false, false] rfl rfl (any_of HT_.out (by kernel_rfl)) (fun _ _ _ h => h) (Or.inl ⟨by rfl, ?_⟩) ?_ ?_; rotate_left; (· intro w'; go_simp; with_reducible rfl); rotate_left; (· simp only [Act.put, List.setIfInBounds_toArray, List.set_cons_zero, List.set_cons_succ, i64_w, i32_w]; rfl)
             refine pure_ (i := 1) (N := some 10) (v := ?_) (a' := ?_) #[true, true, false, false, false, false, false, false, false, false, false, false, false] rfl rfl (any_of HT_.out (by kernel_rfl)) (fun _ _ _ h => h) (Or.inl ⟨by rfl, ?_⟩) ?_ ?_; rotate_left; (· intro w'; go_simp; with_reducible rfl); rotate_left; (· simp only [Act.put, List.setIfInBounds_toArray, List.set_cons_zero, List.set_cons_succ, i64_w, i32_w]; rfl)
             refine pure_ (i := 2) (N := some 11) (v := ?_) (a' := ?_) #[true, true, true, false, false, false, false, false, false, false, false, false, false] rfl rfl (any_of HT_.out (by kernel_rfl)) (fun _ _ _ h => h) (Or.inl ⟨by rfl, ?_⟩) ?_ ?_; rotate_left; (· intro w'; go_simp; with_reducible rfl); rotate_left; (· simp only [Act.put, List.setIfInBounds_toArray, List.set_cons_zero, List.set_cons_succ, i64_w, i32_w]; rfl)
             refine pure_ (i := 5) (N := some 14) (v := ?_) (a' := ?_) #[true, true, true, false, false, true, false, false, false, false, false, false, false] rfl rfl (any_of HT_.out (by kernel_rfl)) (fun _ _ _ h => h) (Or.inl ⟨by rfl, ?_⟩) ?_ ?_; rotate_left; (· intro w'; go_simp; with_reducible rfl); rotate_left; (· simp only [Act.put, List.setIfInBounds_toArray, List.set_cons_zero, List.set_cons_succ, i64_w, i32_w]; rfl)
             refine pure_ (i := 6) (N := some 15) (v := ?_) (a' := ?_) #[true, true, true, false, false, true, true, false, false, false, false, false, false] rfl rfl (any_of HT_.out (by kernel_rfl)) (fun _ _ _ h => h) (Or.inl ⟨by rfl, ?_⟩) ?_ ?_; rotate_left; (· intro w'; go_simp; with_reducible rfl); rotate_left; (· simp only [Act.put, List.setIfInBounds_toArray, List.set_cons_zero, List.set_cons_succ, i64_w, i32_w]; rfl)
             refine pure_ (i := 7) (N := some 16) (v := ?_) (a' := ?_) #[true, true, true, false, false, true, true, true, false, false, false, false, false] rfl rfl (any_of HT_.out (by kernel_rfl)) (fun _ _ _ h => h) (Or.inl ⟨by rfl, ?_⟩) ?_ ?_; rotate_left; (· intro w'; go_simp; with_reducible rfl); rotate_left; (· simp only [Act.put, List.setIfInBounds_toArray, List.set_cons_zero, List.set_cons_succ, i64_w, i32_w]; rfl)
             refine pure_ (i := 8) (N := some 17) (v := ?_) (a' := ?_) #[true, true, true, false, false, true, true, true, true, false, false, false, false] rfl rfl (any_of HT_.out (by kernel_rfl)) (fun _ _ _ h => h) (Or.inl ⟨by rfl, ?_⟩) ?_ ?_; rotate_left; (· intro w'; go_simp; with_reducible rfl); rotate_left; (· simp only [Act.put, List.setIfInBounds_toArray, List.set_cons_zero, List.set_cons_succ, i64_w, i32_w]; rfl)
             refine take_ (i := 3) (N := some 12) (v := ?_) (a' := ?_) #[true, true, true, true, false, true, true, true, true, false, false, false, false] rfl rfl (take_ofW HT_.out HW_.out (by kernel_rfl)) (fun _ _ _ h => h) (Or.inl ⟨by rfl, ?_⟩) hHeld ?_ ?_; rotate_left; (· rintro w' ⟨s0, s1, s2, s3⟩; go_simp; with_reducible rfl); rotate_left; (· simp only [Act.put, List.setIfInBounds_toArray, List.set_cons_zero, List.set_cons_succ, i64_w, i32_w]; rfl)
             refine take_ (i := 9) (N := some 18) (v := ?_) (a' := ?_) #[true, true, true, true, false, true, true, true, true, true, false, false, false] rfl rfl (take_ofW HT_.out HW_.out (by kernel_rfl)) (fun _ _ _ h => h) (Or.inl ⟨by rfl, ?_⟩) hHeld ?_ ?_; rotate_left; (· rintro w' ⟨s0, s1, s2, s3⟩; go_simp; with_reducible rfl); rotate_left; (· simp only [Act.put, List.setIfInBounds_toArray, List.set_cons_zero, List.set_cons_succ, i64_w, i32_w]; rfl)
             refine one_ (i := 4) (N := some 13) #[true, true, true, true, true, true, true, true, true, true, false, false, false] rfl rfl (one_of HT_.out (by kernel_rfl)) (by decide) (fun K hK => ?_)
             refine goes_ Tryz.func60 (by kernel_rfl) rfl #[.agg #[.string a1_0, .string a1_1]] (by rfl) rfl rfl (by (try simp only [List.map_toArray, List.map_cons, List.map_nil]); first | done | rfl | (simp only [List.length_drop, List.length_take]; rfl)) ?_
             with_reducible refine (concordanceref02_Key.calls a1_0 a1_1 t374 _ A6.out).mono ?_
             rintro e w28 ⟨rfl, hb⟩
             have HS2_ := (hb.cell (World.block_lt_of_cell? _ _ (hHeld.2.2.1))).trans (hHeld.2.2.1)
             have HS3_ := (hb.cell (World.block_lt_of_cell? _ _ (hHeld.2.2.2))).trans (hHeld.2.2.2)
             refine ⟨_, rfl, ?_⟩
             replace HO_0 := sA (Kd.R_below (sR HO_0.out) hb)
             replace BK373 := sA (blk_below (sB BK373.out) hb)
             replace HK := sA (Kept.below (S := (fun k_ => P0_ k_)) (by repeat (first | (with_reducible first | exact HK.out | apply Kept.alloc | apply Kept.drewN | apply Kept.drew | refine Kept.setCell ?_ (.inr GW373.out) _) | exact HK.out)) hb)
             replace HB := sA (below_step (by repeat (first | exact sW HB.out | refine sS ?_)) hb)
             (try clear hb)
             (try clear hb2)
             (try clear hk)
             (try clear hi)
             refine hK.out _ _ ⟨c0 BK373.out, c1 BK373.out, HS2_, HS3_⟩ (fun hHeld => ?_)
             clear hK K
             refine norm_ (a' := ?_) ?_ ?_; rotate_left; (· show Act.put _ (some 13) _ = _; simp only [Act.put, List.setIfInBounds_toArray, List.set_cons_zero, List.set_cons_succ, i64_w, i32_w]; rfl)
             refine one_ (i := 10) (N := some 19) #[true, true, true, true, true, true, true, true, true, true, true, false, false] rfl rfl (one_of HT_.out (by kernel_rfl)) (by decide) (fun K hK => ?_)
             refine goes_ Tryz.func60 (by kernel_rfl) rfl #[.agg #[.string ((rd_T70 l0 (ji7)).f0), .string ((rd_T70 l0 (ji7)).f1)]] (by rfl) rfl rfl (by (try simp only [List.map_toArray, List.map_cons, List.map_nil]); first | done | (simp only [hji7]; rfl) | rfl | (simp only [List.length_drop, List.length_take]; rfl)) ?_
             with_reducible refine (concordanceref02_Key.calls ((rd_T70 l0 (ji7)).f0) ((rd_T70 l0 (ji7)).f1) t376 _ A10.out).mono ?_
             rintro e w29 ⟨rfl, hb⟩
             have HS2_ := (hb.cell (World.block_lt_of_cell? _ _ (hHeld.2.2.1))).trans (hHeld.2.2.1)
             have HS3_ := (hb.cell (World.block_lt_of_cell? _ _ (hHeld.2.2.2))).trans (hHeld.2.2.2)
             refine ⟨_, rfl, ?_⟩
             replace HO_0 := sA (Kd.R_below (sR HO_0.out) hb)
             replace BK373 := sA (blk_below (sB BK373.out) hb)
             replace HK := sA (Kept.below (S := (fun k_ => P0_ k_)) (by repeat (first | (with_reducible first | exact HK.out | apply Kept.alloc | apply Kept.drewN | apply Kept.drew | refine Kept.setCell ?_ (.inr GW373.out) _) | exact HK.out)) hb)
             replace HB := sA (below_step (by repeat (first | exact sW HB.out | refine sS ?_)) hb)
             (try clear hb)
             (try clear hb2)
             (try clear hk)
             (try clear hi)
             refine hK.out _ _ ⟨c0 BK373.out, c1 BK373.out, HS2_, HS3_⟩ (fun hHeld => ?_)
             clear hK K
             refine norm_ (a' := ?_) ?_ ?_; rotate_left; (· show Act.put _ (some 19) _ = _; simp only [Act.put, List.setIfInBounds_toArray, List.set_cons_zero, List.set_cons_succ, i64_w, i32_w]; rfl)
             refine pure_ (i := 11) (N := some 20) (v := ?_) (a' := ?_) #[true, true, true, true, true, true, true, true, true, true, true, true, false] rfl rfl (any_of HT_.out (by kernel_rfl)) (fun _ _ _ h => h) (Or.inl ⟨by rfl, ?_⟩) ?_ ?_; rotate_left; (· intro w'; go_simp; with_reducible rfl); rotate_left; (· simp only [Act.put, List.setIfInBounds_toArray, List.set_cons_zero, List.set_cons_succ, i64_w, i32_w]; rfl)
             refine pure_ (i := 12) (N := some 21) (v := ?_) (a' := ?_) #[true, true, true, true, true, true, true, true, true, true, true, true, true] rfl rfl (any_of HT_.out (by kernel_rfl)) (fun _ _ _ h => h) (Or.inl ⟨by rfl, ?_⟩) ?_ ?_; rotate_left; (· intro w'; go_simp; with_reducible rfl); rotate_left; (· simp only [Act.put, List.setIfInBounds_toArray, List.set_cons_zero, List.set_cons_succ, i64_w, i32_w]; rfl)
             refine done_ (done_of HT_.out (by kernel_rfl)) ?_
             try go_wp2
             replace HO_0 := sA (Kd.R_drew HO_0.out)
             replace BK373 := sA (blk_drew BK373.out)
             replace HK := sA (Kept.drew HK.out)
             replace HB := sA (below_drew1 HB.out)
             have p377 : 0 ≤ ((ji7) : Int) := of_decide_eq_true (by assumption)
             have q377 : (ji7) < (l0.length : Int) := of_decide_eq_true (by assumption)
             obtain ⟨ad377, e377, hx377_0, hx377_1⟩ := at_T70 (Kd.R_reads' HO_0.out).2.2 (ji7) p377 q377
             obtain rfl : ad375 = ad377 := (by injection e377)
             replace p377 := eq_true p377
             replace q377 := eq_true q377
             refine start_ (n := 11) (S := fun w' => w'.cell? ⟨gb373, 0, none⟩ = some (.string a1_0) ∧ w'.cell? ⟨gb373, 1, none⟩ = some (.string a1_1) ∧ w'.cell? (ad375.add (((ji7)).toNat * 2)) = some (.string ((rd_T70 l0 (ji7)).f0)) ∧ w'.cell? ⟨(ad375.add (((ji7)).toNat * 2)).block, (ad375.add (((ji7)).toNat * 2)).off + 1, none⟩ = some (.string ((rd_T70 l0 (ji7)).f1))) (ds := []) #[false, false, false, false, false, false, false, false, false, false, false] (by kernel_rfl) rfl rfl ⟨c0 BK373.out, c1 BK373.out, hx377_0, hx377_1⟩ (fun hHeld => ?_); refine with_tabW concordanceref08_PutTerm.tab4 concordanceref08_PutTerm.bits4 (fun HT_ HW_ => ?_)
             generalize w29.drew = w30 at HO_0 BK373 HK HB hx377_0 hx377_1 hHeld ⊢
             refine pure_ (i := 0) (N := some 24) (v := ?_) (a' := ?_) #[true, false, false, false, false, false, false, false, false, false, false] rfl rfl (any_of HT_.out (by kernel_rfl)) (fun _ _ _ h => h) (Or.inl ⟨by rfl, ?_⟩) ?_ ?_; rotate_left; (· intro w'; go_simp; with_reducible rfl); rotate_left; (· simp only [Act.put, List.setIfInBounds_toArray, List.set_cons_zero, List.set_cons_succ, i64_w, i32_w]; rfl)
             refine pure_ (i := 1) (N := some 25) (v := ?_) (a' := ?_) #[true, true, false, false, false, false, false, false, false, false, false] rfl rfl (any_of HT_.out (by kernel_rfl)) (fun _ _ _ h => h) (Or.inl ⟨by rfl, ?_⟩) ?_ ?_; rotate_left; (· intro w'; go_simp; with_reducible rfl); rotate_left; (· simp only [Act.put, List.setIfInBounds_toArray, List.set_cons_zero, List.set_cons_succ, i64_w, i32_w]; rfl)
             refine pure_ (i := 2) (N := some 26) (v := ?_) (a' := ?_) #[true, true, true, false, false, false, false, false, false, false, false] rfl rfl (any_of HT_.out (by kernel_rfl)) (fun _ _ _ h => h) (Or.inl ⟨by rfl, ?_⟩) ?_ ?_; rotate_left; (· intro w'; go_simp; with_reducible rfl); rotate_left; (· simp only [Act.put, List.setIfInBounds_toArray, List.set_cons_zero, List.set_cons_succ, i64_w, i32_w]; rfl)
             refine pure_ (i := 3) (N := some 27) (v := ?_) (a' := ?_) #[true, true, true, true, false, false, false, false, false, false, false] rfl rfl (any_of HT_.out (by kernel_rfl)) (fun _ _ _ h => h) (Or.inl ⟨by rfl, ?_⟩) ?_ ?_; rotate_left; (· intro w'; go_simp; with_reducible rfl); rotate_left; (· simp only [Act.put, List.setIfInBounds_toArray, List.set_cons_zero, List.set_cons_succ, i64_w, i32_w]; rfl)
             refine pure_ (i := 4) (N := some 28) (v := ?_) (a' := ?_) #[true, true, true, true, true, false, false, false, false, false, false] rfl rfl (any_of HT_.out (by kernel_rfl)) (fun _ _ _ h => h) (Or.inl ⟨by rfl, ?_⟩) ?_ ?_; rotate_left; (· intro w'; go_simp; with_reducible rfl); rotate_left; (· simp only [Act.put, List.setIfInBounds_toArray, List.set_cons_zero, List.set_cons_succ, i64_w, i32_w]; rfl)
             refine pure_ (i := 5) (N := some 29) (v := ?_) (a' := ?_) #[true, true, true, true, true, true, false, false, false, false, false] rfl rfl (any_of HT_.out (by kernel_rfl)) (fun _ _ _ h => h) (Or.inl ⟨by rfl, ?_⟩) ?_ ?_; rotate_left; (· intro w'; go_simp; with_reducible rfl); rotate_left; (· simp only [Act.put, List.setIfInBounds_toArray, List.set_cons_zero, List.set_cons_succ, i64_w, i32_w]; rfl)
             refine pure_ (i := 6) (N := some 30) (v := ?_) (a' := ?_) #[true, true, true, true, true, true, true, false, false, false, false] rfl rfl (any_of HT_.out (by kernel_rfl)) (fun _ _ _ h => h) (Or.inl ⟨by rfl, ?_⟩) ?_ ?_; rotate_left; (· intro w'; go_simp; with_reducible rfl); rotate_left; (· simp only [Act.put, List.setIfInBounds_toArray, List.set_cons_zero, List.set_cons_succ, i64_w, i32_w]; rfl)
             refine take_ (i := 7) (N := some 31) (v := ?_) (a' := ?_) #[true, true, true, true, true, true, true, true, false, false, false] rfl rfl (take_ofW HT_.out HW_.out (by kernel_rfl)) (fun _ _ _ h => h) (Or.inl ⟨by rfl, ?_⟩) hHeld ?_ ?_; rotate_left; (· rintro w' ⟨s0, s1, s2, s3⟩; go_simp; with_reducible rfl); rotate_left; (· simp only [Act.put, List.setIfInBounds_toArray, List.set_cons_zero, List.set_cons_succ, i64_w, i32_w]; rfl)
             refine take_ (i := 8) (N := some 32) (v := ?_) (a' := ?_) #[true, true, true, true, true, true, true, true, true, false, false] rfl rfl (take_ofW HT_.out HW_.out (by kernel_rfl)) (fun _ _ _ h => h) (Or.inl ⟨by rfl, ?_⟩) hHeld ?_ ?_; rotate_left; (· rintro w' ⟨s0, s1, s2, s3⟩; go_simp; with_reducible rfl); rotate_left; (· simp only [Act.put, List.setIfInBounds_toArray, List.set_cons_zero, List.set_cons_succ, i64_w, i32_w]; rfl)
             refine pure_ (i := 9) (N := some 33) (v := ?_) (a' := ?_) #[true, true, true, true, true, true, true, true, true, true, false] rfl rfl (any_of HT_.out (by kernel_rfl)) (fun _ _ _ h => h) (Or.inl ⟨by rfl, ?_⟩) ?_ ?_; rotate_left; (· intro w'; go_simp; with_reducible rfl); rotate_left; (· simp only [Act.put, List.setIfInBounds_toArray, List.set_cons_zero, List.set_cons_succ, i64_w, i32_w]; rfl)
             refine pure_ (i := 10) (N := some 34) (v := ?_) (a' := ?_) #[true, true, true, true, true, true, true, true, true, true, true] rfl rfl (any_of HT_.out (by kernel_rfl)) (fun _ _ _ h => h) (Or.inl ⟨by rfl, ?_⟩) ?_ ?_; rotate_left; (· intro w'; go_simp; with_reducible rfl); rotate_left; (· simp only [Act.put, List.setIfInBounds_toArray, List.set_cons_zero, List.set_cons_succ, i64_w, i32_w]; rfl)
             refine done_ (done_of HT_.out (by kernel_rfl)) ?_
             have q31 : (x5_1 : Int) ≤ ((l0.length : Int) : Int) := of_decide_eq_true (by assumption)
             obtain ⟨i031, hi031, _, hsz31, _⟩ := info_parts info70
             have hroom31 : l0.length ≤ co4 := (Kd.R_reads' HO_0.out).2.1
             have hC31 : Kd.C k70 _ (some ad375) l0.length l0 := (Kd.R_reads' HO_0.out).2.2
             have hcut31 := cut_to (P := Tryz.prog) 65 70 .i64 Tryz.underlying65 hi031 (some ad375) l0.length co4 x5_1 (of_decide_eq_true (by assumption)) q31 hroom31
             have hr31 := Kd.C_take (m := (x5_1 : Int).toNat) hC31 (by omega)
             have hy31 : y378.length = (x5_1 : Int).toNat := (by rw [Ny378.out, List.length_take]; omega)
             rw [← Ny378.out] at hr31
             rw [← hy31] at hcut31
             have HR381 := Aside0.mk hr31
             have HC381 := sA (show y378.length ≤ co4 from by omega)
             clear hr31 hC31 hroom31 hi031 hsz31
             have KY31 := Aside0.mk hy31
             clear hy31
             have KL31 := sA (show (x5_1 : Int).toNat ≤ l0.length from by omega)
             replace q31 := eq_true q31
             try go_wp2_with (first | ((with_reducible refine gate_builtin (b := .append) (xs := #[.tmp 36, .tmp 39]) rfl ?_); at_builtin; refine Kd.R_append_rows k70 (w0 := w0) w0.heap.size rfl (.tmp 36) (.tmp 39) 65 70 (.agg #[(.string ⟨#[]⟩), (.string ⟨#[]⟩)]) 32 rfl Tryz.underlying65 info70 rfl (by decide) (by omega) (.slice none 0 0) ([] : List (S70)) y378 _ _ _ (fun k_ => (P0_ k_ ∨ w.heap.size ≤ k_) ∧ some k_ ≠ (.slice (some ad375) l0.length co4 : Value).ownBlock ∧ k_ ≠ gb373) (fun _ => False) rfl rfl ?aO ?aR (fun _ _ h => h) (fun _ h => h.elim) ?aF ?aB ?aS ?aL ?_; (case aR => repeat (first | exact (by repeat (first | (with_reducible exact HR381.out) | (with_reducible refine Kd.C_alloc ?_ _) | (with_reducible refine Kd.C_drewN ?_ _) | (with_reducible refine Kd.C_drew ?_) | exact HR381.out)) | (with_reducible refine Kd.C_alloc ?_ _) | (with_reducible refine Kd.C_drewN ?_ _) | (with_reducible refine Kd.C_drew ?_))); (case aB => exact (by repeat (first | exact sW HB.out | refine sS ?_))); (case aF => exact (fun k_ hk => ⟨(.inr (Nat.le_trans (by first | exact HK.out.1 | exact (show Kept w _ (fun k_ => P0_ k_) from by repeat (first | (with_reducible first | exact HK.out | apply Kept.alloc | apply Kept.drewN | apply Kept.drew | refine Kept.setCell ?_ (.inr GW373.out) _) | exact HK.out)).1) hk)), Kd.fresh' (Kd.R_lt (sR HO_0.out)) k_ hk, Kd.freshB (g := gb373) (o := .cells #[.string a1_0, .string a1_1] 70 (0, 0)) (sB BK373.out) k_ hk⟩)); (case aO => exact ((Kd.R_nil _ _ _ _ (fun k_ => (P0_ k_ ∨ w.heap.size ≤ k_) ∧ some k_ ≠ (.slice (some ad375) l0.length co4 : Value).ownBlock ∧ k_ ≠ gb373)))); (case aS => exact (below_size (by repeat (first | exact sW HB.out | refine sS ?_)))); (case aL => have := LMc22.out; omega); intro v383 w32 ho hb hg hat; rw [← Ny382.out] at ho; replace BK373 := sA (blk_grown (sB BK373.out) hg (by simp [Value.ownBlock])); replace HB := sA (hb); replace HK := sA (Kept.of_grown (S := (fun k_ => P0_ k_)) hg (by repeat (first | (with_reducible first | exact HK.out | apply Kept.alloc | apply Kept.drewN | apply Kept.drew | refine Kept.setCell ?_ (.inr GW373.out) _) | exact HK.out)) (fun k_ e_ => by simp [Value.ownBlock] at e_)); replace HR381 := sA ((show Kd.C k70 w32 (some ad375) y378.length y378 from by rw [Ny378.out]; exact Kd.C_take (m := (x5_1 : Int).toNat) ((Kd.R_reads' (Kd.R_after (Kd.R_apart_nil (sR HO_0.out)) hg hat)).2.2) KL31.out)); replace HO_0 := sA (Kd.R_after (Kd.R_apart_nil (sR HO_0.out)) hg hat); have HO384 := sA (ho); clear ho hb hg hat; have hcz33_0 := c0 BK373.out; have hcz33_1 := c1 BK373.out; have hfz33_0 := blk_frozen BK373.out 0; have hfz33_1 := blk_frozen BK373.out 1) | ((with_reducible refine gate_builtin (b := .append) (xs := #[.tmp 41, .tmp 43]) rfl ?_); at_builtin; refine Kd.R_append k70 (w0 := w0) w0.heap.size rfl (.tmp 41) (.tmp 43) 65 70 (.agg #[(.string ⟨#[]⟩), (.string ⟨#[]⟩)]) 32 rfl Tryz.underlying65 info70 rfl (by decide) (by omega) v383 y382 (⟨a1_0, a1_1⟩ : S70) [.string a1_0, .string a1_1] (fun k_ => (P0_ k_ ∨ w.heap.size ≤ k_) ∧ some k_ ≠ (.slice (some ad375) l0.length co4 : Value).ownBlock ∧ k_ ≠ gb373) (fun _ => False) rfl rfl ?aP (fun _ hk => hk.elim) ?aF ?aO ?aB ?aS ?aL ?_; (case aP => exact k70_mkM _ _ _ (⟨a1_0, a1_1⟩ : S70)); (case aB => exact (by repeat (first | exact sW HB.out | refine sS ?_))); (case aF => exact (fun k_ hk => ⟨(.inr (Nat.le_trans (by first | exact HK.out.1 | exact (show Kept w _ (fun k_ => P0_ k_) from by repeat (first | (with_reducible first | exact HK.out | apply Kept.alloc | apply Kept.drewN | apply Kept.drew | refine Kept.setCell ?_ (.inr GW373.out) _) | exact HK.out)).1) hk)), Kd.fresh' (Kd.R_lt (sR HO_0.out)) k_ hk, Kd.freshB (g := gb373) (o := .cells #[.string a1_0, .string a1_1] 70 (0, 0)) (sB BK373.out) k_ hk⟩)); (case aO => exact (sR HO384.out)); (case aS => exact (below_size (by repeat (first | exact sW HB.out | refine sS ?_)))); (case aL => have := LMc23.out; omega); intro v386 w34 ho hb hg hat; rw [← Ny385.out] at ho; replace BK373 := sA (blk_grown (sB BK373.out) hg (Kd.R_away HO384.out (fun _ hk => hk.2.2))); replace HB := sA (hb); replace HK := sA (Kept.of_grown (S := (fun k_ => P0_ k_)) hg (by repeat (first | (with_reducible first | exact HK.out | apply Kept.alloc | apply Kept.drewN | apply Kept.drew | refine Kept.setCell ?_ (.inr GW373.out) _) | exact HK.out)) (fun k_ e_ => (HO384.out.1 k_ e_).1)); replace HR381 := sA ((show Kd.C k70 w34 (some ad375) y378.length y378 from by rw [Ny378.out]; exact Kd.C_take (m := (x5_1 : Int).toNat) ((Kd.R_reads' (Kd.R_after (ok := (fun k_ => (P0_ k_ ∨ w.heap.size ≤ k_) ∧ k_ ≠ gb373)) (sR HO_0.out) hg hat)).2.2) KL31.out)); replace HO_0 := sA (Kd.R_after (ok := (fun k_ => (P0_ k_ ∨ w.heap.size ≤ k_) ∧ k_ ≠ gb373)) (sR HO_0.out) hg hat); have HO387 := sA (ho); clear HO384; clear ho hb hg hat; have q35 : (x5_1 : Int) ≤ ((l0.length : Int) : Int) := of_decide_eq_true (by assumption); obtain ⟨i035, hi035, _, hsz35, _⟩ := info_parts info70; have hroom35 : l0.length ≤ co4 := (Kd.R_reads' HO_0.out).2.1; have hC35 : Kd.C k70 _ (some ad375) l0.length l0 := (Kd.R_reads' HO_0.out).2.2; have q035 : (0 : Int) ≤ (x5_1 : Int) := of_decide_eq_true (by assumption); have hcut35 := cut_from (P := Tryz.prog) 65 70 .i64 Tryz.underlying65 hi035 2 hsz35 (some ad375) l0.length co4 x5_1 q035 q35; have hr35 := Kd.C_drop (m := (x5_1 : Int).toNat) (c := co4) hC35 (by omega) hroom35; obtain ⟨A35, hA35⟩ : ∃ A1, A1 = (if co4 = (x5_1 : Int).toNat then (some ad375) else ((some ad375) : Option Addr).map (·.add ((x5_1 : Int).toNat * 2))) := ⟨_, rfl⟩; obtain ⟨c35, hc35⟩ : ∃ c1, c1 = co4 - (x5_1 : Int).toNat := ⟨_, rfl⟩; have hy35 : y388.length = l0.length - (x5_1 : Int).toNat := (by rw [Ny388.out, List.length_drop] <;> omega); rw [show (l0).drop (x5_1 : Int).toNat = y388 from Ny388.out.symm] at hr35; replace hr35 : Kd.C k70 _ A35 y388.length y388 := (by rw [hA35]; exact hr35); rw [← hy35, ← hA35, ← hc35] at hcut35; have HR391 := Aside0.mk hr35; have HC391 := sA (show y388.length ≤ c35 from by rw [hy35, hc35]; exact Nat.sub_le_sub_right hroom35 _); clear hr35 hC35 hroom35 hi035 hsz35 hc35; have KY35 := Aside0.mk hy35; have KA35 := Aside0.mk hA35; clear hy35 hA35; have KL35 := sA (show (x5_1 : Int).toNat ≤ l0.length from by omega); replace q35 := eq_true q35) | ((with_reducible refine gate_builtin (b := .append) (xs := #[.tmp 45, .tmp 48]) rfl ?_); at_builtin; refine Kd.R_append_rows k70 (w0 := w0) w0.heap.size rfl (.tmp 45) (.tmp 48) 65 70 (.agg #[(.string ⟨#[]⟩), (.string ⟨#[]⟩)]) 32 rfl Tryz.underlying65 info70 rfl (by decide) (by omega) v386 y385 y388 _ _ _ (fun k_ => (P0_ k_ ∨ w.heap.size ≤ k_) ∧ some k_ ≠ (.slice (some ad375) l0.length co4 : Value).ownBlock ∧ k_ ≠ gb373) (fun _ => False) rfl rfl ?aO ?aR (fun _ _ h => h) (fun _ h => h.elim) ?aF ?aB ?aS ?aL ?_; (case aR => repeat (first | exact (by repeat (first | (with_reducible exact HR391.out) | (with_reducible refine Kd.C_alloc ?_ _) | (with_reducible refine Kd.C_drewN ?_ _) | (with_reducible refine Kd.C_drew ?_) | exact HR391.out)) | (with_reducible refine Kd.C_alloc ?_ _) | (with_reducible refine Kd.C_drewN ?_ _) | (with_reducible refine Kd.C_drew ?_))); (case aB => exact (by repeat (first | exact sW HB.out | refine sS ?_))); (case aF => exact (fun k_ hk => ⟨(.inr (Nat.le_trans (by first | exact HK.out.1 | exact (show Kept w _ (fun k_ => P0_ k_) from by repeat (first | (with_reducible first | exact HK.out | apply Kept.alloc | apply Kept.drewN | apply Kept.drew | refine Kept.setCell ?_ (.inr GW373.out) _) | exact HK.out)).1) hk)), Kd.fresh' (Kd.R_lt (sR HO_0.out)) k_ hk, Kd.freshB (g := gb373) (o := .cells #[.string a1_0, .string a1_1] 70 (0, 0)) (sB BK373.out) k_ hk⟩)); (case aO => exact (sR HO387.out)); (case aS => exact (below_size (by repeat (first | exact sW HB.out | refine sS ?_)))); (case aL => have := LMc26.out; omega); intro v393 w36 ho hb hg hat; rw [← Ny392.out] at ho; replace BK373 := sA (blk_grown (sB BK373.out) hg (Kd.R_away HO387.out (fun _ hk => hk.2.2))); replace HB := sA (hb); replace HK := sA (Kept.of_grown (S := (fun k_ => P0_ k_)) hg (by repeat (first | (with_reducible first | exact HK.out | apply Kept.alloc | apply Kept.drewN | apply Kept.drew | refine Kept.setCell ?_ (.inr GW373.out) _) | exact HK.out)) (fun k_ e_ => (HO387.out.1 k_ e_).1)); replace HR381 := sA ((show Kd.C k70 w36 (some ad375) y378.length y378 from by rw [Ny378.out]; exact Kd.C_take (m := (x5_1 : Int).toNat) ((Kd.R_reads' (Kd.R_after (ok := (fun k_ => (P0_ k_ ∨ w.heap.size ≤ k_) ∧ k_ ≠ gb373)) (sR HO_0.out) hg hat)).2.2) KL31.out)); replace HR391 := sA ((show Kd.C k70 w36 A35 y388.length y388 from by rw [Ny388.out, KA35.out]; exact Kd.C_drop (m := (x5_1 : Int).toNat) (c := co4) ((Kd.R_reads' (Kd.R_after (ok := (fun k_ => (P0_ k_ ∨ w.heap.size ≤ k_) ∧ k_ ≠ gb373)) (sR HO_0.out) hg hat)).2.2) KL35.out ((Kd.R_reads' (Kd.R_after (ok := (fun k_ => (P0_ k_ ∨ w.heap.size ≤ k_) ∧ k_ ≠ gb373)) (sR HO_0.out) hg hat)).2.1))); replace HO_0 := sA (Kd.R_after (ok := (fun k_ => (P0_ k_ ∨ w.heap.size ≤ k_) ∧ k_ ≠ gb373)) (sR HO_0.out) hg hat); have HO394 := sA (ho); clear HO387; clear ho hb hg hat))
             go_ret
             exact ⟨_, by first | rfl | (simp [errW_none, errW_some] <;> rfl) | (simp only [← hji7]; first | rfl | (simp [errW_none, errW_some] <;> rfl)) | (simp [*, errW_none, errW_some] <;> rfl), by apply sR; first | exact Kd.R_mono HO394.out (fun _ hk => hk.1) | exact Kd.R_mono HO394.out (fun _ _ => trivial), by repeat (first | exact sW HB.out | refine sS ?_), by repeat (first | (with_reducible first | exact HK.out | apply Kept.alloc | apply Kept.drewN | apply Kept.drew | refine Kept.setCell ?_ (.inr GW373.out) _) | exact HK.out)⟩
            ·rw [if_neg c26] at H
             exact absurd H (by simp)
           ·rw [if_neg c23] at H
            exact absurd H (by simp)
          ·rw [if_neg c22] at H
           exact absurd H (by simp)
         ·rw [if_neg c21] at H
          exact absurd H (by simp)
        ·rw [if_neg c20] at H
         exact absurd H (by simp)
     ·rw [if_neg c9] at H
      exact absurd H (by simp)
    ·rw [if_neg c8] at H
     exact absurd H (by simp)
   ·rw [if_neg c5] at H
    have c5b0 : decide (0 < x5_1) = false := decide_eq_false c5
    clear c5
    by_cases c37 : 0 ≤ x5_1
    ·rw [if_pos c37] at H
     have c37b0 := eq_true c37
     have c37b1 : decide (0 ≤ x5_1) = true := decide_eq_true c37
     clear c37
     by_cases c38 : x5_1 ≤ (l0.length : Int)
     ·rw [if_pos c38] at H
      have c38b0 := eq_true c38
      have c38b1 : decide (x5_1 ≤ (l0.length : Int)) = true := decide_eq_true c38
      clear c38
      obtain ⟨y395, hy395⟩ : ∃ y_ : List (S70), y_ = (l0.take (x5_1 : Int).toNat) := ⟨_, rfl⟩
      replace H : (if ([] : List (S70)).length + y395.length < 4398046511104 then ((some (([] : List (S70)) ++ y395 : List (S70))).bind fun y399 => (if y399.length < 4398046511104 then ((some (y399 ++ [(⟨a1_0, a1_1⟩ : S70)] : List (S70))).bind fun y402 => ((some (l0.drop (x5_1 : Int).toNat : List (S70))).bind fun y405 => (if y402.length + y405.length < 4398046511104 then (some (y402 ++ y405)) else (none)))) else (none))) else (none)) = some r := by first | (rw [hy395]; with_reducible exact H) | (have H2_ := (Option.bind_some _ _).symm.trans H; rw [hy395]; with_reducible exact H2_) | (have H2_ := (Option.bind_some _ _).symm.trans H; with_reducible exact H2_) | with_reducible exact H | (rw [hy395]; exact H) | exact H
      have Ny395 := Aside0.mk hy395
      clear hy395
      by_cases c39 : ([] : List (S70)).length + y395.length < 4398046511104
      ·rw [if_pos c39] at H
       have LMc39 := Aside0.mk c39
       clear c39
       obtain ⟨y399, hy399⟩ : ∃ y_ : List (S70), y_ = (([] : List (S70)) ++ y395) := ⟨_, rfl⟩
       replace H : (if y399.length < 4398046511104 then ((some (y399 ++ [(⟨a1_0, a1_1⟩ : S70)] : List (S70))).bind fun y402 => ((some (l0.drop (x5_1 : Int).toNat : List (S70))).bind fun y405 => (if y402.length + y405.length < 4398046511104 then (some (y402 ++ y405)) else (none)))) else (none)) = some r := by first | (rw [hy399]; with_reducible exact H) | (have H2_ := (Option.bind_some _ _).symm.trans H; rw [hy399]; with_reducible exact H2_) | (have H2_ := (Option.bind_some _ _).symm.trans H; with_reducible exact H2_) | with_reducible exact H | (rw [hy399]; exact H) | exact H
       have Ny399 := Aside0.mk hy399
       clear hy399
       by_cases c40 : y399.length < 4398046511104
       ·rw [if_pos c40] at H
        have LMc40 := Aside0.mk c40
        clear c40
        obtain ⟨y402, hy402⟩ : ∃ y_ : List (S70), y_ = (y399 ++ [(⟨a1_0, a1_1⟩ : S70)]) := ⟨_, rfl⟩
        replace H : ((some (l0.drop (x5_1 : Int).toNat : List (S70))).bind fun y405 => (if y402.length + y405.length < 4398046511104 then (some (y402 ++ y405)) else (none))) = some r := by first | (rw [hy402]; with_reducible exact H) | (have H2_ := (Option.bind_some _ _).symm.trans H; rw [hy402]; with_reducible exact H2_) | (have H2_ := (Option.bind_some _ _).symm.trans H; with_reducible exact H2_) | with_reducible exact H | (rw [hy402]; exact H) | exact H
        have Ny402 := Aside0.mk hy402
        clear hy402
        have c41b0 := eq_true (of_decide_eq_true (by assumption) : 0 ≤ x5_1)
        have c42b0 := eq_true (of_decide_eq_true (by assumption) : x5_1 ≤ (l0.length : Int))
        obtain ⟨y405, hy405⟩ : ∃ y_ : List (S70), y_ = (l0.drop (x5_1 : Int).toNat) := ⟨_, rfl⟩
        replace H : (if y402.length + y405.length < 4398046511104 then (some (y402 ++ y405)) else (none)) = some r := by first | (rw [hy405]; with_reducible exact H) | (have H2_ := (Option.bind_some _ _).symm.trans H; rw [hy405]; with_reducible exact H2_) | (have H2_ := (Option.bind_some _ _).symm.trans H; with_reducible exact H2_) | with_reducible exact H | (rw [hy405]; exact H) | exact H
        have Ny405 := Aside0.mk hy405
        clear hy405
        by_cases c43 : y402.length + y405.length < 4398046511104
        ·rw [if_pos c43] at H
         have LMc43 := Aside0.mk c43
         clear c43
         obtain ⟨y409, hy409⟩ : ∃ y_ : List (S70), y_ = (y402 ++ y405) := ⟨_, rfl⟩
         replace H : (some y409) = some r := by first | (rw [hy409]; with_reducible exact H) | (have H2_ := (Option.bind_some _ _).symm.trans H; rw [hy409]; with_reducible exact H2_) | (have H2_ := (Option.bind_some _ _).symm.trans H; with_reducible exact H2_) | with_reducible exact H | (rw [hy409]; exact H) | exact H
         have Ny409 := Aside0.mk hy409
         clear hy409
         obtain rfl := Option.some.inj H
         try go_wp2
         replace HO_0 := sA (Kd.R_drew HO_0.out)
         replace BK373 := sA (blk_drew BK373.out)
         replace HK := sA (Kept.drew HK.out)
         replace HB := sA (below_drew1 HB.out)
         refine start_ (n := 13) (S := fun w' => True) (ds := []) #[false, false, false, false, false, false, false, false, false, false, false, false, false] (by kernel_rfl) rfl rfl trivial (fun hHeld => ?_); refine with_tabW concordanceref08_PutTerm.tab2 concordanceref08_PutTerm.bits2 (fun HT_ HW_ => ?_)
         generalize wr.drew = w44 at HO_0 BK373 HK HB hHeld ⊢
         refine pure_ (i := 0) (N := some 9) (v := ?_) (a' := ?_) #[true, false, false, false, false, false, false, false, false, false, false, false, false] rfl rfl (any_of HT_.out (by kernel_rfl)) (fun _ _ _ h => h) (Or.inl ⟨by rfl, ?_⟩) ?_ ?_; rotate_left; (· intro w'; go_simp; with_reducible rfl); rotate_left; (· simp only [Act.put, List.setIfInBounds_toArray, List.set_cons_zero, List.set_cons_succ, i64_w, i32_w]; rfl)
         refine pure_ (i := 1) (N := some 10) (v := ?_) (a' := ?_) #[true, true, false, false, false, false, false, false, false, false, false, false, false] rfl rfl (any_of HT_.out (by kernel_rfl)) (fun _ _ _ h => h) (Or.inl ⟨by rfl, ?_⟩) ?_ ?_; rotate_left; (· intro w'; go_simp; with_reducible rfl); rotate_left; (· simp only [Act.put, List.setIfInBounds_toArray, List.set_cons_zero, List.set_cons_succ, i64_w, i32_w]; rfl)
         refine pure_ (i := 2) (N := some 11) (v := ?_) (a' := ?_) #[true, true, true, false, false, false, false, false, false, false, false, false, false] rfl rfl (any_of HT_.out (by kernel_rfl)) (fun _ _ _ h => h) (Or.inl ⟨by rfl, ?_⟩) ?_ ?_; rotate_left; (· intro w'; go_simp; with_reducible rfl); rotate_left; (· simp only [Act.put, List.setIfInBounds_toArray, List.set_cons_zero, List.set_cons_succ, i64_w, i32_w]; rfl)
         refine pure_ (i := 3) (N := some 12) (v := undef) (a' := ?_) #[true, true, true, true, false, false, false, false, false, false, false, false, false] rfl rfl (any_of HT_.out (by kernel_rfl)) (fun _ _ _ h => h) (Or.inr ⟨by rfl, rfl⟩) ?_ ?_
         rotate_left
         ·simp only [Act.put, List.setIfInBounds_toArray, List.set_cons_zero, List.set_cons_succ, i64_w, i32_w]
          rfl
         refine pure_ (i := 4) (N := some 13) (v := undef) (a' := ?_) #[true, true, true, true, true, false, false, false, false, false, false, false, false] rfl rfl (any_of HT_.out (by kernel_rfl)) (fun _ _ _ h => h) (Or.inr ⟨by rfl, rfl⟩) ?_ ?_
         rotate_left
         ·simp only [Act.put, List.setIfInBounds_toArray, List.set_cons_zero, List.set_cons_succ, i64_w, i32_w]
          rfl
         refine pure_ (i := 5) (N := some 14) (v := undef) (a' := ?_) #[true, true, true, true, true, true, false, false, false, false, false, false, false] rfl rfl (any_of HT_.out (by kernel_rfl)) (fun _ _ _ h => h) (Or.inr ⟨by rfl, rfl⟩) ?_ ?_
         rotate_left
         ·simp only [Act.put, List.setIfInBounds_toArray, List.set_cons_zero, List.set_cons_succ, i64_w, i32_w]
          rfl
         refine pure_ (i := 6) (N := some 15) (v := undef) (a' := ?_) #[true, true, true, true, true, true, true, false, false, false, false, false, false] rfl rfl (any_of HT_.out (by kernel_rfl)) (fun _ _ _ h => h) (Or.inr ⟨by rfl, rfl⟩) ?_ ?_
         rotate_left
         ·simp only [Act.put, List.setIfInBounds_toArray, List.set_cons_zero, List.set_cons_succ, i64_w, i32_w]
          rfl
         refine pure_ (i := 7) (N := some 16) (v := undef) (a' := ?_) #[true, true, true, true, true, true, true, true, false, false, false, false, false] rfl rfl (any_of HT_.out (by kernel_rfl)) (fun _ _ _ h => h) (Or.inr ⟨by rfl, rfl⟩) ?_ ?_
         rotate_left
         ·simp only [Act.put, List.setIfInBounds_toArray, List.set_cons_zero, List.set_cons_succ, i64_w, i32_w]
          rfl
         refine pure_ (i := 8) (N := some 17) (v := undef) (a' := ?_) #[true, true, true, true, true, true, true, true, true, false, false, false, false] rfl rfl (any_of HT_.out (by kernel_rfl)) (fun _ _ _ h => h) (Or.inr ⟨by rfl, rfl⟩) ?_ ?_
         rotate_left
         ·simp only [Act.put, List.setIfInBounds_toArray, List.set_cons_zero, List.set_cons_succ, i64_w, i32_w]
          rfl
         refine pure_ (i := 9) (N := some 18) (v := undef) (a' := ?_) #[true, true, true, true, true, true, true, true, true, true, false, false, false] rfl rfl (any_of HT_.out (by kernel_rfl)) (fun _ _ _ h => h) (Or.inr ⟨by rfl, rfl⟩) ?_ ?_
         rotate_left
         ·simp only [Act.put, List.setIfInBounds_toArray, List.set_cons_zero, List.set_cons_succ, i64_w, i32_w]
          rfl
         refine pure_ (i := 10) (N := some 19) (v := undef) (a' := ?_) #[true, true, true, true, true, true, true, true, true, true, true, false, false] rfl rfl (any_of HT_.out (by kernel_rfl)) (fun _ _ _ h => h) (Or.inr ⟨by rfl, rfl⟩) ?_ ?_
         rotate_left
         ·simp only [Act.put, List.setIfInBounds_toArray, List.set_cons_zero, List.set_cons_succ, i64_w, i32_w]
          rfl
         refine pure_ (i := 11) (N := some 20) (v := undef) (a' := ?_) #[true, true, true, true, true, true, true, true, true, true, true, true, false] rfl rfl (any_of HT_.out (by kernel_rfl)) (fun _ _ _ h => h) (Or.inr ⟨by rfl, rfl⟩) ?_ ?_
         rotate_left
         ·simp only [Act.put, List.setIfInBounds_toArray, List.set_cons_zero, List.set_cons_succ, i64_w, i32_w]
          rfl
         refine pure_ (i := 12) (N := some 21) (v := ?_) (a' := ?_) #[true, true, true, true, true, true, true, true, true, true, true, true, true] rfl rfl (any_of HT_.out (by kernel_rfl)) (fun _ _ _ h => h) (Or.inl ⟨by rfl, ?_⟩) ?_ ?_; rotate_left; (· intro w'; go_simp; with_reducible rfl); rotate_left; (· simp only [Act.put, List.setIfInBounds_toArray, List.set_cons_zero, List.set_cons_succ, i64_w, i32_w]; rfl)
         refine done_ (done_of HT_.out (by kernel_rfl)) ?_
         try go_wp2
         replace HO_0 := sA (Kd.R_drew HO_0.out)
         replace BK373 := sA (blk_drew BK373.out)
         replace HK := sA (Kept.drew HK.out)
         replace HB := sA (below_drew1 HB.out)
         refine start_ (n := 11) (S := fun w' => True) (ds := []) #[false, false, false, false, false, false, false, false, false, false, false] (by kernel_rfl) rfl rfl trivial (fun hHeld => ?_); refine with_tabW concordanceref08_PutTerm.tab4 concordanceref08_PutTerm.bits4 (fun HT_ HW_ => ?_)
         generalize w44.drew = w45 at HO_0 BK373 HK HB hHeld ⊢
         refine pure_ (i := 0) (N := some 24) (v := ?_) (a' := ?_) #[true, false, false, false, false, false, false, false, false, false, false] rfl rfl (any_of HT_.out (by kernel_rfl)) (fun _ _ _ h => h) (Or.inl ⟨by rfl, ?_⟩) ?_ ?_; rotate_left; (· intro w'; go_simp; with_reducible rfl); rotate_left; (· simp only [Act.put, List.setIfInBounds_toArray, List.set_cons_zero, List.set_cons_succ, i64_w, i32_w]; rfl)
         refine pure_ (i := 1) (N := some 25) (v := ?_) (a' := ?_) #[true, true, false, false, false, false, false, false, false, false, false] rfl rfl (any_of HT_.out (by kernel_rfl)) (fun _ _ _ h => h) (Or.inl ⟨by rfl, ?_⟩) ?_ ?_; rotate_left; (· intro w'; go_simp; with_reducible rfl); rotate_left; (· simp only [Act.put, List.setIfInBounds_toArray, List.set_cons_zero, List.set_cons_succ, i64_w, i32_w]; rfl)
         refine pure_ (i := 2) (N := some 26) (v := ?_) (a' := ?_) #[true, true, true, false, false, false, false, false, false, false, false] rfl rfl (any_of HT_.out (by kernel_rfl)) (fun _ _ _ h => h) (Or.inl ⟨by rfl, ?_⟩) ?_ ?_; rotate_left; (· intro w'; go_simp; with_reducible rfl); rotate_left; (· simp only [Act.put, List.setIfInBounds_toArray, List.set_cons_zero, List.set_cons_succ, i64_w, i32_w]; rfl)
         refine pure_ (i := 3) (N := some 27) (v := undef) (a' := ?_) #[true, true, true, true, false, false, false, false, false, false, false] rfl rfl (any_of HT_.out (by kernel_rfl)) (fun _ _ _ h => h) (Or.inr ⟨by rfl, rfl⟩) ?_ ?_
         rotate_left
         ·simp only [Act.put, List.setIfInBounds_toArray, List.set_cons_zero, List.set_cons_succ, i64_w, i32_w]
          rfl
         refine pure_ (i := 4) (N := some 28) (v := undef) (a' := ?_) #[true, true, true, true, true, false, false, false, false, false, false] rfl rfl (any_of HT_.out (by kernel_rfl)) (fun _ _ _ h => h) (Or.inr ⟨by rfl, rfl⟩) ?_ ?_
         rotate_left
         ·simp only [Act.put, List.setIfInBounds_toArray, List.set_cons_zero, List.set_cons_succ, i64_w, i32_w]
          rfl
         refine pure_ (i := 5) (N := some 29) (v := undef) (a' := ?_) #[true, true, true, true, true, true, false, false, false, false, false] rfl rfl (any_of HT_.out (by kernel_rfl)) (fun _ _ _ h => h) (Or.inr ⟨by rfl, rfl⟩) ?_ ?_
         rotate_left
         ·simp only [Act.put, List.setIfInBounds_toArray, List.set_cons_zero, List.set_cons_succ, i64_w, i32_w]
          rfl
         refine pure_ (i := 6) (N := some 30) (v := undef) (a' := ?_) #[true, true, true, true, true, true, true, false, false, false, false] rfl rfl (any_of HT_.out (by kernel_rfl)) (fun _ _ _ h => h) (Or.inr ⟨by rfl, rfl⟩) ?_ ?_
         rotate_left
         ·simp only [Act.put, List.setIfInBounds_toArray, List.set_cons_zero, List.set_cons_succ, i64_w, i32_w]
          rfl
         refine pure_ (i := 7) (N := some 31) (v := undef) (a' := ?_) #[true, true, true, true, true, true, true, true, false, false, false] rfl rfl (any_of HT_.out (by kernel_rfl)) (fun _ _ _ h => h) (Or.inr ⟨by rfl, rfl⟩) ?_ ?_
         rotate_left
         ·simp only [Act.put, List.setIfInBounds_toArray, List.set_cons_zero, List.set_cons_succ, i64_w, i32_w]
          rfl
         refine pure_ (i := 8) (N := some 32) (v := undef) (a' := ?_) #[true, true, true, true, true, true, true, true, true, false, false] rfl rfl (any_of HT_.out (by kernel_rfl)) (fun _ _ _ h => h) (Or.inr ⟨by rfl, rfl⟩) ?_ ?_
         rotate_left
         ·simp only [Act.put, List.setIfInBounds_toArray, List.set_cons_zero, List.set_cons_succ, i64_w, i32_w]
          rfl
         refine pure_ (i := 9) (N := some 33) (v := undef) (a' := ?_) #[true, true, true, true, true, true, true, true, true, true, false] rfl rfl (any_of HT_.out (by kernel_rfl)) (fun _ _ _ h => h) (Or.inr ⟨by rfl, rfl⟩) ?_ ?_
         rotate_left
         ·simp only [Act.put, List.setIfInBounds_toArray, List.set_cons_zero, List.set_cons_succ, i64_w, i32_w]
          rfl
         refine pure_ (i := 10) (N := some 34) (v := ?_) (a' := ?_) #[true, true, true, true, true, true, true, true, true, true, true] rfl rfl (any_of HT_.out (by kernel_rfl)) (fun _ _ _ h => h) (Or.inl ⟨by rfl, ?_⟩) ?_ ?_; rotate_left; (· intro w'; go_simp; with_reducible rfl); rotate_left; (· simp only [Act.put, List.setIfInBounds_toArray, List.set_cons_zero, List.set_cons_succ, i64_w, i32_w]; rfl)
         refine done_ (done_of HT_.out (by kernel_rfl)) ?_
         have q46 : (x5_1 : Int) ≤ ((l0.length : Int) : Int) := of_decide_eq_true (by assumption)
         obtain ⟨i046, hi046, _, hsz46, _⟩ := info_parts info70
         have hroom46 : l0.length ≤ co4 := (Kd.R_reads' HO_0.out).2.1
         have hC46 : Kd.C k70 _ Ao4 l0.length l0 := (Kd.R_reads' HO_0.out).2.2
         have hcut46 := cut_to (P := Tryz.prog) 65 70 .i64 Tryz.underlying65 hi046 Ao4 l0.length co4 x5_1 (of_decide_eq_true (by assumption)) q46 hroom46
         have hr46 := Kd.C_take (m := (x5_1 : Int).toNat) hC46 (by omega)
         have hy46 : y395.length = (x5_1 : Int).toNat := (by rw [Ny395.out, List.length_take]; omega)
         rw [← Ny395.out] at hr46
         rw [← hy46] at hcut46
         have HR398 := Aside0.mk hr46
         have HC398 := sA (show y395.length ≤ co4 from by omega)
         clear hr46 hC46 hroom46 hi046 hsz46
         have KY46 := Aside0.mk hy46
         clear hy46
         have KL46 := sA (show (x5_1 : Int).toNat ≤ l0.length from by omega)
         replace q46 := eq_true q46
         try go_wp2_with (first | ((with_reducible refine gate_builtin (b := .append) (xs := #[.tmp 36, .tmp 39]) rfl ?_); at_builtin; refine Kd.R_append_rows k70 (w0 := w0) w0.heap.size rfl (.tmp 36) (.tmp 39) 65 70 (.agg #[(.string ⟨#[]⟩), (.string ⟨#[]⟩)]) 32 rfl Tryz.underlying65 info70 rfl (by decide) (by omega) (.slice none 0 0) ([] : List (S70)) y395 _ _ _ (fun k_ => (P0_ k_ ∨ w.heap.size ≤ k_) ∧ some k_ ≠ (.slice Ao4 l0.length co4 : Value).ownBlock ∧ k_ ≠ gb373) (fun _ => False) rfl rfl ?aO ?aR (fun _ _ h => h) (fun _ h => h.elim) ?aF ?aB ?aS ?aL ?_; (case aR => repeat (first | exact (by repeat (first | (with_reducible exact HR398.out) | (with_reducible refine Kd.C_alloc ?_ _) | (with_reducible refine Kd.C_drewN ?_ _) | (with_reducible refine Kd.C_drew ?_) | exact HR398.out)) | (with_reducible refine Kd.C_alloc ?_ _) | (with_reducible refine Kd.C_drewN ?_ _) | (with_reducible refine Kd.C_drew ?_))); (case aB => exact (by repeat (first | exact sW HB.out | refine sS ?_))); (case aF => exact (fun k_ hk => ⟨(.inr (Nat.le_trans (by first | exact HK.out.1 | exact (show Kept w _ (fun k_ => P0_ k_) from by repeat (first | (with_reducible first | exact HK.out | apply Kept.alloc | apply Kept.drewN | apply Kept.drew | refine Kept.setCell ?_ (.inr GW373.out) _) | exact HK.out)).1) hk)), Kd.fresh' (Kd.R_lt (sR HO_0.out)) k_ hk, Kd.freshB (g := gb373) (o := .cells #[.string a1_0, .string a1_1] 70 (0, 0)) (sB BK373.out) k_ hk⟩)); (case aO => exact ((Kd.R_nil _ _ _ _ (fun k_ => (P0_ k_ ∨ w.heap.size ≤ k_) ∧ some k_ ≠ (.slice Ao4 l0.length co4 : Value).ownBlock ∧ k_ ≠ gb373)))); (case aS => exact (below_size (by repeat (first | exact sW HB.out | refine sS ?_)))); (case aL => have := LMc39.out; omega); intro v400 w47 ho hb hg hat; rw [← Ny399.out] at ho; replace BK373 := sA (blk_grown (sB BK373.out) hg (by simp [Value.ownBlock])); replace HB := sA (hb); replace HK := sA (Kept.of_grown (S := (fun k_ => P0_ k_)) hg (by repeat (first | (with_reducible first | exact HK.out | apply Kept.alloc | apply Kept.drewN | apply Kept.drew | refine Kept.setCell ?_ (.inr GW373.out) _) | exact HK.out)) (fun k_ e_ => by simp [Value.ownBlock] at e_)); replace HR398 := sA ((show Kd.C k70 w47 Ao4 y395.length y395 from by rw [Ny395.out]; exact Kd.C_take (m := (x5_1 : Int).toNat) ((Kd.R_reads' (Kd.R_after (Kd.R_apart_nil (sR HO_0.out)) hg hat)).2.2) KL46.out)); replace HO_0 := sA (Kd.R_after (Kd.R_apart_nil (sR HO_0.out)) hg hat); have HO401 := sA (ho); clear ho hb hg hat; have hcz48_0 := c0 BK373.out; have hcz48_1 := c1 BK373.out; have hfz48_0 := blk_frozen BK373.out 0; have hfz48_1 := blk_frozen BK373.out 1) | ((with_reducible refine gate_builtin (b := .append) (xs := #[.tmp 41, .tmp 43]) rfl ?_); at_builtin; refine Kd.R_append k70 (w0 := w0) w0.heap.size rfl (.tmp 41) (.tmp 43) 65 70 (.agg #[(.string ⟨#[]⟩), (.string ⟨#[]⟩)]) 32 rfl Tryz.underlying65 info70 rfl (by decide) (by omega) v400 y399 (⟨a1_0, a1_1⟩ : S70) [.string a1_0, .string a1_1] (fun k_ => (P0_ k_ ∨ w.heap.size ≤ k_) ∧ some k_ ≠ (.slice Ao4 l0.length co4 : Value).ownBlock ∧ k_ ≠ gb373) (fun _ => False) rfl rfl ?aP (fun _ hk => hk.elim) ?aF ?aO ?aB ?aS ?aL ?_; (case aP => exact k70_mkM _ _ _ (⟨a1_0, a1_1⟩ : S70)); (case aB => exact (by repeat (first | exact sW HB.out | refine sS ?_))); (case aF => exact (fun k_ hk => ⟨(.inr (Nat.le_trans (by first | exact HK.out.1 | exact (show Kept w _ (fun k_ => P0_ k_) from by repeat (first | (with_reducible first | exact HK.out | apply Kept.alloc | apply Kept.drewN | apply Kept.drew | refine Kept.setCell ?_ (.inr GW373.out) _) | exact HK.out)).1) hk)), Kd.fresh' (Kd.R_lt (sR HO_0.out)) k_ hk, Kd.freshB (g := gb373) (o := .cells #[.string a1_0, .string a1_1] 70 (0, 0)) (sB BK373.out) k_ hk⟩)); (case aO => exact (sR HO401.out)); (case aS => exact (below_size (by repeat (first | exact sW HB.out | refine sS ?_)))); (case aL => have := LMc40.out; omega); intro v403 w49 ho hb hg hat; rw [← Ny402.out] at ho; replace BK373 := sA (blk_grown (sB BK373.out) hg (Kd.R_away HO401.out (fun _ hk => hk.2.2))); replace HB := sA (hb); replace HK := sA (Kept.of_grown (S := (fun k_ => P0_ k_)) hg (by repeat (first | (with_reducible first | exact HK.out | apply Kept.alloc | apply Kept.drewN | apply Kept.drew | refine Kept.setCell ?_ (.inr GW373.out) _) | exact HK.out)) (fun k_ e_ => (HO401.out.1 k_ e_).1)); replace HR398 := sA ((show Kd.C k70 w49 Ao4 y395.length y395 from by rw [Ny395.out]; exact Kd.C_take (m := (x5_1 : Int).toNat) ((Kd.R_reads' (Kd.R_after (ok := (fun k_ => (P0_ k_ ∨ w.heap.size ≤ k_) ∧ k_ ≠ gb373)) (sR HO_0.out) hg hat)).2.2) KL46.out)); replace HO_0 := sA (Kd.R_after (ok := (fun k_ => (P0_ k_ ∨ w.heap.size ≤ k_) ∧ k_ ≠ gb373)) (sR HO_0.out) hg hat); have HO404 := sA (ho); clear HO401; clear ho hb hg hat; have q50 : (x5_1 : Int) ≤ ((l0.length : Int) : Int) := of_decide_eq_true (by assumption); obtain ⟨i050, hi050, _, hsz50, _⟩ := info_parts info70; have hroom50 : l0.length ≤ co4 := (Kd.R_reads' HO_0.out).2.1; have hC50 : Kd.C k70 _ Ao4 l0.length l0 := (Kd.R_reads' HO_0.out).2.2; have q050 : (0 : Int) ≤ (x5_1 : Int) := of_decide_eq_true (by assumption); have hcut50 := cut_from (P := Tryz.prog) 65 70 .i64 Tryz.underlying65 hi050 2 hsz50 Ao4 l0.length co4 x5_1 q050 q50; have hr50 := Kd.C_drop (m := (x5_1 : Int).toNat) (c := co4) hC50 (by omega) hroom50; obtain ⟨A50, hA50⟩ : ∃ A1, A1 = (if co4 = (x5_1 : Int).toNat then Ao4 else (Ao4 : Option Addr).map (·.add ((x5_1 : Int).toNat * 2))) := ⟨_, rfl⟩; obtain ⟨c50, hc50⟩ : ∃ c1, c1 = co4 - (x5_1 : Int).toNat := ⟨_, rfl⟩; have hy50 : y405.length = l0.length - (x5_1 : Int).toNat := (by rw [Ny405.out, List.length_drop] <;> omega); rw [show (l0).drop (x5_1 : Int).toNat = y405 from Ny405.out.symm] at hr50; replace hr50 : Kd.C k70 _ A50 y405.length y405 := (by rw [hA50]; exact hr50); rw [← hy50, ← hA50, ← hc50] at hcut50; have HR408 := Aside0.mk hr50; have HC408 := sA (show y405.length ≤ c50 from by rw [hy50, hc50]; exact Nat.sub_le_sub_right hroom50 _); clear hr50 hC50 hroom50 hi050 hsz50 hc50; have KY50 := Aside0.mk hy50; have KA50 := Aside0.mk hA50; clear hy50 hA50; have KL50 := sA (show (x5_1 : Int).toNat ≤ l0.length from by omega); replace q50 := eq_true q50) | ((with_reducible refine gate_builtin (b := .append) (xs := #[.tmp 45, .tmp 48]) rfl ?_); at_builtin; refine Kd.R_append_rows k70 (w0 := w0) w0.heap.size rfl (.tmp 45) (.tmp 48) 65 70 (.agg #[(.string ⟨#[]⟩), (.string ⟨#[]⟩)]) 32 rfl Tryz.underlying65 info70 rfl (by decide) (by omega) v403 y402 y405 _ _ _ (fun k_ => (P0_ k_ ∨ w.heap.size ≤ k_) ∧ some k_ ≠ (.slice Ao4 l0.length co4 : Value).ownBlock ∧ k_ ≠ gb373) (fun _ => False) rfl rfl ?aO ?aR (fun _ _ h => h) (fun _ h => h.elim) ?aF ?aB ?aS ?aL ?_; (case aR => repeat (first | exact (by repeat (first | (with_reducible exact HR408.out) | (with_reducible refine Kd.C_alloc ?_ _) | (with_reducible refine Kd.C_drewN ?_ _) | (with_reducible refine Kd.C_drew ?_) | exact HR408.out)) | (with_reducible refine Kd.C_alloc ?_ _) | (with_reducible refine Kd.C_drewN ?_ _) | (with_reducible refine Kd.C_drew ?_))); (case aB => exact (by repeat (first | exact sW HB.out | refine sS ?_))); (case aF => exact (fun k_ hk => ⟨(.inr (Nat.le_trans (by first | exact HK.out.1 | exact (show Kept w _ (fun k_ => P0_ k_) from by repeat (first | (with_reducible first | exact HK.out | apply Kept.alloc | apply Kept.drewN | apply Kept.drew | refine Kept.setCell ?_ (.inr GW373.out) _) | exact HK.out)).1) hk)), Kd.fresh' (Kd.R_lt (sR HO_0.out)) k_ hk, Kd.freshB (g := gb373) (o := .cells #[.string a1_0, .string a1_1] 70 (0, 0)) (sB BK373.out) k_ hk⟩)); (case aO => exact (sR HO404.out)); (case aS => exact (below_size (by repeat (first | exact sW HB.out | refine sS ?_)))); (case aL => have := LMc43.out; omega); intro v410 w51 ho hb hg hat; rw [← Ny409.out] at ho; replace BK373 := sA (blk_grown (sB BK373.out) hg (Kd.R_away HO404.out (fun _ hk => hk.2.2))); replace HB := sA (hb); replace HK := sA (Kept.of_grown (S := (fun k_ => P0_ k_)) hg (by repeat (first | (with_reducible first | exact HK.out | apply Kept.alloc | apply Kept.drewN | apply Kept.drew | refine Kept.setCell ?_ (.inr GW373.out) _) | exact HK.out)) (fun k_ e_ => (HO404.out.1 k_ e_).1)); replace HR398 := sA ((show Kd.C k70 w51 Ao4 y395.length y395 from by rw [Ny395.out]; exact Kd.C_take (m := (x5_1 : Int).toNat) ((Kd.R_reads' (Kd.R_after (ok := (fun k_ => (P0_ k_ ∨ w.heap.size ≤ k_) ∧ k_ ≠ gb373)) (sR HO_0.out) hg hat)).2.2) KL46.out)); replace HR408 := sA ((show Kd.C k70 w51 A50 y405.length y405 from by rw [Ny405.out, KA50.out]; exact Kd.C_drop (m := (x5_1 : Int).toNat) (c := co4) ((Kd.R_reads' (Kd.R_after (ok := (fun k_ => (P0_ k_ ∨ w.heap.size ≤ k_) ∧ k_ ≠ gb373)) (sR HO_0.out) hg hat)).2.2) KL50.out ((Kd.R_reads' (Kd.R_after (ok := (fun k_ => (P0_ k_ ∨ w.heap.size ≤ k_) ∧ k_ ≠ gb373)) (sR HO_0.out) hg hat)).2.1))); replace HO_0 := sA (Kd.R_after (ok := (fun k_ => (P0_ k_ ∨ w.heap.size ≤ k_) ∧ k_ ≠ gb373)) (sR HO_0.out) hg hat); have HO411 := sA (ho); clear HO404; clear ho hb hg hat))
         go_ret
         exact ⟨_, by first | rfl | (simp [errW_none, errW_some] <;> rfl) | (simp [*, errW_none, errW_some] <;> rfl), by apply sR; first | exact Kd.R_mono HO411.out (fun _ hk => hk.1) | exact Kd.R_mono HO411.out (fun _ _ => trivial), by repeat (first | exact sW HB.out | refine sS ?_), by repeat (first | (with_reducible first | exact HK.out | apply Kept.alloc | apply Kept.drewN | apply Kept.drew | refine Kept.setCell ?_ (.inr GW373.out) _) | exact HK.out)⟩
        ·rw [if_neg c43] at H
         exact absurd H (by simp)
       ·rw [if_neg c40] at H
        exact absurd H (by simp)
      ·rw [if_neg c39] at H
       exact absurd H (by simp)
     ·rw [if_neg c38] at H
      exact absurd H (by simp)
    ·rw [if_neg c37] at H
     exact absurd H (by simp)

end Go.Proofs.YteidebllianiiaaGreatDoor.PAll
