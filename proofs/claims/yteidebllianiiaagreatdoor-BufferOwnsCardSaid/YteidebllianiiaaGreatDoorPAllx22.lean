-- written by a program of this session (wip/px): the walk of printed functions
import Derived.Test.YteidebllianiiaaGreatDoorPAllx0
import Derived.Test.YteidebllianiiaaGreatDoorSq
import Derived.Test.YteidebllianiiaaGreatDoorBnd0
import Derived.Test.YteidebllianiiaaGreatDoorBun0
namespace Go.Proofs.YteidebllianiiaaGreatDoor.PAll
open Go.RowKit Go.Proofs.YteidebllianiiaaGreatDoorW.PrintWords Go.Proofs.YteidebllianiiaaGreatDoorW.PrintLast Go.Proofs.YteidebllianiiaaGreatDoorW.PrintMore
attribute [local go_sem] max2_int min2_int max_two min_two max_three min_three max_four min_four   -- for this text's walks alone
set_option linter.unusedVariables false
set_option linter.unusedSimpArgs false

/-! ### doc_Clone: function 52 -/
def doc_Clone.f (a0_0 : Int) (l0_1 : List (S50)) : Option (Int × (List (S50))) := (api_Field_71.f l0_1).bind fun t204 => (some (a0_0, t204))
set_option maxHeartbeats 8000000 in
set_option maxRecDepth 100000 in
theorem doc_Clone.calls (a0_0 : Int) (A0_1 : Option Addr) (c0_1 : Nat) (l0_1 : List (S50)) (r1 : Int) (r2 : List (S50)) (w : World) (hr0_1 : Kd.C k50 w A0_1 l0_1.length l0_1) (hc0_1 : l0_1.length ≤ c0_1) (h : doc_Clone.f a0_0 l0_1 = some (r1, r2)) :
  Calls Tryz.prog 52 #[.agg #[.int .i64 a0_0, .slice A0_1 l0_1.length c0_1]] w fun e w' => ∃ v1_ : Value, e = .returned (.agg #[.int .i64 r1, v1_]) ∧ Kd.R k50 50 w' w.heap.size (fun _ => True) v1_ r2 ∧ Below w.heap.size w w' := by
 have hu31 := Tryz.underlying31
 have HR0_1 := Aside0.mk hr0_1
 have HC0_1 := Aside0.mk hc0_1
 clear hr0_1 hc0_1
 have HB := sA (Below.refl w.heap.size w)
 have H : ((api_Field_71.f l0_1).bind fun t204 => (some (a0_0, t204))) = some (r1, r2) := h
 clear h
 replace H := Option.bind_eq_some_iff.mp H
 obtain ⟨t204, A20, H⟩ := H
 have A2 := Aside0.mk A20
 clear A20
 simp only [Option.some.injEq, Prod.mk.injEq] at H
 obtain ⟨rfl, rfl⟩ := H
 go_enter Tryz.func52, Tryz.ntmps52
 try go_wp2_with (first | ((with_reducible refine gate_dst (N := 1) rfl ?_); refine box_event ?hg (N := 1) ?hd (cs := #[.int .i64 a0_0, .slice A0_1 l0_1.length c0_1]) (t := 31) ?hr ?_; (case hd => rfl); (case hg => rfl); (case hr => first | (go_simp; done) | (go_simp; rfl)); intro gb202 hg w3 hbox hb; have BK202 := sA (hbox); have GW202 := sA ((by rw [hg]; exact (below_size (sW HB.out)) : w.heap.size ≤ gb202)); have GE202 := sA ((by rw [hg]; exact (below_size (sW HB.out)) : w.heap.size ≤ gb202)); replace HB := sA (below_step (sW HB.out) hb); clear hb hbox hg) | ((with_reducible refine gate_dst (N := 2) rfl ?_); refine box_event ?hg (N := 2) ?hd (cs := #[.int .i64 0, .slice none 0 0]) (t := 31) ?hr ?_; (case hd => rfl); (case hg => rfl); (case hr => first | (go_simp; done) | (go_simp; rfl)); intro gb203 hg w4 hbox hb; have BK203 := sA (hbox); have GW203 := sA ((by rw [hg]; exact (below_size (by repeat (first | exact sW HB.out | refine sS ?_))) : w.heap.size ≤ gb203)); have GE203 := sA ((by rw [hg]; exact (below_size (by repeat (first | exact sW HB.out | refine sS ?_))) : w.heap.size ≤ gb203)); replace HB := sA (below_step (by repeat (first | exact sW HB.out | refine sS ?_)) hb); have NB202_203 := sA ((by rw [hg]; exact Nat.ne_of_lt (blk_lt (sB BK202.out)) : gb202 ≠ gb203)); have NB203_202 := sA ((by rw [hg]; exact Nat.ne_of_gt (blk_lt (sB BK202.out)) : gb203 ≠ gb202)); replace BK202 := sA (blk_below (sB BK202.out) hb); clear hb hbox hg))
 replace BK202 := sA (blk_drew BK202.out)
 replace BK203 := sA (blk_drew BK203.out)
 replace HB := sA (below_drew1 HB.out)
 refine start_ (n := 7) (S := fun w' => w'.cell? ⟨gb202, 0, none⟩ = some (.int .i64 a0_0) ∧ w'.cell? ⟨gb202, 1, none⟩ = some (.slice A0_1 l0_1.length c0_1)) (ds := []) #[false, false, false, false, false, false, false] (by kernel_rfl) rfl rfl ⟨c0 BK202.out, c1 BK202.out⟩ (fun hHeld => ?_)
 generalize w4.drew = w5 at BK202 BK203 HB hHeld ⊢
 refine pure_ (i := 0) (N := some 3) (v := ?_) (a' := ?_) #[true, false, false, false, false, false, false] rfl rfl (by kernel_rfl) (fun _ _ _ h => h) (Or.inl ⟨by rfl, ?_⟩) ?_ ?_; rotate_left; (· intro w'; go_simp; with_reducible rfl); rotate_left; (· simp only [Act.put, List.setIfInBounds_toArray, List.set_cons_zero, List.set_cons_succ, i64_w, i32_w]; rfl)
 refine pure_ (i := 2) (N := some 5) (v := ?_) (a' := ?_) #[true, false, true, false, false, false, false] rfl rfl (by kernel_rfl) (fun _ _ _ h => h) (Or.inl ⟨by rfl, ?_⟩) ?_ ?_; rotate_left; (· intro w'; go_simp; with_reducible rfl); rotate_left; (· simp only [Act.put, List.setIfInBounds_toArray, List.set_cons_zero, List.set_cons_succ, i64_w, i32_w]; rfl)
 refine take_ (i := 1) (N := some 4) (v := ?_) (a' := ?_) #[true, true, true, false, false, false, false] rfl rfl (by kernel_rfl) (fun _ _ _ h => h) (Or.inl ⟨by rfl, ?_⟩) hHeld ?_ ?_; rotate_left; (· rintro w' ⟨s0, s1⟩; go_simp; with_reducible rfl); rotate_left; (· simp only [Act.put, List.setIfInBounds_toArray, List.set_cons_zero, List.set_cons_succ, i64_w, i32_w]; rfl)
 refine take_ (i := 3) (N := some 6) (v := ?_) (a' := ?_) #[true, true, true, true, false, false, false] rfl rfl (by kernel_rfl) (fun _ _ _ h => h) (Or.inl ⟨by rfl, ?_⟩) hHeld ?_ ?_; rotate_left; (· rintro w' ⟨s0, s1⟩; go_simp; with_reducible rfl); rotate_left; (· simp only [Act.put, List.setIfInBounds_toArray, List.set_cons_zero, List.set_cons_succ, i64_w, i32_w]; rfl)
 refine one_ (i := 4) (N := some 7) #[true, true, true, true, true, false, false] rfl rfl (by kernel_rfl) (by decide) (fun K hK => ?_)
 refine goes_ Tryz.func71 (by kernel_rfl) rfl #[.slice A0_1 l0_1.length c0_1] (by rfl) rfl rfl (by (try simp only [List.map_toArray, List.map_cons, List.map_nil]); first | done | rfl | (simp only [List.length_drop, List.length_take]; rfl)) ?_
 with_reducible refine (api_Field_71.calls _ _ l0_1 t204 _ ?side1 ?side2 A2.out).mono ?_
 (case side1 => repeat (first | exact (Kd.C_below HR0_1.out HB.out) | (with_reducible refine Kd.C_alloc ?_ _) | (with_reducible refine Kd.C_drewN ?_ _) | (with_reducible refine Kd.C_drew ?_)))
 (case side2 => exact HC0_1.out)
 rintro e w6 ⟨v205, rfl, ho0, hb⟩
 refine ⟨_, rfl, ?_⟩
 have HO206 := sA (Kd.R_lower ho0 (below_size (by repeat (first | exact sW HB.out | refine sS ?_))))
 replace BK202 := sA (blk_below (sB BK202.out) hb)
 replace BK203 := sA (blk_below (sB BK203.out) hb)
 replace HB := sA (below_step (by repeat (first | exact sW HB.out | refine sS ?_)) hb)
 (try clear hb)
 (try clear hb2)
 (try clear hk)
 (try clear hi)
 (try clear ho0)
 obtain ⟨Ao7, co7, eo7⟩ := Kd.R_slice HO206.out
 (first | subst eo7 | (injection eo7 with f1_ f2_ f3_; have f4_ := f1_.symm; have f5_ := f3_.symm; clear f1_ f2_ f3_; subst f4_; subst f5_))
 refine hK.out _ _ ⟨c0 BK202.out, c1 BK202.out⟩ (fun hHeld => ?_)
 clear hK K
 refine norm_ (a' := ?_) ?_ ?_; rotate_left; (· show Act.put _ (some 7) _ = _; simp only [Act.put, List.setIfInBounds_toArray, List.set_cons_zero, List.set_cons_succ, i64_w, i32_w]; rfl)
 refine pure_ (i := 5) (N := some 8) (v := ?_) (a' := ?_) #[true, true, true, true, true, true, false] rfl rfl (by kernel_rfl) (fun _ _ _ h => h) (Or.inl ⟨by rfl, ?_⟩) ?_ ?_; rotate_left; (· intro w'; go_simp; with_reducible rfl); rotate_left; (· simp only [Act.put, List.setIfInBounds_toArray, List.set_cons_zero, List.set_cons_succ, i64_w, i32_w]; rfl)
 refine one_ (i := 6) (N := none) #[true, true, true, true, true, true, true] rfl rfl (by kernel_rfl) (by decide) (fun K hK => ?_)
 have hs8 : w6.cell? ⟨gb203, 0, none⟩ = some (.int .i64 0) := c0 BK203.out
 have hfs8 := blk_frozen BK203.out 0
 have hns8_0 := NB202_203.out
 have hms8_0 := NB203_202.out
 have hs9 : w6.cell? ⟨gb203, 1, none⟩ = some (.slice none 0 0) := c1 BK203.out
 have hfs9 := blk_frozen BK203.out 1
 have hns9_0 := NB202_203.out
 have hms9_0 := NB203_202.out
 refine skip_ (w1 := ?_) (by rfl) rfl ?_ ?_
 rotate_left
 ·go_simp
  rfl
 refine hK.out _ _ ⟨((cell_far (p := ⟨gb203, _, none⟩) NB202_203.out _).trans (((cell_far (p := ⟨gb203, _, none⟩) NB202_203.out _).trans (hHeld.1)))), ((cell_far (p := ⟨gb203, _, none⟩) NB202_203.out _).trans (((cell_far (p := ⟨gb203, _, none⟩) NB202_203.out _).trans (hHeld.2))))⟩ (fun hHeld => ?_)
 clear hK K
 refine done_ (by kernel_rfl) ?_
 try go_wp2
 refine bodyPost_ret (results_cell_row rfl _ _ gb203 31 #[.int .i64 a0_0, .slice Ao7 t204.length co7] (0, 0) _ rfl (by apply sB; refine blk_put (cs := #[.int .i64 a0_0, .slice none 0 0]) ?_ 1 _ rfl; apply sB; refine blk_put (cs := #[.int .i64 0, .slice none 0 0]) ?_ 0 _ rfl; apply sB; exact BK203.out) Tryz.underlying31 rfl (by kernel_rfl)) rfl ?_
 exact ⟨_, by first | rfl | (simp [errW_none, errW_some] <;> rfl) | (simp [*, errW_none, errW_some] <;> rfl), by apply sR; exact Kd.R_mono (Kd.R_far (p := ⟨gb203, 1, none⟩) (Kd.R_far (p := ⟨gb203, 0, none⟩) (Kd.R_types HO206.out BK203.out (by decide)) (fun _ hk => hk.2) (.int .i64 a0_0)) (fun _ hk => hk.2) (.slice Ao7 t204.length co7)) (fun _ hk => trivial), by repeat (first | exact sW HB.out | refine sS ?_)⟩

/-! ### buffer_own: function 28 -/
def buffer_own.f (a0_0 : Int) (l0_1 : List (S50)) (a0_2 : Int) : Option (Int × (List (S50)) × Int) := (doc_Clone.f a0_0 l0_1).bind fun bt209 => (some (bt209.1, bt209.2, a0_2))
set_option maxHeartbeats 8000000 in
set_option maxRecDepth 100000 in
theorem buffer_own.calls (a0_0 : Int) (A0_1 : Option Addr) (c0_1 : Nat) (l0_1 : List (S50)) (a0_2 : Int) (r1 : Int) (r2 : List (S50)) (r3 : Int) (w : World) (hr0_1 : Kd.C k50 w A0_1 l0_1.length l0_1) (hc0_1 : l0_1.length ≤ c0_1) (h : buffer_own.f a0_0 l0_1 a0_2 = some (r1, r2, r3)) :
  Calls Tryz.prog 28 #[.agg #[.int .i64 a0_0, .slice A0_1 l0_1.length c0_1, .int .i64 a0_2]] w fun e w' => ∃ v1_ : Value, e = .returned (.agg #[.int .i64 r1, v1_, .int .i64 r3]) ∧ Kd.R k50 50 w' w.heap.size (fun _ => True) v1_ r2 ∧ Below w.heap.size w w' := by
 have hu33 := Tryz.underlying33
 have hu31 := Tryz.underlying31
 have HR0_1 := Aside0.mk hr0_1
 have HC0_1 := Aside0.mk hc0_1
 clear hr0_1 hc0_1
 have HB := sA (Below.refl w.heap.size w)
 have H : ((doc_Clone.f a0_0 l0_1).bind fun bt209 => (some (bt209.1, bt209.2, a0_2))) = some (r1, r2, r3) := h
 clear h
 replace H := Option.bind_eq_some_iff.mp H
 obtain ⟨⟨t209, t210⟩, A20, H⟩ := H
 have A2 := Aside0.mk A20
 clear A20
 simp only [Option.some.injEq, Prod.mk.injEq] at H
 obtain ⟨rfl, rfl, rfl⟩ := H
 go_enter Tryz.func28, Tryz.ntmps28
 try go_wp2_with (first | ((with_reducible refine gate_dst (N := 1) rfl ?_); refine box_event ?hg (N := 1) ?hd (cs := #[.int .i64 a0_0, .slice A0_1 l0_1.length c0_1, .int .i64 a0_2]) (t := 33) ?hr ?_; (case hd => rfl); (case hg => rfl); (case hr => first | (go_simp; done) | (go_simp; rfl)); intro gb207 hg w3 hbox hb; have BK207 := sA (hbox); have GW207 := sA ((by rw [hg]; exact (below_size (sW HB.out)) : w.heap.size ≤ gb207)); have GE207 := sA ((by rw [hg]; exact (below_size (sW HB.out)) : w.heap.size ≤ gb207)); replace HB := sA (below_step (sW HB.out) hb); clear hb hbox hg) | ((with_reducible refine gate_dst (N := 2) rfl ?_); refine box_event ?hg (N := 2) ?hd (cs := #[.int .i64 0, .slice none 0 0, .int .i64 0]) (t := 33) ?hr ?_; (case hd => rfl); (case hg => rfl); (case hr => first | (go_simp; done) | (go_simp; rfl)); intro gb208 hg w4 hbox hb; have BK208 := sA (hbox); have GW208 := sA ((by rw [hg]; exact (below_size (by repeat (first | exact sW HB.out | refine sS ?_))) : w.heap.size ≤ gb208)); have GE208 := sA ((by rw [hg]; exact (below_size (by repeat (first | exact sW HB.out | refine sS ?_))) : w.heap.size ≤ gb208)); replace HB := sA (below_step (by repeat (first | exact sW HB.out | refine sS ?_)) hb); have NB207_208 := sA ((by rw [hg]; exact Nat.ne_of_lt (blk_lt (sB BK207.out)) : gb207 ≠ gb208)); have NB208_207 := sA ((by rw [hg]; exact Nat.ne_of_gt (blk_lt (sB BK207.out)) : gb208 ≠ gb207)); replace BK207 := sA (blk_below (sB BK207.out) hb); clear hb hbox hg))
 replace BK207 := sA (blk_drew BK207.out)
 replace BK208 := sA (blk_drew BK208.out)
 replace HB := sA (below_drew1 HB.out)
 refine start_ (n := 7) (S := fun w' => w'.cell? ⟨gb207, 0, none⟩ = some (.int .i64 a0_0) ∧ w'.cell? ⟨gb207, 1, none⟩ = some (.slice A0_1 l0_1.length c0_1) ∧ w'.cell? ⟨gb207, 2, none⟩ = some (.int .i64 a0_2)) (ds := []) #[false, false, false, false, false, false, false] (by kernel_rfl) rfl rfl ⟨c0 BK207.out, c1 BK207.out, c2 BK207.out⟩ (fun hHeld => ?_)
 generalize w4.drew = w5 at BK207 BK208 HB hHeld ⊢
 refine pure_ (i := 0) (N := some 3) (v := ?_) (a' := ?_) #[true, false, false, false, false, false, false] rfl rfl (by kernel_rfl) (fun _ _ _ h => h) (Or.inl ⟨by rfl, ?_⟩) ?_ ?_; rotate_left; (· intro w'; go_simp; with_reducible rfl); rotate_left; (· simp only [Act.put, List.setIfInBounds_toArray, List.set_cons_zero, List.set_cons_succ, i64_w, i32_w]; rfl)
 refine pure_ (i := 3) (N := some 6) (v := ?_) (a' := ?_) #[true, false, false, true, false, false, false] rfl rfl (by kernel_rfl) (fun _ _ _ h => h) (Or.inl ⟨by rfl, ?_⟩) ?_ ?_; rotate_left; (· intro w'; go_simp; with_reducible rfl); rotate_left; (· simp only [Act.put, List.setIfInBounds_toArray, List.set_cons_zero, List.set_cons_succ, i64_w, i32_w]; rfl)
 refine take_ (i := 1) (N := some 4) (v := ?_) (a' := ?_) #[true, true, false, true, false, false, false] rfl rfl (by kernel_rfl) (fun _ _ _ h => h) (Or.inl ⟨by rfl, ?_⟩) hHeld ?_ ?_; rotate_left; (· rintro w' ⟨s0, s1, s2⟩; go_simp; with_reducible rfl); rotate_left; (· simp only [Act.put, List.setIfInBounds_toArray, List.set_cons_zero, List.set_cons_succ, i64_w, i32_w]; rfl)
 refine take_ (i := 4) (N := some 7) (v := ?_) (a' := ?_) #[true, true, false, true, true, false, false] rfl rfl (by kernel_rfl) (fun _ _ _ h => h) (Or.inl ⟨by rfl, ?_⟩) hHeld ?_ ?_; rotate_left; (· rintro w' ⟨s0, s1, s2⟩; go_simp; with_reducible rfl); rotate_left; (· simp only [Act.put, List.setIfInBounds_toArray, List.set_cons_zero, List.set_cons_succ, i64_w, i32_w]; rfl)
 refine one_ (i := 2) (N := some 5) #[true, true, true, true, true, false, false] rfl rfl (by kernel_rfl) (by decide) (fun K hK => ?_)
 refine goes_ Tryz.func52 (by kernel_rfl) rfl #[.agg #[.int .i64 a0_0, .slice A0_1 l0_1.length c0_1]] (by rfl) rfl rfl (by (try simp only [List.map_toArray, List.map_cons, List.map_nil]); first | done | rfl | (simp only [List.length_drop, List.length_take]; rfl)) ?_
 with_reducible refine (doc_Clone.calls a0_0 _ _ l0_1 t209 t210 _ ?side1 ?side2 A2.out).mono ?_
 (case side1 => repeat (first | exact (Kd.C_below HR0_1.out HB.out) | (with_reducible refine Kd.C_alloc ?_ _) | (with_reducible refine Kd.C_drewN ?_ _) | (with_reducible refine Kd.C_drew ?_)))
 (case side2 => exact HC0_1.out)
 rintro e w6 ⟨v211, rfl, ho0, hb⟩
 refine ⟨_, rfl, ?_⟩
 have HO212 := sA (Kd.R_lower ho0 (below_size (by repeat (first | exact sW HB.out | refine sS ?_))))
 replace BK207 := sA (blk_below (sB BK207.out) hb)
 replace BK208 := sA (blk_below (sB BK208.out) hb)
 replace HB := sA (below_step (by repeat (first | exact sW HB.out | refine sS ?_)) hb)
 (try clear hb)
 (try clear hb2)
 (try clear hk)
 (try clear hi)
 (try clear ho0)
 obtain ⟨Ao7, co7, eo7⟩ := Kd.R_slice HO212.out
 (first | subst eo7 | (injection eo7 with f1_ f2_ f3_; have f4_ := f1_.symm; have f5_ := f3_.symm; clear f1_ f2_ f3_; subst f4_; subst f5_))
 refine hK.out _ _ ⟨c0 BK207.out, c1 BK207.out, c2 BK207.out⟩ (fun hHeld => ?_)
 clear hK K
 refine norm_ (a' := ?_) ?_ ?_; rotate_left; (· show Act.put _ (some 5) _ = _; simp only [Act.put, List.setIfInBounds_toArray, List.set_cons_zero, List.set_cons_succ, i64_w, i32_w]; rfl)
 refine pure_ (i := 5) (N := some 8) (v := ?_) (a' := ?_) #[true, true, true, true, true, true, false] rfl rfl (by kernel_rfl) (fun _ _ _ h => h) (Or.inl ⟨by rfl, ?_⟩) ?_ ?_; rotate_left; (· intro w'; go_simp; with_reducible rfl); rotate_left; (· simp only [Act.put, List.setIfInBounds_toArray, List.set_cons_zero, List.set_cons_succ, i64_w, i32_w]; rfl)
 refine one_ (i := 6) (N := none) #[true, true, true, true, true, true, true] rfl rfl (by kernel_rfl) (by decide) (fun K hK => ?_)
 have hs8 : w6.cell? ⟨gb208, 0, none⟩ = some (.int .i64 0) := c0 BK208.out
 have hfs8 := blk_frozen BK208.out 0
 have hns8_0 := NB207_208.out
 have hms8_0 := NB208_207.out
 have hs9 : w6.cell? ⟨gb208, 1, none⟩ = some (.slice none 0 0) := c1 BK208.out
 have hfs9 := blk_frozen BK208.out 1
 have hns9_0 := NB207_208.out
 have hms9_0 := NB208_207.out
 have hs10 : w6.cell? ⟨gb208, 2, none⟩ = some (.int .i64 0) := c2 BK208.out
 have hfs10 := blk_frozen BK208.out 2
 have hns10_0 := NB207_208.out
 have hms10_0 := NB208_207.out
 refine skip_ (w1 := ?_) (by rfl) rfl ?_ ?_
 rotate_left
 ·go_simp
  rfl
 refine hK.out _ _ ⟨((cell_far (p := ⟨gb208, _, none⟩) NB207_208.out _).trans (((cell_far (p := ⟨gb208, _, none⟩) NB207_208.out _).trans (((cell_far (p := ⟨gb208, _, none⟩) NB207_208.out _).trans (hHeld.1)))))), ((cell_far (p := ⟨gb208, _, none⟩) NB207_208.out _).trans (((cell_far (p := ⟨gb208, _, none⟩) NB207_208.out _).trans (((cell_far (p := ⟨gb208, _, none⟩) NB207_208.out _).trans (hHeld.2.1)))))), ((cell_far (p := ⟨gb208, _, none⟩) NB207_208.out _).trans (((cell_far (p := ⟨gb208, _, none⟩) NB207_208.out _).trans (((cell_far (p := ⟨gb208, _, none⟩) NB207_208.out _).trans (hHeld.2.2))))))⟩ (fun hHeld => ?_)
 clear hK K
 refine done_ (by kernel_rfl) ?_
 try go_wp2
 refine bodyPost_ret (results_cell_row rfl _ _ gb208 33 #[.int .i64 t209, .slice Ao7 t210.length co7, .int .i64 a0_2] (0, 0) _ rfl (by apply sB; refine blk_put (cs := #[.int .i64 t209, .slice Ao7 t210.length co7, .int .i64 0]) ?_ 2 _ rfl; apply sB; refine blk_put (cs := #[.int .i64 t209, .slice none 0 0, .int .i64 0]) ?_ 1 _ rfl; apply sB; refine blk_put (cs := #[.int .i64 0, .slice none 0 0, .int .i64 0]) ?_ 0 _ rfl; apply sB; exact BK208.out) Tryz.underlying33 rfl (by kernel_rfl)) rfl ?_
 exact ⟨_, by first | rfl | (simp [errW_none, errW_some] <;> rfl) | (simp [*, errW_none, errW_some] <;> rfl), by apply sR; exact Kd.R_mono (Kd.R_far (p := ⟨gb208, 2, none⟩) (Kd.R_far (p := ⟨gb208, 1, none⟩) (Kd.R_far (p := ⟨gb208, 0, none⟩) (Kd.R_types HO212.out BK208.out (by decide)) (fun _ hk => hk.2) (.int .i64 t209)) (fun _ hk => hk.2) (.slice Ao7 t210.length co7)) (fun _ hk => hk.2) (.int .i64 a0_2)) (fun _ hk => trivial), by repeat (first | exact sW HB.out | refine sS ?_)⟩

-- NOT PRINTED: function 9 (buffer_Buffer_Add)

-- NOT PRINTED: function 15 (concordancelaw09_lives)

-- NOT PRINTED: function 3 (concordancelaw09_BufferTells)

-- NOT PRINTED: function 4 (concordancelaw09_BufferSeals)

-- NOT PRINTED: function 20 (buffer_Buffer_Entries)

-- NOT PRINTED: function 21 (concordancelaw09_like)

-- NOT PRINTED: function 6 (concordancelaw09_BufferPlays)

-- NOT PRINTED: function 5 (concordancelaw09_BufferOwns)

end Go.Proofs.YteidebllianiiaaGreatDoor.PAll
