-- written by a program of this session (wip/px): the walk of printed functions
import Derived.Test.YtbbfilmajiilhaaPAllx0
import Derived.Test.YtbbfilmajiilhaaPAllx5
import Derived.Test.YtbbfilmajiilhaaPAllx10
import Derived.Test.YtbbfilmajiilhaaBnd0
namespace Go.Proofs.Ytbbfilmajiilhaa.PAll
open Go.RowKit Go.Proofs.YtbbfilmajiilhaaW.PrintWords Go.Proofs.YtbbfilmajiilhaaW.PrintLast Go.Proofs.YtbbfilmajiilhaaW.PrintMore
attribute [local go_sem] max2_int min2_int max_two min_two max_three min_three max_four min_four   -- for this text's walks alone
set_option linter.unusedVariables false
set_option linter.unusedSimpArgs false

/-! ### concordancelaw08_DocFields: function 6 -/
mutual
def concordancelaw08_DocFields.j0 : Nat → List (S39) → List (List Int) → Bool → Int → List (S29) → Int → List (S29) → Option (Bool)
  | 0, _, _, _, _, _, _, _ => none
  | k + 1, x7, x8, x60, x415000, x415001, x422000, x422001 => if x60 = true then (some false) else (concordancelaw08_DocFields.l0 k x7 x8 0 x415000 x415001 x422000 x422001)
def concordancelaw08_DocFields.l0 : Nat → List (S39) → List (List Int) → Int → Int → List (S29) → Int → List (S29) → Option (Bool)
  | 0, _, _, _, _, _, _, _ => none
  | k + 1, x7, x8, x11, x415000, x415001, x422000, x422001 => if x11 < (x7.length : Int) then (if 0 ≤ x11 then (if ((rd_T39 x7 x11).f0).toList = ([116] : List UInt8) then (concordancelaw08_DocFields.j2 k x7 x8 x11 x415000 x415001 x422000 x422001 (⟨#[117]⟩ : ByteArray) ((rd_T39 x7 x11).f1)) else (concordancelaw08_DocFields.j2 k x7 x8 x11 x415000 x415001 x422000 x422001 (⟨#[116]⟩ : ByteArray) ((rd_T39 x7 x11).f1))) else (none)) else ((doc_Weight.f x415000 x415001).bind fun t434 => ((doc_Weight.f x422000 x422001).bind fun t435 => (if t434 = t435 then ((concordancelaw08_lives.f k).bind fun t436 => (some t436)) else (some false))))
def concordancelaw08_DocFields.j2 : Nat → List (S39) → List (List Int) → Int → Int → List (S29) → Int → List (S29) → ByteArray → ByteArray → Option (Bool)
  | 0, _, _, _, _, _, _, _, _, _ => none
  | k + 1, x7, x8, x11, x415000, x415001, x422000, x422001, x439000, x439001 => (doc_Count.f x422000 x422001 x439000 x439001).bind fun t439 => (if 0 ≤ x11 then (if x11 < (x8.length : Int) then (if t439 = ((rd_L7 x8 x11).length : Int) then (if x11 < (x7.length : Int) then ((doc_Count.f x415000 x415001 ((rd_T39 x7 x11).f0) ((rd_T39 x7 x11).f1)).bind fun t442 => (if t442 = ((rd_L7 x8 x11).length : Int) then (concordancelaw08_DocFields.l0 k x7 x8 (wrap64 (x11 + 1)) x415000 x415001 x422000 x422001) else (some false))) else (none)) else (some false)) else (none)) else (none))
end
def concordancelaw08_DocFields.f (k : Nat) (a0 : ByteArray) (a1 : ByteArray) : Option (Bool) := (concordanceref08_Good.f k 0 (([(⟨(⟨#[116]⟩ : ByteArray), a0⟩ : S29), (⟨(⟨#[117]⟩ : ByteArray), a1⟩ : S29)] : List (S29)))).bind fun bt410 => (if (bt410.2.length : Int) = 2 then (if 0 < (bt410.2.length : Int) then (if 1 < (bt410.2.length : Int) then ((some (([(⟨(⟨#[117]⟩ : ByteArray), (rd_T29 bt410.2 0).f1⟩ : S29), (⟨(⟨#[116]⟩ : ByteArray), (rd_T29 bt410.2 1).f1⟩ : S29)] : List (S29)) : List (S29))).bind fun y418 => ((doc_Invert.f bt410.1 bt410.2).bind fun bt422 => ((doc_Invert.f 0 y418).bind fun bt428 => (if (bt422.1.length : Int) = (bt428.1.length : Int) then (concordancelaw08_DocFields.j0 k bt422.1 bt422.2 ((bt422.2.length : Int) != (bt422.1.length : Int)) bt410.1 bt410.2 0 y418) else (concordancelaw08_DocFields.j0 k bt422.1 bt422.2 true bt410.1 bt410.2 0 y418))))) else (none)) else (none)) else ((concordancelaw08_lives.f k).bind fun t415 => (some t415)))
theorem concordancelaw08_DocFields.mono_l : ∀ k, (∀ y0 y1 y2 y3 y4 y5 y6, LeO (concordancelaw08_DocFields.j0 k y0 y1 y2 y3 y4 y5 y6) (concordancelaw08_DocFields.j0 (k + 1) y0 y1 y2 y3 y4 y5 y6)) ∧ (∀ y0 y1 y2 y3 y4 y5 y6, LeO (concordancelaw08_DocFields.l0 k y0 y1 y2 y3 y4 y5 y6) (concordancelaw08_DocFields.l0 (k + 1) y0 y1 y2 y3 y4 y5 y6)) ∧ (∀ y0 y1 y2 y3 y4 y5 y6 y7 y8, LeO (concordancelaw08_DocFields.j2 k y0 y1 y2 y3 y4 y5 y6 y7 y8) (concordancelaw08_DocFields.j2 (k + 1) y0 y1 y2 y3 y4 y5 y6 y7 y8))
  | 0 => ⟨fun _ _ _ _ _ _ _ r h => by simp [concordancelaw08_DocFields.j0] at h, fun _ _ _ _ _ _ _ r h => by simp [concordancelaw08_DocFields.l0] at h, fun _ _ _ _ _ _ _ _ _ r h => by simp [concordancelaw08_DocFields.j2] at h⟩
  | k + 1 => by
    obtain ⟨ih0, ih1, ih2⟩ := concordancelaw08_DocFields.mono_l k
    refine ⟨?_, ?_, ?_⟩
    · intro y0 y1 y2 y3 y4 y5 y6
      unfold concordancelaw08_DocFields.j0
      repeat' first
      | (with_reducible exact ih0 _ _ _ _ _ _ _)
      | (with_reducible exact ih1 _ _ _ _ _ _ _)
      | (with_reducible exact ih2 _ _ _ _ _ _ _ _ _)
      | (with_reducible exact concordancelaw08_lives.mono _)
      | (with_reducible exact concordanceref08_Good.mono _ _ _)
      | (with_reducible exact LeO.refl _)
      | (with_reducible exact LeO.none _)
      | (with_reducible refine LeO.ite ?_ ?_)
      | (with_reducible refine LeO.bind ?_ (fun _ => ?_))
      | exact ih0 _ _ _ _ _ _ _
      | exact ih1 _ _ _ _ _ _ _
      | exact ih2 _ _ _ _ _ _ _ _ _
      | exact concordancelaw08_lives.mono _
      | exact concordanceref08_Good.mono _ _ _
      | exact LeO.none _
      | refine LeO.ite ?_ ?_
      | refine LeO.bind ?_ (fun _ => ?_)
    · intro y0 y1 y2 y3 y4 y5 y6
      unfold concordancelaw08_DocFields.l0
      repeat' first
      | (with_reducible exact ih0 _ _ _ _ _ _ _)
      | (with_reducible exact ih1 _ _ _ _ _ _ _)
      | (with_reducible exact ih2 _ _ _ _ _ _ _ _ _)
      | (with_reducible exact concordancelaw08_lives.mono _)
      | (with_reducible exact concordanceref08_Good.mono _ _ _)
      | (with_reducible exact LeO.refl _)
      | (with_reducible exact LeO.none _)
      | (with_reducible refine LeO.ite ?_ ?_)
      | (with_reducible refine LeO.bind ?_ (fun _ => ?_))
      | exact ih0 _ _ _ _ _ _ _
      | exact ih1 _ _ _ _ _ _ _
      | exact ih2 _ _ _ _ _ _ _ _ _
      | exact concordancelaw08_lives.mono _
      | exact concordanceref08_Good.mono _ _ _
      | exact LeO.none _
      | refine LeO.ite ?_ ?_
      | refine LeO.bind ?_ (fun _ => ?_)
    · intro y0 y1 y2 y3 y4 y5 y6 y7 y8
      unfold concordancelaw08_DocFields.j2
      repeat' first
      | (with_reducible exact ih0 _ _ _ _ _ _ _)
      | (with_reducible exact ih1 _ _ _ _ _ _ _)
      | (with_reducible exact ih2 _ _ _ _ _ _ _ _ _)
      | (with_reducible exact concordancelaw08_lives.mono _)
      | (with_reducible exact concordanceref08_Good.mono _ _ _)
      | (with_reducible exact LeO.refl _)
      | (with_reducible exact LeO.none _)
      | (with_reducible refine LeO.ite ?_ ?_)
      | (with_reducible refine LeO.bind ?_ (fun _ => ?_))
      | exact ih0 _ _ _ _ _ _ _
      | exact ih1 _ _ _ _ _ _ _
      | exact ih2 _ _ _ _ _ _ _ _ _
      | exact concordancelaw08_lives.mono _
      | exact concordanceref08_Good.mono _ _ _
      | exact LeO.none _
      | refine LeO.ite ?_ ?_
      | refine LeO.bind ?_ (fun _ => ?_)
theorem concordancelaw08_DocFields.mono : ∀ a0 a1 k, LeO (concordancelaw08_DocFields.f k a0 a1) (concordancelaw08_DocFields.f (k + 1) a0 a1) := by
  intro a0 a1 k
  obtain ⟨ih0, ih1, ih2⟩ := concordancelaw08_DocFields.mono_l k
  unfold concordancelaw08_DocFields.f
  repeat' first
      | (with_reducible exact ih0 _ _ _ _ _ _ _)
      | (with_reducible exact ih1 _ _ _ _ _ _ _)
      | (with_reducible exact ih2 _ _ _ _ _ _ _ _ _)
      | (with_reducible exact concordancelaw08_lives.mono _)
      | (with_reducible exact concordanceref08_Good.mono _ _ _)
      | (with_reducible exact LeO.refl _)
      | (with_reducible exact LeO.none _)
      | (with_reducible refine LeO.ite ?_ ?_)
      | (with_reducible refine LeO.bind ?_ (fun _ => ?_))
      | exact ih0 _ _ _ _ _ _ _
      | exact ih1 _ _ _ _ _ _ _
      | exact ih2 _ _ _ _ _ _ _ _ _
      | exact concordancelaw08_lives.mono _
      | exact concordanceref08_Good.mono _ _ _
      | exact LeO.none _
      | refine LeO.ite ?_ ?_
      | refine LeO.bind ?_ (fun _ => ?_)
def concordancelaw08_DocFields.T4 : Bool × List (List Nat × List Nat) := (true, [([], []), ([0], [0]), ([1], [1]), ([2], [2]), ([3], [3]), ([4], [4]), ([], []), ([6], [6]), ([7], [7]), ([8], [8]), ([9], [9]), ([10], [10]), ([5, 11], [5, 11]), ([12], [12]), ([], []), ([14, 13, 0, 1, 2, 3, 4, 5, 6, 7, 8, 9, 10, 11, 12, 13, 14], [13, 14])])
def concordancelaw08_DocFields.B4 : List Nat := [0, 1, 3, 7, 15, 31, 0, 64, 192, 448, 960, 1984, 4095, 8191, 0, 32767]
theorem concordancelaw08_DocFields.tab4 : rtab .any (opsOf Try.f6 4) = concordancelaw08_DocFields.T4 := by kernel_rfl
theorem concordancelaw08_DocFields.bits4 : waitsOk concordancelaw08_DocFields.T4.2 concordancelaw08_DocFields.B4 = true := by kernel_rfl
def concordancelaw08_DocFields.T16 : Bool × List (List Nat × List Nat) := (true, [([], []), ([], []), ([0, 1], [0, 1]), ([], []), ([], []), ([3, 4], [3, 4]), ([5], [5]), ([6], [6]), ([2, 7], [2, 7]), ([8, 2], [8]), ([9], [9]), ([9], [9]), ([9], [9]), ([11, 12, 9], [9, 11, 12]), ([13, 9], [9, 13]), ([10, 14, 9, 9], [9, 10, 14]), ([9], [9]), ([9], [9]), ([16, 17, 9], [9, 16, 17]), ([18, 9], [9, 18]), ([19, 9], [9, 19]), ([15, 20, 9], [9, 15, 20]), ([9, 21], [9, 21])])
def concordancelaw08_DocFields.B16 : List Nat := [0, 0, 3, 0, 0, 24, 56, 120, 255, 511, 1023, 1023, 1023, 7167, 15359, 32767, 1023, 1023, 197631, 459775, 984063, 2097151, 4194303]
theorem concordancelaw08_DocFields.tab16 : rtab .any (opsOf Try.f6 16) = concordancelaw08_DocFields.T16 := by kernel_rfl
theorem concordancelaw08_DocFields.bits16 : waitsOk concordancelaw08_DocFields.T16.2 concordancelaw08_DocFields.B16 = true := by kernel_rfl
def concordancelaw08_DocFields.T18 : Bool × List (List Nat × List Nat) := (true, [([], []), ([0], [0]), ([], []), ([2, 1], [2]), ([1, 3], [1, 3]), ([4, 3], [4]), ([5, 5], [5]), ([5, 6], [5, 6]), ([7, 6, 0, 1, 2, 3, 4, 5, 6, 7], [7])])
def concordancelaw08_DocFields.B18 : List Nat := [0, 1, 0, 7, 15, 31, 63, 127, 255]
theorem concordancelaw08_DocFields.tab18 : rtab .any (opsOf Try.f6 18) = concordancelaw08_DocFields.T18 := by kernel_rfl
theorem concordancelaw08_DocFields.bits18 : waitsOk concordancelaw08_DocFields.T18.2 concordancelaw08_DocFields.B18 = true := by kernel_rfl
set_option maxHeartbeats 8000000 in
set_option maxRecDepth 100000 in
theorem concordancelaw08_DocFields.calls (k : Nat) (a0 : ByteArray) (a1 : ByteArray) (r : Bool) (w : World) (h : concordancelaw08_DocFields.f k a0 a1 = some r) :
    Calls Try.prog 6 #[.string a0, .string a1] w fun e w' => e = .returned (.bool r) ∧ Below w.heap.size w w' := by
  have hu29 := Try.underlying29
  have hu24 := Try.underlying24
  have hu39 := Try.underlying39
  have HB := Aside0.mk (Below.refl w.heap.size w)
  have H : ((concordanceref08_Good.f k 0 (([(⟨(⟨#[116]⟩ : ByteArray), a0⟩ : S29), (⟨(⟨#[117]⟩ : ByteArray), a1⟩ : S29)] : List (S29)))).bind fun bt410 => (if (bt410.2.length : Int) = 2 then (if 0 < (bt410.2.length : Int) then (if 1 < (bt410.2.length : Int) then ((some (([(⟨(⟨#[117]⟩ : ByteArray), (rd_T29 bt410.2 0).f1⟩ : S29), (⟨(⟨#[116]⟩ : ByteArray), (rd_T29 bt410.2 1).f1⟩ : S29)] : List (S29)) : List (S29))).bind fun y418 => ((doc_Invert.f bt410.1 bt410.2).bind fun bt422 => ((doc_Invert.f 0 y418).bind fun bt428 => (if (bt422.1.length : Int) = (bt428.1.length : Int) then (concordancelaw08_DocFields.j0 k bt422.1 bt422.2 ((bt422.2.length : Int) != (bt422.1.length : Int)) bt410.1 bt410.2 0 y418) else (concordancelaw08_DocFields.j0 k bt422.1 bt422.2 true bt410.1 bt410.2 0 y418))))) else (none)) else (none)) else ((concordancelaw08_lives.f k).bind fun t415 => (some t415)))) = some r := h
  clear h
  obtain ⟨y407, hy407⟩ : ∃ y_ : List (S29), y_ = (([(⟨(⟨#[116]⟩ : ByteArray), a0⟩ : S29), (⟨(⟨#[117]⟩ : ByteArray), a1⟩ : S29)] : List (S29))) := ⟨_, rfl⟩
  replace H : ((concordanceref08_Good.f k 0 y407).bind fun bt410 => (if (bt410.2.length : Int) = 2 then (if 0 < (bt410.2.length : Int) then (if 1 < (bt410.2.length : Int) then ((some (([(⟨(⟨#[117]⟩ : ByteArray), (rd_T29 bt410.2 0).f1⟩ : S29), (⟨(⟨#[116]⟩ : ByteArray), (rd_T29 bt410.2 1).f1⟩ : S29)] : List (S29)) : List (S29))).bind fun y418 => ((doc_Invert.f bt410.1 bt410.2).bind fun bt422 => ((doc_Invert.f 0 y418).bind fun bt428 => (if (bt422.1.length : Int) = (bt428.1.length : Int) then (concordancelaw08_DocFields.j0 k bt422.1 bt422.2 ((bt422.2.length : Int) != (bt422.1.length : Int)) bt410.1 bt410.2 0 y418) else (concordancelaw08_DocFields.j0 k bt422.1 bt422.2 true bt410.1 bt410.2 0 y418))))) else (none)) else (none)) else ((concordancelaw08_lives.f k).bind fun t415 => (some t415)))) = some r := by first | (rw [hy407]; with_reducible exact H) | (have H2_ := (Option.bind_some _ _).symm.trans H; rw [hy407]; with_reducible exact H2_) | (have H2_ := (Option.bind_some _ _).symm.trans H; with_reducible exact H2_) | with_reducible exact H | (rw [hy407]; exact H) | exact H
  have Ny407 := Aside0.mk hy407
  clear hy407
  replace H := Option.bind_eq_some_iff.mp H
  obtain ⟨⟨t410, t411⟩, A30, H⟩ := H
  replace H : (if (t411.length : Int) = 2 then (if 0 < (t411.length : Int) then (if 1 < (t411.length : Int) then ((some (([(⟨(⟨#[117]⟩ : ByteArray), (rd_T29 t411 0).f1⟩ : S29), (⟨(⟨#[116]⟩ : ByteArray), (rd_T29 t411 1).f1⟩ : S29)] : List (S29)) : List (S29))).bind fun y418 => ((doc_Invert.f t410 t411).bind fun bt422 => ((doc_Invert.f 0 y418).bind fun bt428 => (if (bt422.1.length : Int) = (bt428.1.length : Int) then (concordancelaw08_DocFields.j0 k bt422.1 bt422.2 ((bt422.2.length : Int) != (bt422.1.length : Int)) t410 t411 0 y418) else (concordancelaw08_DocFields.j0 k bt422.1 bt422.2 true t410 t411 0 y418))))) else (none)) else (none)) else ((concordancelaw08_lives.f k).bind fun t415 => (some t415))) = some r := H
  have A3 := Aside0.mk A30
  clear A30
  by_cases c4 : (t411.length : Int) = 2
  · rw [if_pos c4] at H
    have c4b0 : ((t411.length : Int) == 2) = true := beq_iff_eq.mpr c4
    have c4b1 : ((t411.length : Int) != 2) = false := bne_eq_false_iff_eq.mpr c4
    clear c4
    by_cases c5 : 0 < (t411.length : Int)
    · rw [if_pos c5] at H
      have c5b0 : decide (0 < (t411.length : Int)) = true := decide_eq_true c5
      have c5b1 : decide (0 < t411.length) = true := decide_eq_true (by omega)
      clear c5
      by_cases c6 : 1 < (t411.length : Int)
      · rw [if_pos c6] at H
        have c6b0 : decide (1 < (t411.length : Int)) = true := decide_eq_true c6
        have c6b1 : decide (1 < t411.length) = true := decide_eq_true (by omega)
        clear c6
        obtain ⟨y418, hy418⟩ : ∃ y_ : List (S29), y_ = (([(⟨(⟨#[117]⟩ : ByteArray), (rd_T29 t411 0).f1⟩ : S29), (⟨(⟨#[116]⟩ : ByteArray), (rd_T29 t411 1).f1⟩ : S29)] : List (S29))) := ⟨_, rfl⟩
        replace H : ((doc_Invert.f t410 t411).bind fun bt422 => ((doc_Invert.f 0 y418).bind fun bt428 => (if (bt422.1.length : Int) = (bt428.1.length : Int) then (concordancelaw08_DocFields.j0 k bt422.1 bt422.2 ((bt422.2.length : Int) != (bt422.1.length : Int)) t410 t411 0 y418) else (concordancelaw08_DocFields.j0 k bt422.1 bt422.2 true t410 t411 0 y418)))) = some r := by first | (rw [hy418]; with_reducible exact H) | (have H2_ := (Option.bind_some _ _).symm.trans H; rw [hy418]; with_reducible exact H2_) | (have H2_ := (Option.bind_some _ _).symm.trans H; with_reducible exact H2_) | with_reducible exact H | (rw [hy418]; exact H) | exact H
        have Ny418 := Aside0.mk hy418
        clear hy418
        replace H := Option.bind_eq_some_iff.mp H
        obtain ⟨⟨t422, t425⟩, A70, H⟩ := H
        replace H : ((doc_Invert.f 0 y418).bind fun bt428 => (if (t422.length : Int) = (bt428.1.length : Int) then (concordancelaw08_DocFields.j0 k t422 t425 ((t425.length : Int) != (t422.length : Int)) t410 t411 0 y418) else (concordancelaw08_DocFields.j0 k t422 t425 true t410 t411 0 y418))) = some r := H
        have A7 := Aside0.mk A70
        clear A70
        replace H := Option.bind_eq_some_iff.mp H
        obtain ⟨⟨t428, t431⟩, A80, H⟩ := H
        replace H : (if (t422.length : Int) = (t428.length : Int) then (concordancelaw08_DocFields.j0 k t422 t425 ((t425.length : Int) != (t422.length : Int)) t410 t411 0 y418) else (concordancelaw08_DocFields.j0 k t422 t425 true t410 t411 0 y418)) = some r := H
        have A8 := Aside0.mk A80
        clear A80
        have HC9 := Aside0.mk H
        clear H
        go_enter Try.func6, Try.ntmps6
        try go_wp2_with (first | ((with_reducible refine gate_dst (N := 17) rfl ?_); (try (refine gate_guard (by rfl) ?_; dsimp only)); refine Kd.R_lit k29 _ 29 ?hg (N := 17) ?hd (xs := ([(⟨(⟨#[116]⟩ : ByteArray), a0⟩ : S29), (⟨(⟨#[117]⟩ : ByteArray), a1⟩ : S29)] : List (S29))) (inner := [.string (⟨#[116]⟩ : ByteArray), .string a0, .string (⟨#[117]⟩ : ByteArray), .string a1]) (ok := fun _ => True) (okp := fun _ => True) ?hr ?hp (fun _ hk => hk) trivial (Below.refl _ _) (Nat.le_refl _) (by simp) ?_; (case hd => rfl); (case hg => rfl); (case hr => first | (go_simp; done) | (go_simp; rfl)); (case hp => exact (Reps.c2 (show Kd.M k29 _ _ _ (⟨(⟨#[116]⟩ : ByteArray), a0⟩ : S29) [.string (⟨#[116]⟩ : ByteArray), .string a0] from (k29_mkM _ _ _ (⟨(⟨#[116]⟩ : ByteArray), a0⟩ : S29) )) (Reps.c2 (show Kd.M k29 _ _ _ (⟨(⟨#[117]⟩ : ByteArray), a1⟩ : S29) [.string (⟨#[117]⟩ : ByteArray), .string a1] from (k29_mkM _ _ _ (⟨(⟨#[117]⟩ : ByteArray), a1⟩ : S29) )) (Reps.none _ _)))); intro v408 w10 ho11 hb hg_ hnew_; clear hg_ hnew_; (first | rw [← Ny407.out] at ho11 | (simp only [Int.reduceToNat] at ho11; rw [← Ny407.out] at ho11)); have n0_ := Aside0.mk (Kd.R_lower ho11 (below_size (by repeat (first | (with_reducible first | exact HB.out | apply below_alloc | apply pw_below_drewN | apply below_drew1) | exact HB.out)))); have n1_ := Aside0.mk (below_step (by repeat (first | (with_reducible first | exact HB.out | apply below_alloc | apply pw_below_drewN | apply below_drew1) | exact HB.out)) hb); clear HB; have HO409 := n0_; have HB := n1_; clear n0_ n1_; clear hb ho11; obtain ⟨Ao12, co12, eo12⟩ := Kd.R_slice HO409.out; subst eo12) | ((with_reducible refine gate_callee (f := 7) rfl ?_); refine goesL_ (some 19) rfl rfl Try.func7 (by kernel_rfl) rfl #[.agg #[.int .i64 0, .slice Ao12 y407.length co12]] rfl (by (try simp only [List.map_toArray, List.map_cons, List.map_nil]); first | done | rfl | (simp only [List.length_drop, List.length_take]; rfl)) ?_; (with_reducible refine (concordanceref08_Good.calls k 0 _ _ y407 t410 t411 _ ?side1 ?side2 A3.out).mono ?_); (case side1 => repeat (first | exact (Kd.R_reads' HO409.out).2.2 | (with_reducible refine Kd.C_alloc ?_ _) | (with_reducible refine Kd.C_drewN ?_ _) | (with_reducible refine Kd.C_drew ?_))); (case side2 => exact (Kd.R_reads' HO409.out).2.1); rintro e w13 ⟨v412, rfl, ho0, hb⟩; refine ⟨_, rfl, ?_⟩; have n0_ := Aside0.mk (Kd.R_elder' (by (with_reducible repeat (first | apply Kd.R_alloc | apply Kd.R_drewN | apply Kd.R_drew)); exact HO409.out) (Kd.R_base ho0) hb); have n1_ := Aside0.mk (Kd.R_lower (Kd.R_new' ho0 (Kd.R_lt (by (with_reducible repeat (first | apply Kd.R_alloc | apply Kd.R_drewN | apply Kd.R_drew)); exact HO409.out))) (below_size (by repeat (first | (with_reducible first | exact HB.out | apply below_alloc | apply pw_below_drewN | apply below_drew1) | exact HB.out)))); have n2_ := Aside0.mk (below_step (by repeat (first | (with_reducible first | exact HB.out | apply below_alloc | apply pw_below_drewN | apply below_drew1) | exact HB.out)) hb); clear HO409; clear HB; have HO409 := n0_; have HO413 := n1_; have HB := n2_; clear n0_ n1_ n2_; (try clear hb); (try clear hb2); (try clear hk); (try clear hi); (try clear ho0)) | ((with_reducible refine gate_dst (N := 5) rfl ?_); (try (refine gate_guard (by rfl) ?_; dsimp only)); refine box_event ?hg (N := 5) ?hd (cs := #[.int .i64 0, .slice none 0 0]) (t := 24) ?hr ?_; (case hd => rfl); (case hg => rfl); (case hr => first | (go_simp; done) | (go_simp; rfl)); intro gb414 hg w14 hbox hb; have n0_ := Aside0.mk (Kd.R_below (by (with_reducible repeat (first | apply Kd.R_alloc | apply Kd.R_drewN | apply Kd.R_drew)); exact HO409.out) hb); have n1_ := Aside0.mk (Kd.R_below (by (with_reducible repeat (first | apply Kd.R_alloc | apply Kd.R_drewN | apply Kd.R_drew)); exact HO413.out) hb); have n2_ := Aside0.mk (below_step (by repeat (first | (with_reducible first | exact HB.out | apply below_alloc | apply pw_below_drewN | apply below_drew1) | exact HB.out)) hb); have n3_ := Aside0.mk (hbox); have n4_ := Aside0.mk ((by rw [hg]; exact (below_size (by repeat (first | (with_reducible first | exact HB.out | apply below_alloc | apply pw_below_drewN | apply below_drew1) | exact HB.out))) : w.heap.size ≤ gb414)); have n5_ := Aside0.mk ((by rw [hg]; exact (below_size (by repeat (first | (with_reducible first | exact HB.out | apply below_alloc | apply pw_below_drewN | apply below_drew1) | exact HB.out))) : w.heap.size ≤ gb414)); clear HO409; clear HO413; clear HB; have HO409 := n0_; have HO413 := n1_; have HB := n2_; have BK414 := n3_; have GW414 := n4_; have GE414 := n5_; clear n0_ n1_ n2_ n3_ n4_ n5_; clear hb hbox hg; have hcz15_0 : w14.cell? ⟨gb414, 0, none⟩ = some (.int .i64 0) := (blk_cell BK414.out 0).trans rfl; have hcz15_1 : w14.cell? ⟨gb414, 1, none⟩ = some (.slice none 0 0) := (blk_cell BK414.out 1).trans rfl; have hfz15_0 := blk_frozen BK414.out 0; have hfz15_1 := blk_frozen BK414.out 1; obtain ⟨Ao16, co16, eo16⟩ := Kd.R_slice HO413.out; subst eo16))
        have n0_ : Aside0 (Kd.R k29 29 ((w14.setCell ⟨gb414, 0, none⟩ (.int .i64 t410)).setCell ⟨gb414, 1, none⟩ (.slice Ao16 t411.length co16)) w.heap.size (fun k_ => some k_ ≠ (.slice Ao16 t411.length co16 : Value).ownBlock) (.slice Ao12 y407.length co12) y407) := ⟨by (with_reducible repeat (first | apply Kd.R_alloc | apply Kd.R_drewN | apply Kd.R_drew)); exact Kd.R_mono (Kd.R_far (p := ⟨gb414, 1, none⟩) (Kd.R_far (p := ⟨gb414, 0, none⟩) (Kd.R_types HO409.out BK414.out (by decide)) (fun _ hk => hk.2) (.int .i64 t410)) (fun _ hk => hk.2) (.slice Ao16 t411.length co16)) (fun _ hk => hk.1.2)⟩
        have n1_ : Aside0 (Kd.R k29 29 ((w14.setCell ⟨gb414, 0, none⟩ (.int .i64 t410)).setCell ⟨gb414, 1, none⟩ (.slice Ao16 t411.length co16)) w.heap.size (fun k_ => some k_ ≠ (.slice Ao12 y407.length co12 : Value).ownBlock) (.slice Ao16 t411.length co16) t411) := ⟨by (with_reducible repeat (first | apply Kd.R_alloc | apply Kd.R_drewN | apply Kd.R_drew)); exact Kd.R_mono (Kd.R_far (p := ⟨gb414, 1, none⟩) (Kd.R_far (p := ⟨gb414, 0, none⟩) (Kd.R_types HO413.out BK414.out (by decide)) (fun _ hk => hk.2) (.int .i64 t410)) (fun _ hk => hk.2) (.slice Ao16 t411.length co16)) (fun _ hk => hk.1.2)⟩
        have n2_ : Aside0 (((w14.setCell ⟨gb414, 0, none⟩ (.int .i64 t410)).setCell ⟨gb414, 1, none⟩ (.slice Ao16 t411.length co16)).heap[gb414]? = some (.cells #[.int .i64 t410, .slice Ao16 t411.length co16] 24 (0, 0))) := ⟨by (with_reducible repeat (first | refine blk_drewN ?_ _ | refine blk_drew ?_ | refine blk_alloc ?_ _)); refine blk_put (cs := #[.int .i64 t410, .slice none 0 0]) ?_ 1 _ rfl; (with_reducible repeat (first | refine blk_drewN ?_ _ | refine blk_drew ?_ | refine blk_alloc ?_ _)); refine blk_put (cs := #[.int .i64 0, .slice none 0 0]) ?_ 0 _ rfl; (with_reducible repeat (first | refine blk_drewN ?_ _ | refine blk_drew ?_ | refine blk_alloc ?_ _)); exact BK414.out⟩
        have n3_ : Aside0 (Below w.heap.size w ((w14.setCell ⟨gb414, 0, none⟩ (.int .i64 t410)).setCell ⟨gb414, 1, none⟩ (.slice Ao16 t411.length co16))) := ⟨by repeat (first | (with_reducible first | exact HB.out | apply below_alloc | apply pw_below_drewN | apply below_drew1 | refine below_set ?_ GE414.out) | exact HB.out)⟩
        (try clear HO409)
        (try clear HO413)
        (try clear BK414)
        (try clear HB)
        generalize ((w14.setCell ⟨gb414, 0, none⟩ (.int .i64 t410)).setCell ⟨gb414, 1, none⟩ (.slice Ao16 t411.length co16)) = w17 at n0_ n1_ n2_ n3_ ⊢
        have HO409 := n0_
        have HO413 := n1_
        have BK414 := n2_
        have HB := n3_
        clear n0_ n1_ n2_ n3_
        have n0_ := Aside0.mk (Kd.R_drew HO409.out)
        have n1_ := Aside0.mk (Kd.R_drew HO413.out)
        have n2_ := Aside0.mk (blk_drew BK414.out)
        have n3_ := Aside0.mk (below_drew1 HB.out)
        clear HO409
        clear HO413
        clear BK414
        clear HB
        have HO409 := n0_
        have HO413 := n1_
        have BK414 := n2_
        have HB := n3_
        clear n0_ n1_ n2_ n3_
        have p416 : 0 ≤ (0 : Int) := (by omega)
        have q416 : 0 < (t411.length : Int) := of_decide_eq_true (by first | (with_reducible assumption) | assumption)
        obtain ⟨ad416, e416, hx416_0, hx416_1⟩ := at_T29 (Kd.R_reads' HO413.out).2.2 0 p416 q416
        cases e416
        have qi416 : (0 < t411.length) = True := eq_true (by omega)
        (try rw [show ((0 : Int)).toNat = 0 from rfl] at hx416_0)
        (try rw [show 0 * 2 = 0 from rfl] at hx416_0)
        (try rw [Addr.add_zero'] at hx416_0)
        (try rw [show ((0 : Int)).toNat = 0 from rfl] at hx416_1)
        (try rw [show 0 * 2 = 0 from rfl] at hx416_1)
        (try rw [Addr.add_zero'] at hx416_1)
        replace p416 := eq_true p416
        replace q416 := eq_true q416
        have p417 : 0 ≤ (1 : Int) := (by omega)
        have q417 : 1 < (t411.length : Int) := of_decide_eq_true (by first | (with_reducible assumption) | assumption)
        obtain ⟨ad417, e417, hx417_0, hx417_1⟩ := at_T29 (Kd.R_reads' HO413.out).2.2 1 p417 q417
        obtain rfl : ad416 = ad417 := (by injection e417)
        (try simp only [show (1 : Int).toNat = 1 from rfl, Nat.reduceMul, Nat.reduceEqDiff, Go.Addr.add, ↓reduceIte] at hx417_0)
        (try simp only [show (1 : Int).toNat = 1 from rfl, Nat.reduceMul, Nat.reduceEqDiff, Go.Addr.add, ↓reduceIte] at hx417_1)
        have qi417 : (1 < t411.length) = True := eq_true (by omega)
        (try rw [show ((1 : Int)).toNat = 1 from rfl] at hx417_0)
        (try rw [show 1 * 2 = 2 from rfl] at hx417_0)
        (try rw [show ((1 : Int)).toNat = 1 from rfl] at hx417_1)
        (try rw [show 1 * 2 = 2 from rfl] at hx417_1)
        replace p417 := eq_true p417
        replace q417 := eq_true q417
        refine start_ (n := 16) (S := fun w' => w'.cell? ⟨gb414, 0, none⟩ = some (.int .i64 t410) ∧ w'.cell? ⟨gb414, 1, none⟩ = some (.slice (some ad416) t411.length co16) ∧ w'.cell? ad416 = some (.string ((rd_T29 t411 0).f0)) ∧ w'.cell? ⟨ad416.block, ad416.off + 1, none⟩ = some (.string ((rd_T29 t411 0).f1)) ∧ w'.cell? ⟨ad416.block, ad416.off + 2, none⟩ = some (.string ((rd_T29 t411 1).f0)) ∧ w'.cell? ⟨ad416.block, ad416.off + 2 + 1, none⟩ = some (.string ((rd_T29 t411 1).f1))) (ds := []) #[false, false, false, false, false, false, false, false, false, false, false, false, false, false, false, false] (by kernel_rfl) rfl rfl ⟨(blk_cell BK414.out 0).trans rfl, (blk_cell BK414.out 1).trans rfl, hx416_0, hx416_1, hx417_0, hx417_1⟩ (fun hHeld => ?_); refine with_tabW concordancelaw08_DocFields.tab4 concordancelaw08_DocFields.bits4 (fun HT_ HW_ => ?_)
        generalize w17.drew = w18 at HO409 HO413 BK414 HB hx416_0 hx416_1 hx417_0 hx417_1 hHeld ⊢
        refine pure_ (i := 0) (N := some 25) (v := ?_) (a' := ?_) #[true, false, false, false, false, false, false, false, false, false, false, false, false, false, false, false] rfl rfl (any_of HT_.out (by kernel_rfl)) (fun _ _ _ h => h) (Or.inl ⟨by rfl, ?_⟩) ?_ ?_
        rotate_left
        · intro w'
          go_simp
          with_reducible rfl
        rotate_left
        · simp only [Act.put, List.setIfInBounds_toArray, List.set_cons_zero, List.set_cons_succ, i64_w, i32_w]
          rfl
        refine pure_ (i := 6) (N := some 31) (v := ?_) (a' := ?_) #[true, false, false, false, false, false, true, false, false, false, false, false, false, false, false, false] rfl rfl (any_of HT_.out (by kernel_rfl)) (fun _ _ _ h => h) (Or.inl ⟨by rfl, ?_⟩) ?_ ?_
        rotate_left
        · intro w'
          go_simp
          with_reducible rfl
        rotate_left
        · simp only [Act.put, List.setIfInBounds_toArray, List.set_cons_zero, List.set_cons_succ, i64_w, i32_w]
          rfl
        refine take_ (i := 1) (N := some 26) (v := ?_) (a' := ?_) #[true, true, false, false, false, false, true, false, false, false, false, false, false, false, false, false] rfl rfl (take_ofW HT_.out HW_.out (by kernel_rfl)) (fun _ _ _ h => h) (Or.inl ⟨by rfl, ?_⟩) hHeld ?_ ?_
        rotate_left
        · rintro w' ⟨s0, s1, s2, s3, s4, s5⟩
          go_simp
          with_reducible rfl
        rotate_left
        · simp only [Act.put, List.setIfInBounds_toArray, List.set_cons_zero, List.set_cons_succ, i64_w, i32_w]
          rfl
        refine pure_ (i := 2) (N := some 27) (v := ?_) (a' := ?_) #[true, true, true, false, false, false, true, false, false, false, false, false, false, false, false, false] rfl rfl (any_of HT_.out (by kernel_rfl)) (fun _ _ _ h => h) (Or.inl ⟨by rfl, ?_⟩) ?_ ?_
        rotate_left
        · intro w'
          go_simp
          with_reducible rfl
        rotate_left
        · simp only [Act.put, List.setIfInBounds_toArray, List.set_cons_zero, List.set_cons_succ, i64_w, i32_w]
          rfl
        refine pure_ (i := 3) (N := some 28) (v := ?_) (a' := ?_) #[true, true, true, true, false, false, true, false, false, false, false, false, false, false, false, false] rfl rfl (any_of HT_.out (by kernel_rfl)) (fun _ _ _ h => h) (Or.inl ⟨by rfl, ?_⟩) ?_ ?_
        rotate_left
        · intro w'
          go_simp
          with_reducible rfl
        rotate_left
        · simp only [Act.put, List.setIfInBounds_toArray, List.set_cons_zero, List.set_cons_succ, i64_w, i32_w]
          rfl
        refine take_ (i := 4) (N := some 29) (v := ?_) (a' := ?_) #[true, true, true, true, true, false, true, false, false, false, false, false, false, false, false, false] rfl rfl (take_ofW HT_.out HW_.out (by kernel_rfl)) (fun _ _ _ h => h) (Or.inl ⟨by rfl, ?_⟩) hHeld ?_ ?_
        rotate_left
        · rintro w' ⟨s0, s1, s2, s3, s4, s5⟩
          go_simp
          with_reducible rfl
        rotate_left
        · simp only [Act.put, List.setIfInBounds_toArray, List.set_cons_zero, List.set_cons_succ, i64_w, i32_w]
          rfl
        refine pure_ (i := 5) (N := some 30) (v := ?_) (a' := ?_) #[true, true, true, true, true, true, true, false, false, false, false, false, false, false, false, false] rfl rfl (any_of HT_.out (by kernel_rfl)) (fun _ _ _ h => h) (Or.inl ⟨by rfl, ?_⟩) ?_ ?_
        rotate_left
        · intro w'
          go_simp
          with_reducible rfl
        rotate_left
        · simp only [Act.put, List.setIfInBounds_toArray, List.set_cons_zero, List.set_cons_succ, i64_w, i32_w]
          rfl
        refine take_ (i := 7) (N := some 32) (v := ?_) (a' := ?_) #[true, true, true, true, true, true, true, true, false, false, false, false, false, false, false, false] rfl rfl (take_ofW HT_.out HW_.out (by kernel_rfl)) (fun _ _ _ h => h) (Or.inl ⟨by rfl, ?_⟩) hHeld ?_ ?_
        rotate_left
        · rintro w' ⟨s0, s1, s2, s3, s4, s5⟩
          go_simp
          with_reducible rfl
        rotate_left
        · simp only [Act.put, List.setIfInBounds_toArray, List.set_cons_zero, List.set_cons_succ, i64_w, i32_w]
          rfl
        refine pure_ (i := 8) (N := some 33) (v := ?_) (a' := ?_) #[true, true, true, true, true, true, true, true, true, false, false, false, false, false, false, false] rfl rfl (any_of HT_.out (by kernel_rfl)) (fun _ _ _ h => h) (Or.inl ⟨by rfl, ?_⟩) ?_ ?_
        rotate_left
        · intro w'
          go_simp
          with_reducible rfl
        rotate_left
        · simp only [Act.put, List.setIfInBounds_toArray, List.set_cons_zero, List.set_cons_succ, i64_w, i32_w]
          rfl
        refine pure_ (i := 9) (N := some 34) (v := ?_) (a' := ?_) #[true, true, true, true, true, true, true, true, true, true, false, false, false, false, false, false] rfl rfl (any_of HT_.out (by kernel_rfl)) (fun _ _ _ h => h) (Or.inl ⟨by rfl, ?_⟩) ?_ ?_
        rotate_left
        · intro w'
          go_simp
          with_reducible rfl
        rotate_left
        · simp only [Act.put, List.setIfInBounds_toArray, List.set_cons_zero, List.set_cons_succ, i64_w, i32_w]
          rfl
        refine take_ (i := 10) (N := some 35) (v := ?_) (a' := ?_) #[true, true, true, true, true, true, true, true, true, true, true, false, false, false, false, false] rfl rfl (take_ofW HT_.out HW_.out (by kernel_rfl)) (fun _ _ _ h => h) (Or.inl ⟨by rfl, ?_⟩) hHeld ?_ ?_
        rotate_left
        · rintro w' ⟨s0, s1, s2, s3, s4, s5⟩
          go_simp
          with_reducible rfl
        rotate_left
        · simp only [Act.put, List.setIfInBounds_toArray, List.set_cons_zero, List.set_cons_succ, i64_w, i32_w]
          rfl
        refine pure_ (i := 11) (N := some 36) (v := ?_) (a' := ?_) #[true, true, true, true, true, true, true, true, true, true, true, true, false, false, false, false] rfl rfl (any_of HT_.out (by kernel_rfl)) (fun _ _ _ h => h) (Or.inl ⟨by rfl, ?_⟩) ?_ ?_
        rotate_left
        · intro w'
          go_simp
          with_reducible rfl
        rotate_left
        · simp only [Act.put, List.setIfInBounds_toArray, List.set_cons_zero, List.set_cons_succ, i64_w, i32_w]
          rfl
        refine join_ (σ := Value × Nat) 1 #[true, true, true, true, true, true, true, true, true, true, true, true, true, true, true, false] (fun s_ => [(37, s_.1), (6, .pointer (some ⟨s_.2, 0, none⟩)), (38, .agg #[.int .i64 0, s_.1])]) (fun s_ w' => (w'.cell? ⟨gb414, 0, none⟩ = some (.int .i64 t410) ∧ w'.cell? ⟨gb414, 1, none⟩ = some (.slice (some ad416) t411.length co16) ∧ w'.cell? ad416 = some (.string ((rd_T29 t411 0).f0)) ∧ w'.cell? ⟨ad416.block, ad416.off + 1, none⟩ = some (.string ((rd_T29 t411 0).f1)) ∧ w'.cell? ⟨ad416.block, ad416.off + 2, none⟩ = some (.string ((rd_T29 t411 1).f0)) ∧ w'.cell? ⟨ad416.block, ad416.off + 2 + 1, none⟩ = some (.string ((rd_T29 t411 1).f1))) ∧ (Kd.R k29 29 w' w.heap.size (fun k_ => some k_ ≠ (.slice (some ad416) t411.length co16 : Value).ownBlock ∧ some k_ ≠ (s_.1 : Value).ownBlock) (.slice Ao12 y407.length co12) y407) ∧ (Kd.R k29 29 w' w.heap.size (fun k_ => some k_ ≠ (.slice Ao12 y407.length co12 : Value).ownBlock ∧ some k_ ≠ (s_.1 : Value).ownBlock) (.slice (some ad416) t411.length co16) t411) ∧ (Kd.R k29 29 w' w.heap.size (fun k_ => some k_ ≠ (.slice Ao12 y407.length co12 : Value).ownBlock ∧ some k_ ≠ (.slice (some ad416) t411.length co16 : Value).ownBlock) s_.1 y418) ∧ (w'.heap[gb414]? = some (.cells #[.int .i64 t410, .slice (some ad416) t411.length co16] 24 (0, 0))) ∧ (w'.heap[s_.2]? = some (.cells #[.int .i64 0, .slice none 0 0] 24 (0, 0))) ∧ (w.heap.size ≤ s_.2) ∧ (w.heap.size ≤ s_.2) ∧ (gb414 ≠ s_.2) ∧ (s_.2 ≠ gb414) ∧ (Below w.heap.size w w')) ?_ ?_
        rotate_left
        · intro hCont
          refine two_ (i := 12) (j := 14) (Ni := some 37) (Nj := some 6) #[true, true, true, true, true, true, true, true, true, true, true, true, true, false, false, false] #[true, true, true, true, true, true, true, true, true, true, true, true, false, false, true, false] rfl rfl rfl rfl (two_of HT_.out (by kernel_rfl)) (by decide) (by decide) (fun K hK => ?_) (fun K hK => ?_)
          · skip
            refine Kd.R_lit_step k29 _ 29 ?hg (N := 37) ?hd (xs := ([(⟨(⟨#[117]⟩ : ByteArray), (rd_T29 t411 0).f1⟩ : S29), (⟨(⟨#[116]⟩ : ByteArray), (rd_T29 t411 1).f1⟩ : S29)] : List (S29))) (inner := [.string (⟨#[117]⟩ : ByteArray), .string ((rd_T29 t411 0).f1), .string (⟨#[116]⟩ : ByteArray), .string ((rd_T29 t411 1).f1)]) (ok := fun _ => True) (okp := fun _ => True) ?hr ?hp (fun _ hk => hk) trivial (Below.refl _ _) (Nat.le_refl _) (by simp) ?_; (case hd => rfl); (case hg => rfl); (case hr => first | (go_simp; done) | (go_simp; rfl)); (case hp => exact (Reps.c2 (show Kd.M k29 _ _ _ (⟨(⟨#[117]⟩ : ByteArray), (rd_T29 t411 0).f1⟩ : S29) [.string (⟨#[117]⟩ : ByteArray), .string ((rd_T29 t411 0).f1)] from (k29_mkM _ _ _ (⟨(⟨#[117]⟩ : ByteArray), (rd_T29 t411 0).f1⟩ : S29) )) (Reps.c2 (show Kd.M k29 _ _ _ (⟨(⟨#[116]⟩ : ByteArray), (rd_T29 t411 1).f1⟩ : S29) [.string (⟨#[116]⟩ : ByteArray), .string ((rd_T29 t411 1).f1)] from (k29_mkM _ _ _ (⟨(⟨#[116]⟩ : ByteArray), (rd_T29 t411 1).f1⟩ : S29) )) (Reps.none _ _))))
            intro v419 w19 ho20 hb hg_ hnew_
            have HS2_ := (hb.cell (World.block_lt_of_cell? _ _ (hHeld.2.2.1))).trans (hHeld.2.2.1)
            have HS3_ := (hb.cell (World.block_lt_of_cell? _ _ (hHeld.2.2.2.1))).trans (hHeld.2.2.2.1)
            have HS4_ := (hb.cell (World.block_lt_of_cell? _ _ (hHeld.2.2.2.2.1))).trans (hHeld.2.2.2.2.1)
            have HS5_ := (hb.cell (World.block_lt_of_cell? _ _ (hHeld.2.2.2.2.2))).trans (hHeld.2.2.2.2.2)
            clear hg_ hnew_
            (first | rw [← Ny418.out] at ho20 | (simp only [Int.reduceToNat] at ho20; rw [← Ny418.out] at ho20))
            have n0_ := Aside0.mk (Kd.R_elder' (by (with_reducible repeat (first | apply Kd.R_alloc | apply Kd.R_drewN | apply Kd.R_drew)); exact HO409.out) (Kd.R_base ho20) hb)
            have n1_ := Aside0.mk (Kd.R_elder' (by (with_reducible repeat (first | apply Kd.R_alloc | apply Kd.R_drewN | apply Kd.R_drew)); exact HO413.out) (Kd.R_base ho20) hb)
            have n2_ := Aside0.mk (Kd.R_lower (Kd.R_new' (Kd.R_new' ho20 (Kd.R_lt (by (with_reducible repeat (first | apply Kd.R_alloc | apply Kd.R_drewN | apply Kd.R_drew)); exact HO409.out))) (Kd.R_lt (by (with_reducible repeat (first | apply Kd.R_alloc | apply Kd.R_drewN | apply Kd.R_drew)); exact HO413.out))) (below_size (by repeat (first | (with_reducible first | exact HB.out | apply below_alloc | apply pw_below_drewN | apply below_drew1 | refine below_set ?_ GE414.out) | exact HB.out))))
            have n3_ := Aside0.mk (blk_below (g := gb414) (o := .cells #[.int .i64 t410, .slice (some ad416) t411.length co16] 24 (0, 0)) (by (with_reducible repeat (first | refine blk_drewN ?_ _ | refine blk_drew ?_ | refine blk_alloc ?_ _)); exact BK414.out) hb)
            have n4_ := Aside0.mk (below_step (by repeat (first | (with_reducible first | exact HB.out | apply below_alloc | apply pw_below_drewN | apply below_drew1 | refine below_set ?_ GE414.out) | exact HB.out)) hb)
            clear HO409
            clear HO413
            clear BK414
            clear HB
            have HO409 := n0_
            have HO413 := n1_
            have HO420 := n2_
            have BK414 := n3_
            have HB := n4_
            clear n0_ n1_ n2_ n3_ n4_
            clear hb ho20
            obtain ⟨Ao21, co21, eo21⟩ := Kd.R_slice HO420.out
            (first | subst eo21 | (injection eo21 with f1_ f2_ f3_; have f4_ := f1_.symm; have f5_ := f3_.symm; clear f1_ f2_ f3_; subst f4_; subst f5_))
            refine hK.out _ _ ⟨(blk_cell BK414.out 0).trans rfl, (blk_cell BK414.out 1).trans rfl, HS2_, HS3_, HS4_, HS5_⟩ (fun hHeld => ?_)
            clear hK K
            refine norm_ (a' := ?_) ?_ ?_
            rotate_left
            · show Act.put _ (some 37) _ = _
              simp only [Act.put, List.setIfInBounds_toArray, List.set_cons_zero, List.set_cons_succ, i64_w, i32_w]
              rfl
            refine pure_ (i := 13) (N := some 38) (v := ?_) (a' := ?_) #[true, true, true, true, true, true, true, true, true, true, true, true, true, true, false, false] rfl rfl (any_of HT_.out (by kernel_rfl)) (fun _ _ _ h => h) (Or.inl ⟨by rfl, ?_⟩) ?_ ?_
            rotate_left
            · intro w'
              go_simp
              with_reducible rfl
            rotate_left
            · simp only [Act.put, List.setIfInBounds_toArray, List.set_cons_zero, List.set_cons_succ, i64_w, i32_w]
              rfl
            refine one_ (i := 14) (N := some 6) #[true, true, true, true, true, true, true, true, true, true, true, true, true, true, true, false] rfl rfl (one_of HT_.out (by kernel_rfl)) (by decide) (fun K hK => ?_)
            refine box_step ?hg (N := 6) ?hd (cs := #[.int .i64 0, .slice none 0 0]) (t := 24) ?hr ?_; (case hd => rfl); (case hg => rfl); (case hr => first | (go_simp; done) | (go_simp; rfl))
            intro gb421 hg w22 hbox hb
            have HS2_ := (hb.cell (World.block_lt_of_cell? _ _ (hHeld.2.2.1))).trans (hHeld.2.2.1)
            have HS3_ := (hb.cell (World.block_lt_of_cell? _ _ (hHeld.2.2.2.1))).trans (hHeld.2.2.2.1)
            have HS4_ := (hb.cell (World.block_lt_of_cell? _ _ (hHeld.2.2.2.2.1))).trans (hHeld.2.2.2.2.1)
            have HS5_ := (hb.cell (World.block_lt_of_cell? _ _ (hHeld.2.2.2.2.2))).trans (hHeld.2.2.2.2.2)
            have n0_ := Aside0.mk (Kd.R_below (by (with_reducible repeat (first | apply Kd.R_alloc | apply Kd.R_drewN | apply Kd.R_drew)); exact HO409.out) hb)
            have n1_ := Aside0.mk (Kd.R_below (by (with_reducible repeat (first | apply Kd.R_alloc | apply Kd.R_drewN | apply Kd.R_drew)); exact HO413.out) hb)
            have n2_ := Aside0.mk (Kd.R_below (by (with_reducible repeat (first | apply Kd.R_alloc | apply Kd.R_drewN | apply Kd.R_drew)); exact HO420.out) hb)
            have n3_ := Aside0.mk (blk_below (g := gb414) (o := .cells #[.int .i64 t410, .slice (some ad416) t411.length co16] 24 (0, 0)) (by (with_reducible repeat (first | refine blk_drewN ?_ _ | refine blk_drew ?_ | refine blk_alloc ?_ _)); exact BK414.out) hb)
            have n4_ := Aside0.mk (below_step (by repeat (first | (with_reducible first | exact HB.out | apply below_alloc | apply pw_below_drewN | apply below_drew1 | refine below_set ?_ GE414.out) | exact HB.out)) hb)
            have n5_ := Aside0.mk (hbox)
            have n6_ := Aside0.mk ((by rw [hg]; exact (below_size (by repeat (first | (with_reducible first | exact HB.out | apply below_alloc | apply pw_below_drewN | apply below_drew1 | refine below_set ?_ GE414.out) | exact HB.out))) : w.heap.size ≤ gb421))
            have n7_ := Aside0.mk ((by rw [hg]; exact (below_size (by repeat (first | (with_reducible first | exact HB.out | apply below_alloc | apply pw_below_drewN | apply below_drew1 | refine below_set ?_ GE414.out) | exact HB.out))) : w.heap.size ≤ gb421))
            have n8_ := Aside0.mk ((by rw [hg]; exact Nat.ne_of_lt (blk_lt (g := gb414) (o := .cells #[.int .i64 t410, .slice (some ad416) t411.length co16] 24 (0, 0)) (by (with_reducible repeat (first | refine blk_drewN ?_ _ | refine blk_drew ?_ | refine blk_alloc ?_ _)); exact BK414.out)) : gb414 ≠ gb421))
            have n9_ := Aside0.mk ((by rw [hg]; exact Nat.ne_of_gt (blk_lt (g := gb414) (o := .cells #[.int .i64 t410, .slice (some ad416) t411.length co16] 24 (0, 0)) (by (with_reducible repeat (first | refine blk_drewN ?_ _ | refine blk_drew ?_ | refine blk_alloc ?_ _)); exact BK414.out)) : gb421 ≠ gb414))
            clear HO409
            clear HO413
            clear HO420
            clear BK414
            clear HB
            have HO409 := n0_
            have HO413 := n1_
            have HO420 := n2_
            have BK414 := n3_
            have HB := n4_
            have BK421 := n5_
            have GW421 := n6_
            have GE421 := n7_
            have NB414_421 := n8_
            have NB421_414 := n9_
            clear n0_ n1_ n2_ n3_ n4_ n5_ n6_ n7_ n8_ n9_
            clear hb hbox hg
            refine hK.out _ _ ⟨(blk_cell BK414.out 0).trans rfl, (blk_cell BK414.out 1).trans rfl, HS2_, HS3_, HS4_, HS5_⟩ (fun hHeld => ?_)
            clear hK K
            refine norm_ (a' := ?_) ?_ ?_
            rotate_left
            · show Act.put _ (some 6) _ = _
              simp only [Act.put, List.setIfInBounds_toArray, List.set_cons_zero, List.set_cons_succ, i64_w, i32_w]
              rfl
            exact norm_ (by simp only [putAll, Act.put, List.setIfInBounds_toArray, List.set_cons_zero, List.set_cons_succ]) (hCont (.slice Ao21 y418.length co21, gb421) _ ⟨hHeld, (by (with_reducible repeat (first | apply Kd.R_alloc | apply Kd.R_drewN | apply Kd.R_drew)); exact HO409.out), (by (with_reducible repeat (first | apply Kd.R_alloc | apply Kd.R_drewN | apply Kd.R_drew)); exact HO413.out), (by (with_reducible repeat (first | apply Kd.R_alloc | apply Kd.R_drewN | apply Kd.R_drew)); exact Kd.R_mono HO420.out (fun _ hk => ⟨hk.1.2, hk.2⟩)), (by (with_reducible repeat (first | refine blk_drewN ?_ _ | refine blk_drew ?_ | refine blk_alloc ?_ _)); exact BK414.out), (by (with_reducible repeat (first | refine blk_drewN ?_ _ | refine blk_drew ?_ | refine blk_alloc ?_ _)); exact BK421.out), GW421.out, GE421.out, NB414_421.out, NB421_414.out, (by repeat (first | (with_reducible first | exact HB.out | apply below_alloc | apply pw_below_drewN | apply below_drew1 | refine below_set ?_ GE414.out | refine below_set ?_ GE421.out) | exact HB.out))⟩)
          · skip
            refine box_step ?hg (N := 6) ?hd (cs := #[.int .i64 0, .slice none 0 0]) (t := 24) ?hr ?_; (case hd => rfl); (case hg => rfl); (case hr => first | (go_simp; done) | (go_simp; rfl))
            intro gb421 hg w19 hbox hb
            have HS2_ := (hb.cell (World.block_lt_of_cell? _ _ (hHeld.2.2.1))).trans (hHeld.2.2.1)
            have HS3_ := (hb.cell (World.block_lt_of_cell? _ _ (hHeld.2.2.2.1))).trans (hHeld.2.2.2.1)
            have HS4_ := (hb.cell (World.block_lt_of_cell? _ _ (hHeld.2.2.2.2.1))).trans (hHeld.2.2.2.2.1)
            have HS5_ := (hb.cell (World.block_lt_of_cell? _ _ (hHeld.2.2.2.2.2))).trans (hHeld.2.2.2.2.2)
            have n0_ := Aside0.mk (Kd.R_below (by (with_reducible repeat (first | apply Kd.R_alloc | apply Kd.R_drewN | apply Kd.R_drew)); exact HO409.out) hb)
            have n1_ := Aside0.mk (Kd.R_below (by (with_reducible repeat (first | apply Kd.R_alloc | apply Kd.R_drewN | apply Kd.R_drew)); exact HO413.out) hb)
            have n2_ := Aside0.mk (blk_below (g := gb414) (o := .cells #[.int .i64 t410, .slice (some ad416) t411.length co16] 24 (0, 0)) (by (with_reducible repeat (first | refine blk_drewN ?_ _ | refine blk_drew ?_ | refine blk_alloc ?_ _)); exact BK414.out) hb)
            have n3_ := Aside0.mk (below_step (by repeat (first | (with_reducible first | exact HB.out | apply below_alloc | apply pw_below_drewN | apply below_drew1 | refine below_set ?_ GE414.out) | exact HB.out)) hb)
            have n4_ := Aside0.mk (hbox)
            have n5_ := Aside0.mk ((by rw [hg]; exact (below_size (by repeat (first | (with_reducible first | exact HB.out | apply below_alloc | apply pw_below_drewN | apply below_drew1 | refine below_set ?_ GE414.out) | exact HB.out))) : w.heap.size ≤ gb421))
            have n6_ := Aside0.mk ((by rw [hg]; exact (below_size (by repeat (first | (with_reducible first | exact HB.out | apply below_alloc | apply pw_below_drewN | apply below_drew1 | refine below_set ?_ GE414.out) | exact HB.out))) : w.heap.size ≤ gb421))
            have n7_ := Aside0.mk ((by rw [hg]; exact Nat.ne_of_lt (blk_lt (g := gb414) (o := .cells #[.int .i64 t410, .slice (some ad416) t411.length co16] 24 (0, 0)) (by (with_reducible repeat (first | refine blk_drewN ?_ _ | refine blk_drew ?_ | refine blk_alloc ?_ _)); exact BK414.out)) : gb414 ≠ gb421))
            have n8_ := Aside0.mk ((by rw [hg]; exact Nat.ne_of_gt (blk_lt (g := gb414) (o := .cells #[.int .i64 t410, .slice (some ad416) t411.length co16] 24 (0, 0)) (by (with_reducible repeat (first | refine blk_drewN ?_ _ | refine blk_drew ?_ | refine blk_alloc ?_ _)); exact BK414.out)) : gb421 ≠ gb414))
            clear HO409
            clear HO413
            clear BK414
            clear HB
            have HO409 := n0_
            have HO413 := n1_
            have BK414 := n2_
            have HB := n3_
            have BK421 := n4_
            have GW421 := n5_
            have GE421 := n6_
            have NB414_421 := n7_
            have NB421_414 := n8_
            clear n0_ n1_ n2_ n3_ n4_ n5_ n6_ n7_ n8_
            clear hb hbox hg
            refine hK.out _ _ ⟨(blk_cell BK414.out 0).trans rfl, (blk_cell BK414.out 1).trans rfl, HS2_, HS3_, HS4_, HS5_⟩ (fun hHeld => ?_)
            clear hK K
            refine norm_ (a' := ?_) ?_ ?_
            rotate_left
            · show Act.put _ (some 6) _ = _
              simp only [Act.put, List.setIfInBounds_toArray, List.set_cons_zero, List.set_cons_succ, i64_w, i32_w]
              rfl
            refine one_ (i := 12) (N := some 37) #[true, true, true, true, true, true, true, true, true, true, true, true, true, false, true, false] rfl rfl (one_of HT_.out (by kernel_rfl)) (by decide) (fun K hK => ?_)
            refine Kd.R_lit_step k29 _ 29 ?hg (N := 37) ?hd (xs := ([(⟨(⟨#[117]⟩ : ByteArray), (rd_T29 t411 0).f1⟩ : S29), (⟨(⟨#[116]⟩ : ByteArray), (rd_T29 t411 1).f1⟩ : S29)] : List (S29))) (inner := [.string (⟨#[117]⟩ : ByteArray), .string ((rd_T29 t411 0).f1), .string (⟨#[116]⟩ : ByteArray), .string ((rd_T29 t411 1).f1)]) (ok := fun _ => True) (okp := fun _ => True) ?hr ?hp (fun _ hk => hk) trivial (Below.refl _ _) (Nat.le_refl _) (by simp) ?_; (case hd => rfl); (case hg => rfl); (case hr => first | (go_simp; done) | (go_simp; rfl)); (case hp => exact (Reps.c2 (show Kd.M k29 _ _ _ (⟨(⟨#[117]⟩ : ByteArray), (rd_T29 t411 0).f1⟩ : S29) [.string (⟨#[117]⟩ : ByteArray), .string ((rd_T29 t411 0).f1)] from (k29_mkM _ _ _ (⟨(⟨#[117]⟩ : ByteArray), (rd_T29 t411 0).f1⟩ : S29) )) (Reps.c2 (show Kd.M k29 _ _ _ (⟨(⟨#[116]⟩ : ByteArray), (rd_T29 t411 1).f1⟩ : S29) [.string (⟨#[116]⟩ : ByteArray), .string ((rd_T29 t411 1).f1)] from (k29_mkM _ _ _ (⟨(⟨#[116]⟩ : ByteArray), (rd_T29 t411 1).f1⟩ : S29) )) (Reps.none _ _))))
            intro v419 w20 ho21 hb hg_ hnew_
            have HS2_ := (hb.cell (World.block_lt_of_cell? _ _ (hHeld.2.2.1))).trans (hHeld.2.2.1)
            have HS3_ := (hb.cell (World.block_lt_of_cell? _ _ (hHeld.2.2.2.1))).trans (hHeld.2.2.2.1)
            have HS4_ := (hb.cell (World.block_lt_of_cell? _ _ (hHeld.2.2.2.2.1))).trans (hHeld.2.2.2.2.1)
            have HS5_ := (hb.cell (World.block_lt_of_cell? _ _ (hHeld.2.2.2.2.2))).trans (hHeld.2.2.2.2.2)
            clear hg_ hnew_
            (first | rw [← Ny418.out] at ho21 | (simp only [Int.reduceToNat] at ho21; rw [← Ny418.out] at ho21))
            have n0_ := Aside0.mk (Kd.R_elder' (by (with_reducible repeat (first | apply Kd.R_alloc | apply Kd.R_drewN | apply Kd.R_drew)); exact HO409.out) (Kd.R_base ho21) hb)
            have n1_ := Aside0.mk (Kd.R_elder' (by (with_reducible repeat (first | apply Kd.R_alloc | apply Kd.R_drewN | apply Kd.R_drew)); exact HO413.out) (Kd.R_base ho21) hb)
            have n2_ := Aside0.mk (Kd.R_lower (Kd.R_new' (Kd.R_new' ho21 (Kd.R_lt (by (with_reducible repeat (first | apply Kd.R_alloc | apply Kd.R_drewN | apply Kd.R_drew)); exact HO409.out))) (Kd.R_lt (by (with_reducible repeat (first | apply Kd.R_alloc | apply Kd.R_drewN | apply Kd.R_drew)); exact HO413.out))) (below_size (by repeat (first | (with_reducible first | exact HB.out | apply below_alloc | apply pw_below_drewN | apply below_drew1 | refine below_set ?_ GE414.out | refine below_set ?_ GE421.out) | exact HB.out))))
            have n3_ := Aside0.mk (blk_below (g := gb414) (o := .cells #[.int .i64 t410, .slice (some ad416) t411.length co16] 24 (0, 0)) (by (with_reducible repeat (first | refine blk_drewN ?_ _ | refine blk_drew ?_ | refine blk_alloc ?_ _)); exact BK414.out) hb)
            have n4_ := Aside0.mk (blk_below (g := gb421) (o := .cells #[.int .i64 0, .slice none 0 0] 24 (0, 0)) (by (with_reducible repeat (first | refine blk_drewN ?_ _ | refine blk_drew ?_ | refine blk_alloc ?_ _)); exact BK421.out) hb)
            have n5_ := Aside0.mk (below_step (by repeat (first | (with_reducible first | exact HB.out | apply below_alloc | apply pw_below_drewN | apply below_drew1 | refine below_set ?_ GE414.out | refine below_set ?_ GE421.out) | exact HB.out)) hb)
            clear HO409
            clear HO413
            clear BK414
            clear BK421
            clear HB
            have HO409 := n0_
            have HO413 := n1_
            have HO420 := n2_
            have BK414 := n3_
            have BK421 := n4_
            have HB := n5_
            clear n0_ n1_ n2_ n3_ n4_ n5_
            clear hb ho21
            obtain ⟨Ao22, co22, eo22⟩ := Kd.R_slice HO420.out
            (first | subst eo22 | (injection eo22 with f1_ f2_ f3_; have f4_ := f1_.symm; have f5_ := f3_.symm; clear f1_ f2_ f3_; subst f4_; subst f5_))
            refine hK.out _ _ ⟨(blk_cell BK414.out 0).trans rfl, (blk_cell BK414.out 1).trans rfl, HS2_, HS3_, HS4_, HS5_⟩ (fun hHeld => ?_)
            clear hK K
            refine norm_ (a' := ?_) ?_ ?_
            rotate_left
            · show Act.put _ (some 37) _ = _
              simp only [Act.put, List.setIfInBounds_toArray, List.set_cons_zero, List.set_cons_succ, i64_w, i32_w]
              rfl
            refine pure_ (i := 13) (N := some 38) (v := ?_) (a' := ?_) #[true, true, true, true, true, true, true, true, true, true, true, true, true, true, true, false] rfl rfl (any_of HT_.out (by kernel_rfl)) (fun _ _ _ h => h) (Or.inl ⟨by rfl, ?_⟩) ?_ ?_
            rotate_left
            · intro w'
              go_simp
              with_reducible rfl
            rotate_left
            · simp only [Act.put, List.setIfInBounds_toArray, List.set_cons_zero, List.set_cons_succ, i64_w, i32_w]
              rfl
            exact norm_ (by simp only [putAll, Act.put, List.setIfInBounds_toArray, List.set_cons_zero, List.set_cons_succ]) (hCont (.slice Ao22 y418.length co22, gb421) _ ⟨hHeld, (by (with_reducible repeat (first | apply Kd.R_alloc | apply Kd.R_drewN | apply Kd.R_drew)); exact HO409.out), (by (with_reducible repeat (first | apply Kd.R_alloc | apply Kd.R_drewN | apply Kd.R_drew)); exact HO413.out), (by (with_reducible repeat (first | apply Kd.R_alloc | apply Kd.R_drewN | apply Kd.R_drew)); exact Kd.R_mono HO420.out (fun _ hk => ⟨hk.1.2, hk.2⟩)), (by (with_reducible repeat (first | refine blk_drewN ?_ _ | refine blk_drew ?_ | refine blk_alloc ?_ _)); exact BK414.out), (by (with_reducible repeat (first | refine blk_drewN ?_ _ | refine blk_drew ?_ | refine blk_alloc ?_ _)); exact BK421.out), GW421.out, GE421.out, NB414_421.out, NB421_414.out, (by repeat (first | (with_reducible first | exact HB.out | apply below_alloc | apply pw_below_drewN | apply below_drew1 | refine below_set ?_ GE414.out | refine below_set ?_ GE421.out) | exact HB.out))⟩)
        rintro ⟨v419, gb421⟩ w23 ⟨hS_, h0_, h1_, h2_, h3_, h4_, h5_, h6_, h7_, h8_, h9_⟩
        have n0_ : Aside0 (Kd.R k29 29 w23 w.heap.size (fun k_ => some k_ ≠ (.slice (some ad416) t411.length co16 : Value).ownBlock ∧ some k_ ≠ (v419 : Value).ownBlock) (.slice Ao12 y407.length co12) y407) := ⟨h0_⟩
        have n1_ : Aside0 (Kd.R k29 29 w23 w.heap.size (fun k_ => some k_ ≠ (.slice Ao12 y407.length co12 : Value).ownBlock ∧ some k_ ≠ (v419 : Value).ownBlock) (.slice (some ad416) t411.length co16) t411) := ⟨h1_⟩
        have n2_ : Aside0 (Kd.R k29 29 w23 w.heap.size (fun k_ => some k_ ≠ (.slice Ao12 y407.length co12 : Value).ownBlock ∧ some k_ ≠ (.slice (some ad416) t411.length co16 : Value).ownBlock) v419 y418) := ⟨h2_⟩
        have n3_ : Aside0 (w23.heap[gb414]? = some (.cells #[.int .i64 t410, .slice (some ad416) t411.length co16] 24 (0, 0))) := ⟨h3_⟩
        have n4_ : Aside0 (w23.heap[gb421]? = some (.cells #[.int .i64 0, .slice none 0 0] 24 (0, 0))) := ⟨h4_⟩
        have n5_ : Aside0 (w.heap.size ≤ gb421) := ⟨h5_⟩
        have n6_ : Aside0 (w.heap.size ≤ gb421) := ⟨h6_⟩
        have n7_ : Aside0 (gb414 ≠ gb421) := ⟨h7_⟩
        have n8_ : Aside0 (gb421 ≠ gb414) := ⟨h8_⟩
        have n9_ : Aside0 (Below w.heap.size w w23) := ⟨h9_⟩
        clear HO409
        clear HO413
        clear BK414
        clear HB
        clear h0_ h1_ h2_ h3_ h4_ h5_ h6_ h7_ h8_ h9_
        have HO409 := n0_
        have HO413 := n1_
        have HO420 := n2_
        have BK414 := n3_
        have BK421 := n4_
        have GW421 := n5_
        have GE421 := n6_
        have NB414_421 := n7_
        have NB421_414 := n8_
        have HB := n9_
        clear n0_ n1_ n2_ n3_ n4_ n5_ n6_ n7_ n8_ n9_
        have hHeld : w23.cell? ⟨gb414, 0, none⟩ = some (.int .i64 t410) ∧ w23.cell? ⟨gb414, 1, none⟩ = some (.slice (some ad416) t411.length co16) ∧ w23.cell? ad416 = some (.string ((rd_T29 t411 0).f0)) ∧ w23.cell? ⟨ad416.block, ad416.off + 1, none⟩ = some (.string ((rd_T29 t411 0).f1)) ∧ w23.cell? ⟨ad416.block, ad416.off + 2, none⟩ = some (.string ((rd_T29 t411 1).f0)) ∧ w23.cell? ⟨ad416.block, ad416.off + 2 + 1, none⟩ = some (.string ((rd_T29 t411 1).f1)) := hS_
        obtain ⟨Ao24, co24, eo24⟩ := Kd.R_slice HO420.out
        (first | subst eo24 | (injection eo24 with f1_ f2_ f3_; have f4_ := f1_.symm; have f5_ := f3_.symm; clear f1_ f2_ f3_; subst f4_; subst f5_))
        refine norm_ (a' := ?_) ?_ ?_
        rotate_left
        · simp only [putAll, Act.put, List.setIfInBounds_toArray, List.set_cons_zero, List.set_cons_succ]
          rfl
        refine one_ (i := 15) (N := none) #[true, true, true, true, true, true, true, true, true, true, true, true, true, true, true, true] rfl rfl (one_of HT_.out (by kernel_rfl)) (by decide) (fun K hK => ?_)
        have hs25 : w23.cell? ⟨gb421, 0, none⟩ = some (.int .i64 0) := (blk_cell BK421.out 0).trans rfl
        have hfs25 := blk_frozen BK421.out 0
        have hns25_0 := NB414_421.out
        have hms25_0 := NB421_414.out
        have hs26 : w23.cell? ⟨gb421, 1, none⟩ = some (.slice none 0 0) := (blk_cell BK421.out 1).trans rfl
        have hfs26 := blk_frozen BK421.out 1
        have hns26_0 := NB414_421.out
        have hms26_0 := NB421_414.out
        refine skip_ (w1 := ?_) (by rfl) rfl ?_ ?_
        rotate_left
        · go_simp
          rfl
        refine hK.out _ _ ⟨((cell_far (p := ⟨gb421, _, none⟩) NB414_421.out _).trans (((cell_far (p := ⟨gb421, _, none⟩) NB414_421.out _).trans (hHeld.1)))), ((cell_far (p := ⟨gb421, _, none⟩) NB414_421.out _).trans (((cell_far (p := ⟨gb421, _, none⟩) NB414_421.out _).trans (hHeld.2.1)))), ((cell_far (p := ⟨gb421, _, none⟩) (by first | exact Kd.own_blk (Kd.R_ne HO413.out BK421.out (by decide)) | (rw [add_block]; exact Kd.own_blk (Kd.R_ne HO413.out BK421.out (by decide))) | (show (Addr.add _ _).block ≠ _; rw [add_block]; exact Kd.own_blk (Kd.R_ne HO413.out BK421.out (by decide))) | (dsimp only; exact Kd.own_blk (Kd.R_ne HO413.out BK421.out (by decide)))) _).trans (((cell_far (p := ⟨gb421, _, none⟩) (by first | exact Kd.own_blk (Kd.R_ne HO413.out BK421.out (by decide)) | (rw [add_block]; exact Kd.own_blk (Kd.R_ne HO413.out BK421.out (by decide))) | (show (Addr.add _ _).block ≠ _; rw [add_block]; exact Kd.own_blk (Kd.R_ne HO413.out BK421.out (by decide))) | (dsimp only; exact Kd.own_blk (Kd.R_ne HO413.out BK421.out (by decide)))) _).trans (hHeld.2.2.1)))), ((cell_far (p := ⟨gb421, _, none⟩) (by first | exact Kd.own_blk (Kd.R_ne HO413.out BK421.out (by decide)) | (rw [add_block]; exact Kd.own_blk (Kd.R_ne HO413.out BK421.out (by decide))) | (show (Addr.add _ _).block ≠ _; rw [add_block]; exact Kd.own_blk (Kd.R_ne HO413.out BK421.out (by decide))) | (dsimp only; exact Kd.own_blk (Kd.R_ne HO413.out BK421.out (by decide)))) _).trans (((cell_far (p := ⟨gb421, _, none⟩) (by first | exact Kd.own_blk (Kd.R_ne HO413.out BK421.out (by decide)) | (rw [add_block]; exact Kd.own_blk (Kd.R_ne HO413.out BK421.out (by decide))) | (show (Addr.add _ _).block ≠ _; rw [add_block]; exact Kd.own_blk (Kd.R_ne HO413.out BK421.out (by decide))) | (dsimp only; exact Kd.own_blk (Kd.R_ne HO413.out BK421.out (by decide)))) _).trans (hHeld.2.2.2.1)))), ((cell_far (p := ⟨gb421, _, none⟩) (by first | exact Kd.own_blk (Kd.R_ne HO413.out BK421.out (by decide)) | (rw [add_block]; exact Kd.own_blk (Kd.R_ne HO413.out BK421.out (by decide))) | (show (Addr.add _ _).block ≠ _; rw [add_block]; exact Kd.own_blk (Kd.R_ne HO413.out BK421.out (by decide))) | (dsimp only; exact Kd.own_blk (Kd.R_ne HO413.out BK421.out (by decide)))) _).trans (((cell_far (p := ⟨gb421, _, none⟩) (by first | exact Kd.own_blk (Kd.R_ne HO413.out BK421.out (by decide)) | (rw [add_block]; exact Kd.own_blk (Kd.R_ne HO413.out BK421.out (by decide))) | (show (Addr.add _ _).block ≠ _; rw [add_block]; exact Kd.own_blk (Kd.R_ne HO413.out BK421.out (by decide))) | (dsimp only; exact Kd.own_blk (Kd.R_ne HO413.out BK421.out (by decide)))) _).trans (hHeld.2.2.2.2.1)))), ((cell_far (p := ⟨gb421, _, none⟩) (by first | exact Kd.own_blk (Kd.R_ne HO413.out BK421.out (by decide)) | (rw [add_block]; exact Kd.own_blk (Kd.R_ne HO413.out BK421.out (by decide))) | (show (Addr.add _ _).block ≠ _; rw [add_block]; exact Kd.own_blk (Kd.R_ne HO413.out BK421.out (by decide))) | (dsimp only; exact Kd.own_blk (Kd.R_ne HO413.out BK421.out (by decide)))) _).trans (((cell_far (p := ⟨gb421, _, none⟩) (by first | exact Kd.own_blk (Kd.R_ne HO413.out BK421.out (by decide)) | (rw [add_block]; exact Kd.own_blk (Kd.R_ne HO413.out BK421.out (by decide))) | (show (Addr.add _ _).block ≠ _; rw [add_block]; exact Kd.own_blk (Kd.R_ne HO413.out BK421.out (by decide))) | (dsimp only; exact Kd.own_blk (Kd.R_ne HO413.out BK421.out (by decide)))) _).trans (hHeld.2.2.2.2.2))))⟩ (fun hHeld => ?_)
        clear hK K
        refine done_ (done_of HT_.out (by kernel_rfl)) ?_
        have hnb27 := NB414_421.out
        have hnc27 := NB421_414.out
        have hcz28_0 : w23.cell? ⟨gb414, 0, none⟩ = some (.int .i64 t410) := (blk_cell BK414.out 0).trans rfl
        have hcz28_1 : w23.cell? ⟨gb414, 1, none⟩ = some (.slice (some ad416) t411.length co16) := (blk_cell BK414.out 1).trans rfl
        have hfz28_0 := blk_frozen BK414.out 0
        have hfz28_1 := blk_frozen BK414.out 1
        go_upto_region 7 with (first | ((with_reducible refine gate_callee (f := 12) rfl ?_); refine goesL_ (some 41) rfl rfl Try.func12 (by kernel_rfl) rfl #[.agg #[.int .i64 t410, .slice (some ad416) t411.length co16]] rfl (by (try simp only [List.map_toArray, List.map_cons, List.map_nil]); first | done | rfl | (simp only [List.length_drop, List.length_take]; rfl)) ?_; (with_reducible refine (doc_Invert.calls t410 _ _ t411 t422 t425 _ ?side1 ?side2 A7.out).mono ?_); (case side1 => refine (Kd.R_reads' (e := 29) (base := w.heap.size) (ok := fun k_ => (some k_ ≠ (.slice Ao12 y407.length co12 : Value).ownBlock ∧ some k_ ≠ (.slice Ao24 y418.length co24 : Value).ownBlock)) (n := t411.length) (c := co16) ?_).2.2; exact (by (with_reducible repeat (first | apply Kd.R_alloc | apply Kd.R_drewN | apply Kd.R_drew)); exact (Kd.R_mono (Kd.R_far (p := ⟨gb421, 1, none⟩) (Kd.R_far (p := ⟨gb421, 0, none⟩) (Kd.R_types HO413.out BK421.out (by decide)) (fun _ hk => hk.2) (.int .i64 0)) (fun _ hk => hk.2) (.slice Ao24 y418.length co24)) (fun _ h_ => h_.1)))); (case side2 => exact (Kd.R_reads' HO413.out).2.1); rintro e w29 ⟨v423, v426, rfl, ho0, ho1, hb⟩; refine ⟨_, rfl, ?_⟩; have n0_ := Aside0.mk (Kd.R_below (by (with_reducible repeat (first | apply Kd.R_alloc | apply Kd.R_drewN | apply Kd.R_drew)); exact (Kd.R_mono (Kd.R_far (p := ⟨gb421, 1, none⟩) (Kd.R_far (p := ⟨gb421, 0, none⟩) (Kd.R_types HO409.out BK421.out (by decide)) (fun _ hk => hk.2) (.int .i64 0)) (fun _ hk => hk.2) (.slice Ao24 y418.length co24)) (fun _ h_ => h_.1))) hb); have n1_ := Aside0.mk (Kd.R_below (by (with_reducible repeat (first | apply Kd.R_alloc | apply Kd.R_drewN | apply Kd.R_drew)); exact (Kd.R_mono (Kd.R_far (p := ⟨gb421, 1, none⟩) (Kd.R_far (p := ⟨gb421, 0, none⟩) (Kd.R_types HO413.out BK421.out (by decide)) (fun _ hk => hk.2) (.int .i64 0)) (fun _ hk => hk.2) (.slice Ao24 y418.length co24)) (fun _ h_ => h_.1))) hb); have n2_ := Aside0.mk (Kd.R_below (by (with_reducible repeat (first | apply Kd.R_alloc | apply Kd.R_drewN | apply Kd.R_drew)); exact (Kd.R_mono (Kd.R_far (p := ⟨gb421, 1, none⟩) (Kd.R_far (p := ⟨gb421, 0, none⟩) (Kd.R_types HO420.out BK421.out (by decide)) (fun _ hk => hk.2) (.int .i64 0)) (fun _ hk => hk.2) (.slice Ao24 y418.length co24)) (fun _ h_ => h_.1))) hb); have n3_ := Aside0.mk (Kd.R_lower ho0 (below_size (by repeat (first | (with_reducible first | exact HB.out | apply below_alloc | apply pw_below_drewN | apply below_drew1 | refine below_set ?_ GE414.out | refine below_set ?_ GE421.out) | exact HB.out)))); have n4_ := Aside0.mk (Kd.S_lower ho1 (below_size (by repeat (first | (with_reducible first | exact HB.out | apply below_alloc | apply pw_below_drewN | apply below_drew1 | refine below_set ?_ GE414.out | refine below_set ?_ GE421.out) | exact HB.out)))); have n5_ := Aside0.mk (blk_below (g := gb414) (o := .cells #[.int .i64 t410, .slice (some ad416) t411.length co16] 24 (0, 0)) (by (with_reducible repeat (first | refine blk_drewN ?_ _ | refine blk_drew ?_ | refine blk_alloc ?_ _)); refine blk_far ?_ NB414_421.out _; (with_reducible repeat (first | refine blk_drewN ?_ _ | refine blk_drew ?_ | refine blk_alloc ?_ _)); refine blk_far ?_ NB414_421.out _; (with_reducible repeat (first | refine blk_drewN ?_ _ | refine blk_drew ?_ | refine blk_alloc ?_ _)); exact BK414.out) hb); have n6_ := Aside0.mk (blk_below (g := gb421) (o := .cells #[.int .i64 0, .slice Ao24 y418.length co24] 24 (0, 0)) (by (with_reducible repeat (first | refine blk_drewN ?_ _ | refine blk_drew ?_ | refine blk_alloc ?_ _)); refine blk_put (cs := #[.int .i64 0, .slice none 0 0]) ?_ 1 _ rfl; (with_reducible repeat (first | refine blk_drewN ?_ _ | refine blk_drew ?_ | refine blk_alloc ?_ _)); refine blk_put (cs := #[.int .i64 0, .slice none 0 0]) ?_ 0 _ rfl; (with_reducible repeat (first | refine blk_drewN ?_ _ | refine blk_drew ?_ | refine blk_alloc ?_ _)); exact BK421.out) hb); have n7_ := Aside0.mk (below_step (by repeat (first | (with_reducible first | exact HB.out | apply below_alloc | apply pw_below_drewN | apply below_drew1 | refine below_set ?_ GE414.out | refine below_set ?_ GE421.out) | exact HB.out)) hb); clear HO409; clear HO413; clear HO420; clear BK414; clear BK421; clear HB; have HO409 := n0_; have HO413 := n1_; have HO420 := n2_; have HO424 := n3_; have HO427 := n4_; have BK414 := n5_; have BK421 := n6_; have HB := n7_; clear n0_ n1_ n2_ n3_ n4_ n5_ n6_ n7_; (try clear hb); (try clear hb2); (try clear hk); (try clear hi); (try clear ho0); (try clear ho1); have hcz30_0 : w29.cell? ⟨gb421, 0, none⟩ = some (.int .i64 0) := (blk_cell BK421.out 0).trans rfl; have hcz30_1 : w29.cell? ⟨gb421, 1, none⟩ = some (.slice Ao24 y418.length co24) := (blk_cell BK421.out 1).trans rfl; have hfz30_0 := blk_frozen BK421.out 0; have hfz30_1 := blk_frozen BK421.out 1) | ((with_reducible refine gate_callee (f := 12) rfl ?_); refine goesL_ (some 46) rfl rfl Try.func12 (by kernel_rfl) rfl #[.agg #[.int .i64 0, .slice Ao24 y418.length co24]] rfl (by (try simp only [List.map_toArray, List.map_cons, List.map_nil]); first | done | rfl | (simp only [List.length_drop, List.length_take]; rfl)) ?_; (with_reducible refine (doc_Invert.calls 0 _ _ y418 t428 t431 _ ?side1 ?side2 A8.out).mono ?_); (case side1 => repeat (first | exact (Kd.R_reads' HO420.out).2.2 | (with_reducible refine Kd.C_alloc ?_ _) | (with_reducible refine Kd.C_drewN ?_ _) | (with_reducible refine Kd.C_drew ?_))); (case side2 => exact (Kd.R_reads' HO420.out).2.1); rintro e w31 ⟨v429, v432, rfl, ho0, ho1, hb⟩; refine ⟨_, rfl, ?_⟩; have n0_ := Aside0.mk (Kd.R_below (by (with_reducible repeat (first | apply Kd.R_alloc | apply Kd.R_drewN | apply Kd.R_drew)); exact HO409.out) hb); have n1_ := Aside0.mk (Kd.R_below (by (with_reducible repeat (first | apply Kd.R_alloc | apply Kd.R_drewN | apply Kd.R_drew)); exact HO413.out) hb); have n2_ := Aside0.mk (Kd.R_below (by (with_reducible repeat (first | apply Kd.R_alloc | apply Kd.R_drewN | apply Kd.R_drew)); exact HO420.out) hb); have n3_ := Aside0.mk (Kd.R_elder' (by (with_reducible repeat (first | apply Kd.R_alloc | apply Kd.R_drewN | apply Kd.R_drew)); exact HO424.out) (Kd.R_base ho0) hb); have n4_ := Aside0.mk (Kd.S_elder' (by (with_reducible repeat (first | apply Kd.S_alloc | apply Kd.S_drewN | apply Kd.S_drew)); exact HO427.out) (Kd.S_base ho1) hb); have n5_ := Aside0.mk (Kd.R_lower (Kd.R_new' ho0 (Kd.R_lt (by (with_reducible repeat (first | apply Kd.R_alloc | apply Kd.R_drewN | apply Kd.R_drew)); exact HO424.out))) (below_size (by repeat (first | (with_reducible first | exact HB.out | apply below_alloc | apply pw_below_drewN | apply below_drew1 | refine below_set ?_ GE414.out | refine below_set ?_ GE421.out) | exact HB.out)))); have n6_ := Aside0.mk (Kd.S_lower (Kd.S_new' ho1 (Kd.S_lt (by (with_reducible repeat (first | apply Kd.S_alloc | apply Kd.S_drewN | apply Kd.S_drew)); exact HO427.out))) (below_size (by repeat (first | (with_reducible first | exact HB.out | apply below_alloc | apply pw_below_drewN | apply below_drew1 | refine below_set ?_ GE414.out | refine below_set ?_ GE421.out) | exact HB.out)))); have n7_ := Aside0.mk (blk_below (g := gb414) (o := .cells #[.int .i64 t410, .slice (some ad416) t411.length co16] 24 (0, 0)) (by (with_reducible repeat (first | refine blk_drewN ?_ _ | refine blk_drew ?_ | refine blk_alloc ?_ _)); exact BK414.out) hb); have n8_ := Aside0.mk (blk_below (g := gb421) (o := .cells #[.int .i64 0, .slice Ao24 y418.length co24] 24 (0, 0)) (by (with_reducible repeat (first | refine blk_drewN ?_ _ | refine blk_drew ?_ | refine blk_alloc ?_ _)); exact BK421.out) hb); have n9_ := Aside0.mk (below_step (by repeat (first | (with_reducible first | exact HB.out | apply below_alloc | apply pw_below_drewN | apply below_drew1 | refine below_set ?_ GE414.out | refine below_set ?_ GE421.out) | exact HB.out)) hb); clear HO409; clear HO413; clear HO420; clear HO424; clear HO427; clear BK414; clear BK421; clear HB; have HO409 := n0_; have HO413 := n1_; have HO420 := n2_; have HO424 := n3_; have HO427 := n4_; have HO430 := n5_; have HO433 := n6_; have BK414 := n7_; have BK421 := n8_; have HB := n9_; clear n0_ n1_ n2_ n3_ n4_ n5_ n6_ n7_ n8_ n9_; (try clear hb); (try clear hb2); (try clear hk); (try clear hi); (try clear ho0); (try clear ho1)))
        (try simp only [Act.put, List.setIfInBounds_toArray, List.set_cons_zero, List.set_cons_succ])
        go_cut [60] (fun v60 wc => ∃ (kq : Nat) (x60_8 : Bool), v60 = .bool x60_8 ∧ Aside0 (concordancelaw08_DocFields.j0 kq t422 t425 x60_8 t410 t411 0 y418 = some r) ∧ Aside0 (kq ≤ k) ∧ Aside0 (Kd.R k39 39 wc w.heap.size (fun _ => True) v423 t422) ∧ Aside0 (Kd.S (Kd.slice 3 (Kd.int .i64)) 41 wc w.heap.size (fun _ => True) v426 t425) ∧ Aside0 (Kd.R k29 29 wc w.heap.size (fun k_ => some k_ ≠ ((.slice Ao24 y418.length co24) : Value).ownBlock) (.slice (some ad416) t411.length co16) t411) ∧ Aside0 (Kd.R k29 29 wc w.heap.size (fun k_ => some k_ ≠ ((.slice (some ad416) t411.length co16) : Value).ownBlock) (.slice Ao24 y418.length co24) y418) ∧ Aside0 (wc.heap[gb414]? = some (.cells #[.int .i64 t410, (.slice (some ad416) t411.length co16)] 24 (0, 0))) ∧ Aside0 (wc.heap[gb421]? = some (.cells #[.int .i64 0, (.slice Ao24 y418.length co24)] 24 (0, 0))) ∧ Aside0 (Below w.heap.size w wc))
        case first =>
          have H := HC9.out
          clear HC9
          by_cases c32 : (t422.length : Int) = (t428.length : Int)
          · rw [if_pos c32] at H
            have c32b0 : ((t422.length : Int) == (t428.length : Int)) = true := beq_iff_eq.mpr c32
            have c32b1 : ((t422.length : Int) != (t428.length : Int)) = false := bne_eq_false_iff_eq.mpr c32
            have c32b2 : (t422.length == t428.length) = true := by first | simpa using c32 | (simp at c32 ⊢; omega)
            clear c32
            (first | rw [c32b0] | (simp only [i64_w, i32_w]; rw [c32b0]) | skip)
            have H' := Aside0.mk H
            clear H
            obtain ⟨Ao33, co33, eo33⟩ := Kd.R_slice HO424.out
            subst eo33
            obtain ⟨Ao34, co34, eo34⟩ := Kd.R_slice HO430.out
            subst eo34
            obtain ⟨Ao35, co35, eo35⟩ := Kd.S_slice HO427.out
            subst eo35
            go_wp2
            go_meet
            case rel => exact ⟨_, (((t425.length : Int) != (t422.length : Int))), (by first | rfl | (simp; done) | (simp [*]; done)), H', ⟨by first | omega | exact Nat.le_refl _⟩, ⟨by (with_reducible repeat (first | apply Kd.R_alloc | apply Kd.R_drewN | apply Kd.R_drew)); exact Kd.R_mono HO424.out (fun _ hk => trivial)⟩, ⟨by (with_reducible repeat (first | apply Kd.S_alloc | apply Kd.S_drewN | apply Kd.S_drew)); exact Kd.S_mono HO427.out (fun _ hk => trivial)⟩, ⟨by (with_reducible repeat (first | apply Kd.R_alloc | apply Kd.R_drewN | apply Kd.R_drew)); first | exact Kd.R_mono HO413.out (fun _ hk => hk.2) | exact Kd.R_mono HO413.out (fun _ _ => trivial)⟩, ⟨by (with_reducible repeat (first | apply Kd.R_alloc | apply Kd.R_drewN | apply Kd.R_drew)); first | exact Kd.R_mono HO420.out (fun _ hk => hk.2) | exact Kd.R_mono HO420.out (fun _ _ => trivial)⟩, ⟨by (with_reducible repeat (first | refine blk_drewN ?_ _ | refine blk_drew ?_ | refine blk_alloc ?_ _)); exact BK414.out⟩, ⟨by (with_reducible repeat (first | refine blk_drewN ?_ _ | refine blk_drew ?_ | refine blk_alloc ?_ _)); exact BK421.out⟩, ⟨by repeat (first | (with_reducible first | exact HB.out | apply below_alloc | apply pw_below_drewN | apply below_drew1 | refine below_set ?_ GE414.out | refine below_set ?_ GE421.out) | exact HB.out)⟩⟩
          · rw [if_neg c32] at H
            have c32b0 : ((t422.length : Int) == (t428.length : Int)) = false := beq_eq_false_iff_ne.mpr c32
            have c32b1 : ((t422.length : Int) != (t428.length : Int)) = true := bne_iff_ne.mpr c32
            have c32b2 : (t422.length == t428.length) = false := by first | simpa using c32 | (simp at c32 ⊢; omega)
            (first | rw [c32b0] | (simp only [i64_w, i32_w]; rw [c32b0]) | skip)
            have H' := Aside0.mk H
            clear H
            obtain ⟨Ao36, co36, eo36⟩ := Kd.R_slice HO424.out
            subst eo36
            obtain ⟨Ao37, co37, eo37⟩ := Kd.R_slice HO430.out
            subst eo37
            go_wp2
            go_meet
            case rel => exact ⟨_, (true), (by first | rfl | (simp; done) | (simp [*]; done)), H', ⟨by first | omega | exact Nat.le_refl _⟩, ⟨by (with_reducible repeat (first | apply Kd.R_alloc | apply Kd.R_drewN | apply Kd.R_drew)); exact Kd.R_mono HO424.out (fun _ hk => trivial)⟩, ⟨by (with_reducible repeat (first | apply Kd.S_alloc | apply Kd.S_drewN | apply Kd.S_drew)); exact Kd.S_mono HO427.out (fun _ hk => trivial)⟩, ⟨by (with_reducible repeat (first | apply Kd.R_alloc | apply Kd.R_drewN | apply Kd.R_drew)); first | exact Kd.R_mono HO413.out (fun _ hk => hk.2) | exact Kd.R_mono HO413.out (fun _ _ => trivial)⟩, ⟨by (with_reducible repeat (first | apply Kd.R_alloc | apply Kd.R_drewN | apply Kd.R_drew)); first | exact Kd.R_mono HO420.out (fun _ hk => hk.2) | exact Kd.R_mono HO420.out (fun _ _ => trivial)⟩, ⟨by (with_reducible repeat (first | refine blk_drewN ?_ _ | refine blk_drew ?_ | refine blk_alloc ?_ _)); exact BK414.out⟩, ⟨by (with_reducible repeat (first | refine blk_drewN ?_ _ | refine blk_drew ?_ | refine blk_alloc ?_ _)); exact BK421.out⟩, ⟨by repeat (first | (with_reducible first | exact HB.out | apply below_alloc | apply pw_below_drewN | apply below_drew1 | refine below_set ?_ GE414.out | refine below_set ?_ GE421.out) | exact HB.out)⟩⟩
        case rest =>
          clear HC9
          try clear c1
          try clear c2
          try clear p2
          try clear c3
          try clear c4
          try clear c4b0
          try clear c4b1
          try clear p4
          try clear q4
          try clear hx4
          try clear qi4
          try clear c5
          try clear c5b0
          try clear c5b1
          try clear c6
          try clear c6b0
          try clear c6b1
          try clear c7
          try clear c12
          try clear c27
          try clear c32
          try clear c32b0
          try clear c32b1
          try clear c32b2
          try clear hcz15_0
          try clear hcz15_1
          try clear hcz28_0
          try clear hcz28_1
          try clear hcz30_0
          try clear hcz30_1
          try clear hfz15_0
          try clear hfz15_1
          try clear hfz28_0
          try clear hfz28_1
          try clear hfz30_0
          try clear hfz30_1
          try clear hx416_0
          try clear hx416_1
          try clear hx417_0
          try clear hx417_1
          try clear p416
          try clear p417
          try clear q416
          try clear q417
          obtain ⟨kq, x60_8, rfl, HA, HJ8, HO_7, HO_8, HO_415001, HO_422001, BK414, BK421, HB⟩ := hcut
          cases kq with
          | zero => exact absurd HA.out (by simp [concordancelaw08_DocFields.j0])
          | succ kj8 =>
            have H := HA.out
            clear HA
            simp only [concordancelaw08_DocFields.j0] at H
            by_cases c38 : x60_8 = true
            · subst c38
              have H1 : (some false) = some r := by rw [if_pos rfl] at H; exact H
              clear H
              have H := H1
              clear H1
              obtain rfl := Option.some.inj H
              go_wp2
              go_ret
              exact ⟨by first | rfl | (simp [errW_none, errW_some] <;> rfl) | (simp [*, errW_none, errW_some] <;> rfl), by repeat (first | (with_reducible first | exact HB.out | apply below_alloc | apply pw_below_drewN | apply below_drew1 | refine below_set ?_ GE414.out | refine below_set ?_ GE421.out) | exact HB.out)⟩
            · replace c38 := Bool.eq_false_iff.mpr c38
              subst c38
              have H1 : (concordancelaw08_DocFields.l0 kj8 t422 t425 0 t410 t411 0 y418) = some r := by rw [if_neg (show ¬ (false = true) by decide)] at H; exact H
              clear H
              have H := H1
              clear H1
              have H' := Aside0.mk H
              clear H
              go_wp2
              go_loopg [11] kj8 (fun kq v11 w' => ∃ (x11_2 : Int), v11 = .int .i64 x11_2 ∧ Aside0 (concordancelaw08_DocFields.l0 kq t422 t425 x11_2 t410 t411 0 y418 = some r) ∧ Aside0 (kq ≤ kj8) ∧ Aside0 (Kd.R k39 39 w' w.heap.size (fun _ => True) v423 t422) ∧ Aside0 (Kd.S (Kd.slice 3 (Kd.int .i64)) 41 w' w.heap.size (fun _ => True) v426 t425) ∧ Aside0 (Kd.R k29 29 w' w.heap.size (fun k_ => some k_ ≠ ((.slice Ao24 y418.length co24) : Value).ownBlock) (.slice (some ad416) t411.length co16) t411) ∧ Aside0 (Kd.R k29 29 w' w.heap.size (fun k_ => some k_ ≠ ((.slice (some ad416) t411.length co16) : Value).ownBlock) (.slice Ao24 y418.length co24) y418) ∧ Aside0 (w'.heap[gb414]? = some (.cells #[.int .i64 t410, (.slice (some ad416) t411.length co16)] 24 (0, 0))) ∧ Aside0 (w'.heap[gb421]? = some (.cells #[.int .i64 0, (.slice Ao24 y418.length co24)] 24 (0, 0))) ∧ Aside0 (Below w.heap.size w w'))
              case atStart => exact ⟨(0), (by first | rfl | (simp; done) | (simp [*]; done)), H', ⟨Nat.le_refl _⟩, ⟨by (with_reducible repeat (first | apply Kd.R_alloc | apply Kd.R_drewN | apply Kd.R_drew)); exact HO_7.out⟩, ⟨by (with_reducible repeat (first | apply Kd.S_alloc | apply Kd.S_drewN | apply Kd.S_drew)); exact HO_8.out⟩, ⟨by (with_reducible repeat (first | apply Kd.R_alloc | apply Kd.R_drewN | apply Kd.R_drew)); exact HO_415001.out⟩, ⟨by (with_reducible repeat (first | apply Kd.R_alloc | apply Kd.R_drewN | apply Kd.R_drew)); exact HO_422001.out⟩, ⟨by (with_reducible repeat (first | refine blk_drewN ?_ _ | refine blk_drew ?_ | refine blk_alloc ?_ _)); exact BK414.out⟩, ⟨by (with_reducible repeat (first | refine blk_drewN ?_ _ | refine blk_drew ?_ | refine blk_alloc ?_ _)); exact BK421.out⟩, ⟨by repeat (first | (with_reducible first | exact HB.out | apply below_alloc | apply pw_below_drewN | apply below_drew1 | refine below_set ?_ GE414.out | refine below_set ?_ GE421.out) | exact HB.out)⟩⟩
              case round =>
                clear H'
                try clear c1
                try clear c2
                try clear p2
                try clear c3
                try clear c4
                try clear c4b0
                try clear c4b1
                try clear p4
                try clear q4
                try clear hx4
                try clear qi4
                try clear c5
                try clear c5b0
                try clear c5b1
                try clear c6
                try clear c6b0
                try clear c6b1
                try clear c7
                try clear c12
                try clear c27
                try clear c32
                try clear c32b0
                try clear c32b1
                try clear c32b2
                try clear c38
                try clear hcz15_0
                try clear hcz15_1
                try clear hcz28_0
                try clear hcz28_1
                try clear hcz30_0
                try clear hcz30_1
                try clear hfz15_0
                try clear hfz15_1
                try clear hfz28_0
                try clear hfz28_1
                try clear hfz30_0
                try clear hfz30_1
                try clear hx416_0
                try clear hx416_1
                try clear hx417_0
                try clear hx417_1
                try clear p2
                try clear p4
                try clear p416
                try clear p417
                try clear q4
                try clear q416
                try clear q417
                obtain ⟨x11_2, rfl, HA, HK2, HO_7, HO_8, HO_415001, HO_422001, BK414, BK421, HB⟩ := hrel
                cases gk with
                | zero => exact absurd HA.out (by simp [concordancelaw08_DocFields.l0])
                | succ k2 =>
                  have H := HA.out
                  clear HA
                  simp only [concordancelaw08_DocFields.l0] at H
                  by_cases c39 : x11_2 < (t422.length : Int)
                  · rw [if_pos c39] at H
                    have c39b0 : decide (x11_2 < (t422.length : Int)) = true := decide_eq_true c39
                    clear c39
                    by_cases c40 : 0 ≤ x11_2
                    · rw [if_pos c40] at H
                      have c40b0 : decide (0 ≤ x11_2) = true := decide_eq_true c40
                      clear c40
                      have HC41 := Aside0.mk H
                      clear H
                      obtain ⟨Ao42, co42, eo42⟩ := Kd.R_slice HO_7.out
                      subst eo42
                      have p437 : 0 ≤ (x11_2 : Int) := of_decide_eq_true (by first | (with_reducible assumption) | assumption)
                      have q437 : x11_2 < (t422.length : Int) := of_decide_eq_true (by first | (with_reducible assumption) | assumption)
                      obtain ⟨ad437, e437, hx437_0, hx437_1⟩ := at_T39 (Kd.R_reads' HO_7.out).2.2 x11_2 p437 q437
                      cases e437
                      replace p437 := eq_true p437
                      replace q437 := eq_true q437
                      go_upto_if 73 with (first | ((with_reducible refine gate_dst (N := 12) rfl ?_); (try (refine gate_guard (by rfl) ?_; dsimp only)); refine box_event ?hg (N := 12) ?hd (cs := #[.string (⟨#[]⟩ : ByteArray), .string (⟨#[]⟩ : ByteArray)]) (t := 39) ?hr ?_; (case hd => rfl); (case hg => rfl); (case hr => first | (go_simp; done) | (go_simp; rfl)); intro gb438 hg w43 hbox hb; have n0_ := Aside0.mk (Kd.R_below (Kd.R_elderB (by (with_reducible repeat (first | apply Kd.R_alloc | apply Kd.R_drewN | apply Kd.R_drew)); exact HO_7.out) gb438 (Nat.le_of_eq hg.symm)) hb); have n1_ := Aside0.mk (Kd.S_below (by (with_reducible repeat (first | apply Kd.S_alloc | apply Kd.S_drewN | apply Kd.S_drew)); exact HO_8.out) hb); have n2_ := Aside0.mk (Kd.R_below (by (with_reducible repeat (first | apply Kd.R_alloc | apply Kd.R_drewN | apply Kd.R_drew)); exact HO_415001.out) hb); have n3_ := Aside0.mk (Kd.R_below (by (with_reducible repeat (first | apply Kd.R_alloc | apply Kd.R_drewN | apply Kd.R_drew)); exact HO_422001.out) hb); have n4_ := Aside0.mk (blk_below (g := gb414) (o := .cells #[.int .i64 t410, .slice (some ad416) t411.length co16] 24 (0, 0)) (by (with_reducible repeat (first | refine blk_drewN ?_ _ | refine blk_drew ?_ | refine blk_alloc ?_ _)); exact BK414.out) hb); have n5_ := Aside0.mk (blk_below (g := gb421) (o := .cells #[.int .i64 0, .slice Ao24 y418.length co24] 24 (0, 0)) (by (with_reducible repeat (first | refine blk_drewN ?_ _ | refine blk_drew ?_ | refine blk_alloc ?_ _)); exact BK421.out) hb); have n6_ := Aside0.mk (below_step (by repeat (first | (with_reducible first | exact HB.out | apply below_alloc | apply pw_below_drewN | apply below_drew1 | refine below_set ?_ GE414.out | refine below_set ?_ GE421.out) | exact HB.out)) hb); have n7_ := Aside0.mk (hbox); have n8_ := Aside0.mk ((by rw [hg]; exact (below_size (by repeat (first | (with_reducible first | exact HB.out | apply below_alloc | apply pw_below_drewN | apply below_drew1 | refine below_set ?_ GE414.out | refine below_set ?_ GE421.out) | exact HB.out))) : w.heap.size ≤ gb438)); have n9_ := Aside0.mk ((by rw [hg]; exact (below_size (by repeat (first | (with_reducible first | exact HB.out | apply below_alloc | apply pw_below_drewN | apply below_drew1 | refine below_set ?_ GE414.out | refine below_set ?_ GE421.out) | exact HB.out))) : w.heap.size ≤ gb438)); have n10_ := Aside0.mk ((by rw [hg]; exact Nat.ne_of_lt (blk_lt (g := gb414) (o := .cells #[.int .i64 t410, .slice (some ad416) t411.length co16] 24 (0, 0)) (by (with_reducible repeat (first | refine blk_drewN ?_ _ | refine blk_drew ?_ | refine blk_alloc ?_ _)); exact BK414.out)) : gb414 ≠ gb438)); have n11_ := Aside0.mk ((by rw [hg]; exact Nat.ne_of_gt (blk_lt (g := gb414) (o := .cells #[.int .i64 t410, .slice (some ad416) t411.length co16] 24 (0, 0)) (by (with_reducible repeat (first | refine blk_drewN ?_ _ | refine blk_drew ?_ | refine blk_alloc ?_ _)); exact BK414.out)) : gb438 ≠ gb414)); have n12_ := Aside0.mk ((by rw [hg]; exact Nat.ne_of_lt (blk_lt (g := gb421) (o := .cells #[.int .i64 0, .slice Ao24 y418.length co24] 24 (0, 0)) (by (with_reducible repeat (first | refine blk_drewN ?_ _ | refine blk_drew ?_ | refine blk_alloc ?_ _)); exact BK421.out)) : gb421 ≠ gb438)); have n13_ := Aside0.mk ((by rw [hg]; exact Nat.ne_of_gt (blk_lt (g := gb421) (o := .cells #[.int .i64 0, .slice Ao24 y418.length co24] 24 (0, 0)) (by (with_reducible repeat (first | refine blk_drewN ?_ _ | refine blk_drew ?_ | refine blk_alloc ?_ _)); exact BK421.out)) : gb438 ≠ gb421)); clear HO_7; clear HO_8; clear HO_415001; clear HO_422001; clear BK414; clear BK421; clear HB; have HO_7 := n0_; have HO_8 := n1_; have HO_415001 := n2_; have HO_422001 := n3_; have BK414 := n4_; have BK421 := n5_; have HB := n6_; have BK438 := n7_; have GW438 := n8_; have GE438 := n9_; have NB414_438 := n10_; have NB438_414 := n11_; have NB421_438 := n12_; have NB438_421 := n13_; clear n0_ n1_ n2_ n3_ n4_ n5_ n6_ n7_ n8_ n9_ n10_ n11_ n12_ n13_; clear hb hbox hg; have hnb44 := NB438_414.out; have hnc44 := NB414_438.out; have hnb45 := NB438_421.out; have hnc45 := NB421_438.out; have hcz46_0 : w43.cell? ⟨gb438, 0, none⟩ = some (.string (⟨#[]⟩ : ByteArray)) := (blk_cell BK438.out 0).trans rfl; have hcz46_1 : w43.cell? ⟨gb438, 1, none⟩ = some (.string (⟨#[]⟩ : ByteArray)) := (blk_cell BK438.out 1).trans rfl; have hfz46_0 := blk_frozen BK438.out 0; have hfz46_1 := blk_frozen BK438.out 1))
                      (try simp only [Act.put, List.setIfInBounds_toArray, List.set_cons_zero, List.set_cons_succ])
                      go_cut [] (fun wc => ∃ (kq : Nat) (x439000_40 : ByteArray), Aside0 (concordancelaw08_DocFields.j2 kq t422 t425 x11_2 t410 t411 0 y418 x439000_40 ((rd_T39 t422 x11_2).f1) = some r) ∧ Aside0 (kq ≤ k2) ∧ Aside0 (Kd.R k39 39 wc w.heap.size (fun k_ => k_ ≠ gb438) (.slice (some ad437) t422.length co42) t422) ∧ Aside0 (Kd.S (Kd.slice 3 (Kd.int .i64)) 41 wc w.heap.size (fun _ => True) v426 t425) ∧ Aside0 (Kd.R k29 29 wc w.heap.size (fun k_ => some k_ ≠ ((.slice Ao24 y418.length co24) : Value).ownBlock) (.slice (some ad416) t411.length co16) t411) ∧ Aside0 (Kd.R k29 29 wc w.heap.size (fun k_ => some k_ ≠ ((.slice (some ad416) t411.length co16) : Value).ownBlock) (.slice Ao24 y418.length co24) y418) ∧ Aside0 (wc.heap[gb414]? = some (.cells #[.int .i64 t410, (.slice (some ad416) t411.length co16)] 24 (0, 0))) ∧ Aside0 (wc.heap[gb421]? = some (.cells #[.int .i64 0, (.slice Ao24 y418.length co24)] 24 (0, 0))) ∧ Aside0 (wc.heap[gb438]? = some (.cells #[.string x439000_40, .string ((rd_T39 t422 x11_2).f1)] 39 (0, 0))) ∧ Aside0 (Below w.heap.size w wc))
                      case first =>
                        have H := HC41.out
                        clear HC41
                        by_cases c47 : ((rd_T39 t422 x11_2).f0).toList = ([116] : List UInt8)
                        · rw [if_pos c47] at H
                          have c47b0 : (((rd_T39 t422 x11_2).f0).toList == ([116] : List UInt8)) = true := beq_iff_eq.mpr c47
                          have c47b1 : (((rd_T39 t422 x11_2).f0).toList != ([116] : List UInt8)) = false := bne_eq_false_iff_eq.mpr c47
                          clear c47
                          (first | rw [c47b0] | (simp only [i64_w, i32_w]; rw [c47b0]) | skip)
                          have H' := Aside0.mk H
                          clear H
                          have hnb48 := NB438_414.out
                          have hnc48 := NB414_438.out
                          have hnb49 := NB438_421.out
                          have hnc49 := NB421_438.out
                          have hcz50_0 : w43.cell? ⟨gb438, 0, none⟩ = some (.string (⟨#[]⟩ : ByteArray)) := (blk_cell BK438.out 0).trans rfl
                          have hcz50_1 : w43.cell? ⟨gb438, 1, none⟩ = some (.string (⟨#[]⟩ : ByteArray)) := (blk_cell BK438.out 1).trans rfl
                          have hfz50_0 := blk_frozen BK438.out 0
                          have hfz50_1 := blk_frozen BK438.out 1
                          go_wp2
                          go_meet
                          case rel => exact ⟨_, ((⟨#[117]⟩ : ByteArray)), H', ⟨by have := HJ8.out; have := HK2.out; first | omega | exact Nat.le_refl _⟩, ⟨by (with_reducible repeat (first | apply Kd.R_alloc | apply Kd.R_drewN | apply Kd.R_drew)); exact Kd.R_mono (Kd.R_far (p := ⟨gb438, 0, none⟩) (Kd.R_far (p := ⟨gb438, 1, none⟩) (Kd.R_far (p := ⟨gb438, 0, none⟩) (Kd.R_mono HO_7.out (fun k_ hk => (⟨hk, hk.2⟩ : _ ∧ k_ ≠ gb438))) (fun _ hk => hk.2) (.string ((rd_T39 t422 x11_2).f0))) (fun _ hk => hk.2) (.string ((rd_T39 t422 x11_2).f1))) (fun _ hk => hk.2) (.string (⟨#[117]⟩ : ByteArray))) (fun _ hk => hk.1.2)⟩, ⟨by (with_reducible repeat (first | apply Kd.S_alloc | apply Kd.S_drewN | apply Kd.S_drew)); exact Kd.S_mono (Kd.S_far (p := ⟨gb438, 0, none⟩) (Kd.S_far (p := ⟨gb438, 1, none⟩) (Kd.S_far (p := ⟨gb438, 0, none⟩) (Kd.S_types HO_8.out BK438.out (by decide)) (fun _ hk => hk.2) (.string ((rd_T39 t422 x11_2).f0))) (fun _ hk => hk.2) (.string ((rd_T39 t422 x11_2).f1))) (fun _ hk => hk.2) (.string (⟨#[117]⟩ : ByteArray))) (fun _ hk => trivial)⟩, ⟨by (with_reducible repeat (first | apply Kd.R_alloc | apply Kd.R_drewN | apply Kd.R_drew)); exact Kd.R_mono (Kd.R_far (p := ⟨gb438, 0, none⟩) (Kd.R_far (p := ⟨gb438, 1, none⟩) (Kd.R_far (p := ⟨gb438, 0, none⟩) (Kd.R_types HO_415001.out BK438.out (by decide)) (fun _ hk => hk.2) (.string ((rd_T39 t422 x11_2).f0))) (fun _ hk => hk.2) (.string ((rd_T39 t422 x11_2).f1))) (fun _ hk => hk.2) (.string (⟨#[117]⟩ : ByteArray))) (fun _ hk => hk.1)⟩, ⟨by (with_reducible repeat (first | apply Kd.R_alloc | apply Kd.R_drewN | apply Kd.R_drew)); exact Kd.R_mono (Kd.R_far (p := ⟨gb438, 0, none⟩) (Kd.R_far (p := ⟨gb438, 1, none⟩) (Kd.R_far (p := ⟨gb438, 0, none⟩) (Kd.R_types HO_422001.out BK438.out (by decide)) (fun _ hk => hk.2) (.string ((rd_T39 t422 x11_2).f0))) (fun _ hk => hk.2) (.string ((rd_T39 t422 x11_2).f1))) (fun _ hk => hk.2) (.string (⟨#[117]⟩ : ByteArray))) (fun _ hk => hk.1)⟩, ⟨by (with_reducible repeat (first | refine blk_drewN ?_ _ | refine blk_drew ?_ | refine blk_alloc ?_ _)); refine blk_far ?_ NB414_438.out _; (with_reducible repeat (first | refine blk_drewN ?_ _ | refine blk_drew ?_ | refine blk_alloc ?_ _)); refine blk_far ?_ NB414_438.out _; (with_reducible repeat (first | refine blk_drewN ?_ _ | refine blk_drew ?_ | refine blk_alloc ?_ _)); refine blk_far ?_ NB414_438.out _; (with_reducible repeat (first | refine blk_drewN ?_ _ | refine blk_drew ?_ | refine blk_alloc ?_ _)); exact BK414.out⟩, ⟨by (with_reducible repeat (first | refine blk_drewN ?_ _ | refine blk_drew ?_ | refine blk_alloc ?_ _)); refine blk_far ?_ NB421_438.out _; (with_reducible repeat (first | refine blk_drewN ?_ _ | refine blk_drew ?_ | refine blk_alloc ?_ _)); refine blk_far ?_ NB421_438.out _; (with_reducible repeat (first | refine blk_drewN ?_ _ | refine blk_drew ?_ | refine blk_alloc ?_ _)); refine blk_far ?_ NB421_438.out _; (with_reducible repeat (first | refine blk_drewN ?_ _ | refine blk_drew ?_ | refine blk_alloc ?_ _)); exact BK421.out⟩, ⟨by (with_reducible repeat (first | refine blk_drewN ?_ _ | refine blk_drew ?_ | refine blk_alloc ?_ _)); refine blk_put (cs := #[.string ((rd_T39 t422 x11_2).f0), .string ((rd_T39 t422 x11_2).f1)]) ?_ 0 _ rfl; (with_reducible repeat (first | refine blk_drewN ?_ _ | refine blk_drew ?_ | refine blk_alloc ?_ _)); refine blk_put (cs := #[.string ((rd_T39 t422 x11_2).f0), .string (⟨#[]⟩ : ByteArray)]) ?_ 1 _ rfl; (with_reducible repeat (first | refine blk_drewN ?_ _ | refine blk_drew ?_ | refine blk_alloc ?_ _)); refine blk_put (cs := #[.string (⟨#[]⟩ : ByteArray), .string (⟨#[]⟩ : ByteArray)]) ?_ 0 _ rfl; (with_reducible repeat (first | refine blk_drewN ?_ _ | refine blk_drew ?_ | refine blk_alloc ?_ _)); exact BK438.out⟩, ⟨by repeat (first | (with_reducible first | exact HB.out | apply below_alloc | apply pw_below_drewN | apply below_drew1 | refine below_set ?_ GE414.out | refine below_set ?_ GE421.out | refine below_set ?_ GE438.out) | exact HB.out)⟩⟩
                        · rw [if_neg c47] at H
                          have c47b0 : (((rd_T39 t422 x11_2).f0).toList == ([116] : List UInt8)) = false := beq_eq_false_iff_ne.mpr c47
                          have c47b1 : (((rd_T39 t422 x11_2).f0).toList != ([116] : List UInt8)) = true := bne_iff_ne.mpr c47
                          (first | rw [c47b0] | (simp only [i64_w, i32_w]; rw [c47b0]) | skip)
                          have H' := Aside0.mk H
                          clear H
                          have hnb51 := NB438_414.out
                          have hnc51 := NB414_438.out
                          have hnb52 := NB438_421.out
                          have hnc52 := NB421_438.out
                          have hcz53_0 : w43.cell? ⟨gb438, 0, none⟩ = some (.string (⟨#[]⟩ : ByteArray)) := (blk_cell BK438.out 0).trans rfl
                          have hcz53_1 : w43.cell? ⟨gb438, 1, none⟩ = some (.string (⟨#[]⟩ : ByteArray)) := (blk_cell BK438.out 1).trans rfl
                          have hfz53_0 := blk_frozen BK438.out 0
                          have hfz53_1 := blk_frozen BK438.out 1
                          go_wp2
                          go_meet
                          case rel => exact ⟨_, ((⟨#[116]⟩ : ByteArray)), H', ⟨by have := HJ8.out; have := HK2.out; first | omega | exact Nat.le_refl _⟩, ⟨by (with_reducible repeat (first | apply Kd.R_alloc | apply Kd.R_drewN | apply Kd.R_drew)); exact Kd.R_mono (Kd.R_far (p := ⟨gb438, 0, none⟩) (Kd.R_far (p := ⟨gb438, 1, none⟩) (Kd.R_far (p := ⟨gb438, 0, none⟩) (Kd.R_mono HO_7.out (fun k_ hk => (⟨hk, hk.2⟩ : _ ∧ k_ ≠ gb438))) (fun _ hk => hk.2) (.string ((rd_T39 t422 x11_2).f0))) (fun _ hk => hk.2) (.string ((rd_T39 t422 x11_2).f1))) (fun _ hk => hk.2) (.string (⟨#[116]⟩ : ByteArray))) (fun _ hk => hk.1.2)⟩, ⟨by (with_reducible repeat (first | apply Kd.S_alloc | apply Kd.S_drewN | apply Kd.S_drew)); exact Kd.S_mono (Kd.S_far (p := ⟨gb438, 0, none⟩) (Kd.S_far (p := ⟨gb438, 1, none⟩) (Kd.S_far (p := ⟨gb438, 0, none⟩) (Kd.S_types HO_8.out BK438.out (by decide)) (fun _ hk => hk.2) (.string ((rd_T39 t422 x11_2).f0))) (fun _ hk => hk.2) (.string ((rd_T39 t422 x11_2).f1))) (fun _ hk => hk.2) (.string (⟨#[116]⟩ : ByteArray))) (fun _ hk => trivial)⟩, ⟨by (with_reducible repeat (first | apply Kd.R_alloc | apply Kd.R_drewN | apply Kd.R_drew)); exact Kd.R_mono (Kd.R_far (p := ⟨gb438, 0, none⟩) (Kd.R_far (p := ⟨gb438, 1, none⟩) (Kd.R_far (p := ⟨gb438, 0, none⟩) (Kd.R_types HO_415001.out BK438.out (by decide)) (fun _ hk => hk.2) (.string ((rd_T39 t422 x11_2).f0))) (fun _ hk => hk.2) (.string ((rd_T39 t422 x11_2).f1))) (fun _ hk => hk.2) (.string (⟨#[116]⟩ : ByteArray))) (fun _ hk => hk.1)⟩, ⟨by (with_reducible repeat (first | apply Kd.R_alloc | apply Kd.R_drewN | apply Kd.R_drew)); exact Kd.R_mono (Kd.R_far (p := ⟨gb438, 0, none⟩) (Kd.R_far (p := ⟨gb438, 1, none⟩) (Kd.R_far (p := ⟨gb438, 0, none⟩) (Kd.R_types HO_422001.out BK438.out (by decide)) (fun _ hk => hk.2) (.string ((rd_T39 t422 x11_2).f0))) (fun _ hk => hk.2) (.string ((rd_T39 t422 x11_2).f1))) (fun _ hk => hk.2) (.string (⟨#[116]⟩ : ByteArray))) (fun _ hk => hk.1)⟩, ⟨by (with_reducible repeat (first | refine blk_drewN ?_ _ | refine blk_drew ?_ | refine blk_alloc ?_ _)); refine blk_far ?_ NB414_438.out _; (with_reducible repeat (first | refine blk_drewN ?_ _ | refine blk_drew ?_ | refine blk_alloc ?_ _)); refine blk_far ?_ NB414_438.out _; (with_reducible repeat (first | refine blk_drewN ?_ _ | refine blk_drew ?_ | refine blk_alloc ?_ _)); refine blk_far ?_ NB414_438.out _; (with_reducible repeat (first | refine blk_drewN ?_ _ | refine blk_drew ?_ | refine blk_alloc ?_ _)); exact BK414.out⟩, ⟨by (with_reducible repeat (first | refine blk_drewN ?_ _ | refine blk_drew ?_ | refine blk_alloc ?_ _)); refine blk_far ?_ NB421_438.out _; (with_reducible repeat (first | refine blk_drewN ?_ _ | refine blk_drew ?_ | refine blk_alloc ?_ _)); refine blk_far ?_ NB421_438.out _; (with_reducible repeat (first | refine blk_drewN ?_ _ | refine blk_drew ?_ | refine blk_alloc ?_ _)); refine blk_far ?_ NB421_438.out _; (with_reducible repeat (first | refine blk_drewN ?_ _ | refine blk_drew ?_ | refine blk_alloc ?_ _)); exact BK421.out⟩, ⟨by (with_reducible repeat (first | refine blk_drewN ?_ _ | refine blk_drew ?_ | refine blk_alloc ?_ _)); refine blk_put (cs := #[.string ((rd_T39 t422 x11_2).f0), .string ((rd_T39 t422 x11_2).f1)]) ?_ 0 _ rfl; (with_reducible repeat (first | refine blk_drewN ?_ _ | refine blk_drew ?_ | refine blk_alloc ?_ _)); refine blk_put (cs := #[.string ((rd_T39 t422 x11_2).f0), .string (⟨#[]⟩ : ByteArray)]) ?_ 1 _ rfl; (with_reducible repeat (first | refine blk_drewN ?_ _ | refine blk_drew ?_ | refine blk_alloc ?_ _)); refine blk_put (cs := #[.string (⟨#[]⟩ : ByteArray), .string (⟨#[]⟩ : ByteArray)]) ?_ 0 _ rfl; (with_reducible repeat (first | refine blk_drewN ?_ _ | refine blk_drew ?_ | refine blk_alloc ?_ _)); exact BK438.out⟩, ⟨by repeat (first | (with_reducible first | exact HB.out | apply below_alloc | apply pw_below_drewN | apply below_drew1 | refine below_set ?_ GE414.out | refine below_set ?_ GE421.out | refine below_set ?_ GE438.out) | exact HB.out)⟩⟩
                      case rest =>
                        clear HC41
                        try clear c1
                        try clear c2
                        try clear p2
                        try clear c3
                        try clear c4
                        try clear c4b0
                        try clear c4b1
                        try clear p4
                        try clear q4
                        try clear hx4
                        try clear qi4
                        try clear c5
                        try clear c5b0
                        try clear c5b1
                        try clear c6
                        try clear c6b0
                        try clear c6b1
                        try clear c7
                        try clear c12
                        try clear c27
                        try clear c32
                        try clear c32b0
                        try clear c32b1
                        try clear c32b2
                        try clear c38
                        try clear c39
                        try clear c39b0
                        try clear c40
                        try clear c40b0
                        try clear p41
                        try clear q41
                        try clear hx41
                        try clear qi41
                        try clear p43
                        try clear q43
                        try clear hx43
                        try clear c44
                        try clear c45
                        try clear c47
                        try clear c47b0
                        try clear c47b1
                        try clear c48
                        try clear c49
                        try clear c51
                        try clear c52
                        try clear hcz15_0
                        try clear hcz15_1
                        try clear hcz28_0
                        try clear hcz28_1
                        try clear hcz30_0
                        try clear hcz30_1
                        try clear hcz46_0
                        try clear hcz46_1
                        try clear hcz50_0
                        try clear hcz50_1
                        try clear hcz53_0
                        try clear hcz53_1
                        try clear hfz15_0
                        try clear hfz15_1
                        try clear hfz28_0
                        try clear hfz28_1
                        try clear hfz30_0
                        try clear hfz30_1
                        try clear hfz46_0
                        try clear hfz46_1
                        try clear hfz50_0
                        try clear hfz50_1
                        try clear hfz53_0
                        try clear hfz53_1
                        try clear hx416_0
                        try clear hx416_1
                        try clear hx417_0
                        try clear hx417_1
                        try clear hx437_0
                        try clear hx437_1
                        try clear p2
                        try clear p4
                        try clear p416
                        try clear p417
                        try clear p437
                        try clear q4
                        try clear q416
                        try clear q417
                        try clear q437
                        obtain ⟨kq, x439000_40, HA, HJ40, HO_7, HO_8, HO_415001, HO_422001, BK414, BK421, BK438, HB⟩ := hcut
                        cases kq with
                        | zero => exact absurd HA.out (by simp [concordancelaw08_DocFields.j2])
                        | succ kj40 =>
                          have H := HA.out
                          clear HA
                          simp only [concordancelaw08_DocFields.j2] at H
                          replace H := Option.bind_eq_some_iff.mp H
                          obtain ⟨t439, A540, H⟩ := H
                          replace H : (if 0 ≤ x11_2 then (if x11_2 < (t425.length : Int) then (if t439 = ((rd_L7 t425 x11_2).length : Int) then (if x11_2 < (t422.length : Int) then ((doc_Count.f t410 t411 ((rd_T39 t422 x11_2).f0) ((rd_T39 t422 x11_2).f1)).bind fun t442 => (if t442 = ((rd_L7 t425 x11_2).length : Int) then (concordancelaw08_DocFields.l0 kj40 t422 t425 (wrap64 (x11_2 + 1)) t410 t411 0 y418) else (some false))) else (none)) else (some false)) else (none)) else (none)) = some r := H
                          have A54 := Aside0.mk A540
                          clear A540
                          by_cases c55 : 0 ≤ x11_2
                          · rw [if_pos c55] at H
                            have c55b0 : decide (0 ≤ x11_2) = true := decide_eq_true c55
                            clear c55
                            by_cases c56 : x11_2 < (t425.length : Int)
                            · rw [if_pos c56] at H
                              have c56b0 : decide (x11_2 < (t425.length : Int)) = true := decide_eq_true c56
                              clear c56
                              by_cases c57 : t439 = ((rd_L7 t425 x11_2).length : Int)
                              · rw [if_pos c57] at H
                                have c57b0 : (t439 == ((rd_L7 t425 x11_2).length : Int)) = true := beq_iff_eq.mpr c57
                                have c57b1 : (t439 != ((rd_L7 t425 x11_2).length : Int)) = false := bne_eq_false_iff_eq.mpr c57
                                clear c57
                                by_cases c58 : x11_2 < (t422.length : Int)
                                · rw [if_pos c58] at H
                                  have c58b0 : decide (x11_2 < (t422.length : Int)) = true := decide_eq_true c58
                                  clear c58
                                  replace H := Option.bind_eq_some_iff.mp H
                                  obtain ⟨t442, A590, H⟩ := H
                                  replace H : (if t442 = ((rd_L7 t425 x11_2).length : Int) then (concordancelaw08_DocFields.l0 kj40 t422 t425 (wrap64 (x11_2 + 1)) t410 t411 0 y418) else (some false)) = some r := H
                                  have A59 := Aside0.mk A590
                                  clear A590
                                  by_cases c60 : t442 = ((rd_L7 t425 x11_2).length : Int)
                                  · rw [if_pos c60] at H
                                    have c60b0 : (t442 == ((rd_L7 t425 x11_2).length : Int)) = true := beq_iff_eq.mpr c60
                                    have c60b1 : (t442 != ((rd_L7 t425 x11_2).length : Int)) = false := bne_eq_false_iff_eq.mpr c60
                                    clear c60
                                    have H' := Aside0.mk H
                                    clear H
                                    try go_wp2
                                    have n0_ := Aside0.mk (Kd.R_drew HO_7.out)
                                    have n1_ := Aside0.mk (Kd.S_drew HO_8.out)
                                    have n2_ := Aside0.mk (Kd.R_drew HO_415001.out)
                                    have n3_ := Aside0.mk (Kd.R_drew HO_422001.out)
                                    have n4_ := Aside0.mk (blk_drew BK414.out)
                                    have n5_ := Aside0.mk (blk_drew BK421.out)
                                    have n6_ := Aside0.mk (blk_drew BK438.out)
                                    have n7_ := Aside0.mk (below_drew1 HB.out)
                                    clear HO_7
                                    clear HO_8
                                    clear HO_415001
                                    clear HO_422001
                                    clear BK414
                                    clear BK421
                                    clear BK438
                                    clear HB
                                    have HO_7 := n0_
                                    have HO_8 := n1_
                                    have HO_415001 := n2_
                                    have HO_422001 := n3_
                                    have BK414 := n4_
                                    have BK421 := n5_
                                    have BK438 := n6_
                                    have HB := n7_
                                    clear n0_ n1_ n2_ n3_ n4_ n5_ n6_ n7_
                                    obtain ⟨Ao62, co62, eo62⟩ := Kd.S_slice HO_8.out
                                    (first | subst eo62 | (injection eo62 with f1_ f2_ f3_; have f4_ := f1_.symm; have f5_ := f3_.symm; clear f1_ f2_ f3_; subst f4_; subst f5_))
                                    have p440 : 0 ≤ (x11_2 : Int) := of_decide_eq_true (by first | (with_reducible assumption) | assumption)
                                    have q440 : x11_2 < (t425.length : Int) := of_decide_eq_true (by first | (with_reducible assumption) | assumption)
                                    obtain ⟨ad440, A440_0, c440_0, e440, hx440_0, hl440_0, hi440_0⟩ := at_L7 (Kd.S_reads' HO_8.out).2.2 x11_2 p440 q440
                                    cases e440
                                    obtain ⟨ce440, hce440, hMe440, hcc440⟩ := Kd.S_get HO_8.out [] x11_2 p440 (by first | exact q440 | exact of_decide_eq_true (by first | (with_reducible assumption) | assumption) | (have e_ := (Kd.S_reads' HO_8.out).1; omega))
                                    obtain ⟨ve440_0, rfl, ge440_0⟩ := hMe440
                                    have hv440_0 := hcc440 0 _ rfl
                                    rw [Nat.add_zero, show ((Kd.slice 3 (Kd.int .i64))).sz = 1 from rfl, Nat.mul_one] at hv440_0
                                    replace hv440_0 := Option.some.inj (hv440_0.symm.trans hx440_0)
                                    rw [hv440_0] at ge440_0
                                    have HL440_0 := Aside0.mk (show Kd.R (Kd.int .i64) 3 _ _ _ _ (rd_L7 t425 x11_2) from ge440_0)
                                    clear hv440_0 ge440_0
                                    clear hcc440 hce440
                                    have HR440_0 := Aside0.mk hi440_0
                                    have HC440_0 := Aside0.mk hl440_0
                                    clear hi440_0 hl440_0
                                    replace p440 := eq_true p440
                                    replace q440 := eq_true q440
                                    have p441 : 0 ≤ (x11_2 : Int) := of_decide_eq_true (by first | (with_reducible assumption) | assumption)
                                    have q441 : x11_2 < (t422.length : Int) := of_decide_eq_true (by first | (with_reducible assumption) | assumption)
                                    obtain ⟨ad441, e441, hx441_0, hx441_1⟩ := at_T39 (Kd.R_reads' HO_7.out).2.2 x11_2 p441 q441
                                    obtain rfl : ad437 = ad441 := (by injection e441)
                                    replace p441 := eq_true p441
                                    replace q441 := eq_true q441
                                    have p443 : 0 ≤ (x11_2 : Int) := of_decide_eq_true (by first | (with_reducible assumption) | assumption)
                                    have q443 : x11_2 < (t425.length : Int) := of_decide_eq_true (by first | (with_reducible assumption) | assumption)
                                    obtain ⟨ad443, A443_0, c443_0, e443, hx443_0, hl443_0, hi443_0⟩ := at_L7 (Kd.S_reads' HO_8.out).2.2 x11_2 p443 q443
                                    obtain rfl : ad440 = ad443 := (by injection e443)
                                    obtain ⟨ce443, hce443, hMe443, hcc443⟩ := Kd.S_get HO_8.out [] x11_2 p443 (by first | exact q443 | exact of_decide_eq_true (by first | (with_reducible assumption) | assumption) | (have e_ := (Kd.S_reads' HO_8.out).1; omega))
                                    obtain ⟨ve443_0, rfl, ge443_0⟩ := hMe443
                                    have hv443_0 := hcc443 0 _ rfl
                                    rw [Nat.add_zero, show ((Kd.slice 3 (Kd.int .i64))).sz = 1 from rfl, Nat.mul_one] at hv443_0
                                    replace hv443_0 := Option.some.inj (hv443_0.symm.trans hx443_0)
                                    rw [hv443_0] at ge443_0
                                    have HL443_0 := Aside0.mk (show Kd.R (Kd.int .i64) 3 _ _ _ _ (rd_L7 t425 x11_2) from ge443_0)
                                    clear hv443_0 ge443_0
                                    clear hcc443 hce443
                                    have HR443_0 := Aside0.mk hi443_0
                                    have HC443_0 := Aside0.mk hl443_0
                                    clear hi443_0 hl443_0
                                    replace p443 := eq_true p443
                                    replace q443 := eq_true q443
                                    refine start_ (n := 23) (S := fun w' => w'.cell? ⟨gb421, 0, none⟩ = some (.int .i64 0) ∧ w'.cell? ⟨gb421, 1, none⟩ = some (.slice Ao24 y418.length co24) ∧ w'.cell? ⟨gb438, 0, none⟩ = some (.string x439000_40) ∧ w'.cell? ⟨gb438, 1, none⟩ = some (.string ((rd_T39 t422 x11_2).f1)) ∧ w'.cell? ⟨gb414, 0, none⟩ = some (.int .i64 t410) ∧ w'.cell? ⟨gb414, 1, none⟩ = some (.slice (some ad416) t411.length co16) ∧ w'.cell? (ad440.add (x11_2).toNat) = some (.slice A440_0 (rd_L7 t425 x11_2).length c440_0) ∧ w'.cell? (ad437.add ((x11_2).toNat * 2)) = some (.string ((rd_T39 t422 x11_2).f0)) ∧ w'.cell? ⟨(ad437.add ((x11_2).toNat * 2)).block, (ad437.add ((x11_2).toNat * 2)).off + 1, none⟩ = some (.string ((rd_T39 t422 x11_2).f1)) ∧ w'.cell? (ad440.add (x11_2).toNat) = some (.slice A443_0 (rd_L7 t425 x11_2).length c443_0)) (ds := []) #[false, false, false, false, false, false, false, false, false, false, false, false, false, false, false, false, false, false, false, false, false, false, false] (by kernel_rfl) rfl rfl ⟨(blk_cell BK421.out 0).trans rfl, (blk_cell BK421.out 1).trans rfl, (blk_cell BK438.out 0).trans rfl, (blk_cell BK438.out 1).trans rfl, (blk_cell BK414.out 0).trans rfl, (blk_cell BK414.out 1).trans rfl, hx440_0, hx441_0, hx441_1, hx443_0⟩ (fun hHeld => ?_); refine with_tabW concordancelaw08_DocFields.tab16 concordancelaw08_DocFields.bits16 (fun HT_ HW_ => ?_)
                                    generalize wc.drew = w61 at HO_7 HO_8 HO_415001 HO_422001 BK414 BK421 BK438 HB HL440_0 HL443_0 HR440_0 HR443_0 hx440_0 hx441_0 hx441_1 hx443_0 hHeld ⊢
                                    refine pure_ (i := 3) (N := some 79) (v := ?_) (a' := ?_) #[false, false, false, true, false, false, false, false, false, false, false, false, false, false, false, false, false, false, false, false, false, false, false] rfl rfl (any_of HT_.out (by kernel_rfl)) (fun _ _ _ h => h) (Or.inl ⟨by rfl, ?_⟩) ?_ ?_
                                    rotate_left
                                    · intro w'
                                      go_simp
                                      with_reducible rfl
                                    rotate_left
                                    · simp only [Act.put, List.setIfInBounds_toArray, List.set_cons_zero, List.set_cons_succ, i64_w, i32_w]
                                      rfl
                                    refine pure_ (i := 4) (N := some 80) (v := ?_) (a' := ?_) #[false, false, false, true, true, false, false, false, false, false, false, false, false, false, false, false, false, false, false, false, false, false, false] rfl rfl (any_of HT_.out (by kernel_rfl)) (fun _ _ _ h => h) (Or.inl ⟨by rfl, ?_⟩) ?_ ?_
                                    rotate_left
                                    · intro w'
                                      go_simp
                                      with_reducible rfl
                                    rotate_left
                                    · simp only [Act.put, List.setIfInBounds_toArray, List.set_cons_zero, List.set_cons_succ, i64_w, i32_w]
                                      rfl
                                    refine pure_ (i := 5) (N := some 81) (v := ?_) (a' := ?_) #[false, false, false, true, true, true, false, false, false, false, false, false, false, false, false, false, false, false, false, false, false, false, false] rfl rfl (any_of HT_.out (by kernel_rfl)) (fun _ _ _ h => h) (Or.inl ⟨by rfl, ?_⟩) ?_ ?_
                                    rotate_left
                                    · intro w'
                                      go_simp
                                      with_reducible rfl
                                    rotate_left
                                    · simp only [Act.put, List.setIfInBounds_toArray, List.set_cons_zero, List.set_cons_succ, i64_w, i32_w]
                                      rfl
                                    refine take_ (i := 0) (N := some 76) (v := ?_) (a' := ?_) #[true, false, false, true, true, true, false, false, false, false, false, false, false, false, false, false, false, false, false, false, false, false, false] rfl rfl (take_ofW HT_.out HW_.out (by kernel_rfl)) (fun _ _ _ h => h) (Or.inl ⟨by rfl, ?_⟩) hHeld ?_ ?_
                                    rotate_left
                                    · rintro w' ⟨s0, s1, s2, s3, s4, s5, s6, s7, s8, s9⟩
                                      go_simp
                                      with_reducible rfl
                                    rotate_left
                                    · simp only [Act.put, List.setIfInBounds_toArray, List.set_cons_zero, List.set_cons_succ, i64_w, i32_w]
                                      rfl
                                    refine take_ (i := 1) (N := some 77) (v := ?_) (a' := ?_) #[true, true, false, true, true, true, false, false, false, false, false, false, false, false, false, false, false, false, false, false, false, false, false] rfl rfl (take_ofW HT_.out HW_.out (by kernel_rfl)) (fun _ _ _ h => h) (Or.inl ⟨by rfl, ?_⟩) hHeld ?_ ?_
                                    rotate_left
                                    · rintro w' ⟨s0, s1, s2, s3, s4, s5, s6, s7, s8, s9⟩
                                      go_simp
                                      with_reducible rfl
                                    rotate_left
                                    · simp only [Act.put, List.setIfInBounds_toArray, List.set_cons_zero, List.set_cons_succ, i64_w, i32_w]
                                      rfl
                                    refine take_ (i := 6) (N := some 82) (v := ?_) (a' := ?_) #[true, true, false, true, true, true, true, false, false, false, false, false, false, false, false, false, false, false, false, false, false, false, false] rfl rfl (take_ofW HT_.out HW_.out (by kernel_rfl)) (fun _ _ _ h => h) (Or.inl ⟨by rfl, ?_⟩) hHeld ?_ ?_
                                    rotate_left
                                    · rintro w' ⟨s0, s1, s2, s3, s4, s5, s6, s7, s8, s9⟩
                                      go_simp
                                      with_reducible rfl
                                    rotate_left
                                    · simp only [Act.put, List.setIfInBounds_toArray, List.set_cons_zero, List.set_cons_succ, i64_w, i32_w]
                                      rfl
                                    refine pure_ (i := 7) (N := some 83) (v := ?_) (a' := ?_) #[true, true, false, true, true, true, true, true, false, false, false, false, false, false, false, false, false, false, false, false, false, false, false] rfl rfl (any_of HT_.out (by kernel_rfl)) (fun _ _ _ h => h) (Or.inl ⟨by rfl, ?_⟩) ?_ ?_
                                    rotate_left
                                    · intro w'
                                      go_simp
                                      with_reducible rfl
                                    rotate_left
                                    · simp only [Act.put, List.setIfInBounds_toArray, List.set_cons_zero, List.set_cons_succ, i64_w, i32_w]
                                      rfl
                                    refine one_ (i := 2) (N := some 78) #[true, true, true, true, true, true, true, true, false, false, false, false, false, false, false, false, false, false, false, false, false, false, false] rfl rfl (one_of HT_.out (by kernel_rfl)) (by decide) (fun K hK => ?_)
                                    refine goes_ Try.func18 (by kernel_rfl) rfl #[.agg #[.int .i64 0, .slice Ao24 y418.length co24], .agg #[.string x439000_40, .string ((rd_T39 t422 x11_2).f1)]] (by rfl) rfl rfl (by (try simp only [List.map_toArray, List.map_cons, List.map_nil]); first | done | rfl | (simp only [List.length_drop, List.length_take]; rfl)) ?_
                                    with_reducible refine (doc_Count.calls 0 _ _ y418 x439000_40 ((rd_T39 t422 x11_2).f1) t439 _ ?side1 ?side2 A54.out).mono ?_
                                    (case side1 => repeat (first | exact (Kd.R_reads' HO_422001.out).2.2 | (with_reducible refine Kd.C_alloc ?_ _) | (with_reducible refine Kd.C_drewN ?_ _) | (with_reducible refine Kd.C_drew ?_)))
                                    (case side2 => exact (Kd.R_reads' HO_422001.out).2.1)
                                    rintro e w63 ⟨rfl, hb⟩
                                    have HS6_ := (hb.cell (World.block_lt_of_cell? _ _ (hHeld.2.2.2.2.2.2.1))).trans (hHeld.2.2.2.2.2.2.1)
                                    have HS7_ := (hb.cell (World.block_lt_of_cell? _ _ (hHeld.2.2.2.2.2.2.2.1))).trans (hHeld.2.2.2.2.2.2.2.1)
                                    have HS8_ := (hb.cell (World.block_lt_of_cell? _ _ (hHeld.2.2.2.2.2.2.2.2.1))).trans (hHeld.2.2.2.2.2.2.2.2.1)
                                    have HS9_ := (hb.cell (World.block_lt_of_cell? _ _ (hHeld.2.2.2.2.2.2.2.2.2))).trans (hHeld.2.2.2.2.2.2.2.2.2)
                                    refine ⟨_, rfl, ?_⟩
                                    have n0_ := Aside0.mk (Kd.R_below (by (with_reducible repeat (first | apply Kd.R_alloc | apply Kd.R_drewN | apply Kd.R_drew)); exact HO_7.out) hb)
                                    have n1_ := Aside0.mk (Kd.S_below (by (with_reducible repeat (first | apply Kd.S_alloc | apply Kd.S_drewN | apply Kd.S_drew)); exact HO_8.out) hb)
                                    have n2_ := Aside0.mk (Kd.R_below (by (with_reducible repeat (first | apply Kd.R_alloc | apply Kd.R_drewN | apply Kd.R_drew)); exact HO_415001.out) hb)
                                    have n3_ := Aside0.mk (Kd.R_below (by (with_reducible repeat (first | apply Kd.R_alloc | apply Kd.R_drewN | apply Kd.R_drew)); exact HO_422001.out) hb)
                                    have n4_ := Aside0.mk (Kd.R_below (by (with_reducible repeat (first | apply Kd.R_alloc | apply Kd.R_drewN | apply Kd.R_drew)); exact HL440_0.out) hb)
                                    have n5_ := Aside0.mk (blk_below (g := gb414) (o := .cells #[.int .i64 t410, .slice (some ad416) t411.length co16] 24 (0, 0)) (by (with_reducible repeat (first | refine blk_drewN ?_ _ | refine blk_drew ?_ | refine blk_alloc ?_ _)); exact BK414.out) hb)
                                    have n6_ := Aside0.mk (blk_below (g := gb421) (o := .cells #[.int .i64 0, .slice Ao24 y418.length co24] 24 (0, 0)) (by (with_reducible repeat (first | refine blk_drewN ?_ _ | refine blk_drew ?_ | refine blk_alloc ?_ _)); exact BK421.out) hb)
                                    have n7_ := Aside0.mk (blk_below (g := gb438) (o := .cells #[.string x439000_40, .string ((rd_T39 t422 x11_2).f1)] 39 (0, 0)) (by (with_reducible repeat (first | refine blk_drewN ?_ _ | refine blk_drew ?_ | refine blk_alloc ?_ _)); exact BK438.out) hb)
                                    have n8_ := Aside0.mk (Kd.C_below (by repeat (first | (with_reducible exact HR440_0.out) | (with_reducible refine Kd.C_alloc ?_ _) | (with_reducible refine Kd.C_drewN ?_ _) | (with_reducible refine Kd.C_drew ?_) | exact HR440_0.out)) hb)
                                    have n9_ := Aside0.mk (below_step (by repeat (first | (with_reducible first | exact HB.out | apply below_alloc | apply pw_below_drewN | apply below_drew1 | refine below_set ?_ GE414.out | refine below_set ?_ GE421.out | refine below_set ?_ GE438.out) | exact HB.out)) hb)
                                    clear HO_7
                                    clear HO_8
                                    clear HO_415001
                                    clear HO_422001
                                    clear HL440_0
                                    clear BK414
                                    clear BK421
                                    clear BK438
                                    clear HR440_0
                                    clear HB
                                    have HO_7 := n0_
                                    have HO_8 := n1_
                                    have HO_415001 := n2_
                                    have HO_422001 := n3_
                                    have HL440_0 := n4_
                                    have BK414 := n5_
                                    have BK421 := n6_
                                    have BK438 := n7_
                                    have HR440_0 := n8_
                                    have HB := n9_
                                    clear n0_ n1_ n2_ n3_ n4_ n5_ n6_ n7_ n8_ n9_
                                    (try clear hb)
                                    (try clear hb2)
                                    (try clear hk)
                                    (try clear hi)
                                    refine hK.out _ _ ⟨(blk_cell BK421.out 0).trans rfl, (blk_cell BK421.out 1).trans rfl, (blk_cell BK438.out 0).trans rfl, (blk_cell BK438.out 1).trans rfl, (blk_cell BK414.out 0).trans rfl, (blk_cell BK414.out 1).trans rfl, HS6_, HS7_, HS8_, HS9_⟩ (fun hHeld => ?_)
                                    clear hK K
                                    refine norm_ (a' := ?_) ?_ ?_
                                    rotate_left
                                    · show Act.put _ (some 78) _ = _
                                      simp only [Act.put, List.setIfInBounds_toArray, List.set_cons_zero, List.set_cons_succ, i64_w, i32_w]
                                      rfl
                                    refine pure_ (i := 8) (N := some 84) (v := ?_) (a' := ?_) #[true, true, true, true, true, true, true, true, true, false, false, false, false, false, false, false, false, false, false, false, false, false, false] rfl rfl (any_of HT_.out (by kernel_rfl)) (fun _ _ _ h => h) (Or.inl ⟨by rfl, ?_⟩) ?_ ?_
                                    rotate_left
                                    · intro w'
                                      go_simp
                                      with_reducible rfl
                                    rotate_left
                                    · simp only [Act.put, List.setIfInBounds_toArray, List.set_cons_zero, List.set_cons_succ, i64_w, i32_w]
                                      rfl
                                    refine pure_ (i := 9) (N := some 85) (v := ?_) (a' := ?_) #[true, true, true, true, true, true, true, true, true, true, false, false, false, false, false, false, false, false, false, false, false, false, false] rfl rfl (any_of HT_.out (by kernel_rfl)) (fun _ _ _ h => h) (Or.inl ⟨by rfl, ?_⟩) ?_ ?_
                                    rotate_left
                                    · intro w'
                                      go_simp
                                      with_reducible rfl
                                    rotate_left
                                    · simp only [Act.put, List.setIfInBounds_toArray, List.set_cons_zero, List.set_cons_succ, i64_w, i32_w]
                                      rfl
                                    refine pure_ (i := 11) (N := some 87) (v := ?_) (a' := ?_) #[true, true, true, true, true, true, true, true, true, true, false, true, false, false, false, false, false, false, false, false, false, false, false] rfl rfl (any_of HT_.out (by kernel_rfl)) (fun _ _ _ h => h) (Or.inl ⟨by rfl, ?_⟩) ?_ ?_
                                    rotate_left
                                    · intro w'
                                      go_simp
                                      with_reducible rfl
                                    rotate_left
                                    · simp only [Act.put, List.setIfInBounds_toArray, List.set_cons_zero, List.set_cons_succ, i64_w, i32_w]
                                      rfl
                                    refine pure_ (i := 12) (N := some 88) (v := ?_) (a' := ?_) #[true, true, true, true, true, true, true, true, true, true, false, true, true, false, false, false, false, false, false, false, false, false, false] rfl rfl (any_of HT_.out (by kernel_rfl)) (fun _ _ _ h => h) (Or.inl ⟨by rfl, ?_⟩) ?_ ?_
                                    rotate_left
                                    · intro w'
                                      go_simp
                                      with_reducible rfl
                                    rotate_left
                                    · simp only [Act.put, List.setIfInBounds_toArray, List.set_cons_zero, List.set_cons_succ, i64_w, i32_w]
                                      rfl
                                    refine pure_ (i := 13) (N := some 89) (v := ?_) (a' := ?_) #[true, true, true, true, true, true, true, true, true, true, false, true, true, true, false, false, false, false, false, false, false, false, false] rfl rfl (any_of HT_.out (by kernel_rfl)) (fun _ _ _ h => h) (Or.inl ⟨by rfl, ?_⟩) ?_ ?_
                                    rotate_left
                                    · intro w'
                                      go_simp
                                      with_reducible rfl
                                    rotate_left
                                    · simp only [Act.put, List.setIfInBounds_toArray, List.set_cons_zero, List.set_cons_succ, i64_w, i32_w]
                                      rfl
                                    refine pure_ (i := 16) (N := some 92) (v := ?_) (a' := ?_) #[true, true, true, true, true, true, true, true, true, true, false, true, true, true, false, false, true, false, false, false, false, false, false] rfl rfl (any_of HT_.out (by kernel_rfl)) (fun _ _ _ h => h) (Or.inl ⟨by rfl, ?_⟩) ?_ ?_
                                    rotate_left
                                    · intro w'
                                      go_simp
                                      with_reducible rfl
                                    rotate_left
                                    · simp only [Act.put, List.setIfInBounds_toArray, List.set_cons_zero, List.set_cons_succ, i64_w, i32_w]
                                      rfl
                                    refine pure_ (i := 17) (N := some 93) (v := ?_) (a' := ?_) #[true, true, true, true, true, true, true, true, true, true, false, true, true, true, false, false, true, true, false, false, false, false, false] rfl rfl (any_of HT_.out (by kernel_rfl)) (fun _ _ _ h => h) (Or.inl ⟨by rfl, ?_⟩) ?_ ?_
                                    rotate_left
                                    · intro w'
                                      go_simp
                                      with_reducible rfl
                                    rotate_left
                                    · simp only [Act.put, List.setIfInBounds_toArray, List.set_cons_zero, List.set_cons_succ, i64_w, i32_w]
                                      rfl
                                    refine pure_ (i := 18) (N := some 94) (v := ?_) (a' := ?_) #[true, true, true, true, true, true, true, true, true, true, false, true, true, true, false, false, true, true, true, false, false, false, false] rfl rfl (any_of HT_.out (by kernel_rfl)) (fun _ _ _ h => h) (Or.inl ⟨by rfl, ?_⟩) ?_ ?_
                                    rotate_left
                                    · intro w'
                                      go_simp
                                      with_reducible rfl
                                    rotate_left
                                    · simp only [Act.put, List.setIfInBounds_toArray, List.set_cons_zero, List.set_cons_succ, i64_w, i32_w]
                                      rfl
                                    refine take_ (i := 10) (N := some 86) (v := ?_) (a' := ?_) #[true, true, true, true, true, true, true, true, true, true, true, true, true, true, false, false, true, true, true, false, false, false, false] rfl rfl (take_ofW HT_.out HW_.out (by kernel_rfl)) (fun _ _ _ h => h) (Or.inl ⟨by rfl, ?_⟩) hHeld ?_ ?_
                                    rotate_left
                                    · rintro w' ⟨s0, s1, s2, s3, s4, s5, s6, s7, s8, s9⟩
                                      go_simp
                                      with_reducible rfl
                                    rotate_left
                                    · simp only [Act.put, List.setIfInBounds_toArray, List.set_cons_zero, List.set_cons_succ, i64_w, i32_w]
                                      rfl
                                    refine take_ (i := 14) (N := some 90) (v := ?_) (a' := ?_) #[true, true, true, true, true, true, true, true, true, true, true, true, true, true, true, false, true, true, true, false, false, false, false] rfl rfl (take_ofW HT_.out HW_.out (by kernel_rfl)) (fun _ _ _ h => h) (Or.inl ⟨by rfl, ?_⟩) hHeld ?_ ?_
                                    rotate_left
                                    · rintro w' ⟨s0, s1, s2, s3, s4, s5, s6, s7, s8, s9⟩
                                      go_simp
                                      with_reducible rfl
                                    rotate_left
                                    · simp only [Act.put, List.setIfInBounds_toArray, List.set_cons_zero, List.set_cons_succ, i64_w, i32_w]
                                      rfl
                                    refine take_ (i := 19) (N := some 95) (v := ?_) (a' := ?_) #[true, true, true, true, true, true, true, true, true, true, true, true, true, true, true, false, true, true, true, true, false, false, false] rfl rfl (take_ofW HT_.out HW_.out (by kernel_rfl)) (fun _ _ _ h => h) (Or.inl ⟨by rfl, ?_⟩) hHeld ?_ ?_
                                    rotate_left
                                    · rintro w' ⟨s0, s1, s2, s3, s4, s5, s6, s7, s8, s9⟩
                                      go_simp
                                      with_reducible rfl
                                    rotate_left
                                    · simp only [Act.put, List.setIfInBounds_toArray, List.set_cons_zero, List.set_cons_succ, i64_w, i32_w]
                                      rfl
                                    refine pure_ (i := 20) (N := some 96) (v := ?_) (a' := ?_) #[true, true, true, true, true, true, true, true, true, true, true, true, true, true, true, false, true, true, true, true, true, false, false] rfl rfl (any_of HT_.out (by kernel_rfl)) (fun _ _ _ h => h) (Or.inl ⟨by rfl, ?_⟩) ?_ ?_
                                    rotate_left
                                    · intro w'
                                      go_simp
                                      with_reducible rfl
                                    rotate_left
                                    · simp only [Act.put, List.setIfInBounds_toArray, List.set_cons_zero, List.set_cons_succ, i64_w, i32_w]
                                      rfl
                                    refine one_ (i := 15) (N := some 91) #[true, true, true, true, true, true, true, true, true, true, true, true, true, true, true, true, true, true, true, true, true, false, false] rfl rfl (one_of HT_.out (by kernel_rfl)) (by decide) (fun K hK => ?_)
                                    refine goes_ Try.func18 (by kernel_rfl) rfl #[.agg #[.int .i64 t410, .slice (some ad416) t411.length co16], .agg #[.string ((rd_T39 t422 x11_2).f0), .string ((rd_T39 t422 x11_2).f1)]] (by rfl) rfl rfl (by (try simp only [List.map_toArray, List.map_cons, List.map_nil]); first | done | rfl | (simp only [List.length_drop, List.length_take]; rfl)) ?_
                                    with_reducible refine (doc_Count.calls t410 _ _ t411 ((rd_T39 t422 x11_2).f0) ((rd_T39 t422 x11_2).f1) t442 _ ?side1 ?side2 A59.out).mono ?_
                                    (case side1 => repeat (first | exact (Kd.R_reads' HO_415001.out).2.2 | (with_reducible refine Kd.C_alloc ?_ _) | (with_reducible refine Kd.C_drewN ?_ _) | (with_reducible refine Kd.C_drew ?_)))
                                    (case side2 => exact (Kd.R_reads' HO_415001.out).2.1)
                                    rintro e w64 ⟨rfl, hb⟩
                                    have HS6_ := (hb.cell (World.block_lt_of_cell? _ _ (hHeld.2.2.2.2.2.2.1))).trans (hHeld.2.2.2.2.2.2.1)
                                    have HS7_ := (hb.cell (World.block_lt_of_cell? _ _ (hHeld.2.2.2.2.2.2.2.1))).trans (hHeld.2.2.2.2.2.2.2.1)
                                    have HS8_ := (hb.cell (World.block_lt_of_cell? _ _ (hHeld.2.2.2.2.2.2.2.2.1))).trans (hHeld.2.2.2.2.2.2.2.2.1)
                                    have HS9_ := (hb.cell (World.block_lt_of_cell? _ _ (hHeld.2.2.2.2.2.2.2.2.2))).trans (hHeld.2.2.2.2.2.2.2.2.2)
                                    refine ⟨_, rfl, ?_⟩
                                    have n0_ := Aside0.mk (Kd.R_below (by (with_reducible repeat (first | apply Kd.R_alloc | apply Kd.R_drewN | apply Kd.R_drew)); exact HO_7.out) hb)
                                    have n1_ := Aside0.mk (Kd.S_below (by (with_reducible repeat (first | apply Kd.S_alloc | apply Kd.S_drewN | apply Kd.S_drew)); exact HO_8.out) hb)
                                    have n2_ := Aside0.mk (Kd.R_below (by (with_reducible repeat (first | apply Kd.R_alloc | apply Kd.R_drewN | apply Kd.R_drew)); exact HO_415001.out) hb)
                                    have n3_ := Aside0.mk (Kd.R_below (by (with_reducible repeat (first | apply Kd.R_alloc | apply Kd.R_drewN | apply Kd.R_drew)); exact HO_422001.out) hb)
                                    have n4_ := Aside0.mk (Kd.R_below (by (with_reducible repeat (first | apply Kd.R_alloc | apply Kd.R_drewN | apply Kd.R_drew)); exact HL440_0.out) hb)
                                    have n5_ := Aside0.mk (blk_below (g := gb414) (o := .cells #[.int .i64 t410, .slice (some ad416) t411.length co16] 24 (0, 0)) (by (with_reducible repeat (first | refine blk_drewN ?_ _ | refine blk_drew ?_ | refine blk_alloc ?_ _)); exact BK414.out) hb)
                                    have n6_ := Aside0.mk (blk_below (g := gb421) (o := .cells #[.int .i64 0, .slice Ao24 y418.length co24] 24 (0, 0)) (by (with_reducible repeat (first | refine blk_drewN ?_ _ | refine blk_drew ?_ | refine blk_alloc ?_ _)); exact BK421.out) hb)
                                    have n7_ := Aside0.mk (blk_below (g := gb438) (o := .cells #[.string x439000_40, .string ((rd_T39 t422 x11_2).f1)] 39 (0, 0)) (by (with_reducible repeat (first | refine blk_drewN ?_ _ | refine blk_drew ?_ | refine blk_alloc ?_ _)); exact BK438.out) hb)
                                    have n8_ := Aside0.mk (Kd.C_below (by repeat (first | (with_reducible exact HR440_0.out) | (with_reducible refine Kd.C_alloc ?_ _) | (with_reducible refine Kd.C_drewN ?_ _) | (with_reducible refine Kd.C_drew ?_) | exact HR440_0.out)) hb)
                                    have n9_ := Aside0.mk (below_step (by repeat (first | (with_reducible first | exact HB.out | apply below_alloc | apply pw_below_drewN | apply below_drew1 | refine below_set ?_ GE414.out | refine below_set ?_ GE421.out | refine below_set ?_ GE438.out) | exact HB.out)) hb)
                                    clear HO_7
                                    clear HO_8
                                    clear HO_415001
                                    clear HO_422001
                                    clear HL440_0
                                    clear BK414
                                    clear BK421
                                    clear BK438
                                    clear HR440_0
                                    clear HB
                                    have HO_7 := n0_
                                    have HO_8 := n1_
                                    have HO_415001 := n2_
                                    have HO_422001 := n3_
                                    have HL440_0 := n4_
                                    have BK414 := n5_
                                    have BK421 := n6_
                                    have BK438 := n7_
                                    have HR440_0 := n8_
                                    have HB := n9_
                                    clear n0_ n1_ n2_ n3_ n4_ n5_ n6_ n7_ n8_ n9_
                                    (try clear hb)
                                    (try clear hb2)
                                    (try clear hk)
                                    (try clear hi)
                                    refine hK.out _ _ ⟨(blk_cell BK421.out 0).trans rfl, (blk_cell BK421.out 1).trans rfl, (blk_cell BK438.out 0).trans rfl, (blk_cell BK438.out 1).trans rfl, (blk_cell BK414.out 0).trans rfl, (blk_cell BK414.out 1).trans rfl, HS6_, HS7_, HS8_, HS9_⟩ (fun hHeld => ?_)
                                    clear hK K
                                    refine norm_ (a' := ?_) ?_ ?_
                                    rotate_left
                                    · show Act.put _ (some 91) _ = _
                                      simp only [Act.put, List.setIfInBounds_toArray, List.set_cons_zero, List.set_cons_succ, i64_w, i32_w]
                                      rfl
                                    refine pure_ (i := 21) (N := some 97) (v := ?_) (a' := ?_) #[true, true, true, true, true, true, true, true, true, true, true, true, true, true, true, true, true, true, true, true, true, true, false] rfl rfl (any_of HT_.out (by kernel_rfl)) (fun _ _ _ h => h) (Or.inl ⟨by rfl, ?_⟩) ?_ ?_
                                    rotate_left
                                    · intro w'
                                      go_simp
                                      with_reducible rfl
                                    rotate_left
                                    · simp only [Act.put, List.setIfInBounds_toArray, List.set_cons_zero, List.set_cons_succ, i64_w, i32_w]
                                      rfl
                                    refine pure_ (i := 22) (N := some 98) (v := ?_) (a' := ?_) #[true, true, true, true, true, true, true, true, true, true, true, true, true, true, true, true, true, true, true, true, true, true, true] rfl rfl (any_of HT_.out (by kernel_rfl)) (fun _ _ _ h => h) (Or.inl ⟨by rfl, ?_⟩) ?_ ?_
                                    rotate_left
                                    · intro w'
                                      go_simp
                                      with_reducible rfl
                                    rotate_left
                                    · simp only [Act.put, List.setIfInBounds_toArray, List.set_cons_zero, List.set_cons_succ, i64_w, i32_w]
                                      rfl
                                    refine done_ (done_of HT_.out (by kernel_rfl)) ?_
                                    try go_wp2
                                    go_roundg kj40
                                    case measure => have := HJ8.out; have := HK2.out; have := HJ40.out; omega
                                    case rel => exact ⟨(wrap64 (x11_2 + 1)), (by first | rfl | (simp; done) | (simp [*]; done)), H', ⟨by have := HJ8.out; have := HK2.out; have := HJ40.out; omega⟩, ⟨by (with_reducible repeat (first | apply Kd.R_alloc | apply Kd.R_drewN | apply Kd.R_drew)); exact Kd.R_mono HO_7.out (fun _ hk => trivial)⟩, ⟨by (with_reducible repeat (first | apply Kd.S_alloc | apply Kd.S_drewN | apply Kd.S_drew)); exact HO_8.out⟩, ⟨by (with_reducible repeat (first | apply Kd.R_alloc | apply Kd.R_drewN | apply Kd.R_drew)); exact HO_415001.out⟩, ⟨by (with_reducible repeat (first | apply Kd.R_alloc | apply Kd.R_drewN | apply Kd.R_drew)); exact HO_422001.out⟩, ⟨by (with_reducible repeat (first | refine blk_drewN ?_ _ | refine blk_drew ?_ | refine blk_alloc ?_ _)); exact BK414.out⟩, ⟨by (with_reducible repeat (first | refine blk_drewN ?_ _ | refine blk_drew ?_ | refine blk_alloc ?_ _)); exact BK421.out⟩, ⟨by repeat (first | (with_reducible first | exact HB.out | apply below_alloc | apply pw_below_drewN | apply below_drew1 | refine below_set ?_ GE414.out | refine below_set ?_ GE421.out | refine below_set ?_ GE438.out) | exact HB.out)⟩⟩
                                  · rw [if_neg c60] at H
                                    have c60b0 : (t442 == ((rd_L7 t425 x11_2).length : Int)) = false := beq_eq_false_iff_ne.mpr c60
                                    have c60b1 : (t442 != ((rd_L7 t425 x11_2).length : Int)) = true := bne_iff_ne.mpr c60
                                    obtain rfl := Option.some.inj H
                                    try go_wp2
                                    have n0_ := Aside0.mk (Kd.R_drew HO_7.out)
                                    have n1_ := Aside0.mk (Kd.S_drew HO_8.out)
                                    have n2_ := Aside0.mk (Kd.R_drew HO_415001.out)
                                    have n3_ := Aside0.mk (Kd.R_drew HO_422001.out)
                                    have n4_ := Aside0.mk (blk_drew BK414.out)
                                    have n5_ := Aside0.mk (blk_drew BK421.out)
                                    have n6_ := Aside0.mk (blk_drew BK438.out)
                                    have n7_ := Aside0.mk (below_drew1 HB.out)
                                    clear HO_7
                                    clear HO_8
                                    clear HO_415001
                                    clear HO_422001
                                    clear BK414
                                    clear BK421
                                    clear BK438
                                    clear HB
                                    have HO_7 := n0_
                                    have HO_8 := n1_
                                    have HO_415001 := n2_
                                    have HO_422001 := n3_
                                    have BK414 := n4_
                                    have BK421 := n5_
                                    have BK438 := n6_
                                    have HB := n7_
                                    clear n0_ n1_ n2_ n3_ n4_ n5_ n6_ n7_
                                    obtain ⟨Ao66, co66, eo66⟩ := Kd.S_slice HO_8.out
                                    (first | subst eo66 | (injection eo66 with f1_ f2_ f3_; have f4_ := f1_.symm; have f5_ := f3_.symm; clear f1_ f2_ f3_; subst f4_; subst f5_))
                                    have p440 : 0 ≤ (x11_2 : Int) := of_decide_eq_true (by first | (with_reducible assumption) | assumption)
                                    have q440 : x11_2 < (t425.length : Int) := of_decide_eq_true (by first | (with_reducible assumption) | assumption)
                                    obtain ⟨ad440, A440_0, c440_0, e440, hx440_0, hl440_0, hi440_0⟩ := at_L7 (Kd.S_reads' HO_8.out).2.2 x11_2 p440 q440
                                    cases e440
                                    obtain ⟨ce440, hce440, hMe440, hcc440⟩ := Kd.S_get HO_8.out [] x11_2 p440 (by first | exact q440 | exact of_decide_eq_true (by first | (with_reducible assumption) | assumption) | (have e_ := (Kd.S_reads' HO_8.out).1; omega))
                                    obtain ⟨ve440_0, rfl, ge440_0⟩ := hMe440
                                    have hv440_0 := hcc440 0 _ rfl
                                    rw [Nat.add_zero, show ((Kd.slice 3 (Kd.int .i64))).sz = 1 from rfl, Nat.mul_one] at hv440_0
                                    replace hv440_0 := Option.some.inj (hv440_0.symm.trans hx440_0)
                                    rw [hv440_0] at ge440_0
                                    have HL440_0 := Aside0.mk (show Kd.R (Kd.int .i64) 3 _ _ _ _ (rd_L7 t425 x11_2) from ge440_0)
                                    clear hv440_0 ge440_0
                                    clear hcc440 hce440
                                    have HR440_0 := Aside0.mk hi440_0
                                    have HC440_0 := Aside0.mk hl440_0
                                    clear hi440_0 hl440_0
                                    replace p440 := eq_true p440
                                    replace q440 := eq_true q440
                                    have p441 : 0 ≤ (x11_2 : Int) := of_decide_eq_true (by first | (with_reducible assumption) | assumption)
                                    have q441 : x11_2 < (t422.length : Int) := of_decide_eq_true (by first | (with_reducible assumption) | assumption)
                                    obtain ⟨ad441, e441, hx441_0, hx441_1⟩ := at_T39 (Kd.R_reads' HO_7.out).2.2 x11_2 p441 q441
                                    obtain rfl : ad437 = ad441 := (by injection e441)
                                    replace p441 := eq_true p441
                                    replace q441 := eq_true q441
                                    have p443 : 0 ≤ (x11_2 : Int) := of_decide_eq_true (by first | (with_reducible assumption) | assumption)
                                    have q443 : x11_2 < (t425.length : Int) := of_decide_eq_true (by first | (with_reducible assumption) | assumption)
                                    obtain ⟨ad443, A443_0, c443_0, e443, hx443_0, hl443_0, hi443_0⟩ := at_L7 (Kd.S_reads' HO_8.out).2.2 x11_2 p443 q443
                                    obtain rfl : ad440 = ad443 := (by injection e443)
                                    obtain ⟨ce443, hce443, hMe443, hcc443⟩ := Kd.S_get HO_8.out [] x11_2 p443 (by first | exact q443 | exact of_decide_eq_true (by first | (with_reducible assumption) | assumption) | (have e_ := (Kd.S_reads' HO_8.out).1; omega))
                                    obtain ⟨ve443_0, rfl, ge443_0⟩ := hMe443
                                    have hv443_0 := hcc443 0 _ rfl
                                    rw [Nat.add_zero, show ((Kd.slice 3 (Kd.int .i64))).sz = 1 from rfl, Nat.mul_one] at hv443_0
                                    replace hv443_0 := Option.some.inj (hv443_0.symm.trans hx443_0)
                                    rw [hv443_0] at ge443_0
                                    have HL443_0 := Aside0.mk (show Kd.R (Kd.int .i64) 3 _ _ _ _ (rd_L7 t425 x11_2) from ge443_0)
                                    clear hv443_0 ge443_0
                                    clear hcc443 hce443
                                    have HR443_0 := Aside0.mk hi443_0
                                    have HC443_0 := Aside0.mk hl443_0
                                    clear hi443_0 hl443_0
                                    replace p443 := eq_true p443
                                    replace q443 := eq_true q443
                                    refine start_ (n := 23) (S := fun w' => w'.cell? ⟨gb421, 0, none⟩ = some (.int .i64 0) ∧ w'.cell? ⟨gb421, 1, none⟩ = some (.slice Ao24 y418.length co24) ∧ w'.cell? ⟨gb438, 0, none⟩ = some (.string x439000_40) ∧ w'.cell? ⟨gb438, 1, none⟩ = some (.string ((rd_T39 t422 x11_2).f1)) ∧ w'.cell? ⟨gb414, 0, none⟩ = some (.int .i64 t410) ∧ w'.cell? ⟨gb414, 1, none⟩ = some (.slice (some ad416) t411.length co16) ∧ w'.cell? (ad440.add (x11_2).toNat) = some (.slice A440_0 (rd_L7 t425 x11_2).length c440_0) ∧ w'.cell? (ad437.add ((x11_2).toNat * 2)) = some (.string ((rd_T39 t422 x11_2).f0)) ∧ w'.cell? ⟨(ad437.add ((x11_2).toNat * 2)).block, (ad437.add ((x11_2).toNat * 2)).off + 1, none⟩ = some (.string ((rd_T39 t422 x11_2).f1)) ∧ w'.cell? (ad440.add (x11_2).toNat) = some (.slice A443_0 (rd_L7 t425 x11_2).length c443_0)) (ds := []) #[false, false, false, false, false, false, false, false, false, false, false, false, false, false, false, false, false, false, false, false, false, false, false] (by kernel_rfl) rfl rfl ⟨(blk_cell BK421.out 0).trans rfl, (blk_cell BK421.out 1).trans rfl, (blk_cell BK438.out 0).trans rfl, (blk_cell BK438.out 1).trans rfl, (blk_cell BK414.out 0).trans rfl, (blk_cell BK414.out 1).trans rfl, hx440_0, hx441_0, hx441_1, hx443_0⟩ (fun hHeld => ?_); refine with_tabW concordancelaw08_DocFields.tab16 concordancelaw08_DocFields.bits16 (fun HT_ HW_ => ?_)
                                    generalize wc.drew = w65 at HO_7 HO_8 HO_415001 HO_422001 BK414 BK421 BK438 HB HL440_0 HL443_0 HR440_0 HR443_0 hx440_0 hx441_0 hx441_1 hx443_0 hHeld ⊢
                                    refine pure_ (i := 3) (N := some 79) (v := ?_) (a' := ?_) #[false, false, false, true, false, false, false, false, false, false, false, false, false, false, false, false, false, false, false, false, false, false, false] rfl rfl (any_of HT_.out (by kernel_rfl)) (fun _ _ _ h => h) (Or.inl ⟨by rfl, ?_⟩) ?_ ?_
                                    rotate_left
                                    · intro w'
                                      go_simp
                                      with_reducible rfl
                                    rotate_left
                                    · simp only [Act.put, List.setIfInBounds_toArray, List.set_cons_zero, List.set_cons_succ, i64_w, i32_w]
                                      rfl
                                    refine pure_ (i := 4) (N := some 80) (v := ?_) (a' := ?_) #[false, false, false, true, true, false, false, false, false, false, false, false, false, false, false, false, false, false, false, false, false, false, false] rfl rfl (any_of HT_.out (by kernel_rfl)) (fun _ _ _ h => h) (Or.inl ⟨by rfl, ?_⟩) ?_ ?_
                                    rotate_left
                                    · intro w'
                                      go_simp
                                      with_reducible rfl
                                    rotate_left
                                    · simp only [Act.put, List.setIfInBounds_toArray, List.set_cons_zero, List.set_cons_succ, i64_w, i32_w]
                                      rfl
                                    refine pure_ (i := 5) (N := some 81) (v := ?_) (a' := ?_) #[false, false, false, true, true, true, false, false, false, false, false, false, false, false, false, false, false, false, false, false, false, false, false] rfl rfl (any_of HT_.out (by kernel_rfl)) (fun _ _ _ h => h) (Or.inl ⟨by rfl, ?_⟩) ?_ ?_
                                    rotate_left
                                    · intro w'
                                      go_simp
                                      with_reducible rfl
                                    rotate_left
                                    · simp only [Act.put, List.setIfInBounds_toArray, List.set_cons_zero, List.set_cons_succ, i64_w, i32_w]
                                      rfl
                                    refine take_ (i := 0) (N := some 76) (v := ?_) (a' := ?_) #[true, false, false, true, true, true, false, false, false, false, false, false, false, false, false, false, false, false, false, false, false, false, false] rfl rfl (take_ofW HT_.out HW_.out (by kernel_rfl)) (fun _ _ _ h => h) (Or.inl ⟨by rfl, ?_⟩) hHeld ?_ ?_
                                    rotate_left
                                    · rintro w' ⟨s0, s1, s2, s3, s4, s5, s6, s7, s8, s9⟩
                                      go_simp
                                      with_reducible rfl
                                    rotate_left
                                    · simp only [Act.put, List.setIfInBounds_toArray, List.set_cons_zero, List.set_cons_succ, i64_w, i32_w]
                                      rfl
                                    refine take_ (i := 1) (N := some 77) (v := ?_) (a' := ?_) #[true, true, false, true, true, true, false, false, false, false, false, false, false, false, false, false, false, false, false, false, false, false, false] rfl rfl (take_ofW HT_.out HW_.out (by kernel_rfl)) (fun _ _ _ h => h) (Or.inl ⟨by rfl, ?_⟩) hHeld ?_ ?_
                                    rotate_left
                                    · rintro w' ⟨s0, s1, s2, s3, s4, s5, s6, s7, s8, s9⟩
                                      go_simp
                                      with_reducible rfl
                                    rotate_left
                                    · simp only [Act.put, List.setIfInBounds_toArray, List.set_cons_zero, List.set_cons_succ, i64_w, i32_w]
                                      rfl
                                    refine take_ (i := 6) (N := some 82) (v := ?_) (a' := ?_) #[true, true, false, true, true, true, true, false, false, false, false, false, false, false, false, false, false, false, false, false, false, false, false] rfl rfl (take_ofW HT_.out HW_.out (by kernel_rfl)) (fun _ _ _ h => h) (Or.inl ⟨by rfl, ?_⟩) hHeld ?_ ?_
                                    rotate_left
                                    · rintro w' ⟨s0, s1, s2, s3, s4, s5, s6, s7, s8, s9⟩
                                      go_simp
                                      with_reducible rfl
                                    rotate_left
                                    · simp only [Act.put, List.setIfInBounds_toArray, List.set_cons_zero, List.set_cons_succ, i64_w, i32_w]
                                      rfl
                                    refine pure_ (i := 7) (N := some 83) (v := ?_) (a' := ?_) #[true, true, false, true, true, true, true, true, false, false, false, false, false, false, false, false, false, false, false, false, false, false, false] rfl rfl (any_of HT_.out (by kernel_rfl)) (fun _ _ _ h => h) (Or.inl ⟨by rfl, ?_⟩) ?_ ?_
                                    rotate_left
                                    · intro w'
                                      go_simp
                                      with_reducible rfl
                                    rotate_left
                                    · simp only [Act.put, List.setIfInBounds_toArray, List.set_cons_zero, List.set_cons_succ, i64_w, i32_w]
                                      rfl
                                    refine one_ (i := 2) (N := some 78) #[true, true, true, true, true, true, true, true, false, false, false, false, false, false, false, false, false, false, false, false, false, false, false] rfl rfl (one_of HT_.out (by kernel_rfl)) (by decide) (fun K hK => ?_)
                                    refine goes_ Try.func18 (by kernel_rfl) rfl #[.agg #[.int .i64 0, .slice Ao24 y418.length co24], .agg #[.string x439000_40, .string ((rd_T39 t422 x11_2).f1)]] (by rfl) rfl rfl (by (try simp only [List.map_toArray, List.map_cons, List.map_nil]); first | done | rfl | (simp only [List.length_drop, List.length_take]; rfl)) ?_
                                    with_reducible refine (doc_Count.calls 0 _ _ y418 x439000_40 ((rd_T39 t422 x11_2).f1) t439 _ ?side1 ?side2 A54.out).mono ?_
                                    (case side1 => repeat (first | exact (Kd.R_reads' HO_422001.out).2.2 | (with_reducible refine Kd.C_alloc ?_ _) | (with_reducible refine Kd.C_drewN ?_ _) | (with_reducible refine Kd.C_drew ?_)))
                                    (case side2 => exact (Kd.R_reads' HO_422001.out).2.1)
                                    rintro e w67 ⟨rfl, hb⟩
                                    have HS6_ := (hb.cell (World.block_lt_of_cell? _ _ (hHeld.2.2.2.2.2.2.1))).trans (hHeld.2.2.2.2.2.2.1)
                                    have HS7_ := (hb.cell (World.block_lt_of_cell? _ _ (hHeld.2.2.2.2.2.2.2.1))).trans (hHeld.2.2.2.2.2.2.2.1)
                                    have HS8_ := (hb.cell (World.block_lt_of_cell? _ _ (hHeld.2.2.2.2.2.2.2.2.1))).trans (hHeld.2.2.2.2.2.2.2.2.1)
                                    have HS9_ := (hb.cell (World.block_lt_of_cell? _ _ (hHeld.2.2.2.2.2.2.2.2.2))).trans (hHeld.2.2.2.2.2.2.2.2.2)
                                    refine ⟨_, rfl, ?_⟩
                                    have n0_ := Aside0.mk (Kd.R_below (by (with_reducible repeat (first | apply Kd.R_alloc | apply Kd.R_drewN | apply Kd.R_drew)); exact HO_7.out) hb)
                                    have n1_ := Aside0.mk (Kd.S_below (by (with_reducible repeat (first | apply Kd.S_alloc | apply Kd.S_drewN | apply Kd.S_drew)); exact HO_8.out) hb)
                                    have n2_ := Aside0.mk (Kd.R_below (by (with_reducible repeat (first | apply Kd.R_alloc | apply Kd.R_drewN | apply Kd.R_drew)); exact HO_415001.out) hb)
                                    have n3_ := Aside0.mk (Kd.R_below (by (with_reducible repeat (first | apply Kd.R_alloc | apply Kd.R_drewN | apply Kd.R_drew)); exact HO_422001.out) hb)
                                    have n4_ := Aside0.mk (Kd.R_below (by (with_reducible repeat (first | apply Kd.R_alloc | apply Kd.R_drewN | apply Kd.R_drew)); exact HL440_0.out) hb)
                                    have n5_ := Aside0.mk (blk_below (g := gb414) (o := .cells #[.int .i64 t410, .slice (some ad416) t411.length co16] 24 (0, 0)) (by (with_reducible repeat (first | refine blk_drewN ?_ _ | refine blk_drew ?_ | refine blk_alloc ?_ _)); exact BK414.out) hb)
                                    have n6_ := Aside0.mk (blk_below (g := gb421) (o := .cells #[.int .i64 0, .slice Ao24 y418.length co24] 24 (0, 0)) (by (with_reducible repeat (first | refine blk_drewN ?_ _ | refine blk_drew ?_ | refine blk_alloc ?_ _)); exact BK421.out) hb)
                                    have n7_ := Aside0.mk (blk_below (g := gb438) (o := .cells #[.string x439000_40, .string ((rd_T39 t422 x11_2).f1)] 39 (0, 0)) (by (with_reducible repeat (first | refine blk_drewN ?_ _ | refine blk_drew ?_ | refine blk_alloc ?_ _)); exact BK438.out) hb)
                                    have n8_ := Aside0.mk (Kd.C_below (by repeat (first | (with_reducible exact HR440_0.out) | (with_reducible refine Kd.C_alloc ?_ _) | (with_reducible refine Kd.C_drewN ?_ _) | (with_reducible refine Kd.C_drew ?_) | exact HR440_0.out)) hb)
                                    have n9_ := Aside0.mk (below_step (by repeat (first | (with_reducible first | exact HB.out | apply below_alloc | apply pw_below_drewN | apply below_drew1 | refine below_set ?_ GE414.out | refine below_set ?_ GE421.out | refine below_set ?_ GE438.out) | exact HB.out)) hb)
                                    clear HO_7
                                    clear HO_8
                                    clear HO_415001
                                    clear HO_422001
                                    clear HL440_0
                                    clear BK414
                                    clear BK421
                                    clear BK438
                                    clear HR440_0
                                    clear HB
                                    have HO_7 := n0_
                                    have HO_8 := n1_
                                    have HO_415001 := n2_
                                    have HO_422001 := n3_
                                    have HL440_0 := n4_
                                    have BK414 := n5_
                                    have BK421 := n6_
                                    have BK438 := n7_
                                    have HR440_0 := n8_
                                    have HB := n9_
                                    clear n0_ n1_ n2_ n3_ n4_ n5_ n6_ n7_ n8_ n9_
                                    (try clear hb)
                                    (try clear hb2)
                                    (try clear hk)
                                    (try clear hi)
                                    refine hK.out _ _ ⟨(blk_cell BK421.out 0).trans rfl, (blk_cell BK421.out 1).trans rfl, (blk_cell BK438.out 0).trans rfl, (blk_cell BK438.out 1).trans rfl, (blk_cell BK414.out 0).trans rfl, (blk_cell BK414.out 1).trans rfl, HS6_, HS7_, HS8_, HS9_⟩ (fun hHeld => ?_)
                                    clear hK K
                                    refine norm_ (a' := ?_) ?_ ?_
                                    rotate_left
                                    · show Act.put _ (some 78) _ = _
                                      simp only [Act.put, List.setIfInBounds_toArray, List.set_cons_zero, List.set_cons_succ, i64_w, i32_w]
                                      rfl
                                    refine pure_ (i := 8) (N := some 84) (v := ?_) (a' := ?_) #[true, true, true, true, true, true, true, true, true, false, false, false, false, false, false, false, false, false, false, false, false, false, false] rfl rfl (any_of HT_.out (by kernel_rfl)) (fun _ _ _ h => h) (Or.inl ⟨by rfl, ?_⟩) ?_ ?_
                                    rotate_left
                                    · intro w'
                                      go_simp
                                      with_reducible rfl
                                    rotate_left
                                    · simp only [Act.put, List.setIfInBounds_toArray, List.set_cons_zero, List.set_cons_succ, i64_w, i32_w]
                                      rfl
                                    refine pure_ (i := 9) (N := some 85) (v := ?_) (a' := ?_) #[true, true, true, true, true, true, true, true, true, true, false, false, false, false, false, false, false, false, false, false, false, false, false] rfl rfl (any_of HT_.out (by kernel_rfl)) (fun _ _ _ h => h) (Or.inl ⟨by rfl, ?_⟩) ?_ ?_
                                    rotate_left
                                    · intro w'
                                      go_simp
                                      with_reducible rfl
                                    rotate_left
                                    · simp only [Act.put, List.setIfInBounds_toArray, List.set_cons_zero, List.set_cons_succ, i64_w, i32_w]
                                      rfl
                                    refine pure_ (i := 11) (N := some 87) (v := ?_) (a' := ?_) #[true, true, true, true, true, true, true, true, true, true, false, true, false, false, false, false, false, false, false, false, false, false, false] rfl rfl (any_of HT_.out (by kernel_rfl)) (fun _ _ _ h => h) (Or.inl ⟨by rfl, ?_⟩) ?_ ?_
                                    rotate_left
                                    · intro w'
                                      go_simp
                                      with_reducible rfl
                                    rotate_left
                                    · simp only [Act.put, List.setIfInBounds_toArray, List.set_cons_zero, List.set_cons_succ, i64_w, i32_w]
                                      rfl
                                    refine pure_ (i := 12) (N := some 88) (v := ?_) (a' := ?_) #[true, true, true, true, true, true, true, true, true, true, false, true, true, false, false, false, false, false, false, false, false, false, false] rfl rfl (any_of HT_.out (by kernel_rfl)) (fun _ _ _ h => h) (Or.inl ⟨by rfl, ?_⟩) ?_ ?_
                                    rotate_left
                                    · intro w'
                                      go_simp
                                      with_reducible rfl
                                    rotate_left
                                    · simp only [Act.put, List.setIfInBounds_toArray, List.set_cons_zero, List.set_cons_succ, i64_w, i32_w]
                                      rfl
                                    refine pure_ (i := 13) (N := some 89) (v := ?_) (a' := ?_) #[true, true, true, true, true, true, true, true, true, true, false, true, true, true, false, false, false, false, false, false, false, false, false] rfl rfl (any_of HT_.out (by kernel_rfl)) (fun _ _ _ h => h) (Or.inl ⟨by rfl, ?_⟩) ?_ ?_
                                    rotate_left
                                    · intro w'
                                      go_simp
                                      with_reducible rfl
                                    rotate_left
                                    · simp only [Act.put, List.setIfInBounds_toArray, List.set_cons_zero, List.set_cons_succ, i64_w, i32_w]
                                      rfl
                                    refine pure_ (i := 16) (N := some 92) (v := ?_) (a' := ?_) #[true, true, true, true, true, true, true, true, true, true, false, true, true, true, false, false, true, false, false, false, false, false, false] rfl rfl (any_of HT_.out (by kernel_rfl)) (fun _ _ _ h => h) (Or.inl ⟨by rfl, ?_⟩) ?_ ?_
                                    rotate_left
                                    · intro w'
                                      go_simp
                                      with_reducible rfl
                                    rotate_left
                                    · simp only [Act.put, List.setIfInBounds_toArray, List.set_cons_zero, List.set_cons_succ, i64_w, i32_w]
                                      rfl
                                    refine pure_ (i := 17) (N := some 93) (v := ?_) (a' := ?_) #[true, true, true, true, true, true, true, true, true, true, false, true, true, true, false, false, true, true, false, false, false, false, false] rfl rfl (any_of HT_.out (by kernel_rfl)) (fun _ _ _ h => h) (Or.inl ⟨by rfl, ?_⟩) ?_ ?_
                                    rotate_left
                                    · intro w'
                                      go_simp
                                      with_reducible rfl
                                    rotate_left
                                    · simp only [Act.put, List.setIfInBounds_toArray, List.set_cons_zero, List.set_cons_succ, i64_w, i32_w]
                                      rfl
                                    refine pure_ (i := 18) (N := some 94) (v := ?_) (a' := ?_) #[true, true, true, true, true, true, true, true, true, true, false, true, true, true, false, false, true, true, true, false, false, false, false] rfl rfl (any_of HT_.out (by kernel_rfl)) (fun _ _ _ h => h) (Or.inl ⟨by rfl, ?_⟩) ?_ ?_
                                    rotate_left
                                    · intro w'
                                      go_simp
                                      with_reducible rfl
                                    rotate_left
                                    · simp only [Act.put, List.setIfInBounds_toArray, List.set_cons_zero, List.set_cons_succ, i64_w, i32_w]
                                      rfl
                                    refine take_ (i := 10) (N := some 86) (v := ?_) (a' := ?_) #[true, true, true, true, true, true, true, true, true, true, true, true, true, true, false, false, true, true, true, false, false, false, false] rfl rfl (take_ofW HT_.out HW_.out (by kernel_rfl)) (fun _ _ _ h => h) (Or.inl ⟨by rfl, ?_⟩) hHeld ?_ ?_
                                    rotate_left
                                    · rintro w' ⟨s0, s1, s2, s3, s4, s5, s6, s7, s8, s9⟩
                                      go_simp
                                      with_reducible rfl
                                    rotate_left
                                    · simp only [Act.put, List.setIfInBounds_toArray, List.set_cons_zero, List.set_cons_succ, i64_w, i32_w]
                                      rfl
                                    refine take_ (i := 14) (N := some 90) (v := ?_) (a' := ?_) #[true, true, true, true, true, true, true, true, true, true, true, true, true, true, true, false, true, true, true, false, false, false, false] rfl rfl (take_ofW HT_.out HW_.out (by kernel_rfl)) (fun _ _ _ h => h) (Or.inl ⟨by rfl, ?_⟩) hHeld ?_ ?_
                                    rotate_left
                                    · rintro w' ⟨s0, s1, s2, s3, s4, s5, s6, s7, s8, s9⟩
                                      go_simp
                                      with_reducible rfl
                                    rotate_left
                                    · simp only [Act.put, List.setIfInBounds_toArray, List.set_cons_zero, List.set_cons_succ, i64_w, i32_w]
                                      rfl
                                    refine take_ (i := 19) (N := some 95) (v := ?_) (a' := ?_) #[true, true, true, true, true, true, true, true, true, true, true, true, true, true, true, false, true, true, true, true, false, false, false] rfl rfl (take_ofW HT_.out HW_.out (by kernel_rfl)) (fun _ _ _ h => h) (Or.inl ⟨by rfl, ?_⟩) hHeld ?_ ?_
                                    rotate_left
                                    · rintro w' ⟨s0, s1, s2, s3, s4, s5, s6, s7, s8, s9⟩
                                      go_simp
                                      with_reducible rfl
                                    rotate_left
                                    · simp only [Act.put, List.setIfInBounds_toArray, List.set_cons_zero, List.set_cons_succ, i64_w, i32_w]
                                      rfl
                                    refine pure_ (i := 20) (N := some 96) (v := ?_) (a' := ?_) #[true, true, true, true, true, true, true, true, true, true, true, true, true, true, true, false, true, true, true, true, true, false, false] rfl rfl (any_of HT_.out (by kernel_rfl)) (fun _ _ _ h => h) (Or.inl ⟨by rfl, ?_⟩) ?_ ?_
                                    rotate_left
                                    · intro w'
                                      go_simp
                                      with_reducible rfl
                                    rotate_left
                                    · simp only [Act.put, List.setIfInBounds_toArray, List.set_cons_zero, List.set_cons_succ, i64_w, i32_w]
                                      rfl
                                    refine one_ (i := 15) (N := some 91) #[true, true, true, true, true, true, true, true, true, true, true, true, true, true, true, true, true, true, true, true, true, false, false] rfl rfl (one_of HT_.out (by kernel_rfl)) (by decide) (fun K hK => ?_)
                                    refine goes_ Try.func18 (by kernel_rfl) rfl #[.agg #[.int .i64 t410, .slice (some ad416) t411.length co16], .agg #[.string ((rd_T39 t422 x11_2).f0), .string ((rd_T39 t422 x11_2).f1)]] (by rfl) rfl rfl (by (try simp only [List.map_toArray, List.map_cons, List.map_nil]); first | done | rfl | (simp only [List.length_drop, List.length_take]; rfl)) ?_
                                    with_reducible refine (doc_Count.calls t410 _ _ t411 ((rd_T39 t422 x11_2).f0) ((rd_T39 t422 x11_2).f1) t442 _ ?side1 ?side2 A59.out).mono ?_
                                    (case side1 => repeat (first | exact (Kd.R_reads' HO_415001.out).2.2 | (with_reducible refine Kd.C_alloc ?_ _) | (with_reducible refine Kd.C_drewN ?_ _) | (with_reducible refine Kd.C_drew ?_)))
                                    (case side2 => exact (Kd.R_reads' HO_415001.out).2.1)
                                    rintro e w68 ⟨rfl, hb⟩
                                    have HS6_ := (hb.cell (World.block_lt_of_cell? _ _ (hHeld.2.2.2.2.2.2.1))).trans (hHeld.2.2.2.2.2.2.1)
                                    have HS7_ := (hb.cell (World.block_lt_of_cell? _ _ (hHeld.2.2.2.2.2.2.2.1))).trans (hHeld.2.2.2.2.2.2.2.1)
                                    have HS8_ := (hb.cell (World.block_lt_of_cell? _ _ (hHeld.2.2.2.2.2.2.2.2.1))).trans (hHeld.2.2.2.2.2.2.2.2.1)
                                    have HS9_ := (hb.cell (World.block_lt_of_cell? _ _ (hHeld.2.2.2.2.2.2.2.2.2))).trans (hHeld.2.2.2.2.2.2.2.2.2)
                                    refine ⟨_, rfl, ?_⟩
                                    have n0_ := Aside0.mk (Kd.R_below (by (with_reducible repeat (first | apply Kd.R_alloc | apply Kd.R_drewN | apply Kd.R_drew)); exact HO_7.out) hb)
                                    have n1_ := Aside0.mk (Kd.S_below (by (with_reducible repeat (first | apply Kd.S_alloc | apply Kd.S_drewN | apply Kd.S_drew)); exact HO_8.out) hb)
                                    have n2_ := Aside0.mk (Kd.R_below (by (with_reducible repeat (first | apply Kd.R_alloc | apply Kd.R_drewN | apply Kd.R_drew)); exact HO_415001.out) hb)
                                    have n3_ := Aside0.mk (Kd.R_below (by (with_reducible repeat (first | apply Kd.R_alloc | apply Kd.R_drewN | apply Kd.R_drew)); exact HO_422001.out) hb)
                                    have n4_ := Aside0.mk (Kd.R_below (by (with_reducible repeat (first | apply Kd.R_alloc | apply Kd.R_drewN | apply Kd.R_drew)); exact HL440_0.out) hb)
                                    have n5_ := Aside0.mk (blk_below (g := gb414) (o := .cells #[.int .i64 t410, .slice (some ad416) t411.length co16] 24 (0, 0)) (by (with_reducible repeat (first | refine blk_drewN ?_ _ | refine blk_drew ?_ | refine blk_alloc ?_ _)); exact BK414.out) hb)
                                    have n6_ := Aside0.mk (blk_below (g := gb421) (o := .cells #[.int .i64 0, .slice Ao24 y418.length co24] 24 (0, 0)) (by (with_reducible repeat (first | refine blk_drewN ?_ _ | refine blk_drew ?_ | refine blk_alloc ?_ _)); exact BK421.out) hb)
                                    have n7_ := Aside0.mk (blk_below (g := gb438) (o := .cells #[.string x439000_40, .string ((rd_T39 t422 x11_2).f1)] 39 (0, 0)) (by (with_reducible repeat (first | refine blk_drewN ?_ _ | refine blk_drew ?_ | refine blk_alloc ?_ _)); exact BK438.out) hb)
                                    have n8_ := Aside0.mk (Kd.C_below (by repeat (first | (with_reducible exact HR440_0.out) | (with_reducible refine Kd.C_alloc ?_ _) | (with_reducible refine Kd.C_drewN ?_ _) | (with_reducible refine Kd.C_drew ?_) | exact HR440_0.out)) hb)
                                    have n9_ := Aside0.mk (below_step (by repeat (first | (with_reducible first | exact HB.out | apply below_alloc | apply pw_below_drewN | apply below_drew1 | refine below_set ?_ GE414.out | refine below_set ?_ GE421.out | refine below_set ?_ GE438.out) | exact HB.out)) hb)
                                    clear HO_7
                                    clear HO_8
                                    clear HO_415001
                                    clear HO_422001
                                    clear HL440_0
                                    clear BK414
                                    clear BK421
                                    clear BK438
                                    clear HR440_0
                                    clear HB
                                    have HO_7 := n0_
                                    have HO_8 := n1_
                                    have HO_415001 := n2_
                                    have HO_422001 := n3_
                                    have HL440_0 := n4_
                                    have BK414 := n5_
                                    have BK421 := n6_
                                    have BK438 := n7_
                                    have HR440_0 := n8_
                                    have HB := n9_
                                    clear n0_ n1_ n2_ n3_ n4_ n5_ n6_ n7_ n8_ n9_
                                    (try clear hb)
                                    (try clear hb2)
                                    (try clear hk)
                                    (try clear hi)
                                    refine hK.out _ _ ⟨(blk_cell BK421.out 0).trans rfl, (blk_cell BK421.out 1).trans rfl, (blk_cell BK438.out 0).trans rfl, (blk_cell BK438.out 1).trans rfl, (blk_cell BK414.out 0).trans rfl, (blk_cell BK414.out 1).trans rfl, HS6_, HS7_, HS8_, HS9_⟩ (fun hHeld => ?_)
                                    clear hK K
                                    refine norm_ (a' := ?_) ?_ ?_
                                    rotate_left
                                    · show Act.put _ (some 91) _ = _
                                      simp only [Act.put, List.setIfInBounds_toArray, List.set_cons_zero, List.set_cons_succ, i64_w, i32_w]
                                      rfl
                                    refine pure_ (i := 21) (N := some 97) (v := ?_) (a' := ?_) #[true, true, true, true, true, true, true, true, true, true, true, true, true, true, true, true, true, true, true, true, true, true, false] rfl rfl (any_of HT_.out (by kernel_rfl)) (fun _ _ _ h => h) (Or.inl ⟨by rfl, ?_⟩) ?_ ?_
                                    rotate_left
                                    · intro w'
                                      go_simp
                                      with_reducible rfl
                                    rotate_left
                                    · simp only [Act.put, List.setIfInBounds_toArray, List.set_cons_zero, List.set_cons_succ, i64_w, i32_w]
                                      rfl
                                    refine pure_ (i := 22) (N := some 98) (v := ?_) (a' := ?_) #[true, true, true, true, true, true, true, true, true, true, true, true, true, true, true, true, true, true, true, true, true, true, true] rfl rfl (any_of HT_.out (by kernel_rfl)) (fun _ _ _ h => h) (Or.inl ⟨by rfl, ?_⟩) ?_ ?_
                                    rotate_left
                                    · intro w'
                                      go_simp
                                      with_reducible rfl
                                    rotate_left
                                    · simp only [Act.put, List.setIfInBounds_toArray, List.set_cons_zero, List.set_cons_succ, i64_w, i32_w]
                                      rfl
                                    refine done_ (done_of HT_.out (by kernel_rfl)) ?_
                                    try go_wp2
                                    go_ret
                                    exact ⟨by first | rfl | (simp [errW_none, errW_some] <;> rfl) | (simp [*, errW_none, errW_some] <;> rfl), by repeat (first | (with_reducible first | exact HB.out | apply below_alloc | apply pw_below_drewN | apply below_drew1 | refine below_set ?_ GE414.out | refine below_set ?_ GE421.out | refine below_set ?_ GE438.out) | exact HB.out)⟩
                                · rw [if_neg c58] at H
                                  exact absurd H (by simp)
                              · rw [if_neg c57] at H
                                have c57b0 : (t439 == ((rd_L7 t425 x11_2).length : Int)) = false := beq_eq_false_iff_ne.mpr c57
                                have c57b1 : (t439 != ((rd_L7 t425 x11_2).length : Int)) = true := bne_iff_ne.mpr c57
                                obtain rfl := Option.some.inj H
                                try go_wp2
                                have n0_ := Aside0.mk (Kd.R_drew HO_7.out)
                                have n1_ := Aside0.mk (Kd.S_drew HO_8.out)
                                have n2_ := Aside0.mk (Kd.R_drew HO_415001.out)
                                have n3_ := Aside0.mk (Kd.R_drew HO_422001.out)
                                have n4_ := Aside0.mk (blk_drew BK414.out)
                                have n5_ := Aside0.mk (blk_drew BK421.out)
                                have n6_ := Aside0.mk (blk_drew BK438.out)
                                have n7_ := Aside0.mk (below_drew1 HB.out)
                                clear HO_7
                                clear HO_8
                                clear HO_415001
                                clear HO_422001
                                clear BK414
                                clear BK421
                                clear BK438
                                clear HB
                                have HO_7 := n0_
                                have HO_8 := n1_
                                have HO_415001 := n2_
                                have HO_422001 := n3_
                                have BK414 := n4_
                                have BK421 := n5_
                                have BK438 := n6_
                                have HB := n7_
                                clear n0_ n1_ n2_ n3_ n4_ n5_ n6_ n7_
                                obtain ⟨Ao70, co70, eo70⟩ := Kd.S_slice HO_8.out
                                (first | subst eo70 | (injection eo70 with f1_ f2_ f3_; have f4_ := f1_.symm; have f5_ := f3_.symm; clear f1_ f2_ f3_; subst f4_; subst f5_))
                                have p440 : 0 ≤ (x11_2 : Int) := of_decide_eq_true (by first | (with_reducible assumption) | assumption)
                                have q440 : x11_2 < (t425.length : Int) := of_decide_eq_true (by first | (with_reducible assumption) | assumption)
                                obtain ⟨ad440, A440_0, c440_0, e440, hx440_0, hl440_0, hi440_0⟩ := at_L7 (Kd.S_reads' HO_8.out).2.2 x11_2 p440 q440
                                cases e440
                                obtain ⟨ce440, hce440, hMe440, hcc440⟩ := Kd.S_get HO_8.out [] x11_2 p440 (by first | exact q440 | exact of_decide_eq_true (by first | (with_reducible assumption) | assumption) | (have e_ := (Kd.S_reads' HO_8.out).1; omega))
                                obtain ⟨ve440_0, rfl, ge440_0⟩ := hMe440
                                have hv440_0 := hcc440 0 _ rfl
                                rw [Nat.add_zero, show ((Kd.slice 3 (Kd.int .i64))).sz = 1 from rfl, Nat.mul_one] at hv440_0
                                replace hv440_0 := Option.some.inj (hv440_0.symm.trans hx440_0)
                                rw [hv440_0] at ge440_0
                                have HL440_0 := Aside0.mk (show Kd.R (Kd.int .i64) 3 _ _ _ _ (rd_L7 t425 x11_2) from ge440_0)
                                clear hv440_0 ge440_0
                                clear hcc440 hce440
                                have HR440_0 := Aside0.mk hi440_0
                                have HC440_0 := Aside0.mk hl440_0
                                clear hi440_0 hl440_0
                                replace p440 := eq_true p440
                                replace q440 := eq_true q440
                                refine start_ (n := 23) (S := fun w' => w'.cell? ⟨gb421, 0, none⟩ = some (.int .i64 0) ∧ w'.cell? ⟨gb421, 1, none⟩ = some (.slice Ao24 y418.length co24) ∧ w'.cell? ⟨gb438, 0, none⟩ = some (.string x439000_40) ∧ w'.cell? ⟨gb438, 1, none⟩ = some (.string ((rd_T39 t422 x11_2).f1)) ∧ w'.cell? (ad440.add (x11_2).toNat) = some (.slice A440_0 (rd_L7 t425 x11_2).length c440_0)) (ds := []) #[false, false, false, false, false, false, false, false, false, false, false, false, false, false, false, false, false, false, false, false, false, false, false] (by kernel_rfl) rfl rfl ⟨(blk_cell BK421.out 0).trans rfl, (blk_cell BK421.out 1).trans rfl, (blk_cell BK438.out 0).trans rfl, (blk_cell BK438.out 1).trans rfl, hx440_0⟩ (fun hHeld => ?_); refine with_tabW concordancelaw08_DocFields.tab16 concordancelaw08_DocFields.bits16 (fun HT_ HW_ => ?_)
                                generalize wc.drew = w69 at HO_7 HO_8 HO_415001 HO_422001 BK414 BK421 BK438 HB HL440_0 HR440_0 hx440_0 hHeld ⊢
                                refine pure_ (i := 3) (N := some 79) (v := ?_) (a' := ?_) #[false, false, false, true, false, false, false, false, false, false, false, false, false, false, false, false, false, false, false, false, false, false, false] rfl rfl (any_of HT_.out (by kernel_rfl)) (fun _ _ _ h => h) (Or.inl ⟨by rfl, ?_⟩) ?_ ?_
                                rotate_left
                                · intro w'
                                  go_simp
                                  with_reducible rfl
                                rotate_left
                                · simp only [Act.put, List.setIfInBounds_toArray, List.set_cons_zero, List.set_cons_succ, i64_w, i32_w]
                                  rfl
                                refine pure_ (i := 4) (N := some 80) (v := ?_) (a' := ?_) #[false, false, false, true, true, false, false, false, false, false, false, false, false, false, false, false, false, false, false, false, false, false, false] rfl rfl (any_of HT_.out (by kernel_rfl)) (fun _ _ _ h => h) (Or.inl ⟨by rfl, ?_⟩) ?_ ?_
                                rotate_left
                                · intro w'
                                  go_simp
                                  with_reducible rfl
                                rotate_left
                                · simp only [Act.put, List.setIfInBounds_toArray, List.set_cons_zero, List.set_cons_succ, i64_w, i32_w]
                                  rfl
                                refine pure_ (i := 5) (N := some 81) (v := ?_) (a' := ?_) #[false, false, false, true, true, true, false, false, false, false, false, false, false, false, false, false, false, false, false, false, false, false, false] rfl rfl (any_of HT_.out (by kernel_rfl)) (fun _ _ _ h => h) (Or.inl ⟨by rfl, ?_⟩) ?_ ?_
                                rotate_left
                                · intro w'
                                  go_simp
                                  with_reducible rfl
                                rotate_left
                                · simp only [Act.put, List.setIfInBounds_toArray, List.set_cons_zero, List.set_cons_succ, i64_w, i32_w]
                                  rfl
                                refine take_ (i := 0) (N := some 76) (v := ?_) (a' := ?_) #[true, false, false, true, true, true, false, false, false, false, false, false, false, false, false, false, false, false, false, false, false, false, false] rfl rfl (take_ofW HT_.out HW_.out (by kernel_rfl)) (fun _ _ _ h => h) (Or.inl ⟨by rfl, ?_⟩) hHeld ?_ ?_
                                rotate_left
                                · rintro w' ⟨s0, s1, s2, s3, s4⟩
                                  go_simp
                                  with_reducible rfl
                                rotate_left
                                · simp only [Act.put, List.setIfInBounds_toArray, List.set_cons_zero, List.set_cons_succ, i64_w, i32_w]
                                  rfl
                                refine take_ (i := 1) (N := some 77) (v := ?_) (a' := ?_) #[true, true, false, true, true, true, false, false, false, false, false, false, false, false, false, false, false, false, false, false, false, false, false] rfl rfl (take_ofW HT_.out HW_.out (by kernel_rfl)) (fun _ _ _ h => h) (Or.inl ⟨by rfl, ?_⟩) hHeld ?_ ?_
                                rotate_left
                                · rintro w' ⟨s0, s1, s2, s3, s4⟩
                                  go_simp
                                  with_reducible rfl
                                rotate_left
                                · simp only [Act.put, List.setIfInBounds_toArray, List.set_cons_zero, List.set_cons_succ, i64_w, i32_w]
                                  rfl
                                refine take_ (i := 6) (N := some 82) (v := ?_) (a' := ?_) #[true, true, false, true, true, true, true, false, false, false, false, false, false, false, false, false, false, false, false, false, false, false, false] rfl rfl (take_ofW HT_.out HW_.out (by kernel_rfl)) (fun _ _ _ h => h) (Or.inl ⟨by rfl, ?_⟩) hHeld ?_ ?_
                                rotate_left
                                · rintro w' ⟨s0, s1, s2, s3, s4⟩
                                  go_simp
                                  with_reducible rfl
                                rotate_left
                                · simp only [Act.put, List.setIfInBounds_toArray, List.set_cons_zero, List.set_cons_succ, i64_w, i32_w]
                                  rfl
                                refine pure_ (i := 7) (N := some 83) (v := ?_) (a' := ?_) #[true, true, false, true, true, true, true, true, false, false, false, false, false, false, false, false, false, false, false, false, false, false, false] rfl rfl (any_of HT_.out (by kernel_rfl)) (fun _ _ _ h => h) (Or.inl ⟨by rfl, ?_⟩) ?_ ?_
                                rotate_left
                                · intro w'
                                  go_simp
                                  with_reducible rfl
                                rotate_left
                                · simp only [Act.put, List.setIfInBounds_toArray, List.set_cons_zero, List.set_cons_succ, i64_w, i32_w]
                                  rfl
                                refine one_ (i := 2) (N := some 78) #[true, true, true, true, true, true, true, true, false, false, false, false, false, false, false, false, false, false, false, false, false, false, false] rfl rfl (one_of HT_.out (by kernel_rfl)) (by decide) (fun K hK => ?_)
                                refine goes_ Try.func18 (by kernel_rfl) rfl #[.agg #[.int .i64 0, .slice Ao24 y418.length co24], .agg #[.string x439000_40, .string ((rd_T39 t422 x11_2).f1)]] (by rfl) rfl rfl (by (try simp only [List.map_toArray, List.map_cons, List.map_nil]); first | done | rfl | (simp only [List.length_drop, List.length_take]; rfl)) ?_
                                with_reducible refine (doc_Count.calls 0 _ _ y418 x439000_40 ((rd_T39 t422 x11_2).f1) t439 _ ?side1 ?side2 A54.out).mono ?_
                                (case side1 => repeat (first | exact (Kd.R_reads' HO_422001.out).2.2 | (with_reducible refine Kd.C_alloc ?_ _) | (with_reducible refine Kd.C_drewN ?_ _) | (with_reducible refine Kd.C_drew ?_)))
                                (case side2 => exact (Kd.R_reads' HO_422001.out).2.1)
                                rintro e w71 ⟨rfl, hb⟩
                                have HS4_ := (hb.cell (World.block_lt_of_cell? _ _ (hHeld.2.2.2.2))).trans (hHeld.2.2.2.2)
                                refine ⟨_, rfl, ?_⟩
                                have n0_ := Aside0.mk (Kd.R_below (by (with_reducible repeat (first | apply Kd.R_alloc | apply Kd.R_drewN | apply Kd.R_drew)); exact HO_7.out) hb)
                                have n1_ := Aside0.mk (Kd.S_below (by (with_reducible repeat (first | apply Kd.S_alloc | apply Kd.S_drewN | apply Kd.S_drew)); exact HO_8.out) hb)
                                have n2_ := Aside0.mk (Kd.R_below (by (with_reducible repeat (first | apply Kd.R_alloc | apply Kd.R_drewN | apply Kd.R_drew)); exact HO_415001.out) hb)
                                have n3_ := Aside0.mk (Kd.R_below (by (with_reducible repeat (first | apply Kd.R_alloc | apply Kd.R_drewN | apply Kd.R_drew)); exact HO_422001.out) hb)
                                have n4_ := Aside0.mk (Kd.R_below (by (with_reducible repeat (first | apply Kd.R_alloc | apply Kd.R_drewN | apply Kd.R_drew)); exact HL440_0.out) hb)
                                have n5_ := Aside0.mk (blk_below (g := gb414) (o := .cells #[.int .i64 t410, .slice (some ad416) t411.length co16] 24 (0, 0)) (by (with_reducible repeat (first | refine blk_drewN ?_ _ | refine blk_drew ?_ | refine blk_alloc ?_ _)); exact BK414.out) hb)
                                have n6_ := Aside0.mk (blk_below (g := gb421) (o := .cells #[.int .i64 0, .slice Ao24 y418.length co24] 24 (0, 0)) (by (with_reducible repeat (first | refine blk_drewN ?_ _ | refine blk_drew ?_ | refine blk_alloc ?_ _)); exact BK421.out) hb)
                                have n7_ := Aside0.mk (blk_below (g := gb438) (o := .cells #[.string x439000_40, .string ((rd_T39 t422 x11_2).f1)] 39 (0, 0)) (by (with_reducible repeat (first | refine blk_drewN ?_ _ | refine blk_drew ?_ | refine blk_alloc ?_ _)); exact BK438.out) hb)
                                have n8_ := Aside0.mk (Kd.C_below (by repeat (first | (with_reducible exact HR440_0.out) | (with_reducible refine Kd.C_alloc ?_ _) | (with_reducible refine Kd.C_drewN ?_ _) | (with_reducible refine Kd.C_drew ?_) | exact HR440_0.out)) hb)
                                have n9_ := Aside0.mk (below_step (by repeat (first | (with_reducible first | exact HB.out | apply below_alloc | apply pw_below_drewN | apply below_drew1 | refine below_set ?_ GE414.out | refine below_set ?_ GE421.out | refine below_set ?_ GE438.out) | exact HB.out)) hb)
                                clear HO_7
                                clear HO_8
                                clear HO_415001
                                clear HO_422001
                                clear HL440_0
                                clear BK414
                                clear BK421
                                clear BK438
                                clear HR440_0
                                clear HB
                                have HO_7 := n0_
                                have HO_8 := n1_
                                have HO_415001 := n2_
                                have HO_422001 := n3_
                                have HL440_0 := n4_
                                have BK414 := n5_
                                have BK421 := n6_
                                have BK438 := n7_
                                have HR440_0 := n8_
                                have HB := n9_
                                clear n0_ n1_ n2_ n3_ n4_ n5_ n6_ n7_ n8_ n9_
                                (try clear hb)
                                (try clear hb2)
                                (try clear hk)
                                (try clear hi)
                                refine hK.out _ _ ⟨(blk_cell BK421.out 0).trans rfl, (blk_cell BK421.out 1).trans rfl, (blk_cell BK438.out 0).trans rfl, (blk_cell BK438.out 1).trans rfl, HS4_⟩ (fun hHeld => ?_)
                                clear hK K
                                refine norm_ (a' := ?_) ?_ ?_
                                rotate_left
                                · show Act.put _ (some 78) _ = _
                                  simp only [Act.put, List.setIfInBounds_toArray, List.set_cons_zero, List.set_cons_succ, i64_w, i32_w]
                                  rfl
                                refine pure_ (i := 8) (N := some 84) (v := ?_) (a' := ?_) #[true, true, true, true, true, true, true, true, true, false, false, false, false, false, false, false, false, false, false, false, false, false, false] rfl rfl (any_of HT_.out (by kernel_rfl)) (fun _ _ _ h => h) (Or.inl ⟨by rfl, ?_⟩) ?_ ?_
                                rotate_left
                                · intro w'
                                  go_simp
                                  with_reducible rfl
                                rotate_left
                                · simp only [Act.put, List.setIfInBounds_toArray, List.set_cons_zero, List.set_cons_succ, i64_w, i32_w]
                                  rfl
                                refine pure_ (i := 9) (N := some 85) (v := ?_) (a' := ?_) #[true, true, true, true, true, true, true, true, true, true, false, false, false, false, false, false, false, false, false, false, false, false, false] rfl rfl (any_of HT_.out (by kernel_rfl)) (fun _ _ _ h => h) (Or.inl ⟨by rfl, ?_⟩) ?_ ?_
                                rotate_left
                                · intro w'
                                  go_simp
                                  with_reducible rfl
                                rotate_left
                                · simp only [Act.put, List.setIfInBounds_toArray, List.set_cons_zero, List.set_cons_succ, i64_w, i32_w]
                                  rfl
                                refine pure_ (i := 10) (N := some 86) (v := undef) (a' := ?_) #[true, true, true, true, true, true, true, true, true, true, true, false, false, false, false, false, false, false, false, false, false, false, false] rfl rfl (any_of HT_.out (by kernel_rfl)) (fun _ _ _ h => h) (Or.inr ⟨by rfl, rfl⟩) ?_ ?_
                                rotate_left
                                · simp only [Act.put, List.setIfInBounds_toArray, List.set_cons_zero, List.set_cons_succ, i64_w, i32_w]
                                  rfl
                                refine pure_ (i := 11) (N := some 87) (v := undef) (a' := ?_) #[true, true, true, true, true, true, true, true, true, true, true, true, false, false, false, false, false, false, false, false, false, false, false] rfl rfl (any_of HT_.out (by kernel_rfl)) (fun _ _ _ h => h) (Or.inr ⟨by rfl, rfl⟩) ?_ ?_
                                rotate_left
                                · simp only [Act.put, List.setIfInBounds_toArray, List.set_cons_zero, List.set_cons_succ, i64_w, i32_w]
                                  rfl
                                refine pure_ (i := 12) (N := some 88) (v := undef) (a' := ?_) #[true, true, true, true, true, true, true, true, true, true, true, true, true, false, false, false, false, false, false, false, false, false, false] rfl rfl (any_of HT_.out (by kernel_rfl)) (fun _ _ _ h => h) (Or.inr ⟨by rfl, rfl⟩) ?_ ?_
                                rotate_left
                                · simp only [Act.put, List.setIfInBounds_toArray, List.set_cons_zero, List.set_cons_succ, i64_w, i32_w]
                                  rfl
                                refine pure_ (i := 13) (N := some 89) (v := undef) (a' := ?_) #[true, true, true, true, true, true, true, true, true, true, true, true, true, true, false, false, false, false, false, false, false, false, false] rfl rfl (any_of HT_.out (by kernel_rfl)) (fun _ _ _ h => h) (Or.inr ⟨by rfl, rfl⟩) ?_ ?_
                                rotate_left
                                · simp only [Act.put, List.setIfInBounds_toArray, List.set_cons_zero, List.set_cons_succ, i64_w, i32_w]
                                  rfl
                                refine pure_ (i := 14) (N := some 90) (v := undef) (a' := ?_) #[true, true, true, true, true, true, true, true, true, true, true, true, true, true, true, false, false, false, false, false, false, false, false] rfl rfl (any_of HT_.out (by kernel_rfl)) (fun _ _ _ h => h) (Or.inr ⟨by rfl, rfl⟩) ?_ ?_
                                rotate_left
                                · simp only [Act.put, List.setIfInBounds_toArray, List.set_cons_zero, List.set_cons_succ, i64_w, i32_w]
                                  rfl
                                refine pure_ (i := 15) (N := some 91) (v := undef) (a' := ?_) #[true, true, true, true, true, true, true, true, true, true, true, true, true, true, true, true, false, false, false, false, false, false, false] rfl rfl (any_of HT_.out (by kernel_rfl)) (fun _ _ _ h => h) (Or.inr ⟨by rfl, rfl⟩) ?_ ?_
                                rotate_left
                                · simp only [Act.put, List.setIfInBounds_toArray, List.set_cons_zero, List.set_cons_succ, i64_w, i32_w]
                                  rfl
                                refine pure_ (i := 16) (N := some 92) (v := undef) (a' := ?_) #[true, true, true, true, true, true, true, true, true, true, true, true, true, true, true, true, true, false, false, false, false, false, false] rfl rfl (any_of HT_.out (by kernel_rfl)) (fun _ _ _ h => h) (Or.inr ⟨by rfl, rfl⟩) ?_ ?_
                                rotate_left
                                · simp only [Act.put, List.setIfInBounds_toArray, List.set_cons_zero, List.set_cons_succ, i64_w, i32_w]
                                  rfl
                                refine pure_ (i := 17) (N := some 93) (v := undef) (a' := ?_) #[true, true, true, true, true, true, true, true, true, true, true, true, true, true, true, true, true, true, false, false, false, false, false] rfl rfl (any_of HT_.out (by kernel_rfl)) (fun _ _ _ h => h) (Or.inr ⟨by rfl, rfl⟩) ?_ ?_
                                rotate_left
                                · simp only [Act.put, List.setIfInBounds_toArray, List.set_cons_zero, List.set_cons_succ, i64_w, i32_w]
                                  rfl
                                refine pure_ (i := 18) (N := some 94) (v := undef) (a' := ?_) #[true, true, true, true, true, true, true, true, true, true, true, true, true, true, true, true, true, true, true, false, false, false, false] rfl rfl (any_of HT_.out (by kernel_rfl)) (fun _ _ _ h => h) (Or.inr ⟨by rfl, rfl⟩) ?_ ?_
                                rotate_left
                                · simp only [Act.put, List.setIfInBounds_toArray, List.set_cons_zero, List.set_cons_succ, i64_w, i32_w]
                                  rfl
                                refine pure_ (i := 19) (N := some 95) (v := undef) (a' := ?_) #[true, true, true, true, true, true, true, true, true, true, true, true, true, true, true, true, true, true, true, true, false, false, false] rfl rfl (any_of HT_.out (by kernel_rfl)) (fun _ _ _ h => h) (Or.inr ⟨by rfl, rfl⟩) ?_ ?_
                                rotate_left
                                · simp only [Act.put, List.setIfInBounds_toArray, List.set_cons_zero, List.set_cons_succ, i64_w, i32_w]
                                  rfl
                                refine pure_ (i := 20) (N := some 96) (v := undef) (a' := ?_) #[true, true, true, true, true, true, true, true, true, true, true, true, true, true, true, true, true, true, true, true, true, false, false] rfl rfl (any_of HT_.out (by kernel_rfl)) (fun _ _ _ h => h) (Or.inr ⟨by rfl, rfl⟩) ?_ ?_
                                rotate_left
                                · simp only [Act.put, List.setIfInBounds_toArray, List.set_cons_zero, List.set_cons_succ, i64_w, i32_w]
                                  rfl
                                refine pure_ (i := 21) (N := some 97) (v := undef) (a' := ?_) #[true, true, true, true, true, true, true, true, true, true, true, true, true, true, true, true, true, true, true, true, true, true, false] rfl rfl (any_of HT_.out (by kernel_rfl)) (fun _ _ _ h => h) (Or.inr ⟨by rfl, rfl⟩) ?_ ?_
                                rotate_left
                                · simp only [Act.put, List.setIfInBounds_toArray, List.set_cons_zero, List.set_cons_succ, i64_w, i32_w]
                                  rfl
                                refine pure_ (i := 22) (N := some 98) (v := ?_) (a' := ?_) #[true, true, true, true, true, true, true, true, true, true, true, true, true, true, true, true, true, true, true, true, true, true, true] rfl rfl (any_of HT_.out (by kernel_rfl)) (fun _ _ _ h => h) (Or.inl ⟨by rfl, ?_⟩) ?_ ?_
                                rotate_left
                                · intro w'
                                  go_simp
                                  with_reducible rfl
                                rotate_left
                                · simp only [Act.put, List.setIfInBounds_toArray, List.set_cons_zero, List.set_cons_succ, i64_w, i32_w]
                                  rfl
                                refine done_ (done_of HT_.out (by kernel_rfl)) ?_
                                try go_wp2
                                go_ret
                                exact ⟨by first | rfl | (simp [errW_none, errW_some] <;> rfl) | (simp [*, errW_none, errW_some] <;> rfl), by repeat (first | (with_reducible first | exact HB.out | apply below_alloc | apply pw_below_drewN | apply below_drew1 | refine below_set ?_ GE414.out | refine below_set ?_ GE421.out | refine below_set ?_ GE438.out) | exact HB.out)⟩
                            · rw [if_neg c56] at H
                              exact absurd H (by simp)
                          · rw [if_neg c55] at H
                            exact absurd H (by simp)
                    · rw [if_neg c40] at H
                      exact absurd H (by simp)
                  · rw [if_neg c39] at H
                    have c39b0 : decide (x11_2 < (t422.length : Int)) = false := decide_eq_false c39
                    clear c39
                    replace H := Option.bind_eq_some_iff.mp H
                    obtain ⟨t434, A720, H⟩ := H
                    replace H : ((doc_Weight.f 0 y418).bind fun t435 => (if t434 = t435 then ((concordancelaw08_lives.f k2).bind fun t436 => (some t436)) else (some false))) = some r := H
                    have A72 := Aside0.mk A720
                    clear A720
                    replace H := Option.bind_eq_some_iff.mp H
                    obtain ⟨t435, A730, H⟩ := H
                    replace H : (if t434 = t435 then ((concordancelaw08_lives.f k2).bind fun t436 => (some t436)) else (some false)) = some r := H
                    have A73 := Aside0.mk A730
                    clear A730
                    by_cases c74 : t434 = t435
                    · rw [if_pos c74] at H
                      have c74b0 : (t434 == t435) = true := beq_iff_eq.mpr c74
                      have c74b1 : (t434 != t435) = false := bne_eq_false_iff_eq.mpr c74
                      clear c74
                      replace H := Option.bind_eq_some_iff.mp H
                      obtain ⟨t436, A750, H⟩ := H
                      replace H : (some t436) = some r := H
                      have A75 := Aside0.mk A750
                      clear A750
                      obtain rfl := Option.some.inj H
                      obtain ⟨Ao76, co76, eo76⟩ := Kd.R_slice HO_7.out
                      subst eo76
                      try go_wp2
                      have n0_ := Aside0.mk (Kd.R_drew HO_7.out)
                      have n1_ := Aside0.mk (Kd.S_drew HO_8.out)
                      have n2_ := Aside0.mk (Kd.R_drew HO_415001.out)
                      have n3_ := Aside0.mk (Kd.R_drew HO_422001.out)
                      have n4_ := Aside0.mk (blk_drew BK414.out)
                      have n5_ := Aside0.mk (blk_drew BK421.out)
                      have n6_ := Aside0.mk (below_drew1 HB.out)
                      clear HO_7
                      clear HO_8
                      clear HO_415001
                      clear HO_422001
                      clear BK414
                      clear BK421
                      clear HB
                      have HO_7 := n0_
                      have HO_8 := n1_
                      have HO_415001 := n2_
                      have HO_422001 := n3_
                      have BK414 := n4_
                      have BK421 := n5_
                      have HB := n6_
                      clear n0_ n1_ n2_ n3_ n4_ n5_ n6_
                      refine start_ (n := 9) (S := fun w' => w'.cell? ⟨gb414, 0, none⟩ = some (.int .i64 t410) ∧ w'.cell? ⟨gb414, 1, none⟩ = some (.slice (some ad416) t411.length co16) ∧ w'.cell? ⟨gb421, 0, none⟩ = some (.int .i64 0) ∧ w'.cell? ⟨gb421, 1, none⟩ = some (.slice Ao24 y418.length co24)) (ds := []) #[false, false, false, false, false, false, false, false, false] (by kernel_rfl) rfl rfl ⟨(blk_cell BK414.out 0).trans rfl, (blk_cell BK414.out 1).trans rfl, (blk_cell BK421.out 0).trans rfl, (blk_cell BK421.out 1).trans rfl⟩ (fun hHeld => ?_); refine with_tabW concordancelaw08_DocFields.tab18 concordancelaw08_DocFields.bits18 (fun HT_ HW_ => ?_)
                      generalize wr.drew = w77 at HO_7 HO_8 HO_415001 HO_422001 BK414 BK421 HB hHeld ⊢
                      refine take_ (i := 0) (N := some 99) (v := ?_) (a' := ?_) #[true, false, false, false, false, false, false, false, false] rfl rfl (take_ofW HT_.out HW_.out (by kernel_rfl)) (fun _ _ _ h => h) (Or.inl ⟨by rfl, ?_⟩) hHeld ?_ ?_
                      rotate_left
                      · rintro w' ⟨s0, s1, s2, s3⟩
                        go_simp
                        with_reducible rfl
                      rotate_left
                      · simp only [Act.put, List.setIfInBounds_toArray, List.set_cons_zero, List.set_cons_succ, i64_w, i32_w]
                        rfl
                      refine take_ (i := 2) (N := some 101) (v := ?_) (a' := ?_) #[true, false, true, false, false, false, false, false, false] rfl rfl (take_ofW HT_.out HW_.out (by kernel_rfl)) (fun _ _ _ h => h) (Or.inl ⟨by rfl, ?_⟩) hHeld ?_ ?_
                      rotate_left
                      · rintro w' ⟨s0, s1, s2, s3⟩
                        go_simp
                        with_reducible rfl
                      rotate_left
                      · simp only [Act.put, List.setIfInBounds_toArray, List.set_cons_zero, List.set_cons_succ, i64_w, i32_w]
                        rfl
                      refine one_ (i := 1) (N := some 100) #[true, true, true, false, false, false, false, false, false] rfl rfl (one_of HT_.out (by kernel_rfl)) (by decide) (fun K hK => ?_)
                      refine goes_ Try.func16 (by kernel_rfl) rfl #[.agg #[.int .i64 t410, .slice (some ad416) t411.length co16]] (by rfl) rfl rfl (by (try simp only [List.map_toArray, List.map_cons, List.map_nil]); first | done | rfl | (simp only [List.length_drop, List.length_take]; rfl)) ?_
                      with_reducible refine (doc_Weight.calls t410 _ _ t411 t434 _ ?side1 ?side2 A72.out).mono ?_
                      (case side1 => repeat (first | exact (Kd.R_reads' HO_415001.out).2.2 | (with_reducible refine Kd.C_alloc ?_ _) | (with_reducible refine Kd.C_drewN ?_ _) | (with_reducible refine Kd.C_drew ?_)))
                      (case side2 => exact (Kd.R_reads' HO_415001.out).2.1)
                      rintro e w78 ⟨rfl, hb⟩
                      refine ⟨_, rfl, ?_⟩
                      have n0_ := Aside0.mk (Kd.R_below (by (with_reducible repeat (first | apply Kd.R_alloc | apply Kd.R_drewN | apply Kd.R_drew)); exact HO_7.out) hb)
                      have n1_ := Aside0.mk (Kd.S_below (by (with_reducible repeat (first | apply Kd.S_alloc | apply Kd.S_drewN | apply Kd.S_drew)); exact HO_8.out) hb)
                      have n2_ := Aside0.mk (Kd.R_below (by (with_reducible repeat (first | apply Kd.R_alloc | apply Kd.R_drewN | apply Kd.R_drew)); exact HO_415001.out) hb)
                      have n3_ := Aside0.mk (Kd.R_below (by (with_reducible repeat (first | apply Kd.R_alloc | apply Kd.R_drewN | apply Kd.R_drew)); exact HO_422001.out) hb)
                      have n4_ := Aside0.mk (blk_below (g := gb414) (o := .cells #[.int .i64 t410, .slice (some ad416) t411.length co16] 24 (0, 0)) (by (with_reducible repeat (first | refine blk_drewN ?_ _ | refine blk_drew ?_ | refine blk_alloc ?_ _)); exact BK414.out) hb)
                      have n5_ := Aside0.mk (blk_below (g := gb421) (o := .cells #[.int .i64 0, .slice Ao24 y418.length co24] 24 (0, 0)) (by (with_reducible repeat (first | refine blk_drewN ?_ _ | refine blk_drew ?_ | refine blk_alloc ?_ _)); exact BK421.out) hb)
                      have n6_ := Aside0.mk (below_step (by repeat (first | (with_reducible first | exact HB.out | apply below_alloc | apply pw_below_drewN | apply below_drew1 | refine below_set ?_ GE414.out | refine below_set ?_ GE421.out) | exact HB.out)) hb)
                      clear HO_7
                      clear HO_8
                      clear HO_415001
                      clear HO_422001
                      clear BK414
                      clear BK421
                      clear HB
                      have HO_7 := n0_
                      have HO_8 := n1_
                      have HO_415001 := n2_
                      have HO_422001 := n3_
                      have BK414 := n4_
                      have BK421 := n5_
                      have HB := n6_
                      clear n0_ n1_ n2_ n3_ n4_ n5_ n6_
                      (try clear hb)
                      (try clear hb2)
                      (try clear hk)
                      (try clear hi)
                      refine hK.out _ _ ⟨(blk_cell BK414.out 0).trans rfl, (blk_cell BK414.out 1).trans rfl, (blk_cell BK421.out 0).trans rfl, (blk_cell BK421.out 1).trans rfl⟩ (fun hHeld => ?_)
                      clear hK K
                      refine norm_ (a' := ?_) ?_ ?_
                      rotate_left
                      · show Act.put _ (some 100) _ = _
                        simp only [Act.put, List.setIfInBounds_toArray, List.set_cons_zero, List.set_cons_succ, i64_w, i32_w]
                        rfl
                      refine one_ (i := 3) (N := some 102) #[true, true, true, true, false, false, false, false, false] rfl rfl (one_of HT_.out (by kernel_rfl)) (by decide) (fun K hK => ?_)
                      refine goes_ Try.func16 (by kernel_rfl) rfl #[.agg #[.int .i64 0, .slice Ao24 y418.length co24]] (by rfl) rfl rfl (by (try simp only [List.map_toArray, List.map_cons, List.map_nil]); first | done | rfl | (simp only [List.length_drop, List.length_take]; rfl)) ?_
                      with_reducible refine (doc_Weight.calls 0 _ _ y418 t435 _ ?side1 ?side2 A73.out).mono ?_
                      (case side1 => repeat (first | exact (Kd.R_reads' HO_422001.out).2.2 | (with_reducible refine Kd.C_alloc ?_ _) | (with_reducible refine Kd.C_drewN ?_ _) | (with_reducible refine Kd.C_drew ?_)))
                      (case side2 => exact (Kd.R_reads' HO_422001.out).2.1)
                      rintro e w79 ⟨rfl, hb⟩
                      refine ⟨_, rfl, ?_⟩
                      have n0_ := Aside0.mk (Kd.R_below (by (with_reducible repeat (first | apply Kd.R_alloc | apply Kd.R_drewN | apply Kd.R_drew)); exact HO_7.out) hb)
                      have n1_ := Aside0.mk (Kd.S_below (by (with_reducible repeat (first | apply Kd.S_alloc | apply Kd.S_drewN | apply Kd.S_drew)); exact HO_8.out) hb)
                      have n2_ := Aside0.mk (Kd.R_below (by (with_reducible repeat (first | apply Kd.R_alloc | apply Kd.R_drewN | apply Kd.R_drew)); exact HO_415001.out) hb)
                      have n3_ := Aside0.mk (Kd.R_below (by (with_reducible repeat (first | apply Kd.R_alloc | apply Kd.R_drewN | apply Kd.R_drew)); exact HO_422001.out) hb)
                      have n4_ := Aside0.mk (blk_below (g := gb414) (o := .cells #[.int .i64 t410, .slice (some ad416) t411.length co16] 24 (0, 0)) (by (with_reducible repeat (first | refine blk_drewN ?_ _ | refine blk_drew ?_ | refine blk_alloc ?_ _)); exact BK414.out) hb)
                      have n5_ := Aside0.mk (blk_below (g := gb421) (o := .cells #[.int .i64 0, .slice Ao24 y418.length co24] 24 (0, 0)) (by (with_reducible repeat (first | refine blk_drewN ?_ _ | refine blk_drew ?_ | refine blk_alloc ?_ _)); exact BK421.out) hb)
                      have n6_ := Aside0.mk (below_step (by repeat (first | (with_reducible first | exact HB.out | apply below_alloc | apply pw_below_drewN | apply below_drew1 | refine below_set ?_ GE414.out | refine below_set ?_ GE421.out) | exact HB.out)) hb)
                      clear HO_7
                      clear HO_8
                      clear HO_415001
                      clear HO_422001
                      clear BK414
                      clear BK421
                      clear HB
                      have HO_7 := n0_
                      have HO_8 := n1_
                      have HO_415001 := n2_
                      have HO_422001 := n3_
                      have BK414 := n4_
                      have BK421 := n5_
                      have HB := n6_
                      clear n0_ n1_ n2_ n3_ n4_ n5_ n6_
                      (try clear hb)
                      (try clear hb2)
                      (try clear hk)
                      (try clear hi)
                      refine hK.out _ _ ⟨(blk_cell BK414.out 0).trans rfl, (blk_cell BK414.out 1).trans rfl, (blk_cell BK421.out 0).trans rfl, (blk_cell BK421.out 1).trans rfl⟩ (fun hHeld => ?_)
                      clear hK K
                      refine norm_ (a' := ?_) ?_ ?_
                      rotate_left
                      · show Act.put _ (some 102) _ = _
                        simp only [Act.put, List.setIfInBounds_toArray, List.set_cons_zero, List.set_cons_succ, i64_w, i32_w]
                        rfl
                      refine pure_ (i := 4) (N := some 103) (v := ?_) (a' := ?_) #[true, true, true, true, true, false, false, false, false] rfl rfl (any_of HT_.out (by kernel_rfl)) (fun _ _ _ h => h) (Or.inl ⟨by rfl, ?_⟩) ?_ ?_
                      rotate_left
                      · intro w'
                        go_simp
                        with_reducible rfl
                      rotate_left
                      · simp only [Act.put, List.setIfInBounds_toArray, List.set_cons_zero, List.set_cons_succ, i64_w, i32_w]
                        rfl
                      refine pure_ (i := 5) (N := some 104) (v := ?_) (a' := ?_) #[true, true, true, true, true, true, false, false, false] rfl rfl (any_of HT_.out (by kernel_rfl)) (fun _ _ _ h => h) (Or.inl ⟨by rfl, ?_⟩) ?_ ?_
                      rotate_left
                      · intro w'
                        go_simp
                        with_reducible rfl
                      rotate_left
                      · simp only [Act.put, List.setIfInBounds_toArray, List.set_cons_zero, List.set_cons_succ, i64_w, i32_w]
                        rfl
                      refine one_ (i := 6) (N := some 105) #[true, true, true, true, true, true, true, false, false] rfl rfl (one_of HT_.out (by kernel_rfl)) (by decide) (fun K hK => ?_)
                      refine goes_ Try.func11 (by kernel_rfl) rfl #[] (by rfl) rfl rfl (by (try simp only [List.map_toArray, List.map_cons, List.map_nil]); first | done | rfl | (simp only [List.length_drop, List.length_take]; rfl)) ?_
                      with_reducible refine (concordancelaw08_lives.calls k2  t436 _ A75.out).mono ?_
                      rintro e w80 ⟨rfl, hb⟩
                      refine ⟨_, rfl, ?_⟩
                      have n0_ := Aside0.mk (Kd.R_below (by (with_reducible repeat (first | apply Kd.R_alloc | apply Kd.R_drewN | apply Kd.R_drew)); exact HO_7.out) hb)
                      have n1_ := Aside0.mk (Kd.S_below (by (with_reducible repeat (first | apply Kd.S_alloc | apply Kd.S_drewN | apply Kd.S_drew)); exact HO_8.out) hb)
                      have n2_ := Aside0.mk (Kd.R_below (by (with_reducible repeat (first | apply Kd.R_alloc | apply Kd.R_drewN | apply Kd.R_drew)); exact HO_415001.out) hb)
                      have n3_ := Aside0.mk (Kd.R_below (by (with_reducible repeat (first | apply Kd.R_alloc | apply Kd.R_drewN | apply Kd.R_drew)); exact HO_422001.out) hb)
                      have n4_ := Aside0.mk (blk_below (g := gb414) (o := .cells #[.int .i64 t410, .slice (some ad416) t411.length co16] 24 (0, 0)) (by (with_reducible repeat (first | refine blk_drewN ?_ _ | refine blk_drew ?_ | refine blk_alloc ?_ _)); exact BK414.out) hb)
                      have n5_ := Aside0.mk (blk_below (g := gb421) (o := .cells #[.int .i64 0, .slice Ao24 y418.length co24] 24 (0, 0)) (by (with_reducible repeat (first | refine blk_drewN ?_ _ | refine blk_drew ?_ | refine blk_alloc ?_ _)); exact BK421.out) hb)
                      have n6_ := Aside0.mk (below_step (by repeat (first | (with_reducible first | exact HB.out | apply below_alloc | apply pw_below_drewN | apply below_drew1 | refine below_set ?_ GE414.out | refine below_set ?_ GE421.out) | exact HB.out)) hb)
                      clear HO_7
                      clear HO_8
                      clear HO_415001
                      clear HO_422001
                      clear BK414
                      clear BK421
                      clear HB
                      have HO_7 := n0_
                      have HO_8 := n1_
                      have HO_415001 := n2_
                      have HO_422001 := n3_
                      have BK414 := n4_
                      have BK421 := n5_
                      have HB := n6_
                      clear n0_ n1_ n2_ n3_ n4_ n5_ n6_
                      (try clear hb)
                      (try clear hb2)
                      (try clear hk)
                      (try clear hi)
                      refine hK.out _ _ ⟨(blk_cell BK414.out 0).trans rfl, (blk_cell BK414.out 1).trans rfl, (blk_cell BK421.out 0).trans rfl, (blk_cell BK421.out 1).trans rfl⟩ (fun hHeld => ?_)
                      clear hK K
                      refine norm_ (a' := ?_) ?_ ?_
                      rotate_left
                      · show Act.put _ (some 105) _ = _
                        simp only [Act.put, List.setIfInBounds_toArray, List.set_cons_zero, List.set_cons_succ, i64_w, i32_w]
                        rfl
                      refine pure_ (i := 7) (N := some 106) (v := ?_) (a' := ?_) #[true, true, true, true, true, true, true, true, false] rfl rfl (any_of HT_.out (by kernel_rfl)) (fun _ _ _ h => h) (Or.inl ⟨by rfl, ?_⟩) ?_ ?_
                      rotate_left
                      · intro w'
                        go_simp
                        with_reducible rfl
                      rotate_left
                      · simp only [Act.put, List.setIfInBounds_toArray, List.set_cons_zero, List.set_cons_succ, i64_w, i32_w]
                        rfl
                      refine pure_ (i := 8) (N := some 4) (v := ?_) (a' := ?_) #[true, true, true, true, true, true, true, true, true] rfl rfl (any_of HT_.out (by kernel_rfl)) (fun _ _ _ h => h) (Or.inl ⟨by rfl, ?_⟩) ?_ ?_
                      rotate_left
                      · intro w'
                        go_simp
                        with_reducible rfl
                      rotate_left
                      · simp only [Act.put, List.setIfInBounds_toArray, List.set_cons_zero, List.set_cons_succ, i64_w, i32_w]
                        rfl
                      refine done_ (done_of HT_.out (by kernel_rfl)) ?_
                      try go_wp2
                      go_ret
                      exact ⟨by first | rfl | (simp [errW_none, errW_some] <;> rfl) | (simp [*, errW_none, errW_some] <;> rfl), by repeat (first | (with_reducible first | exact HB.out | apply below_alloc | apply pw_below_drewN | apply below_drew1 | refine below_set ?_ GE414.out | refine below_set ?_ GE421.out) | exact HB.out)⟩
                    · rw [if_neg c74] at H
                      have c74b0 : (t434 == t435) = false := beq_eq_false_iff_ne.mpr c74
                      have c74b1 : (t434 != t435) = true := bne_iff_ne.mpr c74
                      obtain rfl := Option.some.inj H
                      obtain ⟨Ao81, co81, eo81⟩ := Kd.R_slice HO_7.out
                      subst eo81
                      try go_wp2
                      have n0_ := Aside0.mk (Kd.R_drew HO_7.out)
                      have n1_ := Aside0.mk (Kd.S_drew HO_8.out)
                      have n2_ := Aside0.mk (Kd.R_drew HO_415001.out)
                      have n3_ := Aside0.mk (Kd.R_drew HO_422001.out)
                      have n4_ := Aside0.mk (blk_drew BK414.out)
                      have n5_ := Aside0.mk (blk_drew BK421.out)
                      have n6_ := Aside0.mk (below_drew1 HB.out)
                      clear HO_7
                      clear HO_8
                      clear HO_415001
                      clear HO_422001
                      clear BK414
                      clear BK421
                      clear HB
                      have HO_7 := n0_
                      have HO_8 := n1_
                      have HO_415001 := n2_
                      have HO_422001 := n3_
                      have BK414 := n4_
                      have BK421 := n5_
                      have HB := n6_
                      clear n0_ n1_ n2_ n3_ n4_ n5_ n6_
                      refine start_ (n := 9) (S := fun w' => w'.cell? ⟨gb414, 0, none⟩ = some (.int .i64 t410) ∧ w'.cell? ⟨gb414, 1, none⟩ = some (.slice (some ad416) t411.length co16) ∧ w'.cell? ⟨gb421, 0, none⟩ = some (.int .i64 0) ∧ w'.cell? ⟨gb421, 1, none⟩ = some (.slice Ao24 y418.length co24)) (ds := []) #[false, false, false, false, false, false, false, false, false] (by kernel_rfl) rfl rfl ⟨(blk_cell BK414.out 0).trans rfl, (blk_cell BK414.out 1).trans rfl, (blk_cell BK421.out 0).trans rfl, (blk_cell BK421.out 1).trans rfl⟩ (fun hHeld => ?_); refine with_tabW concordancelaw08_DocFields.tab18 concordancelaw08_DocFields.bits18 (fun HT_ HW_ => ?_)
                      generalize wr.drew = w82 at HO_7 HO_8 HO_415001 HO_422001 BK414 BK421 HB hHeld ⊢
                      refine take_ (i := 0) (N := some 99) (v := ?_) (a' := ?_) #[true, false, false, false, false, false, false, false, false] rfl rfl (take_ofW HT_.out HW_.out (by kernel_rfl)) (fun _ _ _ h => h) (Or.inl ⟨by rfl, ?_⟩) hHeld ?_ ?_
                      rotate_left
                      · rintro w' ⟨s0, s1, s2, s3⟩
                        go_simp
                        with_reducible rfl
                      rotate_left
                      · simp only [Act.put, List.setIfInBounds_toArray, List.set_cons_zero, List.set_cons_succ, i64_w, i32_w]
                        rfl
                      refine take_ (i := 2) (N := some 101) (v := ?_) (a' := ?_) #[true, false, true, false, false, false, false, false, false] rfl rfl (take_ofW HT_.out HW_.out (by kernel_rfl)) (fun _ _ _ h => h) (Or.inl ⟨by rfl, ?_⟩) hHeld ?_ ?_
                      rotate_left
                      · rintro w' ⟨s0, s1, s2, s3⟩
                        go_simp
                        with_reducible rfl
                      rotate_left
                      · simp only [Act.put, List.setIfInBounds_toArray, List.set_cons_zero, List.set_cons_succ, i64_w, i32_w]
                        rfl
                      refine one_ (i := 1) (N := some 100) #[true, true, true, false, false, false, false, false, false] rfl rfl (one_of HT_.out (by kernel_rfl)) (by decide) (fun K hK => ?_)
                      refine goes_ Try.func16 (by kernel_rfl) rfl #[.agg #[.int .i64 t410, .slice (some ad416) t411.length co16]] (by rfl) rfl rfl (by (try simp only [List.map_toArray, List.map_cons, List.map_nil]); first | done | rfl | (simp only [List.length_drop, List.length_take]; rfl)) ?_
                      with_reducible refine (doc_Weight.calls t410 _ _ t411 t434 _ ?side1 ?side2 A72.out).mono ?_
                      (case side1 => repeat (first | exact (Kd.R_reads' HO_415001.out).2.2 | (with_reducible refine Kd.C_alloc ?_ _) | (with_reducible refine Kd.C_drewN ?_ _) | (with_reducible refine Kd.C_drew ?_)))
                      (case side2 => exact (Kd.R_reads' HO_415001.out).2.1)
                      rintro e w83 ⟨rfl, hb⟩
                      refine ⟨_, rfl, ?_⟩
                      have n0_ := Aside0.mk (Kd.R_below (by (with_reducible repeat (first | apply Kd.R_alloc | apply Kd.R_drewN | apply Kd.R_drew)); exact HO_7.out) hb)
                      have n1_ := Aside0.mk (Kd.S_below (by (with_reducible repeat (first | apply Kd.S_alloc | apply Kd.S_drewN | apply Kd.S_drew)); exact HO_8.out) hb)
                      have n2_ := Aside0.mk (Kd.R_below (by (with_reducible repeat (first | apply Kd.R_alloc | apply Kd.R_drewN | apply Kd.R_drew)); exact HO_415001.out) hb)
                      have n3_ := Aside0.mk (Kd.R_below (by (with_reducible repeat (first | apply Kd.R_alloc | apply Kd.R_drewN | apply Kd.R_drew)); exact HO_422001.out) hb)
                      have n4_ := Aside0.mk (blk_below (g := gb414) (o := .cells #[.int .i64 t410, .slice (some ad416) t411.length co16] 24 (0, 0)) (by (with_reducible repeat (first | refine blk_drewN ?_ _ | refine blk_drew ?_ | refine blk_alloc ?_ _)); exact BK414.out) hb)
                      have n5_ := Aside0.mk (blk_below (g := gb421) (o := .cells #[.int .i64 0, .slice Ao24 y418.length co24] 24 (0, 0)) (by (with_reducible repeat (first | refine blk_drewN ?_ _ | refine blk_drew ?_ | refine blk_alloc ?_ _)); exact BK421.out) hb)
                      have n6_ := Aside0.mk (below_step (by repeat (first | (with_reducible first | exact HB.out | apply below_alloc | apply pw_below_drewN | apply below_drew1 | refine below_set ?_ GE414.out | refine below_set ?_ GE421.out) | exact HB.out)) hb)
                      clear HO_7
                      clear HO_8
                      clear HO_415001
                      clear HO_422001
                      clear BK414
                      clear BK421
                      clear HB
                      have HO_7 := n0_
                      have HO_8 := n1_
                      have HO_415001 := n2_
                      have HO_422001 := n3_
                      have BK414 := n4_
                      have BK421 := n5_
                      have HB := n6_
                      clear n0_ n1_ n2_ n3_ n4_ n5_ n6_
                      (try clear hb)
                      (try clear hb2)
                      (try clear hk)
                      (try clear hi)
                      refine hK.out _ _ ⟨(blk_cell BK414.out 0).trans rfl, (blk_cell BK414.out 1).trans rfl, (blk_cell BK421.out 0).trans rfl, (blk_cell BK421.out 1).trans rfl⟩ (fun hHeld => ?_)
                      clear hK K
                      refine norm_ (a' := ?_) ?_ ?_
                      rotate_left
                      · show Act.put _ (some 100) _ = _
                        simp only [Act.put, List.setIfInBounds_toArray, List.set_cons_zero, List.set_cons_succ, i64_w, i32_w]
                        rfl
                      refine one_ (i := 3) (N := some 102) #[true, true, true, true, false, false, false, false, false] rfl rfl (one_of HT_.out (by kernel_rfl)) (by decide) (fun K hK => ?_)
                      refine goes_ Try.func16 (by kernel_rfl) rfl #[.agg #[.int .i64 0, .slice Ao24 y418.length co24]] (by rfl) rfl rfl (by (try simp only [List.map_toArray, List.map_cons, List.map_nil]); first | done | rfl | (simp only [List.length_drop, List.length_take]; rfl)) ?_
                      with_reducible refine (doc_Weight.calls 0 _ _ y418 t435 _ ?side1 ?side2 A73.out).mono ?_
                      (case side1 => repeat (first | exact (Kd.R_reads' HO_422001.out).2.2 | (with_reducible refine Kd.C_alloc ?_ _) | (with_reducible refine Kd.C_drewN ?_ _) | (with_reducible refine Kd.C_drew ?_)))
                      (case side2 => exact (Kd.R_reads' HO_422001.out).2.1)
                      rintro e w84 ⟨rfl, hb⟩
                      refine ⟨_, rfl, ?_⟩
                      have n0_ := Aside0.mk (Kd.R_below (by (with_reducible repeat (first | apply Kd.R_alloc | apply Kd.R_drewN | apply Kd.R_drew)); exact HO_7.out) hb)
                      have n1_ := Aside0.mk (Kd.S_below (by (with_reducible repeat (first | apply Kd.S_alloc | apply Kd.S_drewN | apply Kd.S_drew)); exact HO_8.out) hb)
                      have n2_ := Aside0.mk (Kd.R_below (by (with_reducible repeat (first | apply Kd.R_alloc | apply Kd.R_drewN | apply Kd.R_drew)); exact HO_415001.out) hb)
                      have n3_ := Aside0.mk (Kd.R_below (by (with_reducible repeat (first | apply Kd.R_alloc | apply Kd.R_drewN | apply Kd.R_drew)); exact HO_422001.out) hb)
                      have n4_ := Aside0.mk (blk_below (g := gb414) (o := .cells #[.int .i64 t410, .slice (some ad416) t411.length co16] 24 (0, 0)) (by (with_reducible repeat (first | refine blk_drewN ?_ _ | refine blk_drew ?_ | refine blk_alloc ?_ _)); exact BK414.out) hb)
                      have n5_ := Aside0.mk (blk_below (g := gb421) (o := .cells #[.int .i64 0, .slice Ao24 y418.length co24] 24 (0, 0)) (by (with_reducible repeat (first | refine blk_drewN ?_ _ | refine blk_drew ?_ | refine blk_alloc ?_ _)); exact BK421.out) hb)
                      have n6_ := Aside0.mk (below_step (by repeat (first | (with_reducible first | exact HB.out | apply below_alloc | apply pw_below_drewN | apply below_drew1 | refine below_set ?_ GE414.out | refine below_set ?_ GE421.out) | exact HB.out)) hb)
                      clear HO_7
                      clear HO_8
                      clear HO_415001
                      clear HO_422001
                      clear BK414
                      clear BK421
                      clear HB
                      have HO_7 := n0_
                      have HO_8 := n1_
                      have HO_415001 := n2_
                      have HO_422001 := n3_
                      have BK414 := n4_
                      have BK421 := n5_
                      have HB := n6_
                      clear n0_ n1_ n2_ n3_ n4_ n5_ n6_
                      (try clear hb)
                      (try clear hb2)
                      (try clear hk)
                      (try clear hi)
                      refine hK.out _ _ ⟨(blk_cell BK414.out 0).trans rfl, (blk_cell BK414.out 1).trans rfl, (blk_cell BK421.out 0).trans rfl, (blk_cell BK421.out 1).trans rfl⟩ (fun hHeld => ?_)
                      clear hK K
                      refine norm_ (a' := ?_) ?_ ?_
                      rotate_left
                      · show Act.put _ (some 102) _ = _
                        simp only [Act.put, List.setIfInBounds_toArray, List.set_cons_zero, List.set_cons_succ, i64_w, i32_w]
                        rfl
                      refine pure_ (i := 4) (N := some 103) (v := ?_) (a' := ?_) #[true, true, true, true, true, false, false, false, false] rfl rfl (any_of HT_.out (by kernel_rfl)) (fun _ _ _ h => h) (Or.inl ⟨by rfl, ?_⟩) ?_ ?_
                      rotate_left
                      · intro w'
                        go_simp
                        with_reducible rfl
                      rotate_left
                      · simp only [Act.put, List.setIfInBounds_toArray, List.set_cons_zero, List.set_cons_succ, i64_w, i32_w]
                        rfl
                      refine pure_ (i := 5) (N := some 104) (v := ?_) (a' := ?_) #[true, true, true, true, true, true, false, false, false] rfl rfl (any_of HT_.out (by kernel_rfl)) (fun _ _ _ h => h) (Or.inl ⟨by rfl, ?_⟩) ?_ ?_
                      rotate_left
                      · intro w'
                        go_simp
                        with_reducible rfl
                      rotate_left
                      · simp only [Act.put, List.setIfInBounds_toArray, List.set_cons_zero, List.set_cons_succ, i64_w, i32_w]
                        rfl
                      refine pure_ (i := 6) (N := some 105) (v := undef) (a' := ?_) #[true, true, true, true, true, true, true, false, false] rfl rfl (any_of HT_.out (by kernel_rfl)) (fun _ _ _ h => h) (Or.inr ⟨by rfl, rfl⟩) ?_ ?_
                      rotate_left
                      · simp only [Act.put, List.setIfInBounds_toArray, List.set_cons_zero, List.set_cons_succ, i64_w, i32_w]
                        rfl
                      refine pure_ (i := 7) (N := some 106) (v := ?_) (a' := ?_) #[true, true, true, true, true, true, true, true, false] rfl rfl (any_of HT_.out (by kernel_rfl)) (fun _ _ _ h => h) (Or.inl ⟨by rfl, ?_⟩) ?_ ?_
                      rotate_left
                      · intro w'
                        go_simp
                        with_reducible rfl
                      rotate_left
                      · simp only [Act.put, List.setIfInBounds_toArray, List.set_cons_zero, List.set_cons_succ, i64_w, i32_w]
                        rfl
                      refine pure_ (i := 8) (N := some 4) (v := ?_) (a' := ?_) #[true, true, true, true, true, true, true, true, true] rfl rfl (any_of HT_.out (by kernel_rfl)) (fun _ _ _ h => h) (Or.inl ⟨by rfl, ?_⟩) ?_ ?_
                      rotate_left
                      · intro w'
                        go_simp
                        with_reducible rfl
                      rotate_left
                      · simp only [Act.put, List.setIfInBounds_toArray, List.set_cons_zero, List.set_cons_succ, i64_w, i32_w]
                        rfl
                      refine done_ (done_of HT_.out (by kernel_rfl)) ?_
                      try go_wp2
                      go_ret
                      exact ⟨by first | rfl | (simp [errW_none, errW_some] <;> rfl) | (simp [*, errW_none, errW_some] <;> rfl), by repeat (first | (with_reducible first | exact HB.out | apply below_alloc | apply pw_below_drewN | apply below_drew1 | refine below_set ?_ GE414.out | refine below_set ?_ GE421.out) | exact HB.out)⟩
      · rw [if_neg c6] at H
        exact absurd H (by simp)
    · rw [if_neg c5] at H
      exact absurd H (by simp)
  · rw [if_neg c4] at H
    have c4b0 : ((t411.length : Int) == 2) = false := beq_eq_false_iff_ne.mpr c4
    have c4b1 : ((t411.length : Int) != 2) = true := bne_iff_ne.mpr c4
    replace H := Option.bind_eq_some_iff.mp H
    obtain ⟨t415, A850, H⟩ := H
    replace H : (some t415) = some r := H
    have A85 := Aside0.mk A850
    clear A850
    obtain rfl := Option.some.inj H
    go_enter Try.func6, Try.ntmps6
    go_wp2_with (first | ((with_reducible refine gate_dst (N := 17) rfl ?_); (try (refine gate_guard (by rfl) ?_; dsimp only)); refine Kd.R_lit k29 _ 29 ?hg (N := 17) ?hd (xs := ([(⟨(⟨#[116]⟩ : ByteArray), a0⟩ : S29), (⟨(⟨#[117]⟩ : ByteArray), a1⟩ : S29)] : List (S29))) (inner := [.string (⟨#[116]⟩ : ByteArray), .string a0, .string (⟨#[117]⟩ : ByteArray), .string a1]) (ok := fun _ => True) (okp := fun _ => True) ?hr ?hp (fun _ hk => hk) trivial (Below.refl _ _) (Nat.le_refl _) (by simp) ?_; (case hd => rfl); (case hg => rfl); (case hr => first | (go_simp; done) | (go_simp; rfl)); (case hp => exact (Reps.c2 (show Kd.M k29 _ _ _ (⟨(⟨#[116]⟩ : ByteArray), a0⟩ : S29) [.string (⟨#[116]⟩ : ByteArray), .string a0] from (k29_mkM _ _ _ (⟨(⟨#[116]⟩ : ByteArray), a0⟩ : S29) )) (Reps.c2 (show Kd.M k29 _ _ _ (⟨(⟨#[117]⟩ : ByteArray), a1⟩ : S29) [.string (⟨#[117]⟩ : ByteArray), .string a1] from (k29_mkM _ _ _ (⟨(⟨#[117]⟩ : ByteArray), a1⟩ : S29) )) (Reps.none _ _)))); intro v408 w86 ho87 hb hg_ hnew_; clear hg_ hnew_; (first | rw [← Ny407.out] at ho87 | (simp only [Int.reduceToNat] at ho87; rw [← Ny407.out] at ho87)); have n0_ := Aside0.mk (Kd.R_lower ho87 (below_size (by repeat (first | (with_reducible first | exact HB.out | apply below_alloc | apply pw_below_drewN | apply below_drew1) | exact HB.out)))); have n1_ := Aside0.mk (below_step (by repeat (first | (with_reducible first | exact HB.out | apply below_alloc | apply pw_below_drewN | apply below_drew1) | exact HB.out)) hb); clear HB; have HO409 := n0_; have HB := n1_; clear n0_ n1_; clear hb ho87; obtain ⟨Ao88, co88, eo88⟩ := Kd.R_slice HO409.out; subst eo88) | ((with_reducible refine gate_callee (f := 7) rfl ?_); refine goesL_ (some 19) rfl rfl Try.func7 (by kernel_rfl) rfl #[.agg #[.int .i64 0, .slice Ao88 y407.length co88]] rfl (by (try simp only [List.map_toArray, List.map_cons, List.map_nil]); first | done | rfl | (simp only [List.length_drop, List.length_take]; rfl)) ?_; (with_reducible refine (concordanceref08_Good.calls k 0 _ _ y407 t410 t411 _ ?side1 ?side2 A3.out).mono ?_); (case side1 => repeat (first | exact (Kd.R_reads' HO409.out).2.2 | (with_reducible refine Kd.C_alloc ?_ _) | (with_reducible refine Kd.C_drewN ?_ _) | (with_reducible refine Kd.C_drew ?_))); (case side2 => exact (Kd.R_reads' HO409.out).2.1); rintro e w89 ⟨v412, rfl, ho0, hb⟩; refine ⟨_, rfl, ?_⟩; have n0_ := Aside0.mk (Kd.R_elder' (by (with_reducible repeat (first | apply Kd.R_alloc | apply Kd.R_drewN | apply Kd.R_drew)); exact HO409.out) (Kd.R_base ho0) hb); have n1_ := Aside0.mk (Kd.R_lower (Kd.R_new' ho0 (Kd.R_lt (by (with_reducible repeat (first | apply Kd.R_alloc | apply Kd.R_drewN | apply Kd.R_drew)); exact HO409.out))) (below_size (by repeat (first | (with_reducible first | exact HB.out | apply below_alloc | apply pw_below_drewN | apply below_drew1) | exact HB.out)))); have n2_ := Aside0.mk (below_step (by repeat (first | (with_reducible first | exact HB.out | apply below_alloc | apply pw_below_drewN | apply below_drew1) | exact HB.out)) hb); clear HO409; clear HB; have HO409 := n0_; have HO413 := n1_; have HB := n2_; clear n0_ n1_ n2_; (try clear hb); (try clear hb2); (try clear hk); (try clear hi); (try clear ho0)) | ((with_reducible refine gate_dst (N := 5) rfl ?_); (try (refine gate_guard (by rfl) ?_; dsimp only)); refine box_event ?hg (N := 5) ?hd (cs := #[.int .i64 0, .slice none 0 0]) (t := 24) ?hr ?_; (case hd => rfl); (case hg => rfl); (case hr => first | (go_simp; done) | (go_simp; rfl)); intro gb414 hg w90 hbox hb; have n0_ := Aside0.mk (Kd.R_below (by (with_reducible repeat (first | apply Kd.R_alloc | apply Kd.R_drewN | apply Kd.R_drew)); exact HO409.out) hb); have n1_ := Aside0.mk (Kd.R_below (by (with_reducible repeat (first | apply Kd.R_alloc | apply Kd.R_drewN | apply Kd.R_drew)); exact HO413.out) hb); have n2_ := Aside0.mk (below_step (by repeat (first | (with_reducible first | exact HB.out | apply below_alloc | apply pw_below_drewN | apply below_drew1) | exact HB.out)) hb); have n3_ := Aside0.mk (hbox); have n4_ := Aside0.mk ((by rw [hg]; exact (below_size (by repeat (first | (with_reducible first | exact HB.out | apply below_alloc | apply pw_below_drewN | apply below_drew1) | exact HB.out))) : w.heap.size ≤ gb414)); have n5_ := Aside0.mk ((by rw [hg]; exact (below_size (by repeat (first | (with_reducible first | exact HB.out | apply below_alloc | apply pw_below_drewN | apply below_drew1) | exact HB.out))) : w.heap.size ≤ gb414)); clear HO409; clear HO413; clear HB; have HO409 := n0_; have HO413 := n1_; have HB := n2_; have BK414 := n3_; have GW414 := n4_; have GE414 := n5_; clear n0_ n1_ n2_ n3_ n4_ n5_; clear hb hbox hg; have hcz91_0 : w90.cell? ⟨gb414, 0, none⟩ = some (.int .i64 0) := (blk_cell BK414.out 0).trans rfl; have hcz91_1 : w90.cell? ⟨gb414, 1, none⟩ = some (.slice none 0 0) := (blk_cell BK414.out 1).trans rfl; have hfz91_0 := blk_frozen BK414.out 0; have hfz91_1 := blk_frozen BK414.out 1; obtain ⟨Ao92, co92, eo92⟩ := Kd.R_slice HO413.out; subst eo92) | ((with_reducible refine gate_callee (f := 11) rfl ?_); refine goesL_ (some 24) rfl rfl Try.func11 (by kernel_rfl) rfl #[] rfl (by (try simp only [List.map_toArray, List.map_cons, List.map_nil]); first | done | rfl | (simp only [List.length_drop, List.length_take]; rfl)) ?_; (with_reducible refine (concordancelaw08_lives.calls k  t415 _ A85.out).mono ?_); rintro e w93 ⟨rfl, hb⟩; refine ⟨_, rfl, ?_⟩; have n0_ := Aside0.mk (Kd.R_below (by (with_reducible repeat (first | apply Kd.R_alloc | apply Kd.R_drewN | apply Kd.R_drew)); exact (Kd.R_mono (Kd.R_far (p := ⟨gb414, 1, none⟩) (Kd.R_far (p := ⟨gb414, 0, none⟩) (Kd.R_types HO409.out BK414.out (by decide)) (fun _ hk => hk.2) (.int .i64 t410)) (fun _ hk => hk.2) (.slice Ao92 t411.length co92)) (fun _ h_ => h_.1))) hb); have n1_ := Aside0.mk (Kd.R_below (by (with_reducible repeat (first | apply Kd.R_alloc | apply Kd.R_drewN | apply Kd.R_drew)); exact (Kd.R_mono (Kd.R_far (p := ⟨gb414, 1, none⟩) (Kd.R_far (p := ⟨gb414, 0, none⟩) (Kd.R_types HO413.out BK414.out (by decide)) (fun _ hk => hk.2) (.int .i64 t410)) (fun _ hk => hk.2) (.slice Ao92 t411.length co92)) (fun _ h_ => h_.1))) hb); have n2_ := Aside0.mk (blk_below (g := gb414) (o := .cells #[.int .i64 t410, .slice Ao92 t411.length co92] 24 (0, 0)) (by (with_reducible repeat (first | refine blk_drewN ?_ _ | refine blk_drew ?_ | refine blk_alloc ?_ _)); refine blk_put (cs := #[.int .i64 t410, .slice none 0 0]) ?_ 1 _ rfl; (with_reducible repeat (first | refine blk_drewN ?_ _ | refine blk_drew ?_ | refine blk_alloc ?_ _)); refine blk_put (cs := #[.int .i64 0, .slice none 0 0]) ?_ 0 _ rfl; (with_reducible repeat (first | refine blk_drewN ?_ _ | refine blk_drew ?_ | refine blk_alloc ?_ _)); exact BK414.out) hb); have n3_ := Aside0.mk (below_step (by repeat (first | (with_reducible first | exact HB.out | apply below_alloc | apply pw_below_drewN | apply below_drew1 | refine below_set ?_ GE414.out) | exact HB.out)) hb); clear HO409; clear HO413; clear BK414; clear HB; have HO409 := n0_; have HO413 := n1_; have BK414 := n2_; have HB := n3_; clear n0_ n1_ n2_ n3_; (try clear hb); (try clear hb2); (try clear hk); (try clear hi)))
    go_ret
    exact ⟨by first | rfl | (simp [errW_none, errW_some] <;> rfl) | (simp [*, errW_none, errW_some] <;> rfl), by repeat (first | (with_reducible first | exact HB.out | apply below_alloc | apply pw_below_drewN | apply below_drew1 | refine below_set ?_ GE414.out) | exact HB.out)⟩

/-- THE ONE PURE STATEMENT of concordancelaw08_DocFields: yours. -/
def concordancelaw08_DocFields.Pure : Prop := ∀ (a0 : ByteArray) (a1 : ByteArray), a0.size ≤ 140737488351232 → a1.size ≤ 140737488351232 → ∃ k, concordancelaw08_DocFields.f k a0 a1 = some true
theorem concordancelaw08_DocFields.walk (P : concordancelaw08_DocFields.Pure) (a0 : ByteArray) (a1 : ByteArray) (w : World) (w0 : a0.size ≤ 140737488351232) (w1 : a1.size ≤ 140737488351232) :
    Calls Try.prog 6 #[.string a0, .string a1] w fun e w' => e = .returned (.bool true) ∧ Below w.heap.size w w' := by
  obtain ⟨k, h⟩ := P a0 a1 w0 w1
  refine (concordancelaw08_DocFields.calls k a0 a1 true w h).mono ?_
  rintro e w' ⟨rfl, hd⟩
  exact ⟨rfl, hd⟩

end Go.Proofs.Ytbbfilmajiilhaa.PAll
