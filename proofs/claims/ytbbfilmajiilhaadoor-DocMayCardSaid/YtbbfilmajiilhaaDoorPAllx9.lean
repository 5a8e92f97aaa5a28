-- written by a program of this session (wip/px): the walk of printed functions
import Derived.Test.YtbbfilmajiilhaaDoorPAllx0
import Derived.Test.YtbbfilmajiilhaaDoorPAllx2
import Derived.Test.YtbbfilmajiilhaaDoorPAllx5
import Derived.Test.YtbbfilmajiilhaaDoorPAllx6
import Derived.Test.YtbbfilmajiilhaaDoorPAllx7
import Derived.Test.YtbbfilmajiilhaaDoorPAllx8
import Derived.Test.YtbbfilmajiilhaaDoorMayC
namespace Go.Proofs.YtbbfilmajiilhaaDoor.PAll
open Go.RowKit Go.Proofs.YtbbfilmajiilhaaDoorW.PrintWords Go.Proofs.YtbbfilmajiilhaaDoorW.PrintLast Go.Proofs.YtbbfilmajiilhaaDoorW.PrintMore
attribute [local go_sem] max2_int min2_int max_two min_two max_three min_three max_four min_four   -- for this text's walks alone
set_option linter.unusedVariables false
set_option linter.unusedSimpArgs false

/-! ### concordancelaw08_DocMay: function 4 -/
mutual
def concordancelaw08_DocMay.j0 : Nat → Bool → Int → List (S24) → Int → List (S24) → Option (Bool)
  | 0, _, _, _, _, _ => none
  | k + 1, x47, x255000, x255001, x269000, x269001 => if x47 = true then (some false) else (concordancelaw08_DocMay.l0 k 0 x255000 x255001 x269000 x269001)
def concordancelaw08_DocMay.l0 : Nat → Int → Int → List (S24) → Int → List (S24) → Option (Bool)
  | 0, _, _, _, _, _ => none
  | k + 1, x8, x255000, x255001, x269000, x269001 => if x8 < (x269001.length : Int) then (if 0 ≤ x8 then (if x8 < (x255001.length : Int) then (if ((rd_T24 x255001 x8).f0).size + 1 ≤ 9223372036854775807 then (if ((rd_T24 x255001 x8).f0).toList = ((rd_T24 x255001 x8).f0).toList then (concordancelaw08_DocMay.l0 k (wrap64 (x8 + 1)) x255000 x255001 x269000 (x269001.set (x8 : Int).toNat (⟨((rd_T24 x255001 x8).f0) ++ (⟨#[120]⟩ : ByteArray), (rd_T24 x269001 x8).f1⟩ : S24))) else (some false)) else (none)) else (none)) else (none)) else ((concordanceref08_Good.f k x255000 x255001).bind fun bt279 => ((doc_May.f bt279.1 bt279.2).bind fun t283 => (if t283 = 0 then ((concordancelaw08_lives.f k).bind fun t284 => (some t284)) else (some false))))
end
def concordancelaw08_DocMay.f (k : Nat) (a0_0 : Int) (l0_1 : List (S24)) (a1_0 : Int) (l1_1 : List (S24)) (a2 : ByteArray) : Option (Bool) := (concordancelaw08_few.f k a0_0 l0_1).bind fun bt256 => ((concordancelaw08_few.f k a1_0 l1_1).bind fun bt260 => (if 0 ≤ (mn (a2.size : Int) 20) then (if (mn (a2.size : Int) 20) ≤ (a2.size : Int) then ((doc_Clone.f bt256.1 bt256.2).bind fun bt264 => ((doc_May.f bt256.1 bt256.2).bind fun t269 => ((concordanceref08_May.f k bt256.1 bt256.2).bind fun t270 => (if t269 = t270 then ((doc_Same.f k bt256.1 bt256.2 bt260.1 bt260.2).bind fun t271 => ((concordanceref08_Same.f k bt256.1 bt256.2 bt260.1 bt260.2).bind fun t272 => (if (t271 != t272) = true then (concordancelaw08_DocMay.j0 k true bt256.1 bt256.2 bt264.1 bt264.2) else ((concordanceref08_Same.f k bt264.1 bt264.2 bt256.1 bt256.2).bind fun t273 => (if t273 = true then ((doc_Name.f (a2.extract 0 ((mn (a2.size : Int) 20) : Int).toNat)).bind fun t274 => ((concordanceref08_Name.f k (a2.extract 0 ((mn (a2.size : Int) 20) : Int).toNat)).bind fun t275 => (concordancelaw08_DocMay.j0 k (t274 != t275) bt256.1 bt256.2 bt264.1 bt264.2))) else (concordancelaw08_DocMay.j0 k true bt256.1 bt256.2 bt264.1 bt264.2)))))) else (concordancelaw08_DocMay.j0 k true bt256.1 bt256.2 bt264.1 bt264.2))))) else (none)) else (none)))
theorem concordancelaw08_DocMay.mono_l : ∀ k, (∀ y0 y1 y2 y3 y4, LeO (concordancelaw08_DocMay.j0 k y0 y1 y2 y3 y4) (concordancelaw08_DocMay.j0 (k + 1) y0 y1 y2 y3 y4)) ∧ (∀ y0 y1 y2 y3 y4, LeO (concordancelaw08_DocMay.l0 k y0 y1 y2 y3 y4) (concordancelaw08_DocMay.l0 (k + 1) y0 y1 y2 y3 y4))
  | 0 => ⟨fun _ _ _ _ _ r h => by simp [concordancelaw08_DocMay.j0] at h, fun _ _ _ _ _ r h => by simp [concordancelaw08_DocMay.l0] at h⟩
  | k + 1 => by
    obtain ⟨ih0, ih1⟩ := concordancelaw08_DocMay.mono_l k
    refine ⟨?_, ?_⟩
    · intro y0 y1 y2 y3 y4
      unfold concordancelaw08_DocMay.j0
      repeat' first
      | (with_reducible exact ih0 _ _ _ _ _)
      | (with_reducible exact ih1 _ _ _ _ _)
      | (with_reducible exact concordancelaw08_few.mono _ _ _)
      | (with_reducible exact concordancelaw08_lives.mono _)
      | (with_reducible exact concordanceref08_Good.mono _ _ _)
      | (with_reducible exact concordanceref08_May.mono _ _ _)
      | (with_reducible exact concordanceref08_Name.mono _ _)
      | (with_reducible exact concordanceref08_Same.mono _ _ _ _ _)
      | (with_reducible exact doc_Same.mono _ _ _ _ _)
      | (with_reducible exact LeO.refl _)
      | (with_reducible exact LeO.none _)
      | (with_reducible refine LeO.ite ?_ ?_)
      | (with_reducible refine LeO.bind ?_ (fun _ => ?_))
      | exact ih0 _ _ _ _ _
      | exact ih1 _ _ _ _ _
      | exact concordancelaw08_few.mono _ _ _
      | exact concordancelaw08_lives.mono _
      | exact concordanceref08_Good.mono _ _ _
      | exact concordanceref08_May.mono _ _ _
      | exact concordanceref08_Name.mono _ _
      | exact concordanceref08_Same.mono _ _ _ _ _
      | exact doc_Same.mono _ _ _ _ _
      | exact LeO.none _
      | refine LeO.ite ?_ ?_
      | refine LeO.bind ?_ (fun _ => ?_)
    · intro y0 y1 y2 y3 y4
      unfold concordancelaw08_DocMay.l0
      repeat' first
      | (with_reducible exact ih0 _ _ _ _ _)
      | (with_reducible exact ih1 _ _ _ _ _)
      | (with_reducible exact concordancelaw08_few.mono _ _ _)
      | (with_reducible exact concordancelaw08_lives.mono _)
      | (with_reducible exact concordanceref08_Good.mono _ _ _)
      | (with_reducible exact concordanceref08_May.mono _ _ _)
      | (with_reducible exact concordanceref08_Name.mono _ _)
      | (with_reducible exact concordanceref08_Same.mono _ _ _ _ _)
      | (with_reducible exact doc_Same.mono _ _ _ _ _)
      | (with_reducible exact LeO.refl _)
      | (with_reducible exact LeO.none _)
      | (with_reducible refine LeO.ite ?_ ?_)
      | (with_reducible refine LeO.bind ?_ (fun _ => ?_))
      | exact ih0 _ _ _ _ _
      | exact ih1 _ _ _ _ _
      | exact concordancelaw08_few.mono _ _ _
      | exact concordancelaw08_lives.mono _
      | exact concordanceref08_Good.mono _ _ _
      | exact concordanceref08_May.mono _ _ _
      | exact concordanceref08_Name.mono _ _
      | exact concordanceref08_Same.mono _ _ _ _ _
      | exact doc_Same.mono _ _ _ _ _
      | exact LeO.none _
      | refine LeO.ite ?_ ?_
      | refine LeO.bind ?_ (fun _ => ?_)
theorem concordancelaw08_DocMay.mono : ∀ a0 a1 a2 a3 a4 k, LeO (concordancelaw08_DocMay.f k a0 a1 a2 a3 a4) (concordancelaw08_DocMay.f (k + 1) a0 a1 a2 a3 a4) := by
  intro a0 a1 a2 a3 a4 k
  obtain ⟨ih0, ih1⟩ := concordancelaw08_DocMay.mono_l k
  unfold concordancelaw08_DocMay.f
  repeat' first
      | (with_reducible exact ih0 _ _ _ _ _)
      | (with_reducible exact ih1 _ _ _ _ _)
      | (with_reducible exact concordancelaw08_few.mono _ _ _)
      | (with_reducible exact concordancelaw08_lives.mono _)
      | (with_reducible exact concordanceref08_Good.mono _ _ _)
      | (with_reducible exact concordanceref08_May.mono _ _ _)
      | (with_reducible exact concordanceref08_Name.mono _ _)
      | (with_reducible exact concordanceref08_Same.mono _ _ _ _ _)
      | (with_reducible exact doc_Same.mono _ _ _ _ _)
      | (with_reducible exact LeO.refl _)
      | (with_reducible exact LeO.none _)
      | (with_reducible refine LeO.ite ?_ ?_)
      | (with_reducible refine LeO.bind ?_ (fun _ => ?_))
      | exact ih0 _ _ _ _ _
      | exact ih1 _ _ _ _ _
      | exact concordancelaw08_few.mono _ _ _
      | exact concordancelaw08_lives.mono _
      | exact concordanceref08_Good.mono _ _ _
      | exact concordanceref08_May.mono _ _ _
      | exact concordanceref08_Name.mono _ _
      | exact concordanceref08_Same.mono _ _ _ _ _
      | exact doc_Same.mono _ _ _ _ _
      | exact LeO.none _
      | refine LeO.ite ?_ ?_
      | refine LeO.bind ?_ (fun _ => ?_)
def concordancelaw08_DocMay.T5 : Bool × List (List Nat × List Nat) := (true, [([], []), ([0], [0]), ([], []), ([2, 1], [2]), ([1, 3], [1, 3]), ([4, 3], [4]), ([5], [5]), ([5], [5]), ([6, 7, 5, 5], [5, 6, 7]), ([5], [5]), ([5], [5]), ([9, 10, 8, 5], [5, 9, 10]), ([8, 11, 5], [5, 8, 11]), ([5, 12], [5, 12]), ([13, 11], [13]), ([14], [14]), ([14], [14]), ([15, 16, 14, 14], [14, 15, 16]), ([17, 14], [14, 17]), ([14, 18], [14, 18]), ([19, 17], [19]), ([20], [20]), ([21, 20, 20], [20, 21]), ([20], [20]), ([23, 22, 20], [20, 23]), ([22, 24, 20], [20, 22, 24]), ([20, 25], [20, 25])])
def concordancelaw08_DocMay.B5 : List Nat := [0, 1, 0, 7, 15, 31, 63, 63, 255, 63, 63, 2047, 4095, 8191, 16383, 32767, 32767, 131071, 262143, 524287, 1048575, 2097151, 4194303, 2097151, 16777215, 33554431, 67108863]
theorem concordancelaw08_DocMay.tab5 : rtab .any (opsOf Tryd.f4 5) = concordancelaw08_DocMay.T5 := by kernel_rfl
theorem concordancelaw08_DocMay.bits5 : waitsOk concordancelaw08_DocMay.T5.2 concordancelaw08_DocMay.B5 = true := by kernel_rfl
set_option maxHeartbeats 8000000 in
set_option maxRecDepth 100000 in
theorem concordancelaw08_DocMay.calls (k : Nat) (a0_0 : Int) (A0_1 : Option Addr) (c0_1 : Nat) (l0_1 : List (S24)) (a1_0 : Int) (A1_1 : Option Addr) (c1_1 : Nat) (l1_1 : List (S24)) (a2 : ByteArray) (r : Bool) (w : World) (hr0_1 : Kd.C k24 w A0_1 l0_1.length l0_1) (hc0_1 : l0_1.length ≤ c0_1) (hr1_1 : Kd.C k24 w A1_1 l1_1.length l1_1) (hc1_1 : l1_1.length ≤ c1_1) (h : concordancelaw08_DocMay.f k a0_0 l0_1 a1_0 l1_1 a2 = some r) :
    Calls Tryd.prog 4 #[.agg #[.int .i64 a0_0, .slice A0_1 l0_1.length c0_1], .agg #[.int .i64 a1_0, .slice A1_1 l1_1.length c1_1], .string a2] w fun e w' => e = .returned (.bool r) ∧ Below w.heap.size w w' := by
  have hu27 := Tryd.underlying27
  have HR0_1 := Aside0.mk hr0_1
  have HC0_1 := Aside0.mk hc0_1
  clear hr0_1 hc0_1
  have HR1_1 := Aside0.mk hr1_1
  have HC1_1 := Aside0.mk hc1_1
  clear hr1_1 hc1_1
  have HB := Aside0.mk (Below.refl w.heap.size w)
  have H : ((concordancelaw08_few.f k a0_0 l0_1).bind fun bt256 => ((concordancelaw08_few.f k a1_0 l1_1).bind fun bt260 => (if 0 ≤ (mn (a2.size : Int) 20) then (if (mn (a2.size : Int) 20) ≤ (a2.size : Int) then ((doc_Clone.f bt256.1 bt256.2).bind fun bt264 => ((doc_May.f bt256.1 bt256.2).bind fun t269 => ((concordanceref08_May.f k bt256.1 bt256.2).bind fun t270 => (if t269 = t270 then ((doc_Same.f k bt256.1 bt256.2 bt260.1 bt260.2).bind fun t271 => ((concordanceref08_Same.f k bt256.1 bt256.2 bt260.1 bt260.2).bind fun t272 => (if (t271 != t272) = true then (concordancelaw08_DocMay.j0 k true bt256.1 bt256.2 bt264.1 bt264.2) else ((concordanceref08_Same.f k bt264.1 bt264.2 bt256.1 bt256.2).bind fun t273 => (if t273 = true then ((doc_Name.f (a2.extract 0 ((mn (a2.size : Int) 20) : Int).toNat)).bind fun t274 => ((concordanceref08_Name.f k (a2.extract 0 ((mn (a2.size : Int) 20) : Int).toNat)).bind fun t275 => (concordancelaw08_DocMay.j0 k (t274 != t275) bt256.1 bt256.2 bt264.1 bt264.2))) else (concordancelaw08_DocMay.j0 k true bt256.1 bt256.2 bt264.1 bt264.2)))))) else (concordancelaw08_DocMay.j0 k true bt256.1 bt256.2 bt264.1 bt264.2))))) else (none)) else (none)))) = some r := h
  clear h
  replace H := Option.bind_eq_some_iff.mp H
  obtain ⟨⟨t256, t257⟩, A40, H⟩ := H
  replace H : ((concordancelaw08_few.f k a1_0 l1_1).bind fun bt260 => (if 0 ≤ (mn (a2.size : Int) 20) then (if (mn (a2.size : Int) 20) ≤ (a2.size : Int) then ((doc_Clone.f t256 t257).bind fun bt264 => ((doc_May.f t256 t257).bind fun t269 => ((concordanceref08_May.f k t256 t257).bind fun t270 => (if t269 = t270 then ((doc_Same.f k t256 t257 bt260.1 bt260.2).bind fun t271 => ((concordanceref08_Same.f k t256 t257 bt260.1 bt260.2).bind fun t272 => (if (t271 != t272) = true then (concordancelaw08_DocMay.j0 k true t256 t257 bt264.1 bt264.2) else ((concordanceref08_Same.f k bt264.1 bt264.2 t256 t257).bind fun t273 => (if t273 = true then ((doc_Name.f (a2.extract 0 ((mn (a2.size : Int) 20) : Int).toNat)).bind fun t274 => ((concordanceref08_Name.f k (a2.extract 0 ((mn (a2.size : Int) 20) : Int).toNat)).bind fun t275 => (concordancelaw08_DocMay.j0 k (t274 != t275) t256 t257 bt264.1 bt264.2))) else (concordancelaw08_DocMay.j0 k true t256 t257 bt264.1 bt264.2)))))) else (concordancelaw08_DocMay.j0 k true t256 t257 bt264.1 bt264.2))))) else (none)) else (none))) = some r := H
  have A4 := Aside0.mk A40
  clear A40
  replace H := Option.bind_eq_some_iff.mp H
  obtain ⟨⟨t260, t261⟩, A50, H⟩ := H
  replace H : (if 0 ≤ (mn (a2.size : Int) 20) then (if (mn (a2.size : Int) 20) ≤ (a2.size : Int) then ((doc_Clone.f t256 t257).bind fun bt264 => ((doc_May.f t256 t257).bind fun t269 => ((concordanceref08_May.f k t256 t257).bind fun t270 => (if t269 = t270 then ((doc_Same.f k t256 t257 t260 t261).bind fun t271 => ((concordanceref08_Same.f k t256 t257 t260 t261).bind fun t272 => (if (t271 != t272) = true then (concordancelaw08_DocMay.j0 k true t256 t257 bt264.1 bt264.2) else ((concordanceref08_Same.f k bt264.1 bt264.2 t256 t257).bind fun t273 => (if t273 = true then ((doc_Name.f (a2.extract 0 ((mn (a2.size : Int) 20) : Int).toNat)).bind fun t274 => ((concordanceref08_Name.f k (a2.extract 0 ((mn (a2.size : Int) 20) : Int).toNat)).bind fun t275 => (concordancelaw08_DocMay.j0 k (t274 != t275) t256 t257 bt264.1 bt264.2))) else (concordancelaw08_DocMay.j0 k true t256 t257 bt264.1 bt264.2)))))) else (concordancelaw08_DocMay.j0 k true t256 t257 bt264.1 bt264.2))))) else (none)) else (none)) = some r := H
  have A5 := Aside0.mk A50
  clear A50
  obtain ⟨ji6, hji6⟩ : ∃ j_ : Int, (mn (a2.size : Int) 20) = j_ := ⟨_, rfl⟩
  replace H : (if 0 ≤ (ji6) then (if (ji6) ≤ (a2.size : Int) then ((doc_Clone.f t256 t257).bind fun bt264 => ((doc_May.f t256 t257).bind fun t269 => ((concordanceref08_May.f k t256 t257).bind fun t270 => (if t269 = t270 then ((doc_Same.f k t256 t257 t260 t261).bind fun t271 => ((concordanceref08_Same.f k t256 t257 t260 t261).bind fun t272 => (if (t271 != t272) = true then (concordancelaw08_DocMay.j0 k true t256 t257 bt264.1 bt264.2) else ((concordanceref08_Same.f k bt264.1 bt264.2 t256 t257).bind fun t273 => (if t273 = true then ((doc_Name.f (a2.extract 0 ((ji6) : Int).toNat)).bind fun t274 => ((concordanceref08_Name.f k (a2.extract 0 ((ji6) : Int).toNat)).bind fun t275 => (concordancelaw08_DocMay.j0 k (t274 != t275) t256 t257 bt264.1 bt264.2))) else (concordancelaw08_DocMay.j0 k true t256 t257 bt264.1 bt264.2)))))) else (concordancelaw08_DocMay.j0 k true t256 t257 bt264.1 bt264.2))))) else (none)) else (none)) = some r := by first | (rw [hji6] at H; exact H) | (simp only [hji6] at H ⊢; exact H)
  (try rw [hji6] at A4)
  (try rw [hji6] at A5)
  (try (have hji6h : ji6 ≤ 20 := by (rw [← hji6]; unfold mn; (repeat' split) <;> omega)))
  (try (have hji6g : ji6 ≤ 64 := by omega))
  (try (have hji6l : 0 ≤ ji6 := by (rw [← hji6]; unfold mn; (repeat' split) <;> omega)))
  (try (have hji6m : 0 ≤ ji6 := by omega))
  have hji6_ : (if 20 < (a2.size : Int) then 20 else (a2.size : Int)) = ji6 := hji6
  by_cases c7 : 0 ≤ (ji6)
  · rw [if_pos c7] at H
    have c7b0 := eq_true c7
    have c7b1 : decide (0 ≤ (ji6)) = true := decide_eq_true c7
    clear c7
    by_cases c8 : (ji6) ≤ (a2.size : Int)
    · rw [if_pos c8] at H
      have c8b0 := eq_true c8
      have c8b1 : decide ((ji6) ≤ (a2.size : Int)) = true := decide_eq_true c8
      clear c8
      replace H := Option.bind_eq_some_iff.mp H
      obtain ⟨⟨t264, t265⟩, A90, H⟩ := H
      replace H : ((doc_May.f t256 t257).bind fun t269 => ((concordanceref08_May.f k t256 t257).bind fun t270 => (if t269 = t270 then ((doc_Same.f k t256 t257 t260 t261).bind fun t271 => ((concordanceref08_Same.f k t256 t257 t260 t261).bind fun t272 => (if (t271 != t272) = true then (concordancelaw08_DocMay.j0 k true t256 t257 t264 t265) else ((concordanceref08_Same.f k t264 t265 t256 t257).bind fun t273 => (if t273 = true then ((doc_Name.f (a2.extract 0 ((ji6) : Int).toNat)).bind fun t274 => ((concordanceref08_Name.f k (a2.extract 0 ((ji6) : Int).toNat)).bind fun t275 => (concordancelaw08_DocMay.j0 k (t274 != t275) t256 t257 t264 t265))) else (concordancelaw08_DocMay.j0 k true t256 t257 t264 t265)))))) else (concordancelaw08_DocMay.j0 k true t256 t257 t264 t265)))) = some r := H
      have A9 := Aside0.mk A90
      clear A90
      have HC10 := Aside0.mk H
      clear H
      go_enter Tryd.func4, Tryd.ntmps4
      go_upto_region 5 with (first | ((with_reducible refine gate_dst (N := 3) rfl ?_); refine box_event ?hg (N := 3) ?hd (cs := #[.int .i64 a0_0, .slice A0_1 l0_1.length c0_1]) (t := 27) ?hr ?_; (case hd => rfl); (case hg => rfl); (case hr => first | (go_simp; done) | (go_simp; rfl)); intro gb254 hg w11 hbox hb; have n0_ := Aside0.mk (below_step (by repeat (first | (with_reducible first | exact HB.out | apply below_alloc | apply pw_below_drewN | apply below_drew1) | exact HB.out)) hb); have n1_ := Aside0.mk (hbox); have n2_ := Aside0.mk ((by rw [hg]; exact (below_size (by repeat (first | (with_reducible first | exact HB.out | apply below_alloc | apply pw_below_drewN | apply below_drew1) | exact HB.out))) : w.heap.size ≤ gb254)); have n3_ := Aside0.mk ((by rw [hg]; exact (below_size (by repeat (first | (with_reducible first | exact HB.out | apply below_alloc | apply pw_below_drewN | apply below_drew1) | exact HB.out))) : w.heap.size ≤ gb254)); clear HB; have HB := n0_; have BK254 := n1_; have GW254 := n2_; have GE254 := n3_; clear n0_ n1_ n2_ n3_; clear hb hbox hg) | ((with_reducible refine gate_dst (N := 4) rfl ?_); refine box_event ?hg (N := 4) ?hd (cs := #[.int .i64 a1_0, .slice A1_1 l1_1.length c1_1]) (t := 27) ?hr ?_; (case hd => rfl); (case hg => rfl); (case hr => first | (go_simp; done) | (go_simp; rfl)); intro gb255 hg w12 hbox hb; have n0_ := Aside0.mk (blk_below (g := gb254) (o := .cells #[.int .i64 a0_0, .slice A0_1 l0_1.length c0_1] 27 (0, 0)) (by (with_reducible repeat (first | refine blk_drewN ?_ _ | refine blk_drew ?_ | refine blk_alloc ?_ _)); exact BK254.out) hb); have n1_ := Aside0.mk (below_step (by repeat (first | (with_reducible first | exact HB.out | apply below_alloc | apply pw_below_drewN | apply below_drew1 | refine below_set ?_ GE254.out) | exact HB.out)) hb); have n2_ := Aside0.mk (hbox); have n3_ := Aside0.mk ((by rw [hg]; exact (below_size (by repeat (first | (with_reducible first | exact HB.out | apply below_alloc | apply pw_below_drewN | apply below_drew1 | refine below_set ?_ GE254.out) | exact HB.out))) : w.heap.size ≤ gb255)); have n4_ := Aside0.mk ((by rw [hg]; exact (below_size (by repeat (first | (with_reducible first | exact HB.out | apply below_alloc | apply pw_below_drewN | apply below_drew1 | refine below_set ?_ GE254.out) | exact HB.out))) : w.heap.size ≤ gb255)); have n5_ := Aside0.mk ((by rw [hg]; exact Nat.ne_of_lt (blk_lt (g := gb254) (o := .cells #[.int .i64 a0_0, .slice A0_1 l0_1.length c0_1] 27 (0, 0)) (by (with_reducible repeat (first | refine blk_drewN ?_ _ | refine blk_drew ?_ | refine blk_alloc ?_ _)); exact BK254.out)) : gb254 ≠ gb255)); have n6_ := Aside0.mk ((by rw [hg]; exact Nat.ne_of_gt (blk_lt (g := gb254) (o := .cells #[.int .i64 a0_0, .slice A0_1 l0_1.length c0_1] 27 (0, 0)) (by (with_reducible repeat (first | refine blk_drewN ?_ _ | refine blk_drew ?_ | refine blk_alloc ?_ _)); exact BK254.out)) : gb255 ≠ gb254)); clear BK254; clear HB; have BK254 := n0_; have HB := n1_; have BK255 := n2_; have GW255 := n3_; have GE255 := n4_; have NB254_255 := n5_; have NB255_254 := n6_; clear n0_ n1_ n2_ n3_ n4_ n5_ n6_; clear hb hbox hg; have hnb13 := NB254_255.out; have hnc13 := NB255_254.out; have hcz14_0 : w12.cell? ⟨gb254, 0, none⟩ = some (.int .i64 a0_0) := (blk_cell BK254.out 0).trans rfl; have hcz14_1 : w12.cell? ⟨gb254, 1, none⟩ = some (.slice A0_1 l0_1.length c0_1) := (blk_cell BK254.out 1).trans rfl; have hfz14_0 := blk_frozen BK254.out 0; have hfz14_1 := blk_frozen BK254.out 1) | ((with_reducible refine gate_callee (f := 9) rfl ?_); refine goesL_ (some 11) rfl rfl Tryd.func9 (by kernel_rfl) rfl #[.agg #[.int .i64 a0_0, .slice A0_1 l0_1.length c0_1]] rfl (by (try simp only [List.map_toArray, List.map_cons, List.map_nil]); first | done | rfl | (simp only [List.length_drop, List.length_take]; rfl)) ?_; (with_reducible refine (concordancelaw08_few.calls k a0_0 _ _ l0_1 t256 t257 _ ?side1 ?side2 A4.out).mono ?_); (case side1 => repeat (first | exact (Kd.C_below HR0_1.out HB.out) | (with_reducible refine Kd.C_alloc ?_ _) | (with_reducible refine Kd.C_drewN ?_ _) | (with_reducible refine Kd.C_drew ?_))); (case side2 => exact HC0_1.out); rintro e w15 ⟨v258, rfl, ho0, hb⟩; refine ⟨_, rfl, ?_⟩; have n0_ := Aside0.mk (Kd.R_lower ho0 (below_size (by repeat (first | (with_reducible first | exact HB.out | apply below_alloc | apply pw_below_drewN | apply below_drew1 | refine below_set ?_ GE254.out | refine below_set ?_ GE255.out) | exact HB.out)))); have n1_ := Aside0.mk (blk_below (g := gb254) (o := .cells #[.int .i64 a0_0, .slice A0_1 l0_1.length c0_1] 27 (0, 0)) (by (with_reducible repeat (first | refine blk_drewN ?_ _ | refine blk_drew ?_ | refine blk_alloc ?_ _)); exact BK254.out) hb); have n2_ := Aside0.mk (blk_below (g := gb255) (o := .cells #[.int .i64 a1_0, .slice A1_1 l1_1.length c1_1] 27 (0, 0)) (by (with_reducible repeat (first | refine blk_drewN ?_ _ | refine blk_drew ?_ | refine blk_alloc ?_ _)); exact BK255.out) hb); have n3_ := Aside0.mk (below_step (by repeat (first | (with_reducible first | exact HB.out | apply below_alloc | apply pw_below_drewN | apply below_drew1 | refine below_set ?_ GE254.out | refine below_set ?_ GE255.out) | exact HB.out)) hb); clear BK254; clear BK255; clear HB; have HO259 := n0_; have BK254 := n1_; have BK255 := n2_; have HB := n3_; clear n0_ n1_ n2_ n3_; (try clear hb); (try clear hb2); (try clear hk); (try clear hi); (try clear ho0); have hcz16_0 : w15.cell? ⟨gb254, 0, none⟩ = some (.int .i64 a0_0) := (blk_cell BK254.out 0).trans rfl; have hcz16_1 : w15.cell? ⟨gb254, 1, none⟩ = some (.slice A0_1 l0_1.length c0_1) := (blk_cell BK254.out 1).trans rfl; have hfz16_0 := blk_frozen BK254.out 0; have hfz16_1 := blk_frozen BK254.out 1; obtain ⟨Ao17, co17, eo17⟩ := Kd.R_slice HO259.out; subst eo17; have hcz18_0 : w15.cell? ⟨gb255, 0, none⟩ = some (.int .i64 a1_0) := (blk_cell BK255.out 0).trans rfl; have hcz18_1 : w15.cell? ⟨gb255, 1, none⟩ = some (.slice A1_1 l1_1.length c1_1) := (blk_cell BK255.out 1).trans rfl; have hfz18_0 := blk_frozen BK255.out 0; have hfz18_1 := blk_frozen BK255.out 1) | ((with_reducible refine gate_callee (f := 9) rfl ?_); refine goesL_ (some 13) rfl rfl Tryd.func9 (by kernel_rfl) rfl #[.agg #[.int .i64 a1_0, .slice A1_1 l1_1.length c1_1]] rfl (by (try simp only [List.map_toArray, List.map_cons, List.map_nil]); first | done | rfl | (simp only [List.length_drop, List.length_take]; rfl)) ?_; (with_reducible refine (concordancelaw08_few.calls k a1_0 _ _ l1_1 t260 t261 _ ?side1 ?side2 A5.out).mono ?_); (case side1 => exact Kd.C_below HR1_1.out (by repeat (first | (with_reducible first | exact HB.out | apply below_alloc | apply pw_below_drewN | apply below_drew1 | refine below_set ?_ GE254.out | refine below_set ?_ GE255.out) | exact HB.out))); (case side2 => exact HC1_1.out); rintro e w19 ⟨v262, rfl, ho0, hb⟩; refine ⟨_, rfl, ?_⟩; have n0_ := Aside0.mk (Kd.R_elder' (by (with_reducible repeat (first | apply Kd.R_alloc | apply Kd.R_drewN | apply Kd.R_drew)); exact (Kd.R_mono (Kd.R_far (p := ⟨gb254, 1, none⟩) (Kd.R_far (p := ⟨gb254, 0, none⟩) (Kd.R_types HO259.out BK254.out (by decide)) (fun _ hk => hk.2) (.int .i64 t256)) (fun _ hk => hk.2) (.slice Ao17 t257.length co17)) (fun _ h_ => h_.1))) (Kd.R_base ho0) hb); have n1_ := Aside0.mk (Kd.R_lower (Kd.R_new' ho0 (Kd.R_lt (by (with_reducible repeat (first | apply Kd.R_alloc | apply Kd.R_drewN | apply Kd.R_drew)); exact (Kd.R_mono (Kd.R_far (p := ⟨gb254, 1, none⟩) (Kd.R_far (p := ⟨gb254, 0, none⟩) (Kd.R_types HO259.out BK254.out (by decide)) (fun _ hk => hk.2) (.int .i64 t256)) (fun _ hk => hk.2) (.slice Ao17 t257.length co17)) (fun _ h_ => h_.1))))) (below_size (by repeat (first | (with_reducible first | exact HB.out | apply below_alloc | apply pw_below_drewN | apply below_drew1 | refine below_set ?_ GE254.out | refine below_set ?_ GE255.out) | exact HB.out)))); have n2_ := Aside0.mk (blk_below (g := gb254) (o := .cells #[.int .i64 t256, .slice Ao17 t257.length co17] 27 (0, 0)) (by (with_reducible repeat (first | refine blk_drewN ?_ _ | refine blk_drew ?_ | refine blk_alloc ?_ _)); refine blk_put (cs := #[.int .i64 t256, .slice A0_1 l0_1.length c0_1]) ?_ 1 _ rfl; (with_reducible repeat (first | refine blk_drewN ?_ _ | refine blk_drew ?_ | refine blk_alloc ?_ _)); refine blk_put (cs := #[.int .i64 a0_0, .slice A0_1 l0_1.length c0_1]) ?_ 0 _ rfl; (with_reducible repeat (first | refine blk_drewN ?_ _ | refine blk_drew ?_ | refine blk_alloc ?_ _)); exact BK254.out) hb); have n3_ := Aside0.mk (blk_below (g := gb255) (o := .cells #[.int .i64 a1_0, .slice A1_1 l1_1.length c1_1] 27 (0, 0)) (by (with_reducible repeat (first | refine blk_drewN ?_ _ | refine blk_drew ?_ | refine blk_alloc ?_ _)); refine blk_far ?_ NB255_254.out _; (with_reducible repeat (first | refine blk_drewN ?_ _ | refine blk_drew ?_ | refine blk_alloc ?_ _)); refine blk_far ?_ NB255_254.out _; (with_reducible repeat (first | refine blk_drewN ?_ _ | refine blk_drew ?_ | refine blk_alloc ?_ _)); exact BK255.out) hb); have n4_ := Aside0.mk (below_step (by repeat (first | (with_reducible first | exact HB.out | apply below_alloc | apply pw_below_drewN | apply below_drew1 | refine below_set ?_ GE254.out | refine below_set ?_ GE255.out) | exact HB.out)) hb); clear HO259; clear BK254; clear BK255; clear HB; have HO259 := n0_; have HO263 := n1_; have BK254 := n2_; have BK255 := n3_; have HB := n4_; clear n0_ n1_ n2_ n3_ n4_; (try clear hb); (try clear hb2); (try clear hk); (try clear hi); (try clear ho0); have hcz20_0 : w19.cell? ⟨gb255, 0, none⟩ = some (.int .i64 a1_0) := (blk_cell BK255.out 0).trans rfl; have hcz20_1 : w19.cell? ⟨gb255, 1, none⟩ = some (.slice A1_1 l1_1.length c1_1) := (blk_cell BK255.out 1).trans rfl; have hfz20_0 := blk_frozen BK255.out 0; have hfz20_1 := blk_frozen BK255.out 1; obtain ⟨Ao21, co21, eo21⟩ := Kd.R_slice HO263.out; subst eo21; have hcz22_0 : w19.cell? ⟨gb254, 0, none⟩ = some (.int .i64 t256) := (blk_cell BK254.out 0).trans rfl; have hcz22_1 : w19.cell? ⟨gb254, 1, none⟩ = some (.slice Ao17 t257.length co17) := (blk_cell BK254.out 1).trans rfl; have hfz22_0 := blk_frozen BK254.out 0; have hfz22_1 := blk_frozen BK254.out 1) | ((with_reducible refine gate_callee (f := 10) rfl ?_); refine goesL_ (some 20) rfl rfl Tryd.func10 (by kernel_rfl) rfl #[.agg #[.int .i64 t256, .slice Ao17 t257.length co17]] rfl (by (try simp only [List.map_toArray, List.map_cons, List.map_nil]); first | done | rfl | (simp only [List.length_drop, List.length_take]; rfl)) ?_; (with_reducible refine (doc_Clone.calls t256 _ _ t257 t264 t265 _ ?side1 ?side2 A9.out).mono ?_); (case side1 => refine (Kd.R_reads' (e := 24) (base := w.heap.size) (ok := fun k_ => (True ∧ some k_ ≠ (.slice Ao21 t261.length co21 : Value).ownBlock)) (n := t257.length) (c := co17) ?_).2.2; exact (by (with_reducible repeat (first | apply Kd.R_alloc | apply Kd.R_drewN | apply Kd.R_drew)); exact (Kd.R_mono (Kd.R_far (p := ⟨gb255, 1, none⟩) (Kd.R_far (p := ⟨gb255, 0, none⟩) (Kd.R_types HO259.out BK255.out (by decide)) (fun _ hk => hk.2) (.int .i64 t260)) (fun _ hk => hk.2) (.slice Ao21 t261.length co21)) (fun _ h_ => h_.1)))); (case side2 => exact (Kd.R_reads' HO259.out).2.1); rintro e w23 ⟨v266, rfl, ho0, hb⟩; refine ⟨_, rfl, ?_⟩; have n0_ := Aside0.mk (Kd.R_elder' (by (with_reducible repeat (first | apply Kd.R_alloc | apply Kd.R_drewN | apply Kd.R_drew)); exact (Kd.R_mono (Kd.R_far (p := ⟨gb255, 1, none⟩) (Kd.R_far (p := ⟨gb255, 0, none⟩) (Kd.R_types HO259.out BK255.out (by decide)) (fun _ hk => hk.2) (.int .i64 t260)) (fun _ hk => hk.2) (.slice Ao21 t261.length co21)) (fun _ h_ => h_.1))) (Kd.R_base ho0) hb); have n1_ := Aside0.mk (Kd.R_elder' (by (with_reducible repeat (first | apply Kd.R_alloc | apply Kd.R_drewN | apply Kd.R_drew)); exact (Kd.R_mono (Kd.R_far (p := ⟨gb255, 1, none⟩) (Kd.R_far (p := ⟨gb255, 0, none⟩) (Kd.R_types HO263.out BK255.out (by decide)) (fun _ hk => hk.2) (.int .i64 t260)) (fun _ hk => hk.2) (.slice Ao21 t261.length co21)) (fun _ h_ => h_.1))) (Kd.R_base ho0) hb); have n2_ := Aside0.mk (Kd.R_lower (Kd.R_new' (Kd.R_new' ho0 (Kd.R_lt (by (with_reducible repeat (first | apply Kd.R_alloc | apply Kd.R_drewN | apply Kd.R_drew)); exact (Kd.R_mono (Kd.R_far (p := ⟨gb255, 1, none⟩) (Kd.R_far (p := ⟨gb255, 0, none⟩) (Kd.R_types HO259.out BK255.out (by decide)) (fun _ hk => hk.2) (.int .i64 t260)) (fun _ hk => hk.2) (.slice Ao21 t261.length co21)) (fun _ h_ => h_.1))))) (Kd.R_lt (by (with_reducible repeat (first | apply Kd.R_alloc | apply Kd.R_drewN | apply Kd.R_drew)); exact (Kd.R_mono (Kd.R_far (p := ⟨gb255, 1, none⟩) (Kd.R_far (p := ⟨gb255, 0, none⟩) (Kd.R_types HO263.out BK255.out (by decide)) (fun _ hk => hk.2) (.int .i64 t260)) (fun _ hk => hk.2) (.slice Ao21 t261.length co21)) (fun _ h_ => h_.1))))) (below_size (by repeat (first | (with_reducible first | exact HB.out | apply below_alloc | apply pw_below_drewN | apply below_drew1 | refine below_set ?_ GE254.out | refine below_set ?_ GE255.out) | exact HB.out)))); have n3_ := Aside0.mk (blk_below (g := gb254) (o := .cells #[.int .i64 t256, .slice Ao17 t257.length co17] 27 (0, 0)) (by (with_reducible repeat (first | refine blk_drewN ?_ _ | refine blk_drew ?_ | refine blk_alloc ?_ _)); refine blk_far ?_ NB254_255.out _; (with_reducible repeat (first | refine blk_drewN ?_ _ | refine blk_drew ?_ | refine blk_alloc ?_ _)); refine blk_far ?_ NB254_255.out _; (with_reducible repeat (first | refine blk_drewN ?_ _ | refine blk_drew ?_ | refine blk_alloc ?_ _)); exact BK254.out) hb); have n4_ := Aside0.mk (blk_below (g := gb255) (o := .cells #[.int .i64 t260, .slice Ao21 t261.length co21] 27 (0, 0)) (by (with_reducible repeat (first | refine blk_drewN ?_ _ | refine blk_drew ?_ | refine blk_alloc ?_ _)); refine blk_put (cs := #[.int .i64 t260, .slice A1_1 l1_1.length c1_1]) ?_ 1 _ rfl; (with_reducible repeat (first | refine blk_drewN ?_ _ | refine blk_drew ?_ | refine blk_alloc ?_ _)); refine blk_put (cs := #[.int .i64 a1_0, .slice A1_1 l1_1.length c1_1]) ?_ 0 _ rfl; (with_reducible repeat (first | refine blk_drewN ?_ _ | refine blk_drew ?_ | refine blk_alloc ?_ _)); exact BK255.out) hb); have n5_ := Aside0.mk (below_step (by repeat (first | (with_reducible first | exact HB.out | apply below_alloc | apply pw_below_drewN | apply below_drew1 | refine below_set ?_ GE254.out | refine below_set ?_ GE255.out) | exact HB.out)) hb); clear HO259; clear HO263; clear BK254; clear BK255; clear HB; have HO259 := n0_; have HO263 := n1_; have HO267 := n2_; have BK254 := n3_; have BK255 := n4_; have HB := n5_; clear n0_ n1_ n2_ n3_ n4_ n5_; (try clear hb); (try clear hb2); (try clear hk); (try clear hi); (try clear ho0)) | ((with_reducible refine gate_dst (N := 7) rfl ?_); refine box_event ?hg (N := 7) ?hd (cs := #[.int .i64 0, .slice none 0 0]) (t := 27) ?hr ?_; (case hd => rfl); (case hg => rfl); (case hr => first | (go_simp; done) | (go_simp; rfl)); intro gb268 hg w24 hbox hb; have n0_ := Aside0.mk (Kd.R_below (by (with_reducible repeat (first | apply Kd.R_alloc | apply Kd.R_drewN | apply Kd.R_drew)); exact HO259.out) hb); have n1_ := Aside0.mk (Kd.R_below (by (with_reducible repeat (first | apply Kd.R_alloc | apply Kd.R_drewN | apply Kd.R_drew)); exact HO263.out) hb); have n2_ := Aside0.mk (Kd.R_below (by (with_reducible repeat (first | apply Kd.R_alloc | apply Kd.R_drewN | apply Kd.R_drew)); exact HO267.out) hb); have n3_ := Aside0.mk (blk_below (g := gb254) (o := .cells #[.int .i64 t256, .slice Ao17 t257.length co17] 27 (0, 0)) (by (with_reducible repeat (first | refine blk_drewN ?_ _ | refine blk_drew ?_ | refine blk_alloc ?_ _)); exact BK254.out) hb); have n4_ := Aside0.mk (blk_below (g := gb255) (o := .cells #[.int .i64 t260, .slice Ao21 t261.length co21] 27 (0, 0)) (by (with_reducible repeat (first | refine blk_drewN ?_ _ | refine blk_drew ?_ | refine blk_alloc ?_ _)); exact BK255.out) hb); have n5_ := Aside0.mk (below_step (by repeat (first | (with_reducible first | exact HB.out | apply below_alloc | apply pw_below_drewN | apply below_drew1 | refine below_set ?_ GE254.out | refine below_set ?_ GE255.out) | exact HB.out)) hb); have n6_ := Aside0.mk (hbox); have n7_ := Aside0.mk ((by rw [hg]; exact (below_size (by repeat (first | (with_reducible first | exact HB.out | apply below_alloc | apply pw_below_drewN | apply below_drew1 | refine below_set ?_ GE254.out | refine below_set ?_ GE255.out) | exact HB.out))) : w.heap.size ≤ gb268)); have n8_ := Aside0.mk ((by rw [hg]; exact (below_size (by repeat (first | (with_reducible first | exact HB.out | apply below_alloc | apply pw_below_drewN | apply below_drew1 | refine below_set ?_ GE254.out | refine below_set ?_ GE255.out) | exact HB.out))) : w.heap.size ≤ gb268)); have n9_ := Aside0.mk ((by rw [hg]; exact Nat.ne_of_lt (blk_lt (g := gb254) (o := .cells #[.int .i64 t256, .slice Ao17 t257.length co17] 27 (0, 0)) (by (with_reducible repeat (first | refine blk_drewN ?_ _ | refine blk_drew ?_ | refine blk_alloc ?_ _)); exact BK254.out)) : gb254 ≠ gb268)); have n10_ := Aside0.mk ((by rw [hg]; exact Nat.ne_of_gt (blk_lt (g := gb254) (o := .cells #[.int .i64 t256, .slice Ao17 t257.length co17] 27 (0, 0)) (by (with_reducible repeat (first | refine blk_drewN ?_ _ | refine blk_drew ?_ | refine blk_alloc ?_ _)); exact BK254.out)) : gb268 ≠ gb254)); have n11_ := Aside0.mk ((by rw [hg]; exact Nat.ne_of_lt (blk_lt (g := gb255) (o := .cells #[.int .i64 t260, .slice Ao21 t261.length co21] 27 (0, 0)) (by (with_reducible repeat (first | refine blk_drewN ?_ _ | refine blk_drew ?_ | refine blk_alloc ?_ _)); exact BK255.out)) : gb255 ≠ gb268)); have n12_ := Aside0.mk ((by rw [hg]; exact Nat.ne_of_gt (blk_lt (g := gb255) (o := .cells #[.int .i64 t260, .slice Ao21 t261.length co21] 27 (0, 0)) (by (with_reducible repeat (first | refine blk_drewN ?_ _ | refine blk_drew ?_ | refine blk_alloc ?_ _)); exact BK255.out)) : gb268 ≠ gb255)); clear HO259; clear HO263; clear HO267; clear BK254; clear BK255; clear HB; have HO259 := n0_; have HO263 := n1_; have HO267 := n2_; have BK254 := n3_; have BK255 := n4_; have HB := n5_; have BK268 := n6_; have GW268 := n7_; have GE268 := n8_; have NB254_268 := n9_; have NB268_254 := n10_; have NB255_268 := n11_; have NB268_255 := n12_; clear n0_ n1_ n2_ n3_ n4_ n5_ n6_ n7_ n8_ n9_ n10_ n11_ n12_; clear hb hbox hg; have hnb25 := NB268_254.out; have hnc25 := NB254_268.out; have hnb26 := NB268_255.out; have hnc26 := NB255_268.out; have hcz27_0 : w24.cell? ⟨gb268, 0, none⟩ = some (.int .i64 0) := (blk_cell BK268.out 0).trans rfl; have hcz27_1 : w24.cell? ⟨gb268, 1, none⟩ = some (.slice none 0 0) := (blk_cell BK268.out 1).trans rfl; have hfz27_0 := blk_frozen BK268.out 0; have hfz27_1 := blk_frozen BK268.out 1; obtain ⟨Ao28, co28, eo28⟩ := Kd.R_slice HO267.out; subst eo28))
      (try simp only [Act.put, List.setIfInBounds_toArray, List.set_cons_zero, List.set_cons_succ])
      go_cut [47] (fun v47 wc => ∃ (kq : Nat) (x47_9 : Bool), v47 = .bool x47_9 ∧ Aside0 (concordancelaw08_DocMay.j0 kq x47_9 t256 t257 t264 t265 = some r) ∧ Aside0 (kq ≤ k) ∧ Aside0 (Kd.R k24 24 wc w.heap.size (fun k_ => some k_ ≠ ((.slice Ao21 t261.length co21) : Value).ownBlock ∧ some k_ ≠ ((.slice Ao28 t265.length co28) : Value).ownBlock) (.slice Ao17 t257.length co17) t257) ∧ Aside0 (Kd.R k24 24 wc w.heap.size (fun k_ => some k_ ≠ ((.slice Ao17 t257.length co17) : Value).ownBlock ∧ some k_ ≠ ((.slice Ao28 t265.length co28) : Value).ownBlock) (.slice Ao21 t261.length co21) t261) ∧ Aside0 (Kd.R k24 24 wc w.heap.size (fun k_ => some k_ ≠ ((.slice Ao17 t257.length co17) : Value).ownBlock ∧ some k_ ≠ ((.slice Ao21 t261.length co21) : Value).ownBlock) (.slice Ao28 t265.length co28) t265) ∧ Aside0 (wc.heap[gb254]? = some (.cells #[.int .i64 t256, (.slice Ao17 t257.length co17)] 27 (0, 0))) ∧ Aside0 (wc.heap[gb255]? = some (.cells #[.int .i64 t260, (.slice Ao21 t261.length co21)] 27 (0, 0))) ∧ Aside0 (wc.heap[gb268]? = some (.cells #[.int .i64 t264, (.slice Ao28 t265.length co28)] 27 (0, 0))) ∧ Aside0 (Below w.heap.size w wc))
      case first =>
        have H := HC10.out
        clear HC10
        replace H := Option.bind_eq_some_iff.mp H
        obtain ⟨t269, A290, H⟩ := H
        replace H : ((concordanceref08_May.f k t256 t257).bind fun t270 => (if t269 = t270 then ((doc_Same.f k t256 t257 t260 t261).bind fun t271 => ((concordanceref08_Same.f k t256 t257 t260 t261).bind fun t272 => (if (t271 != t272) = true then (concordancelaw08_DocMay.j0 k true t256 t257 t264 t265) else ((concordanceref08_Same.f k t264 t265 t256 t257).bind fun t273 => (if t273 = true then ((doc_Name.f (a2.extract 0 ((ji6) : Int).toNat)).bind fun t274 => ((concordanceref08_Name.f k (a2.extract 0 ((ji6) : Int).toNat)).bind fun t275 => (concordancelaw08_DocMay.j0 k (t274 != t275) t256 t257 t264 t265))) else (concordancelaw08_DocMay.j0 k true t256 t257 t264 t265)))))) else (concordancelaw08_DocMay.j0 k true t256 t257 t264 t265))) = some r := H
        have A29 := Aside0.mk A290
        clear A290
        replace H := Option.bind_eq_some_iff.mp H
        obtain ⟨t270, A300, H⟩ := H
        replace H : (if t269 = t270 then ((doc_Same.f k t256 t257 t260 t261).bind fun t271 => ((concordanceref08_Same.f k t256 t257 t260 t261).bind fun t272 => (if (t271 != t272) = true then (concordancelaw08_DocMay.j0 k true t256 t257 t264 t265) else ((concordanceref08_Same.f k t264 t265 t256 t257).bind fun t273 => (if t273 = true then ((doc_Name.f (a2.extract 0 ((ji6) : Int).toNat)).bind fun t274 => ((concordanceref08_Name.f k (a2.extract 0 ((ji6) : Int).toNat)).bind fun t275 => (concordancelaw08_DocMay.j0 k (t274 != t275) t256 t257 t264 t265))) else (concordancelaw08_DocMay.j0 k true t256 t257 t264 t265)))))) else (concordancelaw08_DocMay.j0 k true t256 t257 t264 t265)) = some r := H
        have A30 := Aside0.mk A300
        clear A300
        by_cases c31 : t269 = t270
        · rw [if_pos c31] at H
          have c31b0 : (t269 == t270) = true := beq_iff_eq.mpr c31
          have c31b1 : (t269 != t270) = false := bne_eq_false_iff_eq.mpr c31
          clear c31
          (first | rw [c31b0] | (simp only [i64_w, i32_w]; rw [c31b0]) | skip)
          replace H := Option.bind_eq_some_iff.mp H
          obtain ⟨t271, A320, H⟩ := H
          replace H : ((concordanceref08_Same.f k t256 t257 t260 t261).bind fun t272 => (if (t271 != t272) = true then (concordancelaw08_DocMay.j0 k true t256 t257 t264 t265) else ((concordanceref08_Same.f k t264 t265 t256 t257).bind fun t273 => (if t273 = true then ((doc_Name.f (a2.extract 0 ((ji6) : Int).toNat)).bind fun t274 => ((concordanceref08_Name.f k (a2.extract 0 ((ji6) : Int).toNat)).bind fun t275 => (concordancelaw08_DocMay.j0 k (t274 != t275) t256 t257 t264 t265))) else (concordancelaw08_DocMay.j0 k true t256 t257 t264 t265))))) = some r := H
          have A32 := Aside0.mk A320
          clear A320
          replace H := Option.bind_eq_some_iff.mp H
          obtain ⟨t272, A330, H⟩ := H
          replace H : (if (t271 != t272) = true then (concordancelaw08_DocMay.j0 k true t256 t257 t264 t265) else ((concordanceref08_Same.f k t264 t265 t256 t257).bind fun t273 => (if t273 = true then ((doc_Name.f (a2.extract 0 ((ji6) : Int).toNat)).bind fun t274 => ((concordanceref08_Name.f k (a2.extract 0 ((ji6) : Int).toNat)).bind fun t275 => (concordancelaw08_DocMay.j0 k (t274 != t275) t256 t257 t264 t265))) else (concordancelaw08_DocMay.j0 k true t256 t257 t264 t265)))) = some r := H
          have A33 := Aside0.mk A330
          clear A330
          by_cases c34 : (t271 != t272) = true
          · rw [if_pos c34] at H
            have c34b0 : (t271 != t272) = true := c34
            (try (have c34b1 : decide (t271 = t272) = false := by simpa using c34))
            (try (have c34b2 : (t271 == t272) = false := by simpa using c34))
            (try (have c34b3 : ¬ (t271 = t272) := by simpa using c34))
            clear c34
            have H' := Aside0.mk H
            clear H
            try go_wp2
            have n0_ : Aside0 (Kd.R k24 24 ((w24.setCell ⟨gb268, 0, none⟩ (.int .i64 t264)).setCell ⟨gb268, 1, none⟩ (.slice Ao28 t265.length co28)) w.heap.size (fun k_ => some k_ ≠ (.slice Ao21 t261.length co21 : Value).ownBlock ∧ some k_ ≠ (.slice Ao28 t265.length co28 : Value).ownBlock) (.slice Ao17 t257.length co17) t257) := ⟨by (with_reducible repeat (first | apply Kd.R_alloc | apply Kd.R_drewN | apply Kd.R_drew)); exact Kd.R_mono (Kd.R_far (p := ⟨gb268, 1, none⟩) (Kd.R_far (p := ⟨gb268, 0, none⟩) (Kd.R_types HO259.out BK268.out (by decide)) (fun _ hk => hk.2) (.int .i64 t264)) (fun _ hk => hk.2) (.slice Ao28 t265.length co28)) (fun _ hk => ⟨hk.1.1.2, hk.1.2⟩)⟩
            have n1_ : Aside0 (Kd.R k24 24 ((w24.setCell ⟨gb268, 0, none⟩ (.int .i64 t264)).setCell ⟨gb268, 1, none⟩ (.slice Ao28 t265.length co28)) w.heap.size (fun k_ => some k_ ≠ (.slice Ao17 t257.length co17 : Value).ownBlock ∧ some k_ ≠ (.slice Ao28 t265.length co28 : Value).ownBlock) (.slice Ao21 t261.length co21) t261) := ⟨by (with_reducible repeat (first | apply Kd.R_alloc | apply Kd.R_drewN | apply Kd.R_drew)); exact Kd.R_mono (Kd.R_far (p := ⟨gb268, 1, none⟩) (Kd.R_far (p := ⟨gb268, 0, none⟩) (Kd.R_types HO263.out BK268.out (by decide)) (fun _ hk => hk.2) (.int .i64 t264)) (fun _ hk => hk.2) (.slice Ao28 t265.length co28)) (fun _ hk => ⟨hk.1.1.2, hk.1.2⟩)⟩
            have n2_ : Aside0 (Kd.R k24 24 ((w24.setCell ⟨gb268, 0, none⟩ (.int .i64 t264)).setCell ⟨gb268, 1, none⟩ (.slice Ao28 t265.length co28)) w.heap.size (fun k_ => some k_ ≠ (.slice Ao17 t257.length co17 : Value).ownBlock ∧ some k_ ≠ (.slice Ao21 t261.length co21 : Value).ownBlock) (.slice Ao28 t265.length co28) t265) := ⟨by (with_reducible repeat (first | apply Kd.R_alloc | apply Kd.R_drewN | apply Kd.R_drew)); exact Kd.R_mono (Kd.R_far (p := ⟨gb268, 1, none⟩) (Kd.R_far (p := ⟨gb268, 0, none⟩) (Kd.R_types HO267.out BK268.out (by decide)) (fun _ hk => hk.2) (.int .i64 t264)) (fun _ hk => hk.2) (.slice Ao28 t265.length co28)) (fun _ hk => ⟨hk.1.1.2, hk.1.2⟩)⟩
            have n3_ : Aside0 (((w24.setCell ⟨gb268, 0, none⟩ (.int .i64 t264)).setCell ⟨gb268, 1, none⟩ (.slice Ao28 t265.length co28)).heap[gb254]? = some (.cells #[.int .i64 t256, .slice Ao17 t257.length co17] 27 (0, 0))) := ⟨by (with_reducible repeat (first | refine blk_drewN ?_ _ | refine blk_drew ?_ | refine blk_alloc ?_ _)); refine blk_far ?_ NB254_268.out _; (with_reducible repeat (first | refine blk_drewN ?_ _ | refine blk_drew ?_ | refine blk_alloc ?_ _)); refine blk_far ?_ NB254_268.out _; (with_reducible repeat (first | refine blk_drewN ?_ _ | refine blk_drew ?_ | refine blk_alloc ?_ _)); exact BK254.out⟩
            have n4_ : Aside0 (((w24.setCell ⟨gb268, 0, none⟩ (.int .i64 t264)).setCell ⟨gb268, 1, none⟩ (.slice Ao28 t265.length co28)).heap[gb255]? = some (.cells #[.int .i64 t260, .slice Ao21 t261.length co21] 27 (0, 0))) := ⟨by (with_reducible repeat (first | refine blk_drewN ?_ _ | refine blk_drew ?_ | refine blk_alloc ?_ _)); refine blk_far ?_ NB255_268.out _; (with_reducible repeat (first | refine blk_drewN ?_ _ | refine blk_drew ?_ | refine blk_alloc ?_ _)); refine blk_far ?_ NB255_268.out _; (with_reducible repeat (first | refine blk_drewN ?_ _ | refine blk_drew ?_ | refine blk_alloc ?_ _)); exact BK255.out⟩
            have n5_ : Aside0 (((w24.setCell ⟨gb268, 0, none⟩ (.int .i64 t264)).setCell ⟨gb268, 1, none⟩ (.slice Ao28 t265.length co28)).heap[gb268]? = some (.cells #[.int .i64 t264, .slice Ao28 t265.length co28] 27 (0, 0))) := ⟨by (with_reducible repeat (first | refine blk_drewN ?_ _ | refine blk_drew ?_ | refine blk_alloc ?_ _)); refine blk_put (cs := #[.int .i64 t264, .slice none 0 0]) ?_ 1 _ rfl; (with_reducible repeat (first | refine blk_drewN ?_ _ | refine blk_drew ?_ | refine blk_alloc ?_ _)); refine blk_put (cs := #[.int .i64 0, .slice none 0 0]) ?_ 0 _ rfl; (with_reducible repeat (first | refine blk_drewN ?_ _ | refine blk_drew ?_ | refine blk_alloc ?_ _)); exact BK268.out⟩
            have n6_ : Aside0 (Below w.heap.size w ((w24.setCell ⟨gb268, 0, none⟩ (.int .i64 t264)).setCell ⟨gb268, 1, none⟩ (.slice Ao28 t265.length co28))) := ⟨by repeat (first | (with_reducible first | exact HB.out | apply below_alloc | apply pw_below_drewN | apply below_drew1 | refine below_set ?_ GE254.out | refine below_set ?_ GE255.out | refine below_set ?_ GE268.out) | exact HB.out)⟩
            (try clear HO259)
            (try clear HO263)
            (try clear HO267)
            (try clear BK254)
            (try clear BK255)
            (try clear BK268)
            (try clear HB)
            generalize ((w24.setCell ⟨gb268, 0, none⟩ (.int .i64 t264)).setCell ⟨gb268, 1, none⟩ (.slice Ao28 t265.length co28)) = w35 at n0_ n1_ n2_ n3_ n4_ n5_ n6_ ⊢
            have HO259 := n0_
            have HO263 := n1_
            have HO267 := n2_
            have BK254 := n3_
            have BK255 := n4_
            have BK268 := n5_
            have HB := n6_
            clear n0_ n1_ n2_ n3_ n4_ n5_ n6_
            have n0_ := Aside0.mk (Kd.R_drew HO259.out)
            have n1_ := Aside0.mk (Kd.R_drew HO263.out)
            have n2_ := Aside0.mk (Kd.R_drew HO267.out)
            have n3_ := Aside0.mk (blk_drew BK254.out)
            have n4_ := Aside0.mk (blk_drew BK255.out)
            have n5_ := Aside0.mk (blk_drew BK268.out)
            have n6_ := Aside0.mk (below_drew1 HB.out)
            clear HO259
            clear HO263
            clear HO267
            clear BK254
            clear BK255
            clear BK268
            clear HB
            have HO259 := n0_
            have HO263 := n1_
            have HO267 := n2_
            have BK254 := n3_
            have BK255 := n4_
            have BK268 := n5_
            have HB := n6_
            clear n0_ n1_ n2_ n3_ n4_ n5_ n6_
            refine start_ (n := 27) (S := fun w' => w'.cell? ⟨gb254, 0, none⟩ = some (.int .i64 t256) ∧ w'.cell? ⟨gb254, 1, none⟩ = some (.slice Ao17 t257.length co17) ∧ w'.cell? ⟨gb255, 0, none⟩ = some (.int .i64 t260) ∧ w'.cell? ⟨gb255, 1, none⟩ = some (.slice Ao21 t261.length co21)) (ds := []) #[false, false, false, false, false, false, false, false, false, false, false, false, false, false, false, false, false, false, false, false, false, false, false, false, false, false, false] (by kernel_rfl) rfl rfl ⟨(blk_cell BK254.out 0).trans rfl, (blk_cell BK254.out 1).trans rfl, (blk_cell BK255.out 0).trans rfl, (blk_cell BK255.out 1).trans rfl⟩ (fun hHeld => ?_); refine with_tabW concordancelaw08_DocMay.tab5 concordancelaw08_DocMay.bits5 (fun HT_ HW_ => ?_)
            generalize w35.drew = w36 at HO259 HO263 HO267 BK254 BK255 BK268 HB hHeld ⊢
            refine take_ (i := 0) (N := some 21) (v := ?_) (a' := ?_) #[true, false, false, false, false, false, false, false, false, false, false, false, false, false, false, false, false, false, false, false, false, false, false, false, false, false, false] rfl rfl (take_ofW HT_.out HW_.out (by kernel_rfl)) (fun _ _ _ h => h) (Or.inl ⟨by rfl, ?_⟩) hHeld ?_ ?_
            rotate_left
            · rintro w' ⟨s0, s1, s2, s3⟩
              go_simp
              with_reducible rfl
            rotate_left
            · simp only [Act.put, List.setIfInBounds_toArray, List.set_cons_zero, List.set_cons_succ, i64_w, i32_w]
              rfl
            refine take_ (i := 2) (N := some 23) (v := ?_) (a' := ?_) #[true, false, true, false, false, false, false, false, false, false, false, false, false, false, false, false, false, false, false, false, false, false, false, false, false, false, false] rfl rfl (take_ofW HT_.out HW_.out (by kernel_rfl)) (fun _ _ _ h => h) (Or.inl ⟨by rfl, ?_⟩) hHeld ?_ ?_
            rotate_left
            · rintro w' ⟨s0, s1, s2, s3⟩
              go_simp
              with_reducible rfl
            rotate_left
            · simp only [Act.put, List.setIfInBounds_toArray, List.set_cons_zero, List.set_cons_succ, i64_w, i32_w]
              rfl
            refine one_ (i := 1) (N := some 22) #[true, true, true, false, false, false, false, false, false, false, false, false, false, false, false, false, false, false, false, false, false, false, false, false, false, false, false] rfl rfl (one_of HT_.out (by kernel_rfl)) (by decide) (fun K hK => ?_)
            refine goes_ Tryd.func6 (by kernel_rfl) rfl #[.agg #[.int .i64 t256, .slice Ao17 t257.length co17]] (by rfl) rfl rfl (by (try simp only [List.map_toArray, List.map_cons, List.map_nil]); first | done | rfl | (simp only [List.length_drop, List.length_take]; rfl)) ?_
            with_reducible refine (doc_May.calls t256 _ _ t257 t269 _ ?side1 ?side2 A29.out).mono ?_
            (case side1 => repeat (first | exact (Kd.R_reads' HO259.out).2.2 | (with_reducible refine Kd.C_alloc ?_ _) | (with_reducible refine Kd.C_drewN ?_ _) | (with_reducible refine Kd.C_drew ?_)))
            (case side2 => exact (Kd.R_reads' HO259.out).2.1)
            rintro e w37 ⟨rfl, hb⟩
            refine ⟨_, rfl, ?_⟩
            have n0_ := Aside0.mk (Kd.R_below (by (with_reducible repeat (first | apply Kd.R_alloc | apply Kd.R_drewN | apply Kd.R_drew)); exact HO259.out) hb)
            have n1_ := Aside0.mk (Kd.R_below (by (with_reducible repeat (first | apply Kd.R_alloc | apply Kd.R_drewN | apply Kd.R_drew)); exact HO263.out) hb)
            have n2_ := Aside0.mk (Kd.R_below (by (with_reducible repeat (first | apply Kd.R_alloc | apply Kd.R_drewN | apply Kd.R_drew)); exact HO267.out) hb)
            have n3_ := Aside0.mk (blk_below (g := gb254) (o := .cells #[.int .i64 t256, .slice Ao17 t257.length co17] 27 (0, 0)) (by (with_reducible repeat (first | refine blk_drewN ?_ _ | refine blk_drew ?_ | refine blk_alloc ?_ _)); exact BK254.out) hb)
            have n4_ := Aside0.mk (blk_below (g := gb255) (o := .cells #[.int .i64 t260, .slice Ao21 t261.length co21] 27 (0, 0)) (by (with_reducible repeat (first | refine blk_drewN ?_ _ | refine blk_drew ?_ | refine blk_alloc ?_ _)); exact BK255.out) hb)
            have n5_ := Aside0.mk (blk_below (g := gb268) (o := .cells #[.int .i64 t264, .slice Ao28 t265.length co28] 27 (0, 0)) (by (with_reducible repeat (first | refine blk_drewN ?_ _ | refine blk_drew ?_ | refine blk_alloc ?_ _)); exact BK268.out) hb)
            have n6_ := Aside0.mk (below_step (by repeat (first | (with_reducible first | exact HB.out | apply below_alloc | apply pw_below_drewN | apply below_drew1 | refine below_set ?_ GE254.out | refine below_set ?_ GE255.out | refine below_set ?_ GE268.out) | exact HB.out)) hb)
            clear HO259
            clear HO263
            clear HO267
            clear BK254
            clear BK255
            clear BK268
            clear HB
            have HO259 := n0_
            have HO263 := n1_
            have HO267 := n2_
            have BK254 := n3_
            have BK255 := n4_
            have BK268 := n5_
            have HB := n6_
            clear n0_ n1_ n2_ n3_ n4_ n5_ n6_
            (try clear hb)
            (try clear hb2)
            (try clear hk)
            (try clear hi)
            refine hK.out _ _ ⟨(blk_cell BK254.out 0).trans rfl, (blk_cell BK254.out 1).trans rfl, (blk_cell BK255.out 0).trans rfl, (blk_cell BK255.out 1).trans rfl⟩ (fun hHeld => ?_)
            clear hK K
            refine norm_ (a' := ?_) ?_ ?_
            rotate_left
            · show Act.put _ (some 22) _ = _
              simp only [Act.put, List.setIfInBounds_toArray, List.set_cons_zero, List.set_cons_succ, i64_w, i32_w]
              rfl
            refine one_ (i := 3) (N := some 24) #[true, true, true, true, false, false, false, false, false, false, false, false, false, false, false, false, false, false, false, false, false, false, false, false, false, false, false] rfl rfl (one_of HT_.out (by kernel_rfl)) (by decide) (fun K hK => ?_)
            refine goes_ Tryd.func11 (by kernel_rfl) rfl #[.agg #[.int .i64 t256, .slice Ao17 t257.length co17]] (by rfl) rfl rfl (by (try simp only [List.map_toArray, List.map_cons, List.map_nil]); first | done | rfl | (simp only [List.length_drop, List.length_take]; rfl)) ?_
            with_reducible refine (concordanceref08_May.calls k t256 _ _ t257 t270 _ ?side1 ?side2 A30.out).mono ?_
            (case side1 => repeat (first | exact (Kd.R_reads' HO259.out).2.2 | (with_reducible refine Kd.C_alloc ?_ _) | (with_reducible refine Kd.C_drewN ?_ _) | (with_reducible refine Kd.C_drew ?_)))
            (case side2 => exact (Kd.R_reads' HO259.out).2.1)
            rintro e w38 ⟨rfl, hb⟩
            refine ⟨_, rfl, ?_⟩
            have n0_ := Aside0.mk (Kd.R_below (by (with_reducible repeat (first | apply Kd.R_alloc | apply Kd.R_drewN | apply Kd.R_drew)); exact HO259.out) hb)
            have n1_ := Aside0.mk (Kd.R_below (by (with_reducible repeat (first | apply Kd.R_alloc | apply Kd.R_drewN | apply Kd.R_drew)); exact HO263.out) hb)
            have n2_ := Aside0.mk (Kd.R_below (by (with_reducible repeat (first | apply Kd.R_alloc | apply Kd.R_drewN | apply Kd.R_drew)); exact HO267.out) hb)
            have n3_ := Aside0.mk (blk_below (g := gb254) (o := .cells #[.int .i64 t256, .slice Ao17 t257.length co17] 27 (0, 0)) (by (with_reducible repeat (first | refine blk_drewN ?_ _ | refine blk_drew ?_ | refine blk_alloc ?_ _)); exact BK254.out) hb)
            have n4_ := Aside0.mk (blk_below (g := gb255) (o := .cells #[.int .i64 t260, .slice Ao21 t261.length co21] 27 (0, 0)) (by (with_reducible repeat (first | refine blk_drewN ?_ _ | refine blk_drew ?_ | refine blk_alloc ?_ _)); exact BK255.out) hb)
            have n5_ := Aside0.mk (blk_below (g := gb268) (o := .cells #[.int .i64 t264, .slice Ao28 t265.length co28] 27 (0, 0)) (by (with_reducible repeat (first | refine blk_drewN ?_ _ | refine blk_drew ?_ | refine blk_alloc ?_ _)); exact BK268.out) hb)
            have n6_ := Aside0.mk (below_step (by repeat (first | (with_reducible first | exact HB.out | apply below_alloc | apply pw_below_drewN | apply below_drew1 | refine below_set ?_ GE254.out | refine below_set ?_ GE255.out | refine below_set ?_ GE268.out) | exact HB.out)) hb)
            clear HO259
            clear HO263
            clear HO267
            clear BK254
            clear BK255
            clear BK268
            clear HB
            have HO259 := n0_
            have HO263 := n1_
            have HO267 := n2_
            have BK254 := n3_
            have BK255 := n4_
            have BK268 := n5_
            have HB := n6_
            clear n0_ n1_ n2_ n3_ n4_ n5_ n6_
            (try clear hb)
            (try clear hb2)
            (try clear hk)
            (try clear hi)
            refine hK.out _ _ ⟨(blk_cell BK254.out 0).trans rfl, (blk_cell BK254.out 1).trans rfl, (blk_cell BK255.out 0).trans rfl, (blk_cell BK255.out 1).trans rfl⟩ (fun hHeld => ?_)
            clear hK K
            refine norm_ (a' := ?_) ?_ ?_
            rotate_left
            · show Act.put _ (some 24) _ = _
              simp only [Act.put, List.setIfInBounds_toArray, List.set_cons_zero, List.set_cons_succ, i64_w, i32_w]
              rfl
            refine pure_ (i := 4) (N := some 25) (v := ?_) (a' := ?_) #[true, true, true, true, true, false, false, false, false, false, false, false, false, false, false, false, false, false, false, false, false, false, false, false, false, false, false] rfl rfl (any_of HT_.out (by kernel_rfl)) (fun _ _ _ h => h) (Or.inl ⟨by rfl, ?_⟩) ?_ ?_
            rotate_left
            · intro w'
              go_simp
              with_reducible rfl
            rotate_left
            · simp only [Act.put, List.setIfInBounds_toArray, List.set_cons_zero, List.set_cons_succ, i64_w, i32_w]
              rfl
            refine pure_ (i := 5) (N := some 26) (v := ?_) (a' := ?_) #[true, true, true, true, true, true, false, false, false, false, false, false, false, false, false, false, false, false, false, false, false, false, false, false, false, false, false] rfl rfl (any_of HT_.out (by kernel_rfl)) (fun _ _ _ h => h) (Or.inl ⟨by rfl, ?_⟩) ?_ ?_
            rotate_left
            · intro w'
              go_simp
              with_reducible rfl
            rotate_left
            · simp only [Act.put, List.setIfInBounds_toArray, List.set_cons_zero, List.set_cons_succ, i64_w, i32_w]
              rfl
            refine take_ (i := 6) (N := some 27) (v := ?_) (a' := ?_) #[true, true, true, true, true, true, true, false, false, false, false, false, false, false, false, false, false, false, false, false, false, false, false, false, false, false, false] rfl rfl (take_ofW HT_.out HW_.out (by kernel_rfl)) (fun _ _ _ h => h) (Or.inl ⟨by rfl, ?_⟩) hHeld ?_ ?_
            rotate_left
            · rintro w' ⟨s0, s1, s2, s3⟩
              go_simp
              with_reducible rfl
            rotate_left
            · simp only [Act.put, List.setIfInBounds_toArray, List.set_cons_zero, List.set_cons_succ, i64_w, i32_w]
              rfl
            refine take_ (i := 7) (N := some 28) (v := ?_) (a' := ?_) #[true, true, true, true, true, true, true, true, false, false, false, false, false, false, false, false, false, false, false, false, false, false, false, false, false, false, false] rfl rfl (take_ofW HT_.out HW_.out (by kernel_rfl)) (fun _ _ _ h => h) (Or.inl ⟨by rfl, ?_⟩) hHeld ?_ ?_
            rotate_left
            · rintro w' ⟨s0, s1, s2, s3⟩
              go_simp
              with_reducible rfl
            rotate_left
            · simp only [Act.put, List.setIfInBounds_toArray, List.set_cons_zero, List.set_cons_succ, i64_w, i32_w]
              rfl
            refine take_ (i := 9) (N := some 30) (v := ?_) (a' := ?_) #[true, true, true, true, true, true, true, true, false, true, false, false, false, false, false, false, false, false, false, false, false, false, false, false, false, false, false] rfl rfl (take_ofW HT_.out HW_.out (by kernel_rfl)) (fun _ _ _ h => h) (Or.inl ⟨by rfl, ?_⟩) hHeld ?_ ?_
            rotate_left
            · rintro w' ⟨s0, s1, s2, s3⟩
              go_simp
              with_reducible rfl
            rotate_left
            · simp only [Act.put, List.setIfInBounds_toArray, List.set_cons_zero, List.set_cons_succ, i64_w, i32_w]
              rfl
            refine take_ (i := 10) (N := some 31) (v := ?_) (a' := ?_) #[true, true, true, true, true, true, true, true, false, true, true, false, false, false, false, false, false, false, false, false, false, false, false, false, false, false, false] rfl rfl (take_ofW HT_.out HW_.out (by kernel_rfl)) (fun _ _ _ h => h) (Or.inl ⟨by rfl, ?_⟩) hHeld ?_ ?_
            rotate_left
            · rintro w' ⟨s0, s1, s2, s3⟩
              go_simp
              with_reducible rfl
            rotate_left
            · simp only [Act.put, List.setIfInBounds_toArray, List.set_cons_zero, List.set_cons_succ, i64_w, i32_w]
              rfl
            refine one_ (i := 8) (N := some 29) #[true, true, true, true, true, true, true, true, true, true, true, false, false, false, false, false, false, false, false, false, false, false, false, false, false, false, false] rfl rfl (one_of HT_.out (by kernel_rfl)) (by decide) (fun K hK => ?_)
            refine goes_ Tryd.func12 (by kernel_rfl) rfl #[.agg #[.int .i64 t256, .slice Ao17 t257.length co17], .agg #[.int .i64 t260, .slice Ao21 t261.length co21]] (by rfl) rfl rfl (by (try simp only [List.map_toArray, List.map_cons, List.map_nil]); first | done | rfl | (simp only [List.length_drop, List.length_take]; rfl)) ?_
            with_reducible refine (doc_Same.calls k t256 _ _ t257 t260 _ _ t261 t271 _ ?side1 ?side2 ?side3 ?side4 A32.out).mono ?_
            (case side1 => repeat (first | exact (Kd.R_reads' HO259.out).2.2 | (with_reducible refine Kd.C_alloc ?_ _) | (with_reducible refine Kd.C_drewN ?_ _) | (with_reducible refine Kd.C_drew ?_)))
            (case side2 => exact (Kd.R_reads' HO259.out).2.1)
            (case side3 => repeat (first | exact (Kd.R_reads' HO263.out).2.2 | (with_reducible refine Kd.C_alloc ?_ _) | (with_reducible refine Kd.C_drewN ?_ _) | (with_reducible refine Kd.C_drew ?_)))
            (case side4 => exact (Kd.R_reads' HO263.out).2.1)
            rintro e w39 ⟨rfl, hb⟩
            refine ⟨_, rfl, ?_⟩
            have n0_ := Aside0.mk (Kd.R_below (by (with_reducible repeat (first | apply Kd.R_alloc | apply Kd.R_drewN | apply Kd.R_drew)); exact HO259.out) hb)
            have n1_ := Aside0.mk (Kd.R_below (by (with_reducible repeat (first | apply Kd.R_alloc | apply Kd.R_drewN | apply Kd.R_drew)); exact HO263.out) hb)
            have n2_ := Aside0.mk (Kd.R_below (by (with_reducible repeat (first | apply Kd.R_alloc | apply Kd.R_drewN | apply Kd.R_drew)); exact HO267.out) hb)
            have n3_ := Aside0.mk (blk_below (g := gb254) (o := .cells #[.int .i64 t256, .slice Ao17 t257.length co17] 27 (0, 0)) (by (with_reducible repeat (first | refine blk_drewN ?_ _ | refine blk_drew ?_ | refine blk_alloc ?_ _)); exact BK254.out) hb)
            have n4_ := Aside0.mk (blk_below (g := gb255) (o := .cells #[.int .i64 t260, .slice Ao21 t261.length co21] 27 (0, 0)) (by (with_reducible repeat (first | refine blk_drewN ?_ _ | refine blk_drew ?_ | refine blk_alloc ?_ _)); exact BK255.out) hb)
            have n5_ := Aside0.mk (blk_below (g := gb268) (o := .cells #[.int .i64 t264, .slice Ao28 t265.length co28] 27 (0, 0)) (by (with_reducible repeat (first | refine blk_drewN ?_ _ | refine blk_drew ?_ | refine blk_alloc ?_ _)); exact BK268.out) hb)
            have n6_ := Aside0.mk (below_step (by repeat (first | (with_reducible first | exact HB.out | apply below_alloc | apply pw_below_drewN | apply below_drew1 | refine below_set ?_ GE254.out | refine below_set ?_ GE255.out | refine below_set ?_ GE268.out) | exact HB.out)) hb)
            clear HO259
            clear HO263
            clear HO267
            clear BK254
            clear BK255
            clear BK268
            clear HB
            have HO259 := n0_
            have HO263 := n1_
            have HO267 := n2_
            have BK254 := n3_
            have BK255 := n4_
            have BK268 := n5_
            have HB := n6_
            clear n0_ n1_ n2_ n3_ n4_ n5_ n6_
            (try clear hb)
            (try clear hb2)
            (try clear hk)
            (try clear hi)
            refine hK.out _ _ ⟨(blk_cell BK254.out 0).trans rfl, (blk_cell BK254.out 1).trans rfl, (blk_cell BK255.out 0).trans rfl, (blk_cell BK255.out 1).trans rfl⟩ (fun hHeld => ?_)
            clear hK K
            refine norm_ (a' := ?_) ?_ ?_
            rotate_left
            · show Act.put _ (some 29) _ = _
              simp only [Act.put, List.setIfInBounds_toArray, List.set_cons_zero, List.set_cons_succ, i64_w, i32_w]
              rfl
            refine one_ (i := 11) (N := some 32) #[true, true, true, true, true, true, true, true, true, true, true, true, false, false, false, false, false, false, false, false, false, false, false, false, false, false, false] rfl rfl (one_of HT_.out (by kernel_rfl)) (by decide) (fun K hK => ?_)
            refine goes_ Tryd.func13 (by kernel_rfl) rfl #[.agg #[.int .i64 t256, .slice Ao17 t257.length co17], .agg #[.int .i64 t260, .slice Ao21 t261.length co21]] (by rfl) rfl rfl (by (try simp only [List.map_toArray, List.map_cons, List.map_nil]); first | done | rfl | (simp only [List.length_drop, List.length_take]; rfl)) ?_
            with_reducible refine (concordanceref08_Same.calls k t256 _ _ t257 t260 _ _ t261 t272 _ ?side1 ?side2 ?side3 ?side4 A33.out).mono ?_
            (case side1 => repeat (first | exact (Kd.R_reads' HO259.out).2.2 | (with_reducible refine Kd.C_alloc ?_ _) | (with_reducible refine Kd.C_drewN ?_ _) | (with_reducible refine Kd.C_drew ?_)))
            (case side2 => exact (Kd.R_reads' HO259.out).2.1)
            (case side3 => repeat (first | exact (Kd.R_reads' HO263.out).2.2 | (with_reducible refine Kd.C_alloc ?_ _) | (with_reducible refine Kd.C_drewN ?_ _) | (with_reducible refine Kd.C_drew ?_)))
            (case side4 => exact (Kd.R_reads' HO263.out).2.1)
            rintro e w40 ⟨rfl, hb⟩
            refine ⟨_, rfl, ?_⟩
            have n0_ := Aside0.mk (Kd.R_below (by (with_reducible repeat (first | apply Kd.R_alloc | apply Kd.R_drewN | apply Kd.R_drew)); exact HO259.out) hb)
            have n1_ := Aside0.mk (Kd.R_below (by (with_reducible repeat (first | apply Kd.R_alloc | apply Kd.R_drewN | apply Kd.R_drew)); exact HO263.out) hb)
            have n2_ := Aside0.mk (Kd.R_below (by (with_reducible repeat (first | apply Kd.R_alloc | apply Kd.R_drewN | apply Kd.R_drew)); exact HO267.out) hb)
            have n3_ := Aside0.mk (blk_below (g := gb254) (o := .cells #[.int .i64 t256, .slice Ao17 t257.length co17] 27 (0, 0)) (by (with_reducible repeat (first | refine blk_drewN ?_ _ | refine blk_drew ?_ | refine blk_alloc ?_ _)); exact BK254.out) hb)
            have n4_ := Aside0.mk (blk_below (g := gb255) (o := .cells #[.int .i64 t260, .slice Ao21 t261.length co21] 27 (0, 0)) (by (with_reducible repeat (first | refine blk_drewN ?_ _ | refine blk_drew ?_ | refine blk_alloc ?_ _)); exact BK255.out) hb)
            have n5_ := Aside0.mk (blk_below (g := gb268) (o := .cells #[.int .i64 t264, .slice Ao28 t265.length co28] 27 (0, 0)) (by (with_reducible repeat (first | refine blk_drewN ?_ _ | refine blk_drew ?_ | refine blk_alloc ?_ _)); exact BK268.out) hb)
            have n6_ := Aside0.mk (below_step (by repeat (first | (with_reducible first | exact HB.out | apply below_alloc | apply pw_below_drewN | apply below_drew1 | refine below_set ?_ GE254.out | refine below_set ?_ GE255.out | refine below_set ?_ GE268.out) | exact HB.out)) hb)
            clear HO259
            clear HO263
            clear HO267
            clear BK254
            clear BK255
            clear BK268
            clear HB
            have HO259 := n0_
            have HO263 := n1_
            have HO267 := n2_
            have BK254 := n3_
            have BK255 := n4_
            have BK268 := n5_
            have HB := n6_
            clear n0_ n1_ n2_ n3_ n4_ n5_ n6_
            (try clear hb)
            (try clear hb2)
            (try clear hk)
            (try clear hi)
            refine hK.out _ _ ⟨(blk_cell BK254.out 0).trans rfl, (blk_cell BK254.out 1).trans rfl, (blk_cell BK255.out 0).trans rfl, (blk_cell BK255.out 1).trans rfl⟩ (fun hHeld => ?_)
            clear hK K
            refine norm_ (a' := ?_) ?_ ?_
            rotate_left
            · show Act.put _ (some 32) _ = _
              simp only [Act.put, List.setIfInBounds_toArray, List.set_cons_zero, List.set_cons_succ, i64_w, i32_w]
              rfl
            refine pure_ (i := 12) (N := some 33) (v := ?_) (a' := ?_) #[true, true, true, true, true, true, true, true, true, true, true, true, true, false, false, false, false, false, false, false, false, false, false, false, false, false, false] rfl rfl (any_of HT_.out (by kernel_rfl)) (fun _ _ _ h => h) (Or.inl ⟨by rfl, ?_⟩) ?_ ?_
            rotate_left
            · intro w'
              go_simp
              with_reducible rfl
            rotate_left
            · simp only [Act.put, List.setIfInBounds_toArray, List.set_cons_zero, List.set_cons_succ, i64_w, i32_w]
              rfl
            refine pure_ (i := 13) (N := some 34) (v := ?_) (a' := ?_) #[true, true, true, true, true, true, true, true, true, true, true, true, true, true, false, false, false, false, false, false, false, false, false, false, false, false, false] rfl rfl (any_of HT_.out (by kernel_rfl)) (fun _ _ _ h => h) (Or.inl ⟨by rfl, ?_⟩) ?_ ?_
            rotate_left
            · intro w'
              go_simp
              with_reducible rfl
            rotate_left
            · simp only [Act.put, List.setIfInBounds_toArray, List.set_cons_zero, List.set_cons_succ, i64_w, i32_w]
              rfl
            refine pure_ (i := 14) (N := some 35) (v := ?_) (a' := ?_) #[true, true, true, true, true, true, true, true, true, true, true, true, true, true, true, false, false, false, false, false, false, false, false, false, false, false, false] rfl rfl (any_of HT_.out (by kernel_rfl)) (fun _ _ _ h => h) (Or.inl ⟨by rfl, ?_⟩) ?_ ?_
            rotate_left
            · intro w'
              go_simp
              with_reducible rfl
            rotate_left
            · simp only [Act.put, List.setIfInBounds_toArray, List.set_cons_zero, List.set_cons_succ, i64_w, i32_w]
              rfl
            refine pure_ (i := 15) (N := some 36) (v := undef) (a' := ?_) #[true, true, true, true, true, true, true, true, true, true, true, true, true, true, true, true, false, false, false, false, false, false, false, false, false, false, false] rfl rfl (any_of HT_.out (by kernel_rfl)) (fun _ _ _ h => h) (Or.inr ⟨by rfl, rfl⟩) ?_ ?_
            rotate_left
            · simp only [Act.put, List.setIfInBounds_toArray, List.set_cons_zero, List.set_cons_succ, i64_w, i32_w]
              rfl
            refine pure_ (i := 16) (N := some 37) (v := undef) (a' := ?_) #[true, true, true, true, true, true, true, true, true, true, true, true, true, true, true, true, true, false, false, false, false, false, false, false, false, false, false] rfl rfl (any_of HT_.out (by kernel_rfl)) (fun _ _ _ h => h) (Or.inr ⟨by rfl, rfl⟩) ?_ ?_
            rotate_left
            · simp only [Act.put, List.setIfInBounds_toArray, List.set_cons_zero, List.set_cons_succ, i64_w, i32_w]
              rfl
            refine pure_ (i := 17) (N := some 38) (v := undef) (a' := ?_) #[true, true, true, true, true, true, true, true, true, true, true, true, true, true, true, true, true, true, false, false, false, false, false, false, false, false, false] rfl rfl (any_of HT_.out (by kernel_rfl)) (fun _ _ _ h => h) (Or.inr ⟨by rfl, rfl⟩) ?_ ?_
            rotate_left
            · simp only [Act.put, List.setIfInBounds_toArray, List.set_cons_zero, List.set_cons_succ, i64_w, i32_w]
              rfl
            refine pure_ (i := 18) (N := some 39) (v := undef) (a' := ?_) #[true, true, true, true, true, true, true, true, true, true, true, true, true, true, true, true, true, true, true, false, false, false, false, false, false, false, false] rfl rfl (any_of HT_.out (by kernel_rfl)) (fun _ _ _ h => h) (Or.inr ⟨by rfl, rfl⟩) ?_ ?_
            rotate_left
            · simp only [Act.put, List.setIfInBounds_toArray, List.set_cons_zero, List.set_cons_succ, i64_w, i32_w]
              rfl
            refine pure_ (i := 19) (N := some 40) (v := ?_) (a' := ?_) #[true, true, true, true, true, true, true, true, true, true, true, true, true, true, true, true, true, true, true, true, false, false, false, false, false, false, false] rfl rfl (any_of HT_.out (by kernel_rfl)) (fun _ _ _ h => h) (Or.inl ⟨by rfl, ?_⟩) ?_ ?_
            rotate_left
            · intro w'
              go_simp
              with_reducible rfl
            rotate_left
            · simp only [Act.put, List.setIfInBounds_toArray, List.set_cons_zero, List.set_cons_succ, i64_w, i32_w]
              rfl
            refine pure_ (i := 20) (N := some 41) (v := ?_) (a' := ?_) #[true, true, true, true, true, true, true, true, true, true, true, true, true, true, true, true, true, true, true, true, true, false, false, false, false, false, false] rfl rfl (any_of HT_.out (by kernel_rfl)) (fun _ _ _ h => h) (Or.inl ⟨by rfl, ?_⟩) ?_ ?_
            rotate_left
            · intro w'
              go_simp
              with_reducible rfl
            rotate_left
            · simp only [Act.put, List.setIfInBounds_toArray, List.set_cons_zero, List.set_cons_succ, i64_w, i32_w]
              rfl
            refine pure_ (i := 21) (N := some 42) (v := undef) (a' := ?_) #[true, true, true, true, true, true, true, true, true, true, true, true, true, true, true, true, true, true, true, true, true, true, false, false, false, false, false] rfl rfl (any_of HT_.out (by kernel_rfl)) (fun _ _ _ h => h) (Or.inr ⟨by rfl, rfl⟩) ?_ ?_
            rotate_left
            · simp only [Act.put, List.setIfInBounds_toArray, List.set_cons_zero, List.set_cons_succ, i64_w, i32_w]
              rfl
            refine pure_ (i := 22) (N := some 43) (v := undef) (a' := ?_) #[true, true, true, true, true, true, true, true, true, true, true, true, true, true, true, true, true, true, true, true, true, true, true, false, false, false, false] rfl rfl (any_of HT_.out (by kernel_rfl)) (fun _ _ _ h => h) (Or.inr ⟨by rfl, rfl⟩) ?_ ?_
            rotate_left
            · simp only [Act.put, List.setIfInBounds_toArray, List.set_cons_zero, List.set_cons_succ, i64_w, i32_w]
              rfl
            refine pure_ (i := 23) (N := some 44) (v := undef) (a' := ?_) #[true, true, true, true, true, true, true, true, true, true, true, true, true, true, true, true, true, true, true, true, true, true, true, true, false, false, false] rfl rfl (any_of HT_.out (by kernel_rfl)) (fun _ _ _ h => h) (Or.inr ⟨by rfl, rfl⟩) ?_ ?_
            rotate_left
            · simp only [Act.put, List.setIfInBounds_toArray, List.set_cons_zero, List.set_cons_succ, i64_w, i32_w]
              rfl
            refine pure_ (i := 24) (N := some 45) (v := undef) (a' := ?_) #[true, true, true, true, true, true, true, true, true, true, true, true, true, true, true, true, true, true, true, true, true, true, true, true, true, false, false] rfl rfl (any_of HT_.out (by kernel_rfl)) (fun _ _ _ h => h) (Or.inr ⟨by rfl, rfl⟩) ?_ ?_
            rotate_left
            · simp only [Act.put, List.setIfInBounds_toArray, List.set_cons_zero, List.set_cons_succ, i64_w, i32_w]
              rfl
            refine pure_ (i := 25) (N := some 46) (v := undef) (a' := ?_) #[true, true, true, true, true, true, true, true, true, true, true, true, true, true, true, true, true, true, true, true, true, true, true, true, true, true, false] rfl rfl (any_of HT_.out (by kernel_rfl)) (fun _ _ _ h => h) (Or.inr ⟨by rfl, rfl⟩) ?_ ?_
            rotate_left
            · simp only [Act.put, List.setIfInBounds_toArray, List.set_cons_zero, List.set_cons_succ, i64_w, i32_w]
              rfl
            refine pure_ (i := 26) (N := some 47) (v := ?_) (a' := ?_) #[true, true, true, true, true, true, true, true, true, true, true, true, true, true, true, true, true, true, true, true, true, true, true, true, true, true, true] rfl rfl (any_of HT_.out (by kernel_rfl)) (fun _ _ _ h => h) (Or.inl ⟨by rfl, ?_⟩) ?_ ?_
            rotate_left
            · intro w'
              go_simp
              with_reducible rfl
            rotate_left
            · simp only [Act.put, List.setIfInBounds_toArray, List.set_cons_zero, List.set_cons_succ, i64_w, i32_w]
              rfl
            refine done_ (done_of HT_.out (by kernel_rfl)) ?_
            try go_wp2
            go_meet
            case rel => exact ⟨_, (true), (by first | rfl | (simp; done) | (simp [*]; done)), H', ⟨by first | omega | exact Nat.le_refl _⟩, ⟨by (with_reducible repeat (first | apply Kd.R_alloc | apply Kd.R_drewN | apply Kd.R_drew)); exact HO259.out⟩, ⟨by (with_reducible repeat (first | apply Kd.R_alloc | apply Kd.R_drewN | apply Kd.R_drew)); exact HO263.out⟩, ⟨by (with_reducible repeat (first | apply Kd.R_alloc | apply Kd.R_drewN | apply Kd.R_drew)); exact HO267.out⟩, ⟨by (with_reducible repeat (first | refine blk_drewN ?_ _ | refine blk_drew ?_ | refine blk_alloc ?_ _)); exact BK254.out⟩, ⟨by (with_reducible repeat (first | refine blk_drewN ?_ _ | refine blk_drew ?_ | refine blk_alloc ?_ _)); exact BK255.out⟩, ⟨by (with_reducible repeat (first | refine blk_drewN ?_ _ | refine blk_drew ?_ | refine blk_alloc ?_ _)); exact BK268.out⟩, ⟨by repeat (first | (with_reducible first | exact HB.out | apply below_alloc | apply pw_below_drewN | apply below_drew1 | refine below_set ?_ GE254.out | refine below_set ?_ GE255.out | refine below_set ?_ GE268.out) | exact HB.out)⟩⟩
          · rw [if_neg c34] at H
            have c34b0 : (t271 != t272) = false := by simpa using c34
            (try (have c34b1 : decide (t271 = t272) = true := by simpa using c34))
            (try (have c34b2 : (t271 == t272) = true := by simpa using c34))
            clear c34
            replace H := Option.bind_eq_some_iff.mp H
            obtain ⟨t273, A410, H⟩ := H
            replace H : (if t273 = true then ((doc_Name.f (a2.extract 0 ((ji6) : Int).toNat)).bind fun t274 => ((concordanceref08_Name.f k (a2.extract 0 ((ji6) : Int).toNat)).bind fun t275 => (concordancelaw08_DocMay.j0 k (t274 != t275) t256 t257 t264 t265))) else (concordancelaw08_DocMay.j0 k true t256 t257 t264 t265)) = some r := H
            have A41 := Aside0.mk A410
            clear A410
            by_cases c42 : t273 = true
            · subst c42
              have H1 : ((doc_Name.f (a2.extract 0 ((ji6) : Int).toNat)).bind fun t274 => ((concordanceref08_Name.f k (a2.extract 0 ((ji6) : Int).toNat)).bind fun t275 => (concordancelaw08_DocMay.j0 k (t274 != t275) t256 t257 t264 t265))) = some r := by rw [if_pos rfl] at H; exact H
              clear H
              have H := H1
              clear H1
              replace H := Option.bind_eq_some_iff.mp H
              obtain ⟨t274, A430, H⟩ := H
              replace H : ((concordanceref08_Name.f k (a2.extract 0 ((ji6) : Int).toNat)).bind fun t275 => (concordancelaw08_DocMay.j0 k (t274 != t275) t256 t257 t264 t265)) = some r := H
              have A43 := Aside0.mk A430
              clear A430
              replace H := Option.bind_eq_some_iff.mp H
              obtain ⟨t275, A440, H⟩ := H
              replace H : (concordancelaw08_DocMay.j0 k (t274 != t275) t256 t257 t264 t265) = some r := H
              have A44 := Aside0.mk A440
              clear A440
              have H' := Aside0.mk H
              clear H
              try go_wp2
              have n0_ : Aside0 (Kd.R k24 24 ((w24.setCell ⟨gb268, 0, none⟩ (.int .i64 t264)).setCell ⟨gb268, 1, none⟩ (.slice Ao28 t265.length co28)) w.heap.size (fun k_ => some k_ ≠ (.slice Ao21 t261.length co21 : Value).ownBlock ∧ some k_ ≠ (.slice Ao28 t265.length co28 : Value).ownBlock) (.slice Ao17 t257.length co17) t257) := ⟨by (with_reducible repeat (first | apply Kd.R_alloc | apply Kd.R_drewN | apply Kd.R_drew)); exact Kd.R_mono (Kd.R_far (p := ⟨gb268, 1, none⟩) (Kd.R_far (p := ⟨gb268, 0, none⟩) (Kd.R_types HO259.out BK268.out (by decide)) (fun _ hk => hk.2) (.int .i64 t264)) (fun _ hk => hk.2) (.slice Ao28 t265.length co28)) (fun _ hk => ⟨hk.1.1.2, hk.1.2⟩)⟩
              have n1_ : Aside0 (Kd.R k24 24 ((w24.setCell ⟨gb268, 0, none⟩ (.int .i64 t264)).setCell ⟨gb268, 1, none⟩ (.slice Ao28 t265.length co28)) w.heap.size (fun k_ => some k_ ≠ (.slice Ao17 t257.length co17 : Value).ownBlock ∧ some k_ ≠ (.slice Ao28 t265.length co28 : Value).ownBlock) (.slice Ao21 t261.length co21) t261) := ⟨by (with_reducible repeat (first | apply Kd.R_alloc | apply Kd.R_drewN | apply Kd.R_drew)); exact Kd.R_mono (Kd.R_far (p := ⟨gb268, 1, none⟩) (Kd.R_far (p := ⟨gb268, 0, none⟩) (Kd.R_types HO263.out BK268.out (by decide)) (fun _ hk => hk.2) (.int .i64 t264)) (fun _ hk => hk.2) (.slice Ao28 t265.length co28)) (fun _ hk => ⟨hk.1.1.2, hk.1.2⟩)⟩
              have n2_ : Aside0 (Kd.R k24 24 ((w24.setCell ⟨gb268, 0, none⟩ (.int .i64 t264)).setCell ⟨gb268, 1, none⟩ (.slice Ao28 t265.length co28)) w.heap.size (fun k_ => some k_ ≠ (.slice Ao17 t257.length co17 : Value).ownBlock ∧ some k_ ≠ (.slice Ao21 t261.length co21 : Value).ownBlock) (.slice Ao28 t265.length co28) t265) := ⟨by (with_reducible repeat (first | apply Kd.R_alloc | apply Kd.R_drewN | apply Kd.R_drew)); exact Kd.R_mono (Kd.R_far (p := ⟨gb268, 1, none⟩) (Kd.R_far (p := ⟨gb268, 0, none⟩) (Kd.R_types HO267.out BK268.out (by decide)) (fun _ hk => hk.2) (.int .i64 t264)) (fun _ hk => hk.2) (.slice Ao28 t265.length co28)) (fun _ hk => ⟨hk.1.1.2, hk.1.2⟩)⟩
              have n3_ : Aside0 (((w24.setCell ⟨gb268, 0, none⟩ (.int .i64 t264)).setCell ⟨gb268, 1, none⟩ (.slice Ao28 t265.length co28)).heap[gb254]? = some (.cells #[.int .i64 t256, .slice Ao17 t257.length co17] 27 (0, 0))) := ⟨by (with_reducible repeat (first | refine blk_drewN ?_ _ | refine blk_drew ?_ | refine blk_alloc ?_ _)); refine blk_far ?_ NB254_268.out _; (with_reducible repeat (first | refine blk_drewN ?_ _ | refine blk_drew ?_ | refine blk_alloc ?_ _)); refine blk_far ?_ NB254_268.out _; (with_reducible repeat (first | refine blk_drewN ?_ _ | refine blk_drew ?_ | refine blk_alloc ?_ _)); exact BK254.out⟩
              have n4_ : Aside0 (((w24.setCell ⟨gb268, 0, none⟩ (.int .i64 t264)).setCell ⟨gb268, 1, none⟩ (.slice Ao28 t265.length co28)).heap[gb255]? = some (.cells #[.int .i64 t260, .slice Ao21 t261.length co21] 27 (0, 0))) := ⟨by (with_reducible repeat (first | refine blk_drewN ?_ _ | refine blk_drew ?_ | refine blk_alloc ?_ _)); refine blk_far ?_ NB255_268.out _; (with_reducible repeat (first | refine blk_drewN ?_ _ | refine blk_drew ?_ | refine blk_alloc ?_ _)); refine blk_far ?_ NB255_268.out _; (with_reducible repeat (first | refine blk_drewN ?_ _ | refine blk_drew ?_ | refine blk_alloc ?_ _)); exact BK255.out⟩
              have n5_ : Aside0 (((w24.setCell ⟨gb268, 0, none⟩ (.int .i64 t264)).setCell ⟨gb268, 1, none⟩ (.slice Ao28 t265.length co28)).heap[gb268]? = some (.cells #[.int .i64 t264, .slice Ao28 t265.length co28] 27 (0, 0))) := ⟨by (with_reducible repeat (first | refine blk_drewN ?_ _ | refine blk_drew ?_ | refine blk_alloc ?_ _)); refine blk_put (cs := #[.int .i64 t264, .slice none 0 0]) ?_ 1 _ rfl; (with_reducible repeat (first | refine blk_drewN ?_ _ | refine blk_drew ?_ | refine blk_alloc ?_ _)); refine blk_put (cs := #[.int .i64 0, .slice none 0 0]) ?_ 0 _ rfl; (with_reducible repeat (first | refine blk_drewN ?_ _ | refine blk_drew ?_ | refine blk_alloc ?_ _)); exact BK268.out⟩
              have n6_ : Aside0 (Below w.heap.size w ((w24.setCell ⟨gb268, 0, none⟩ (.int .i64 t264)).setCell ⟨gb268, 1, none⟩ (.slice Ao28 t265.length co28))) := ⟨by repeat (first | (with_reducible first | exact HB.out | apply below_alloc | apply pw_below_drewN | apply below_drew1 | refine below_set ?_ GE254.out | refine below_set ?_ GE255.out | refine below_set ?_ GE268.out) | exact HB.out)⟩
              (try clear HO259)
              (try clear HO263)
              (try clear HO267)
              (try clear BK254)
              (try clear BK255)
              (try clear BK268)
              (try clear HB)
              generalize ((w24.setCell ⟨gb268, 0, none⟩ (.int .i64 t264)).setCell ⟨gb268, 1, none⟩ (.slice Ao28 t265.length co28)) = w45 at n0_ n1_ n2_ n3_ n4_ n5_ n6_ ⊢
              have HO259 := n0_
              have HO263 := n1_
              have HO267 := n2_
              have BK254 := n3_
              have BK255 := n4_
              have BK268 := n5_
              have HB := n6_
              clear n0_ n1_ n2_ n3_ n4_ n5_ n6_
              have n0_ := Aside0.mk (Kd.R_drew HO259.out)
              have n1_ := Aside0.mk (Kd.R_drew HO263.out)
              have n2_ := Aside0.mk (Kd.R_drew HO267.out)
              have n3_ := Aside0.mk (blk_drew BK254.out)
              have n4_ := Aside0.mk (blk_drew BK255.out)
              have n5_ := Aside0.mk (blk_drew BK268.out)
              have n6_ := Aside0.mk (below_drew1 HB.out)
              clear HO259
              clear HO263
              clear HO267
              clear BK254
              clear BK255
              clear BK268
              clear HB
              have HO259 := n0_
              have HO263 := n1_
              have HO267 := n2_
              have BK254 := n3_
              have BK255 := n4_
              have BK268 := n5_
              have HB := n6_
              clear n0_ n1_ n2_ n3_ n4_ n5_ n6_
              refine start_ (n := 27) (S := fun w' => w'.cell? ⟨gb254, 0, none⟩ = some (.int .i64 t256) ∧ w'.cell? ⟨gb254, 1, none⟩ = some (.slice Ao17 t257.length co17) ∧ w'.cell? ⟨gb255, 0, none⟩ = some (.int .i64 t260) ∧ w'.cell? ⟨gb255, 1, none⟩ = some (.slice Ao21 t261.length co21) ∧ w'.cell? ⟨gb268, 0, none⟩ = some (.int .i64 t264) ∧ w'.cell? ⟨gb268, 1, none⟩ = some (.slice Ao28 t265.length co28)) (ds := []) #[false, false, false, false, false, false, false, false, false, false, false, false, false, false, false, false, false, false, false, false, false, false, false, false, false, false, false] (by kernel_rfl) rfl rfl ⟨(blk_cell BK254.out 0).trans rfl, (blk_cell BK254.out 1).trans rfl, (blk_cell BK255.out 0).trans rfl, (blk_cell BK255.out 1).trans rfl, (blk_cell BK268.out 0).trans rfl, (blk_cell BK268.out 1).trans rfl⟩ (fun hHeld => ?_); refine with_tabW concordancelaw08_DocMay.tab5 concordancelaw08_DocMay.bits5 (fun HT_ HW_ => ?_)
              generalize w45.drew = w46 at HO259 HO263 HO267 BK254 BK255 BK268 HB hHeld ⊢
              refine take_ (i := 0) (N := some 21) (v := ?_) (a' := ?_) #[true, false, false, false, false, false, false, false, false, false, false, false, false, false, false, false, false, false, false, false, false, false, false, false, false, false, false] rfl rfl (take_ofW HT_.out HW_.out (by kernel_rfl)) (fun _ _ _ h => h) (Or.inl ⟨by rfl, ?_⟩) hHeld ?_ ?_
              rotate_left
              · rintro w' ⟨s0, s1, s2, s3, s4, s5⟩
                go_simp
                with_reducible rfl
              rotate_left
              · simp only [Act.put, List.setIfInBounds_toArray, List.set_cons_zero, List.set_cons_succ, i64_w, i32_w]
                rfl
              refine take_ (i := 2) (N := some 23) (v := ?_) (a' := ?_) #[true, false, true, false, false, false, false, false, false, false, false, false, false, false, false, false, false, false, false, false, false, false, false, false, false, false, false] rfl rfl (take_ofW HT_.out HW_.out (by kernel_rfl)) (fun _ _ _ h => h) (Or.inl ⟨by rfl, ?_⟩) hHeld ?_ ?_
              rotate_left
              · rintro w' ⟨s0, s1, s2, s3, s4, s5⟩
                go_simp
                with_reducible rfl
              rotate_left
              · simp only [Act.put, List.setIfInBounds_toArray, List.set_cons_zero, List.set_cons_succ, i64_w, i32_w]
                rfl
              refine one_ (i := 1) (N := some 22) #[true, true, true, false, false, false, false, false, false, false, false, false, false, false, false, false, false, false, false, false, false, false, false, false, false, false, false] rfl rfl (one_of HT_.out (by kernel_rfl)) (by decide) (fun K hK => ?_)
              refine goes_ Tryd.func6 (by kernel_rfl) rfl #[.agg #[.int .i64 t256, .slice Ao17 t257.length co17]] (by rfl) rfl rfl (by (try simp only [List.map_toArray, List.map_cons, List.map_nil]); first | done | rfl | (simp only [List.length_drop, List.length_take]; rfl)) ?_
              with_reducible refine (doc_May.calls t256 _ _ t257 t269 _ ?side1 ?side2 A29.out).mono ?_
              (case side1 => repeat (first | exact (Kd.R_reads' HO259.out).2.2 | (with_reducible refine Kd.C_alloc ?_ _) | (with_reducible refine Kd.C_drewN ?_ _) | (with_reducible refine Kd.C_drew ?_)))
              (case side2 => exact (Kd.R_reads' HO259.out).2.1)
              rintro e w47 ⟨rfl, hb⟩
              refine ⟨_, rfl, ?_⟩
              have n0_ := Aside0.mk (Kd.R_below (by (with_reducible repeat (first | apply Kd.R_alloc | apply Kd.R_drewN | apply Kd.R_drew)); exact HO259.out) hb)
              have n1_ := Aside0.mk (Kd.R_below (by (with_reducible repeat (first | apply Kd.R_alloc | apply Kd.R_drewN | apply Kd.R_drew)); exact HO263.out) hb)
              have n2_ := Aside0.mk (Kd.R_below (by (with_reducible repeat (first | apply Kd.R_alloc | apply Kd.R_drewN | apply Kd.R_drew)); exact HO267.out) hb)
              have n3_ := Aside0.mk (blk_below (g := gb254) (o := .cells #[.int .i64 t256, .slice Ao17 t257.length co17] 27 (0, 0)) (by (with_reducible repeat (first | refine blk_drewN ?_ _ | refine blk_drew ?_ | refine blk_alloc ?_ _)); exact BK254.out) hb)
              have n4_ := Aside0.mk (blk_below (g := gb255) (o := .cells #[.int .i64 t260, .slice Ao21 t261.length co21] 27 (0, 0)) (by (with_reducible repeat (first | refine blk_drewN ?_ _ | refine blk_drew ?_ | refine blk_alloc ?_ _)); exact BK255.out) hb)
              have n5_ := Aside0.mk (blk_below (g := gb268) (o := .cells #[.int .i64 t264, .slice Ao28 t265.length co28] 27 (0, 0)) (by (with_reducible repeat (first | refine blk_drewN ?_ _ | refine blk_drew ?_ | refine blk_alloc ?_ _)); exact BK268.out) hb)
              have n6_ := Aside0.mk (below_step (by repeat (first | (with_reducible first | exact HB.out | apply below_alloc | apply pw_below_drewN | apply below_drew1 | refine below_set ?_ GE254.out | refine below_set ?_ GE255.out | refine below_set ?_ GE268.out) | exact HB.out)) hb)
              clear HO259
              clear HO263
              clear HO267
              clear BK254
              clear BK255
              clear BK268
              clear HB
              have HO259 := n0_
              have HO263 := n1_
              have HO267 := n2_
              have BK254 := n3_
              have BK255 := n4_
              have BK268 := n5_
              have HB := n6_
              clear n0_ n1_ n2_ n3_ n4_ n5_ n6_
              (try clear hb)
              (try clear hb2)
              (try clear hk)
              (try clear hi)
              refine hK.out _ _ ⟨(blk_cell BK254.out 0).trans rfl, (blk_cell BK254.out 1).trans rfl, (blk_cell BK255.out 0).trans rfl, (blk_cell BK255.out 1).trans rfl, (blk_cell BK268.out 0).trans rfl, (blk_cell BK268.out 1).trans rfl⟩ (fun hHeld => ?_)
              clear hK K
              refine norm_ (a' := ?_) ?_ ?_
              rotate_left
              · show Act.put _ (some 22) _ = _
                simp only [Act.put, List.setIfInBounds_toArray, List.set_cons_zero, List.set_cons_succ, i64_w, i32_w]
                rfl
              refine one_ (i := 3) (N := some 24) #[true, true, true, true, false, false, false, false, false, false, false, false, false, false, false, false, false, false, false, false, false, false, false, false, false, false, false] rfl rfl (one_of HT_.out (by kernel_rfl)) (by decide) (fun K hK => ?_)
              refine goes_ Tryd.func11 (by kernel_rfl) rfl #[.agg #[.int .i64 t256, .slice Ao17 t257.length co17]] (by rfl) rfl rfl (by (try simp only [List.map_toArray, List.map_cons, List.map_nil]); first | done | rfl | (simp only [List.length_drop, List.length_take]; rfl)) ?_
              with_reducible refine (concordanceref08_May.calls k t256 _ _ t257 t270 _ ?side1 ?side2 A30.out).mono ?_
              (case side1 => repeat (first | exact (Kd.R_reads' HO259.out).2.2 | (with_reducible refine Kd.C_alloc ?_ _) | (with_reducible refine Kd.C_drewN ?_ _) | (with_reducible refine Kd.C_drew ?_)))
              (case side2 => exact (Kd.R_reads' HO259.out).2.1)
              rintro e w48 ⟨rfl, hb⟩
              refine ⟨_, rfl, ?_⟩
              have n0_ := Aside0.mk (Kd.R_below (by (with_reducible repeat (first | apply Kd.R_alloc | apply Kd.R_drewN | apply Kd.R_drew)); exact HO259.out) hb)
              have n1_ := Aside0.mk (Kd.R_below (by (with_reducible repeat (first | apply Kd.R_alloc | apply Kd.R_drewN | apply Kd.R_drew)); exact HO263.out) hb)
              have n2_ := Aside0.mk (Kd.R_below (by (with_reducible repeat (first | apply Kd.R_alloc | apply Kd.R_drewN | apply Kd.R_drew)); exact HO267.out) hb)
              have n3_ := Aside0.mk (blk_below (g := gb254) (o := .cells #[.int .i64 t256, .slice Ao17 t257.length co17] 27 (0, 0)) (by (with_reducible repeat (first | refine blk_drewN ?_ _ | refine blk_drew ?_ | refine blk_alloc ?_ _)); exact BK254.out) hb)
              have n4_ := Aside0.mk (blk_below (g := gb255) (o := .cells #[.int .i64 t260, .slice Ao21 t261.length co21] 27 (0, 0)) (by (with_reducible repeat (first | refine blk_drewN ?_ _ | refine blk_drew ?_ | refine blk_alloc ?_ _)); exact BK255.out) hb)
              have n5_ := Aside0.mk (blk_below (g := gb268) (o := .cells #[.int .i64 t264, .slice Ao28 t265.length co28] 27 (0, 0)) (by (with_reducible repeat (first | refine blk_drewN ?_ _ | refine blk_drew ?_ | refine blk_alloc ?_ _)); exact BK268.out) hb)
              have n6_ := Aside0.mk (below_step (by repeat (first | (with_reducible first | exact HB.out | apply below_alloc | apply pw_below_drewN | apply below_drew1 | refine below_set ?_ GE254.out | refine below_set ?_ GE255.out | refine below_set ?_ GE268.out) | exact HB.out)) hb)
              clear HO259
              clear HO263
              clear HO267
              clear BK254
              clear BK255
              clear BK268
              clear HB
              have HO259 := n0_
              have HO263 := n1_
              have HO267 := n2_
              have BK254 := n3_
              have BK255 := n4_
              have BK268 := n5_
              have HB := n6_
              clear n0_ n1_ n2_ n3_ n4_ n5_ n6_
              (try clear hb)
              (try clear hb2)
              (try clear hk)
              (try clear hi)
              refine hK.out _ _ ⟨(blk_cell BK254.out 0).trans rfl, (blk_cell BK254.out 1).trans rfl, (blk_cell BK255.out 0).trans rfl, (blk_cell BK255.out 1).trans rfl, (blk_cell BK268.out 0).trans rfl, (blk_cell BK268.out 1).trans rfl⟩ (fun hHeld => ?_)
              clear hK K
              refine norm_ (a' := ?_) ?_ ?_
              rotate_left
              · show Act.put _ (some 24) _ = _
                simp only [Act.put, List.setIfInBounds_toArray, List.set_cons_zero, List.set_cons_succ, i64_w, i32_w]
                rfl
              refine pure_ (i := 4) (N := some 25) (v := ?_) (a' := ?_) #[true, true, true, true, true, false, false, false, false, false, false, false, false, false, false, false, false, false, false, false, false, false, false, false, false, false, false] rfl rfl (any_of HT_.out (by kernel_rfl)) (fun _ _ _ h => h) (Or.inl ⟨by rfl, ?_⟩) ?_ ?_
              rotate_left
              · intro w'
                go_simp
                with_reducible rfl
              rotate_left
              · simp only [Act.put, List.setIfInBounds_toArray, List.set_cons_zero, List.set_cons_succ, i64_w, i32_w]
                rfl
              refine pure_ (i := 5) (N := some 26) (v := ?_) (a' := ?_) #[true, true, true, true, true, true, false, false, false, false, false, false, false, false, false, false, false, false, false, false, false, false, false, false, false, false, false] rfl rfl (any_of HT_.out (by kernel_rfl)) (fun _ _ _ h => h) (Or.inl ⟨by rfl, ?_⟩) ?_ ?_
              rotate_left
              · intro w'
                go_simp
                with_reducible rfl
              rotate_left
              · simp only [Act.put, List.setIfInBounds_toArray, List.set_cons_zero, List.set_cons_succ, i64_w, i32_w]
                rfl
              refine take_ (i := 6) (N := some 27) (v := ?_) (a' := ?_) #[true, true, true, true, true, true, true, false, false, false, false, false, false, false, false, false, false, false, false, false, false, false, false, false, false, false, false] rfl rfl (take_ofW HT_.out HW_.out (by kernel_rfl)) (fun _ _ _ h => h) (Or.inl ⟨by rfl, ?_⟩) hHeld ?_ ?_
              rotate_left
              · rintro w' ⟨s0, s1, s2, s3, s4, s5⟩
                go_simp
                with_reducible rfl
              rotate_left
              · simp only [Act.put, List.setIfInBounds_toArray, List.set_cons_zero, List.set_cons_succ, i64_w, i32_w]
                rfl
              refine take_ (i := 7) (N := some 28) (v := ?_) (a' := ?_) #[true, true, true, true, true, true, true, true, false, false, false, false, false, false, false, false, false, false, false, false, false, false, false, false, false, false, false] rfl rfl (take_ofW HT_.out HW_.out (by kernel_rfl)) (fun _ _ _ h => h) (Or.inl ⟨by rfl, ?_⟩) hHeld ?_ ?_
              rotate_left
              · rintro w' ⟨s0, s1, s2, s3, s4, s5⟩
                go_simp
                with_reducible rfl
              rotate_left
              · simp only [Act.put, List.setIfInBounds_toArray, List.set_cons_zero, List.set_cons_succ, i64_w, i32_w]
                rfl
              refine take_ (i := 9) (N := some 30) (v := ?_) (a' := ?_) #[true, true, true, true, true, true, true, true, false, true, false, false, false, false, false, false, false, false, false, false, false, false, false, false, false, false, false] rfl rfl (take_ofW HT_.out HW_.out (by kernel_rfl)) (fun _ _ _ h => h) (Or.inl ⟨by rfl, ?_⟩) hHeld ?_ ?_
              rotate_left
              · rintro w' ⟨s0, s1, s2, s3, s4, s5⟩
                go_simp
                with_reducible rfl
              rotate_left
              · simp only [Act.put, List.setIfInBounds_toArray, List.set_cons_zero, List.set_cons_succ, i64_w, i32_w]
                rfl
              refine take_ (i := 10) (N := some 31) (v := ?_) (a' := ?_) #[true, true, true, true, true, true, true, true, false, true, true, false, false, false, false, false, false, false, false, false, false, false, false, false, false, false, false] rfl rfl (take_ofW HT_.out HW_.out (by kernel_rfl)) (fun _ _ _ h => h) (Or.inl ⟨by rfl, ?_⟩) hHeld ?_ ?_
              rotate_left
              · rintro w' ⟨s0, s1, s2, s3, s4, s5⟩
                go_simp
                with_reducible rfl
              rotate_left
              · simp only [Act.put, List.setIfInBounds_toArray, List.set_cons_zero, List.set_cons_succ, i64_w, i32_w]
                rfl
              refine one_ (i := 8) (N := some 29) #[true, true, true, true, true, true, true, true, true, true, true, false, false, false, false, false, false, false, false, false, false, false, false, false, false, false, false] rfl rfl (one_of HT_.out (by kernel_rfl)) (by decide) (fun K hK => ?_)
              refine goes_ Tryd.func12 (by kernel_rfl) rfl #[.agg #[.int .i64 t256, .slice Ao17 t257.length co17], .agg #[.int .i64 t260, .slice Ao21 t261.length co21]] (by rfl) rfl rfl (by (try simp only [List.map_toArray, List.map_cons, List.map_nil]); first | done | rfl | (simp only [List.length_drop, List.length_take]; rfl)) ?_
              with_reducible refine (doc_Same.calls k t256 _ _ t257 t260 _ _ t261 t271 _ ?side1 ?side2 ?side3 ?side4 A32.out).mono ?_
              (case side1 => repeat (first | exact (Kd.R_reads' HO259.out).2.2 | (with_reducible refine Kd.C_alloc ?_ _) | (with_reducible refine Kd.C_drewN ?_ _) | (with_reducible refine Kd.C_drew ?_)))
              (case side2 => exact (Kd.R_reads' HO259.out).2.1)
              (case side3 => repeat (first | exact (Kd.R_reads' HO263.out).2.2 | (with_reducible refine Kd.C_alloc ?_ _) | (with_reducible refine Kd.C_drewN ?_ _) | (with_reducible refine Kd.C_drew ?_)))
              (case side4 => exact (Kd.R_reads' HO263.out).2.1)
              rintro e w49 ⟨rfl, hb⟩
              refine ⟨_, rfl, ?_⟩
              have n0_ := Aside0.mk (Kd.R_below (by (with_reducible repeat (first | apply Kd.R_alloc | apply Kd.R_drewN | apply Kd.R_drew)); exact HO259.out) hb)
              have n1_ := Aside0.mk (Kd.R_below (by (with_reducible repeat (first | apply Kd.R_alloc | apply Kd.R_drewN | apply Kd.R_drew)); exact HO263.out) hb)
              have n2_ := Aside0.mk (Kd.R_below (by (with_reducible repeat (first | apply Kd.R_alloc | apply Kd.R_drewN | apply Kd.R_drew)); exact HO267.out) hb)
              have n3_ := Aside0.mk (blk_below (g := gb254) (o := .cells #[.int .i64 t256, .slice Ao17 t257.length co17] 27 (0, 0)) (by (with_reducible repeat (first | refine blk_drewN ?_ _ | refine blk_drew ?_ | refine blk_alloc ?_ _)); exact BK254.out) hb)
              have n4_ := Aside0.mk (blk_below (g := gb255) (o := .cells #[.int .i64 t260, .slice Ao21 t261.length co21] 27 (0, 0)) (by (with_reducible repeat (first | refine blk_drewN ?_ _ | refine blk_drew ?_ | refine blk_alloc ?_ _)); exact BK255.out) hb)
              have n5_ := Aside0.mk (blk_below (g := gb268) (o := .cells #[.int .i64 t264, .slice Ao28 t265.length co28] 27 (0, 0)) (by (with_reducible repeat (first | refine blk_drewN ?_ _ | refine blk_drew ?_ | refine blk_alloc ?_ _)); exact BK268.out) hb)
              have n6_ := Aside0.mk (below_step (by repeat (first | (with_reducible first | exact HB.out | apply below_alloc | apply pw_below_drewN | apply below_drew1 | refine below_set ?_ GE254.out | refine below_set ?_ GE255.out | refine below_set ?_ GE268.out) | exact HB.out)) hb)
              clear HO259
              clear HO263
              clear HO267
              clear BK254
              clear BK255
              clear BK268
              clear HB
              have HO259 := n0_
              have HO263 := n1_
              have HO267 := n2_
              have BK254 := n3_
              have BK255 := n4_
              have BK268 := n5_
              have HB := n6_
              clear n0_ n1_ n2_ n3_ n4_ n5_ n6_
              (try clear hb)
              (try clear hb2)
              (try clear hk)
              (try clear hi)
              refine hK.out _ _ ⟨(blk_cell BK254.out 0).trans rfl, (blk_cell BK254.out 1).trans rfl, (blk_cell BK255.out 0).trans rfl, (blk_cell BK255.out 1).trans rfl, (blk_cell BK268.out 0).trans rfl, (blk_cell BK268.out 1).trans rfl⟩ (fun hHeld => ?_)
              clear hK K
              refine norm_ (a' := ?_) ?_ ?_
              rotate_left
              · show Act.put _ (some 29) _ = _
                simp only [Act.put, List.setIfInBounds_toArray, List.set_cons_zero, List.set_cons_succ, i64_w, i32_w]
                rfl
              refine one_ (i := 11) (N := some 32) #[true, true, true, true, true, true, true, true, true, true, true, true, false, false, false, false, false, false, false, false, false, false, false, false, false, false, false] rfl rfl (one_of HT_.out (by kernel_rfl)) (by decide) (fun K hK => ?_)
              refine goes_ Tryd.func13 (by kernel_rfl) rfl #[.agg #[.int .i64 t256, .slice Ao17 t257.length co17], .agg #[.int .i64 t260, .slice Ao21 t261.length co21]] (by rfl) rfl rfl (by (try simp only [List.map_toArray, List.map_cons, List.map_nil]); first | done | rfl | (simp only [List.length_drop, List.length_take]; rfl)) ?_
              with_reducible refine (concordanceref08_Same.calls k t256 _ _ t257 t260 _ _ t261 t272 _ ?side1 ?side2 ?side3 ?side4 A33.out).mono ?_
              (case side1 => repeat (first | exact (Kd.R_reads' HO259.out).2.2 | (with_reducible refine Kd.C_alloc ?_ _) | (with_reducible refine Kd.C_drewN ?_ _) | (with_reducible refine Kd.C_drew ?_)))
              (case side2 => exact (Kd.R_reads' HO259.out).2.1)
              (case side3 => repeat (first | exact (Kd.R_reads' HO263.out).2.2 | (with_reducible refine Kd.C_alloc ?_ _) | (with_reducible refine Kd.C_drewN ?_ _) | (with_reducible refine Kd.C_drew ?_)))
              (case side4 => exact (Kd.R_reads' HO263.out).2.1)
              rintro e w50 ⟨rfl, hb⟩
              refine ⟨_, rfl, ?_⟩
              have n0_ := Aside0.mk (Kd.R_below (by (with_reducible repeat (first | apply Kd.R_alloc | apply Kd.R_drewN | apply Kd.R_drew)); exact HO259.out) hb)
              have n1_ := Aside0.mk (Kd.R_below (by (with_reducible repeat (first | apply Kd.R_alloc | apply Kd.R_drewN | apply Kd.R_drew)); exact HO263.out) hb)
              have n2_ := Aside0.mk (Kd.R_below (by (with_reducible repeat (first | apply Kd.R_alloc | apply Kd.R_drewN | apply Kd.R_drew)); exact HO267.out) hb)
              have n3_ := Aside0.mk (blk_below (g := gb254) (o := .cells #[.int .i64 t256, .slice Ao17 t257.length co17] 27 (0, 0)) (by (with_reducible repeat (first | refine blk_drewN ?_ _ | refine blk_drew ?_ | refine blk_alloc ?_ _)); exact BK254.out) hb)
              have n4_ := Aside0.mk (blk_below (g := gb255) (o := .cells #[.int .i64 t260, .slice Ao21 t261.length co21] 27 (0, 0)) (by (with_reducible repeat (first | refine blk_drewN ?_ _ | refine blk_drew ?_ | refine blk_alloc ?_ _)); exact BK255.out) hb)
              have n5_ := Aside0.mk (blk_below (g := gb268) (o := .cells #[.int .i64 t264, .slice Ao28 t265.length co28] 27 (0, 0)) (by (with_reducible repeat (first | refine blk_drewN ?_ _ | refine blk_drew ?_ | refine blk_alloc ?_ _)); exact BK268.out) hb)
              have n6_ := Aside0.mk (below_step (by repeat (first | (with_reducible first | exact HB.out | apply below_alloc | apply pw_below_drewN | apply below_drew1 | refine below_set ?_ GE254.out | refine below_set ?_ GE255.out | refine below_set ?_ GE268.out) | exact HB.out)) hb)
              clear HO259
              clear HO263
              clear HO267
              clear BK254
              clear BK255
              clear BK268
              clear HB
              have HO259 := n0_
              have HO263 := n1_
              have HO267 := n2_
              have BK254 := n3_
              have BK255 := n4_
              have BK268 := n5_
              have HB := n6_
              clear n0_ n1_ n2_ n3_ n4_ n5_ n6_
              (try clear hb)
              (try clear hb2)
              (try clear hk)
              (try clear hi)
              refine hK.out _ _ ⟨(blk_cell BK254.out 0).trans rfl, (blk_cell BK254.out 1).trans rfl, (blk_cell BK255.out 0).trans rfl, (blk_cell BK255.out 1).trans rfl, (blk_cell BK268.out 0).trans rfl, (blk_cell BK268.out 1).trans rfl⟩ (fun hHeld => ?_)
              clear hK K
              refine norm_ (a' := ?_) ?_ ?_
              rotate_left
              · show Act.put _ (some 32) _ = _
                simp only [Act.put, List.setIfInBounds_toArray, List.set_cons_zero, List.set_cons_succ, i64_w, i32_w]
                rfl
              refine pure_ (i := 12) (N := some 33) (v := ?_) (a' := ?_) #[true, true, true, true, true, true, true, true, true, true, true, true, true, false, false, false, false, false, false, false, false, false, false, false, false, false, false] rfl rfl (any_of HT_.out (by kernel_rfl)) (fun _ _ _ h => h) (Or.inl ⟨by rfl, ?_⟩) ?_ ?_
              rotate_left
              · intro w'
                go_simp
                with_reducible rfl
              rotate_left
              · simp only [Act.put, List.setIfInBounds_toArray, List.set_cons_zero, List.set_cons_succ, i64_w, i32_w]
                rfl
              refine pure_ (i := 13) (N := some 34) (v := ?_) (a' := ?_) #[true, true, true, true, true, true, true, true, true, true, true, true, true, true, false, false, false, false, false, false, false, false, false, false, false, false, false] rfl rfl (any_of HT_.out (by kernel_rfl)) (fun _ _ _ h => h) (Or.inl ⟨by rfl, ?_⟩) ?_ ?_
              rotate_left
              · intro w'
                go_simp
                with_reducible rfl
              rotate_left
              · simp only [Act.put, List.setIfInBounds_toArray, List.set_cons_zero, List.set_cons_succ, i64_w, i32_w]
                rfl
              refine pure_ (i := 14) (N := some 35) (v := ?_) (a' := ?_) #[true, true, true, true, true, true, true, true, true, true, true, true, true, true, true, false, false, false, false, false, false, false, false, false, false, false, false] rfl rfl (any_of HT_.out (by kernel_rfl)) (fun _ _ _ h => h) (Or.inl ⟨by rfl, ?_⟩) ?_ ?_
              rotate_left
              · intro w'
                go_simp
                with_reducible rfl
              rotate_left
              · simp only [Act.put, List.setIfInBounds_toArray, List.set_cons_zero, List.set_cons_succ, i64_w, i32_w]
                rfl
              refine take_ (i := 15) (N := some 36) (v := ?_) (a' := ?_) #[true, true, true, true, true, true, true, true, true, true, true, true, true, true, true, true, false, false, false, false, false, false, false, false, false, false, false] rfl rfl (take_ofW HT_.out HW_.out (by kernel_rfl)) (fun _ _ _ h => h) (Or.inl ⟨by rfl, ?_⟩) hHeld ?_ ?_
              rotate_left
              · rintro w' ⟨s0, s1, s2, s3, s4, s5⟩
                go_simp
                with_reducible rfl
              rotate_left
              · simp only [Act.put, List.setIfInBounds_toArray, List.set_cons_zero, List.set_cons_succ, i64_w, i32_w]
                rfl
              refine take_ (i := 16) (N := some 37) (v := ?_) (a' := ?_) #[true, true, true, true, true, true, true, true, true, true, true, true, true, true, true, true, true, false, false, false, false, false, false, false, false, false, false] rfl rfl (take_ofW HT_.out HW_.out (by kernel_rfl)) (fun _ _ _ h => h) (Or.inl ⟨by rfl, ?_⟩) hHeld ?_ ?_
              rotate_left
              · rintro w' ⟨s0, s1, s2, s3, s4, s5⟩
                go_simp
                with_reducible rfl
              rotate_left
              · simp only [Act.put, List.setIfInBounds_toArray, List.set_cons_zero, List.set_cons_succ, i64_w, i32_w]
                rfl
              refine one_ (i := 17) (N := some 38) #[true, true, true, true, true, true, true, true, true, true, true, true, true, true, true, true, true, true, false, false, false, false, false, false, false, false, false] rfl rfl (one_of HT_.out (by kernel_rfl)) (by decide) (fun K hK => ?_)
              refine goes_ Tryd.func13 (by kernel_rfl) rfl #[.agg #[.int .i64 t264, .slice Ao28 t265.length co28], .agg #[.int .i64 t256, .slice Ao17 t257.length co17]] (by rfl) rfl rfl (by (try simp only [List.map_toArray, List.map_cons, List.map_nil]); first | done | rfl | (simp only [List.length_drop, List.length_take]; rfl)) ?_
              with_reducible refine (concordanceref08_Same.calls k t264 _ _ t265 t256 _ _ t257 true _ ?side1 ?side2 ?side3 ?side4 A41.out).mono ?_
              (case side1 => repeat (first | exact (Kd.R_reads' HO267.out).2.2 | (with_reducible refine Kd.C_alloc ?_ _) | (with_reducible refine Kd.C_drewN ?_ _) | (with_reducible refine Kd.C_drew ?_)))
              (case side2 => exact (Kd.R_reads' HO267.out).2.1)
              (case side3 => repeat (first | exact (Kd.R_reads' HO259.out).2.2 | (with_reducible refine Kd.C_alloc ?_ _) | (with_reducible refine Kd.C_drewN ?_ _) | (with_reducible refine Kd.C_drew ?_)))
              (case side4 => exact (Kd.R_reads' HO259.out).2.1)
              rintro e w51 ⟨rfl, hb⟩
              refine ⟨_, rfl, ?_⟩
              have n0_ := Aside0.mk (Kd.R_below (by (with_reducible repeat (first | apply Kd.R_alloc | apply Kd.R_drewN | apply Kd.R_drew)); exact HO259.out) hb)
              have n1_ := Aside0.mk (Kd.R_below (by (with_reducible repeat (first | apply Kd.R_alloc | apply Kd.R_drewN | apply Kd.R_drew)); exact HO263.out) hb)
              have n2_ := Aside0.mk (Kd.R_below (by (with_reducible repeat (first | apply Kd.R_alloc | apply Kd.R_drewN | apply Kd.R_drew)); exact HO267.out) hb)
              have n3_ := Aside0.mk (blk_below (g := gb254) (o := .cells #[.int .i64 t256, .slice Ao17 t257.length co17] 27 (0, 0)) (by (with_reducible repeat (first | refine blk_drewN ?_ _ | refine blk_drew ?_ | refine blk_alloc ?_ _)); exact BK254.out) hb)
              have n4_ := Aside0.mk (blk_below (g := gb255) (o := .cells #[.int .i64 t260, .slice Ao21 t261.length co21] 27 (0, 0)) (by (with_reducible repeat (first | refine blk_drewN ?_ _ | refine blk_drew ?_ | refine blk_alloc ?_ _)); exact BK255.out) hb)
              have n5_ := Aside0.mk (blk_below (g := gb268) (o := .cells #[.int .i64 t264, .slice Ao28 t265.length co28] 27 (0, 0)) (by (with_reducible repeat (first | refine blk_drewN ?_ _ | refine blk_drew ?_ | refine blk_alloc ?_ _)); exact BK268.out) hb)
              have n6_ := Aside0.mk (below_step (by repeat (first | (with_reducible first | exact HB.out | apply below_alloc | apply pw_below_drewN | apply below_drew1 | refine below_set ?_ GE254.out | refine below_set ?_ GE255.out | refine below_set ?_ GE268.out) | exact HB.out)) hb)
              clear HO259
              clear HO263
              clear HO267
              clear BK254
              clear BK255
              clear BK268
              clear HB
              have HO259 := n0_
              have HO263 := n1_
              have HO267 := n2_
              have BK254 := n3_
              have BK255 := n4_
              have BK268 := n5_
              have HB := n6_
              clear n0_ n1_ n2_ n3_ n4_ n5_ n6_
              (try clear hb)
              (try clear hb2)
              (try clear hk)
              (try clear hi)
              refine hK.out _ _ ⟨(blk_cell BK254.out 0).trans rfl, (blk_cell BK254.out 1).trans rfl, (blk_cell BK255.out 0).trans rfl, (blk_cell BK255.out 1).trans rfl, (blk_cell BK268.out 0).trans rfl, (blk_cell BK268.out 1).trans rfl⟩ (fun hHeld => ?_)
              clear hK K
              refine norm_ (a' := ?_) ?_ ?_
              rotate_left
              · show Act.put _ (some 38) _ = _
                simp only [Act.put, List.setIfInBounds_toArray, List.set_cons_zero, List.set_cons_succ, i64_w, i32_w]
                rfl
              refine pure_ (i := 18) (N := some 39) (v := ?_) (a' := ?_) #[true, true, true, true, true, true, true, true, true, true, true, true, true, true, true, true, true, true, true, false, false, false, false, false, false, false, false] rfl rfl (any_of HT_.out (by kernel_rfl)) (fun _ _ _ h => h) (Or.inl ⟨by rfl, ?_⟩) ?_ ?_
              rotate_left
              · intro w'
                go_simp
                with_reducible rfl
              rotate_left
              · simp only [Act.put, List.setIfInBounds_toArray, List.set_cons_zero, List.set_cons_succ, i64_w, i32_w]
                rfl
              refine pure_ (i := 19) (N := some 40) (v := ?_) (a' := ?_) #[true, true, true, true, true, true, true, true, true, true, true, true, true, true, true, true, true, true, true, true, false, false, false, false, false, false, false] rfl rfl (any_of HT_.out (by kernel_rfl)) (fun _ _ _ h => h) (Or.inl ⟨by rfl, ?_⟩) ?_ ?_
              rotate_left
              · intro w'
                go_simp
                with_reducible rfl
              rotate_left
              · simp only [Act.put, List.setIfInBounds_toArray, List.set_cons_zero, List.set_cons_succ, i64_w, i32_w]
                rfl
              refine pure_ (i := 20) (N := some 41) (v := ?_) (a' := ?_) #[true, true, true, true, true, true, true, true, true, true, true, true, true, true, true, true, true, true, true, true, true, false, false, false, false, false, false] rfl rfl (any_of HT_.out (by kernel_rfl)) (fun _ _ _ h => h) (Or.inl ⟨by rfl, ?_⟩) ?_ ?_
              rotate_left
              · intro w'
                go_simp
                with_reducible rfl
              rotate_left
              · simp only [Act.put, List.setIfInBounds_toArray, List.set_cons_zero, List.set_cons_succ, i64_w, i32_w]
                rfl
              refine pure_ (i := 21) (N := some 42) (v := ?_) (a' := ?_) #[true, true, true, true, true, true, true, true, true, true, true, true, true, true, true, true, true, true, true, true, true, true, false, false, false, false, false] rfl rfl (any_of HT_.out (by kernel_rfl)) (fun _ _ _ h => h) (Or.inl ⟨by rfl, ?_⟩) ?_ ?_
              rotate_left
              · intro w'
                go_simp
                with_reducible rfl
              rotate_left
              · simp only [Act.put, List.setIfInBounds_toArray, List.set_cons_zero, List.set_cons_succ, i64_w, i32_w]
                rfl
              refine pure_ (i := 23) (N := some 44) (v := ?_) (a' := ?_) #[true, true, true, true, true, true, true, true, true, true, true, true, true, true, true, true, true, true, true, true, true, true, false, true, false, false, false] rfl rfl (any_of HT_.out (by kernel_rfl)) (fun _ _ _ h => h) (Or.inl ⟨by rfl, ?_⟩) ?_ ?_
              rotate_left
              · intro w'
                go_simp
                with_reducible rfl
              rotate_left
              · simp only [Act.put, List.setIfInBounds_toArray, List.set_cons_zero, List.set_cons_succ, i64_w, i32_w]
                rfl
              refine one_ (i := 22) (N := some 43) #[true, true, true, true, true, true, true, true, true, true, true, true, true, true, true, true, true, true, true, true, true, true, true, true, false, false, false] rfl rfl (one_of HT_.out (by kernel_rfl)) (by decide) (fun K hK => ?_)
              refine goes_ Tryd.func14 (by kernel_rfl) rfl #[.string (a2.extract 0 ((ji6) : Int).toNat)] (by rfl) rfl rfl (by (try simp only [List.map_toArray, List.map_cons, List.map_nil]); first | done | (simp only [hji6]; rfl) | rfl | (simp only [List.length_drop, List.length_take]; rfl)) ?_
              with_reducible refine (doc_Name.calls (a2.extract 0 ((ji6) : Int).toNat) t274 _ A43.out).mono ?_
              rintro e w52 ⟨rfl, hb⟩
              refine ⟨_, rfl, ?_⟩
              have n0_ := Aside0.mk (Kd.R_below (by (with_reducible repeat (first | apply Kd.R_alloc | apply Kd.R_drewN | apply Kd.R_drew)); exact HO259.out) hb)
              have n1_ := Aside0.mk (Kd.R_below (by (with_reducible repeat (first | apply Kd.R_alloc | apply Kd.R_drewN | apply Kd.R_drew)); exact HO263.out) hb)
              have n2_ := Aside0.mk (Kd.R_below (by (with_reducible repeat (first | apply Kd.R_alloc | apply Kd.R_drewN | apply Kd.R_drew)); exact HO267.out) hb)
              have n3_ := Aside0.mk (blk_below (g := gb254) (o := .cells #[.int .i64 t256, .slice Ao17 t257.length co17] 27 (0, 0)) (by (with_reducible repeat (first | refine blk_drewN ?_ _ | refine blk_drew ?_ | refine blk_alloc ?_ _)); exact BK254.out) hb)
              have n4_ := Aside0.mk (blk_below (g := gb255) (o := .cells #[.int .i64 t260, .slice Ao21 t261.length co21] 27 (0, 0)) (by (with_reducible repeat (first | refine blk_drewN ?_ _ | refine blk_drew ?_ | refine blk_alloc ?_ _)); exact BK255.out) hb)
              have n5_ := Aside0.mk (blk_below (g := gb268) (o := .cells #[.int .i64 t264, .slice Ao28 t265.length co28] 27 (0, 0)) (by (with_reducible repeat (first | refine blk_drewN ?_ _ | refine blk_drew ?_ | refine blk_alloc ?_ _)); exact BK268.out) hb)
              have n6_ := Aside0.mk (below_step (by repeat (first | (with_reducible first | exact HB.out | apply below_alloc | apply pw_below_drewN | apply below_drew1 | refine below_set ?_ GE254.out | refine below_set ?_ GE255.out | refine below_set ?_ GE268.out) | exact HB.out)) hb)
              clear HO259
              clear HO263
              clear HO267
              clear BK254
              clear BK255
              clear BK268
              clear HB
              have HO259 := n0_
              have HO263 := n1_
              have HO267 := n2_
              have BK254 := n3_
              have BK255 := n4_
              have BK268 := n5_
              have HB := n6_
              clear n0_ n1_ n2_ n3_ n4_ n5_ n6_
              (try clear hb)
              (try clear hb2)
              (try clear hk)
              (try clear hi)
              refine hK.out _ _ ⟨(blk_cell BK254.out 0).trans rfl, (blk_cell BK254.out 1).trans rfl, (blk_cell BK255.out 0).trans rfl, (blk_cell BK255.out 1).trans rfl, (blk_cell BK268.out 0).trans rfl, (blk_cell BK268.out 1).trans rfl⟩ (fun hHeld => ?_)
              clear hK K
              refine norm_ (a' := ?_) ?_ ?_
              rotate_left
              · show Act.put _ (some 43) _ = _
                simp only [Act.put, List.setIfInBounds_toArray, List.set_cons_zero, List.set_cons_succ, i64_w, i32_w]
                rfl
              refine one_ (i := 24) (N := some 45) #[true, true, true, true, true, true, true, true, true, true, true, true, true, true, true, true, true, true, true, true, true, true, true, true, true, false, false] rfl rfl (one_of HT_.out (by kernel_rfl)) (by decide) (fun K hK => ?_)
              refine goes_ Tryd.func15 (by kernel_rfl) rfl #[.string (a2.extract 0 ((ji6) : Int).toNat)] (by rfl) rfl rfl (by (try simp only [List.map_toArray, List.map_cons, List.map_nil]); first | done | (simp only [hji6]; rfl) | rfl | (simp only [List.length_drop, List.length_take]; rfl)) ?_
              with_reducible refine (concordanceref08_Name.calls k (a2.extract 0 ((ji6) : Int).toNat) t275 _ A44.out).mono ?_
              rintro e w' ⟨rfl, ⟨nd, rfl⟩⟩
              refine ⟨_, rfl, ?_⟩
              refine hK.out _ _ ⟨(blk_cell BK254.out 0).trans rfl, (blk_cell BK254.out 1).trans rfl, (blk_cell BK255.out 0).trans rfl, (blk_cell BK255.out 1).trans rfl, (blk_cell BK268.out 0).trans rfl, (blk_cell BK268.out 1).trans rfl⟩ (fun hHeld => ?_)
              clear hK K
              refine norm_ (a' := ?_) ?_ ?_
              rotate_left
              · show Act.put _ (some 45) _ = _
                simp only [Act.put, List.setIfInBounds_toArray, List.set_cons_zero, List.set_cons_succ, i64_w, i32_w]
                rfl
              refine pure_ (i := 25) (N := some 46) (v := ?_) (a' := ?_) #[true, true, true, true, true, true, true, true, true, true, true, true, true, true, true, true, true, true, true, true, true, true, true, true, true, true, false] rfl rfl (any_of HT_.out (by kernel_rfl)) (fun _ _ _ h => h) (Or.inl ⟨by rfl, ?_⟩) ?_ ?_
              rotate_left
              · intro w'
                go_simp
                with_reducible rfl
              rotate_left
              · simp only [Act.put, List.setIfInBounds_toArray, List.set_cons_zero, List.set_cons_succ, i64_w, i32_w]
                rfl
              refine pure_ (i := 26) (N := some 47) (v := ?_) (a' := ?_) #[true, true, true, true, true, true, true, true, true, true, true, true, true, true, true, true, true, true, true, true, true, true, true, true, true, true, true] rfl rfl (any_of HT_.out (by kernel_rfl)) (fun _ _ _ h => h) (Or.inl ⟨by rfl, ?_⟩) ?_ ?_
              rotate_left
              · intro w'
                go_simp
                with_reducible rfl
              rotate_left
              · simp only [Act.put, List.setIfInBounds_toArray, List.set_cons_zero, List.set_cons_succ, i64_w, i32_w]
                rfl
              refine done_ (done_of HT_.out (by kernel_rfl)) ?_
              try go_wp2
              go_meet
              case rel => exact ⟨_, ((t274 != t275)), (by first | rfl | (simp; done) | (simp [*]; done)), H', ⟨by first | omega | exact Nat.le_refl _⟩, ⟨by (with_reducible repeat (first | apply Kd.R_alloc | apply Kd.R_drewN | apply Kd.R_drew)); exact HO259.out⟩, ⟨by (with_reducible repeat (first | apply Kd.R_alloc | apply Kd.R_drewN | apply Kd.R_drew)); exact HO263.out⟩, ⟨by (with_reducible repeat (first | apply Kd.R_alloc | apply Kd.R_drewN | apply Kd.R_drew)); exact HO267.out⟩, ⟨by (with_reducible repeat (first | refine blk_drewN ?_ _ | refine blk_drew ?_ | refine blk_alloc ?_ _)); exact BK254.out⟩, ⟨by (with_reducible repeat (first | refine blk_drewN ?_ _ | refine blk_drew ?_ | refine blk_alloc ?_ _)); exact BK255.out⟩, ⟨by (with_reducible repeat (first | refine blk_drewN ?_ _ | refine blk_drew ?_ | refine blk_alloc ?_ _)); exact BK268.out⟩, ⟨by repeat (first | (with_reducible first | exact HB.out | apply below_alloc | apply pw_below_drewN | apply below_drew1 | refine below_set ?_ GE254.out | refine below_set ?_ GE255.out | refine below_set ?_ GE268.out) | exact HB.out)⟩⟩
            · replace c42 := Bool.eq_false_iff.mpr c42
              subst c42
              have H1 : (concordancelaw08_DocMay.j0 k true t256 t257 t264 t265) = some r := by rw [if_neg (show ¬ (false = true) by decide)] at H; exact H
              clear H
              have H := H1
              clear H1
              have H' := Aside0.mk H
              clear H
              try go_wp2
              have n0_ : Aside0 (Kd.R k24 24 ((w24.setCell ⟨gb268, 0, none⟩ (.int .i64 t264)).setCell ⟨gb268, 1, none⟩ (.slice Ao28 t265.length co28)) w.heap.size (fun k_ => some k_ ≠ (.slice Ao21 t261.length co21 : Value).ownBlock ∧ some k_ ≠ (.slice Ao28 t265.length co28 : Value).ownBlock) (.slice Ao17 t257.length co17) t257) := ⟨by (with_reducible repeat (first | apply Kd.R_alloc | apply Kd.R_drewN | apply Kd.R_drew)); exact Kd.R_mono (Kd.R_far (p := ⟨gb268, 1, none⟩) (Kd.R_far (p := ⟨gb268, 0, none⟩) (Kd.R_types HO259.out BK268.out (by decide)) (fun _ hk => hk.2) (.int .i64 t264)) (fun _ hk => hk.2) (.slice Ao28 t265.length co28)) (fun _ hk => ⟨hk.1.1.2, hk.1.2⟩)⟩
              have n1_ : Aside0 (Kd.R k24 24 ((w24.setCell ⟨gb268, 0, none⟩ (.int .i64 t264)).setCell ⟨gb268, 1, none⟩ (.slice Ao28 t265.length co28)) w.heap.size (fun k_ => some k_ ≠ (.slice Ao17 t257.length co17 : Value).ownBlock ∧ some k_ ≠ (.slice Ao28 t265.length co28 : Value).ownBlock) (.slice Ao21 t261.length co21) t261) := ⟨by (with_reducible repeat (first | apply Kd.R_alloc | apply Kd.R_drewN | apply Kd.R_drew)); exact Kd.R_mono (Kd.R_far (p := ⟨gb268, 1, none⟩) (Kd.R_far (p := ⟨gb268, 0, none⟩) (Kd.R_types HO263.out BK268.out (by decide)) (fun _ hk => hk.2) (.int .i64 t264)) (fun _ hk => hk.2) (.slice Ao28 t265.length co28)) (fun _ hk => ⟨hk.1.1.2, hk.1.2⟩)⟩
              have n2_ : Aside0 (Kd.R k24 24 ((w24.setCell ⟨gb268, 0, none⟩ (.int .i64 t264)).setCell ⟨gb268, 1, none⟩ (.slice Ao28 t265.length co28)) w.heap.size (fun k_ => some k_ ≠ (.slice Ao17 t257.length co17 : Value).ownBlock ∧ some k_ ≠ (.slice Ao21 t261.length co21 : Value).ownBlock) (.slice Ao28 t265.length co28) t265) := ⟨by (with_reducible repeat (first | apply Kd.R_alloc | apply Kd.R_drewN | apply Kd.R_drew)); exact Kd.R_mono (Kd.R_far (p := ⟨gb268, 1, none⟩) (Kd.R_far (p := ⟨gb268, 0, none⟩) (Kd.R_types HO267.out BK268.out (by decide)) (fun _ hk => hk.2) (.int .i64 t264)) (fun _ hk => hk.2) (.slice Ao28 t265.length co28)) (fun _ hk => ⟨hk.1.1.2, hk.1.2⟩)⟩
              have n3_ : Aside0 (((w24.setCell ⟨gb268, 0, none⟩ (.int .i64 t264)).setCell ⟨gb268, 1, none⟩ (.slice Ao28 t265.length co28)).heap[gb254]? = some (.cells #[.int .i64 t256, .slice Ao17 t257.length co17] 27 (0, 0))) := ⟨by (with_reducible repeat (first | refine blk_drewN ?_ _ | refine blk_drew ?_ | refine blk_alloc ?_ _)); refine blk_far ?_ NB254_268.out _; (with_reducible repeat (first | refine blk_drewN ?_ _ | refine blk_drew ?_ | refine blk_alloc ?_ _)); refine blk_far ?_ NB254_268.out _; (with_reducible repeat (first | refine blk_drewN ?_ _ | refine blk_drew ?_ | refine blk_alloc ?_ _)); exact BK254.out⟩
              have n4_ : Aside0 (((w24.setCell ⟨gb268, 0, none⟩ (.int .i64 t264)).setCell ⟨gb268, 1, none⟩ (.slice Ao28 t265.length co28)).heap[gb255]? = some (.cells #[.int .i64 t260, .slice Ao21 t261.length co21] 27 (0, 0))) := ⟨by (with_reducible repeat (first | refine blk_drewN ?_ _ | refine blk_drew ?_ | refine blk_alloc ?_ _)); refine blk_far ?_ NB255_268.out _; (with_reducible repeat (first | refine blk_drewN ?_ _ | refine blk_drew ?_ | refine blk_alloc ?_ _)); refine blk_far ?_ NB255_268.out _; (with_reducible repeat (first | refine blk_drewN ?_ _ | refine blk_drew ?_ | refine blk_alloc ?_ _)); exact BK255.out⟩
              have n5_ : Aside0 (((w24.setCell ⟨gb268, 0, none⟩ (.int .i64 t264)).setCell ⟨gb268, 1, none⟩ (.slice Ao28 t265.length co28)).heap[gb268]? = some (.cells #[.int .i64 t264, .slice Ao28 t265.length co28] 27 (0, 0))) := ⟨by (with_reducible repeat (first | refine blk_drewN ?_ _ | refine blk_drew ?_ | refine blk_alloc ?_ _)); refine blk_put (cs := #[.int .i64 t264, .slice none 0 0]) ?_ 1 _ rfl; (with_reducible repeat (first | refine blk_drewN ?_ _ | refine blk_drew ?_ | refine blk_alloc ?_ _)); refine blk_put (cs := #[.int .i64 0, .slice none 0 0]) ?_ 0 _ rfl; (with_reducible repeat (first | refine blk_drewN ?_ _ | refine blk_drew ?_ | refine blk_alloc ?_ _)); exact BK268.out⟩
              have n6_ : Aside0 (Below w.heap.size w ((w24.setCell ⟨gb268, 0, none⟩ (.int .i64 t264)).setCell ⟨gb268, 1, none⟩ (.slice Ao28 t265.length co28))) := ⟨by repeat (first | (with_reducible first | exact HB.out | apply below_alloc | apply pw_below_drewN | apply below_drew1 | refine below_set ?_ GE254.out | refine below_set ?_ GE255.out | refine below_set ?_ GE268.out) | exact HB.out)⟩
              (try clear HO259)
              (try clear HO263)
              (try clear HO267)
              (try clear BK254)
              (try clear BK255)
              (try clear BK268)
              (try clear HB)
              generalize ((w24.setCell ⟨gb268, 0, none⟩ (.int .i64 t264)).setCell ⟨gb268, 1, none⟩ (.slice Ao28 t265.length co28)) = w53 at n0_ n1_ n2_ n3_ n4_ n5_ n6_ ⊢
              have HO259 := n0_
              have HO263 := n1_
              have HO267 := n2_
              have BK254 := n3_
              have BK255 := n4_
              have BK268 := n5_
              have HB := n6_
              clear n0_ n1_ n2_ n3_ n4_ n5_ n6_
              have n0_ := Aside0.mk (Kd.R_drew HO259.out)
              have n1_ := Aside0.mk (Kd.R_drew HO263.out)
              have n2_ := Aside0.mk (Kd.R_drew HO267.out)
              have n3_ := Aside0.mk (blk_drew BK254.out)
              have n4_ := Aside0.mk (blk_drew BK255.out)
              have n5_ := Aside0.mk (blk_drew BK268.out)
              have n6_ := Aside0.mk (below_drew1 HB.out)
              clear HO259
              clear HO263
              clear HO267
              clear BK254
              clear BK255
              clear BK268
              clear HB
              have HO259 := n0_
              have HO263 := n1_
              have HO267 := n2_
              have BK254 := n3_
              have BK255 := n4_
              have BK268 := n5_
              have HB := n6_
              clear n0_ n1_ n2_ n3_ n4_ n5_ n6_
              refine start_ (n := 27) (S := fun w' => w'.cell? ⟨gb254, 0, none⟩ = some (.int .i64 t256) ∧ w'.cell? ⟨gb254, 1, none⟩ = some (.slice Ao17 t257.length co17) ∧ w'.cell? ⟨gb255, 0, none⟩ = some (.int .i64 t260) ∧ w'.cell? ⟨gb255, 1, none⟩ = some (.slice Ao21 t261.length co21) ∧ w'.cell? ⟨gb268, 0, none⟩ = some (.int .i64 t264) ∧ w'.cell? ⟨gb268, 1, none⟩ = some (.slice Ao28 t265.length co28)) (ds := []) #[false, false, false, false, false, false, false, false, false, false, false, false, false, false, false, false, false, false, false, false, false, false, false, false, false, false, false] (by kernel_rfl) rfl rfl ⟨(blk_cell BK254.out 0).trans rfl, (blk_cell BK254.out 1).trans rfl, (blk_cell BK255.out 0).trans rfl, (blk_cell BK255.out 1).trans rfl, (blk_cell BK268.out 0).trans rfl, (blk_cell BK268.out 1).trans rfl⟩ (fun hHeld => ?_); refine with_tabW concordancelaw08_DocMay.tab5 concordancelaw08_DocMay.bits5 (fun HT_ HW_ => ?_)
              generalize w53.drew = w54 at HO259 HO263 HO267 BK254 BK255 BK268 HB hHeld ⊢
              refine take_ (i := 0) (N := some 21) (v := ?_) (a' := ?_) #[true, false, false, false, false, false, false, false, false, false, false, false, false, false, false, false, false, false, false, false, false, false, false, false, false, false, false] rfl rfl (take_ofW HT_.out HW_.out (by kernel_rfl)) (fun _ _ _ h => h) (Or.inl ⟨by rfl, ?_⟩) hHeld ?_ ?_
              rotate_left
              · rintro w' ⟨s0, s1, s2, s3, s4, s5⟩
                go_simp
                with_reducible rfl
              rotate_left
              · simp only [Act.put, List.setIfInBounds_toArray, List.set_cons_zero, List.set_cons_succ, i64_w, i32_w]
                rfl
              refine take_ (i := 2) (N := some 23) (v := ?_) (a' := ?_) #[true, false, true, false, false, false, false, false, false, false, false, false, false, false, false, false, false, false, false, false, false, false, false, false, false, false, false] rfl rfl (take_ofW HT_.out HW_.out (by kernel_rfl)) (fun _ _ _ h => h) (Or.inl ⟨by rfl, ?_⟩) hHeld ?_ ?_
              rotate_left
              · rintro w' ⟨s0, s1, s2, s3, s4, s5⟩
                go_simp
                with_reducible rfl
              rotate_left
              · simp only [Act.put, List.setIfInBounds_toArray, List.set_cons_zero, List.set_cons_succ, i64_w, i32_w]
                rfl
              refine one_ (i := 1) (N := some 22) #[true, true, true, false, false, false, false, false, false, false, false, false, false, false, false, false, false, false, false, false, false, false, false, false, false, false, false] rfl rfl (one_of HT_.out (by kernel_rfl)) (by decide) (fun K hK => ?_)
              refine goes_ Tryd.func6 (by kernel_rfl) rfl #[.agg #[.int .i64 t256, .slice Ao17 t257.length co17]] (by rfl) rfl rfl (by (try simp only [List.map_toArray, List.map_cons, List.map_nil]); first | done | rfl | (simp only [List.length_drop, List.length_take]; rfl)) ?_
              with_reducible refine (doc_May.calls t256 _ _ t257 t269 _ ?side1 ?side2 A29.out).mono ?_
              (case side1 => repeat (first | exact (Kd.R_reads' HO259.out).2.2 | (with_reducible refine Kd.C_alloc ?_ _) | (with_reducible refine Kd.C_drewN ?_ _) | (with_reducible refine Kd.C_drew ?_)))
              (case side2 => exact (Kd.R_reads' HO259.out).2.1)
              rintro e w55 ⟨rfl, hb⟩
              refine ⟨_, rfl, ?_⟩
              have n0_ := Aside0.mk (Kd.R_below (by (with_reducible repeat (first | apply Kd.R_alloc | apply Kd.R_drewN | apply Kd.R_drew)); exact HO259.out) hb)
              have n1_ := Aside0.mk (Kd.R_below (by (with_reducible repeat (first | apply Kd.R_alloc | apply Kd.R_drewN | apply Kd.R_drew)); exact HO263.out) hb)
              have n2_ := Aside0.mk (Kd.R_below (by (with_reducible repeat (first | apply Kd.R_alloc | apply Kd.R_drewN | apply Kd.R_drew)); exact HO267.out) hb)
              have n3_ := Aside0.mk (blk_below (g := gb254) (o := .cells #[.int .i64 t256, .slice Ao17 t257.length co17] 27 (0, 0)) (by (with_reducible repeat (first | refine blk_drewN ?_ _ | refine blk_drew ?_ | refine blk_alloc ?_ _)); exact BK254.out) hb)
              have n4_ := Aside0.mk (blk_below (g := gb255) (o := .cells #[.int .i64 t260, .slice Ao21 t261.length co21] 27 (0, 0)) (by (with_reducible repeat (first | refine blk_drewN ?_ _ | refine blk_drew ?_ | refine blk_alloc ?_ _)); exact BK255.out) hb)
              have n5_ := Aside0.mk (blk_below (g := gb268) (o := .cells #[.int .i64 t264, .slice Ao28 t265.length co28] 27 (0, 0)) (by (with_reducible repeat (first | refine blk_drewN ?_ _ | refine blk_drew ?_ | refine blk_alloc ?_ _)); exact BK268.out) hb)
              have n6_ := Aside0.mk (below_step (by repeat (first | (with_reducible first | exact HB.out | apply below_alloc | apply pw_below_drewN | apply below_drew1 | refine below_set ?_ GE254.out | refine below_set ?_ GE255.out | refine below_set ?_ GE268.out) | exact HB.out)) hb)
              clear HO259
              clear HO263
              clear HO267
              clear BK254
              clear BK255
              clear BK268
              clear HB
              have HO259 := n0_
              have HO263 := n1_
              have HO267 := n2_
              have BK254 := n3_
              have BK255 := n4_
              have BK268 := n5_
              have HB := n6_
              clear n0_ n1_ n2_ n3_ n4_ n5_ n6_
              (try clear hb)
              (try clear hb2)
              (try clear hk)
              (try clear hi)
              refine hK.out _ _ ⟨(blk_cell BK254.out 0).trans rfl, (blk_cell BK254.out 1).trans rfl, (blk_cell BK255.out 0).trans rfl, (blk_cell BK255.out 1).trans rfl, (blk_cell BK268.out 0).trans rfl, (blk_cell BK268.out 1).trans rfl⟩ (fun hHeld => ?_)
              clear hK K
              refine norm_ (a' := ?_) ?_ ?_
              rotate_left
              · show Act.put _ (some 22) _ = _
                simp only [Act.put, List.setIfInBounds_toArray, List.set_cons_zero, List.set_cons_succ, i64_w, i32_w]
                rfl
              refine one_ (i := 3) (N := some 24) #[true, true, true, true, false, false, false, false, false, false, false, false, false, false, false, false, false, false, false, false, false, false, false, false, false, false, false] rfl rfl (one_of HT_.out (by kernel_rfl)) (by decide) (fun K hK => ?_)
              refine goes_ Tryd.func11 (by kernel_rfl) rfl #[.agg #[.int .i64 t256, .slice Ao17 t257.length co17]] (by rfl) rfl rfl (by (try simp only [List.map_toArray, List.map_cons, List.map_nil]); first | done | rfl | (simp only [List.length_drop, List.length_take]; rfl)) ?_
              with_reducible refine (concordanceref08_May.calls k t256 _ _ t257 t270 _ ?side1 ?side2 A30.out).mono ?_
              (case side1 => repeat (first | exact (Kd.R_reads' HO259.out).2.2 | (with_reducible refine Kd.C_alloc ?_ _) | (with_reducible refine Kd.C_drewN ?_ _) | (with_reducible refine Kd.C_drew ?_)))
              (case side2 => exact (Kd.R_reads' HO259.out).2.1)
              rintro e w56 ⟨rfl, hb⟩
              refine ⟨_, rfl, ?_⟩
              have n0_ := Aside0.mk (Kd.R_below (by (with_reducible repeat (first | apply Kd.R_alloc | apply Kd.R_drewN | apply Kd.R_drew)); exact HO259.out) hb)
              have n1_ := Aside0.mk (Kd.R_below (by (with_reducible repeat (first | apply Kd.R_alloc | apply Kd.R_drewN | apply Kd.R_drew)); exact HO263.out) hb)
              have n2_ := Aside0.mk (Kd.R_below (by (with_reducible repeat (first | apply Kd.R_alloc | apply Kd.R_drewN | apply Kd.R_drew)); exact HO267.out) hb)
              have n3_ := Aside0.mk (blk_below (g := gb254) (o := .cells #[.int .i64 t256, .slice Ao17 t257.length co17] 27 (0, 0)) (by (with_reducible repeat (first | refine blk_drewN ?_ _ | refine blk_drew ?_ | refine blk_alloc ?_ _)); exact BK254.out) hb)
              have n4_ := Aside0.mk (blk_below (g := gb255) (o := .cells #[.int .i64 t260, .slice Ao21 t261.length co21] 27 (0, 0)) (by (with_reducible repeat (first | refine blk_drewN ?_ _ | refine blk_drew ?_ | refine blk_alloc ?_ _)); exact BK255.out) hb)
              have n5_ := Aside0.mk (blk_below (g := gb268) (o := .cells #[.int .i64 t264, .slice Ao28 t265.length co28] 27 (0, 0)) (by (with_reducible repeat (first | refine blk_drewN ?_ _ | refine blk_drew ?_ | refine blk_alloc ?_ _)); exact BK268.out) hb)
              have n6_ := Aside0.mk (below_step (by repeat (first | (with_reducible first | exact HB.out | apply below_alloc | apply pw_below_drewN | apply below_drew1 | refine below_set ?_ GE254.out | refine below_set ?_ GE255.out | refine below_set ?_ GE268.out) | exact HB.out)) hb)
              clear HO259
              clear HO263
              clear HO267
              clear BK254
              clear BK255
              clear BK268
              clear HB
              have HO259 := n0_
              have HO263 := n1_
              have HO267 := n2_
              have BK254 := n3_
              have BK255 := n4_
              have BK268 := n5_
              have HB := n6_
              clear n0_ n1_ n2_ n3_ n4_ n5_ n6_
              (try clear hb)
              (try clear hb2)
              (try clear hk)
              (try clear hi)
              refine hK.out _ _ ⟨(blk_cell BK254.out 0).trans rfl, (blk_cell BK254.out 1).trans rfl, (blk_cell BK255.out 0).trans rfl, (blk_cell BK255.out 1).trans rfl, (blk_cell BK268.out 0).trans rfl, (blk_cell BK268.out 1).trans rfl⟩ (fun hHeld => ?_)
              clear hK K
              refine norm_ (a' := ?_) ?_ ?_
              rotate_left
              · show Act.put _ (some 24) _ = _
                simp only [Act.put, List.setIfInBounds_toArray, List.set_cons_zero, List.set_cons_succ, i64_w, i32_w]
                rfl
              refine pure_ (i := 4) (N := some 25) (v := ?_) (a' := ?_) #[true, true, true, true, true, false, false, false, false, false, false, false, false, false, false, false, false, false, false, false, false, false, false, false, false, false, false] rfl rfl (any_of HT_.out (by kernel_rfl)) (fun _ _ _ h => h) (Or.inl ⟨by rfl, ?_⟩) ?_ ?_
              rotate_left
              · intro w'
                go_simp
                with_reducible rfl
              rotate_left
              · simp only [Act.put, List.setIfInBounds_toArray, List.set_cons_zero, List.set_cons_succ, i64_w, i32_w]
                rfl
              refine pure_ (i := 5) (N := some 26) (v := ?_) (a' := ?_) #[true, true, true, true, true, true, false, false, false, false, false, false, false, false, false, false, false, false, false, false, false, false, false, false, false, false, false] rfl rfl (any_of HT_.out (by kernel_rfl)) (fun _ _ _ h => h) (Or.inl ⟨by rfl, ?_⟩) ?_ ?_
              rotate_left
              · intro w'
                go_simp
                with_reducible rfl
              rotate_left
              · simp only [Act.put, List.setIfInBounds_toArray, List.set_cons_zero, List.set_cons_succ, i64_w, i32_w]
                rfl
              refine take_ (i := 6) (N := some 27) (v := ?_) (a' := ?_) #[true, true, true, true, true, true, true, false, false, false, false, false, false, false, false, false, false, false, false, false, false, false, false, false, false, false, false] rfl rfl (take_ofW HT_.out HW_.out (by kernel_rfl)) (fun _ _ _ h => h) (Or.inl ⟨by rfl, ?_⟩) hHeld ?_ ?_
              rotate_left
              · rintro w' ⟨s0, s1, s2, s3, s4, s5⟩
                go_simp
                with_reducible rfl
              rotate_left
              · simp only [Act.put, List.setIfInBounds_toArray, List.set_cons_zero, List.set_cons_succ, i64_w, i32_w]
                rfl
              refine take_ (i := 7) (N := some 28) (v := ?_) (a' := ?_) #[true, true, true, true, true, true, true, true, false, false, false, false, false, false, false, false, false, false, false, false, false, false, false, false, false, false, false] rfl rfl (take_ofW HT_.out HW_.out (by kernel_rfl)) (fun _ _ _ h => h) (Or.inl ⟨by rfl, ?_⟩) hHeld ?_ ?_
              rotate_left
              · rintro w' ⟨s0, s1, s2, s3, s4, s5⟩
                go_simp
                with_reducible rfl
              rotate_left
              · simp only [Act.put, List.setIfInBounds_toArray, List.set_cons_zero, List.set_cons_succ, i64_w, i32_w]
                rfl
              refine take_ (i := 9) (N := some 30) (v := ?_) (a' := ?_) #[true, true, true, true, true, true, true, true, false, true, false, false, false, false, false, false, false, false, false, false, false, false, false, false, false, false, false] rfl rfl (take_ofW HT_.out HW_.out (by kernel_rfl)) (fun _ _ _ h => h) (Or.inl ⟨by rfl, ?_⟩) hHeld ?_ ?_
              rotate_left
              · rintro w' ⟨s0, s1, s2, s3, s4, s5⟩
                go_simp
                with_reducible rfl
              rotate_left
              · simp only [Act.put, List.setIfInBounds_toArray, List.set_cons_zero, List.set_cons_succ, i64_w, i32_w]
                rfl
              refine take_ (i := 10) (N := some 31) (v := ?_) (a' := ?_) #[true, true, true, true, true, true, true, true, false, true, true, false, false, false, false, false, false, false, false, false, false, false, false, false, false, false, false] rfl rfl (take_ofW HT_.out HW_.out (by kernel_rfl)) (fun _ _ _ h => h) (Or.inl ⟨by rfl, ?_⟩) hHeld ?_ ?_
              rotate_left
              · rintro w' ⟨s0, s1, s2, s3, s4, s5⟩
                go_simp
                with_reducible rfl
              rotate_left
              · simp only [Act.put, List.setIfInBounds_toArray, List.set_cons_zero, List.set_cons_succ, i64_w, i32_w]
                rfl
              refine one_ (i := 8) (N := some 29) #[true, true, true, true, true, true, true, true, true, true, true, false, false, false, false, false, false, false, false, false, false, false, false, false, false, false, false] rfl rfl (one_of HT_.out (by kernel_rfl)) (by decide) (fun K hK => ?_)
              refine goes_ Tryd.func12 (by kernel_rfl) rfl #[.agg #[.int .i64 t256, .slice Ao17 t257.length co17], .agg #[.int .i64 t260, .slice Ao21 t261.length co21]] (by rfl) rfl rfl (by (try simp only [List.map_toArray, List.map_cons, List.map_nil]); first | done | rfl | (simp only [List.length_drop, List.length_take]; rfl)) ?_
              with_reducible refine (doc_Same.calls k t256 _ _ t257 t260 _ _ t261 t271 _ ?side1 ?side2 ?side3 ?side4 A32.out).mono ?_
              (case side1 => repeat (first | exact (Kd.R_reads' HO259.out).2.2 | (with_reducible refine Kd.C_alloc ?_ _) | (with_reducible refine Kd.C_drewN ?_ _) | (with_reducible refine Kd.C_drew ?_)))
              (case side2 => exact (Kd.R_reads' HO259.out).2.1)
              (case side3 => repeat (first | exact (Kd.R_reads' HO263.out).2.2 | (with_reducible refine Kd.C_alloc ?_ _) | (with_reducible refine Kd.C_drewN ?_ _) | (with_reducible refine Kd.C_drew ?_)))
              (case side4 => exact (Kd.R_reads' HO263.out).2.1)
              rintro e w57 ⟨rfl, hb⟩
              refine ⟨_, rfl, ?_⟩
              have n0_ := Aside0.mk (Kd.R_below (by (with_reducible repeat (first | apply Kd.R_alloc | apply Kd.R_drewN | apply Kd.R_drew)); exact HO259.out) hb)
              have n1_ := Aside0.mk (Kd.R_below (by (with_reducible repeat (first | apply Kd.R_alloc | apply Kd.R_drewN | apply Kd.R_drew)); exact HO263.out) hb)
              have n2_ := Aside0.mk (Kd.R_below (by (with_reducible repeat (first | apply Kd.R_alloc | apply Kd.R_drewN | apply Kd.R_drew)); exact HO267.out) hb)
              have n3_ := Aside0.mk (blk_below (g := gb254) (o := .cells #[.int .i64 t256, .slice Ao17 t257.length co17] 27 (0, 0)) (by (with_reducible repeat (first | refine blk_drewN ?_ _ | refine blk_drew ?_ | refine blk_alloc ?_ _)); exact BK254.out) hb)
              have n4_ := Aside0.mk (blk_below (g := gb255) (o := .cells #[.int .i64 t260, .slice Ao21 t261.length co21] 27 (0, 0)) (by (with_reducible repeat (first | refine blk_drewN ?_ _ | refine blk_drew ?_ | refine blk_alloc ?_ _)); exact BK255.out) hb)
              have n5_ := Aside0.mk (blk_below (g := gb268) (o := .cells #[.int .i64 t264, .slice Ao28 t265.length co28] 27 (0, 0)) (by (with_reducible repeat (first | refine blk_drewN ?_ _ | refine blk_drew ?_ | refine blk_alloc ?_ _)); exact BK268.out) hb)
              have n6_ := Aside0.mk (below_step (by repeat (first | (with_reducible first | exact HB.out | apply below_alloc | apply pw_below_drewN | apply below_drew1 | refine below_set ?_ GE254.out | refine below_set ?_ GE255.out | refine below_set ?_ GE268.out) | exact HB.out)) hb)
              clear HO259
              clear HO263
              clear HO267
              clear BK254
              clear BK255
              clear BK268
              clear HB
              have HO259 := n0_
              have HO263 := n1_
              have HO267 := n2_
              have BK254 := n3_
              have BK255 := n4_
              have BK268 := n5_
              have HB := n6_
              clear n0_ n1_ n2_ n3_ n4_ n5_ n6_
              (try clear hb)
              (try clear hb2)
              (try clear hk)
              (try clear hi)
              refine hK.out _ _ ⟨(blk_cell BK254.out 0).trans rfl, (blk_cell BK254.out 1).trans rfl, (blk_cell BK255.out 0).trans rfl, (blk_cell BK255.out 1).trans rfl, (blk_cell BK268.out 0).trans rfl, (blk_cell BK268.out 1).trans rfl⟩ (fun hHeld => ?_)
              clear hK K
              refine norm_ (a' := ?_) ?_ ?_
              rotate_left
              · show Act.put _ (some 29) _ = _
                simp only [Act.put, List.setIfInBounds_toArray, List.set_cons_zero, List.set_cons_succ, i64_w, i32_w]
                rfl
              refine one_ (i := 11) (N := some 32) #[true, true, true, true, true, true, true, true, true, true, true, true, false, false, false, false, false, false, false, false, false, false, false, false, false, false, false] rfl rfl (one_of HT_.out (by kernel_rfl)) (by decide) (fun K hK => ?_)
              refine goes_ Tryd.func13 (by kernel_rfl) rfl #[.agg #[.int .i64 t256, .slice Ao17 t257.length co17], .agg #[.int .i64 t260, .slice Ao21 t261.length co21]] (by rfl) rfl rfl (by (try simp only [List.map_toArray, List.map_cons, List.map_nil]); first | done | rfl | (simp only [List.length_drop, List.length_take]; rfl)) ?_
              with_reducible refine (concordanceref08_Same.calls k t256 _ _ t257 t260 _ _ t261 t272 _ ?side1 ?side2 ?side3 ?side4 A33.out).mono ?_
              (case side1 => repeat (first | exact (Kd.R_reads' HO259.out).2.2 | (with_reducible refine Kd.C_alloc ?_ _) | (with_reducible refine Kd.C_drewN ?_ _) | (with_reducible refine Kd.C_drew ?_)))
              (case side2 => exact (Kd.R_reads' HO259.out).2.1)
              (case side3 => repeat (first | exact (Kd.R_reads' HO263.out).2.2 | (with_reducible refine Kd.C_alloc ?_ _) | (with_reducible refine Kd.C_drewN ?_ _) | (with_reducible refine Kd.C_drew ?_)))
              (case side4 => exact (Kd.R_reads' HO263.out).2.1)
              rintro e w58 ⟨rfl, hb⟩
              refine ⟨_, rfl, ?_⟩
              have n0_ := Aside0.mk (Kd.R_below (by (with_reducible repeat (first | apply Kd.R_alloc | apply Kd.R_drewN | apply Kd.R_drew)); exact HO259.out) hb)
              have n1_ := Aside0.mk (Kd.R_below (by (with_reducible repeat (first | apply Kd.R_alloc | apply Kd.R_drewN | apply Kd.R_drew)); exact HO263.out) hb)
              have n2_ := Aside0.mk (Kd.R_below (by (with_reducible repeat (first | apply Kd.R_alloc | apply Kd.R_drewN | apply Kd.R_drew)); exact HO267.out) hb)
              have n3_ := Aside0.mk (blk_below (g := gb254) (o := .cells #[.int .i64 t256, .slice Ao17 t257.length co17] 27 (0, 0)) (by (with_reducible repeat (first | refine blk_drewN ?_ _ | refine blk_drew ?_ | refine blk_alloc ?_ _)); exact BK254.out) hb)
              have n4_ := Aside0.mk (blk_below (g := gb255) (o := .cells #[.int .i64 t260, .slice Ao21 t261.length co21] 27 (0, 0)) (by (with_reducible repeat (first | refine blk_drewN ?_ _ | refine blk_drew ?_ | refine blk_alloc ?_ _)); exact BK255.out) hb)
              have n5_ := Aside0.mk (blk_below (g := gb268) (o := .cells #[.int .i64 t264, .slice Ao28 t265.length co28] 27 (0, 0)) (by (with_reducible repeat (first | refine blk_drewN ?_ _ | refine blk_drew ?_ | refine blk_alloc ?_ _)); exact BK268.out) hb)
              have n6_ := Aside0.mk (below_step (by repeat (first | (with_reducible first | exact HB.out | apply below_alloc | apply pw_below_drewN | apply below_drew1 | refine below_set ?_ GE254.out | refine below_set ?_ GE255.out | refine below_set ?_ GE268.out) | exact HB.out)) hb)
              clear HO259
              clear HO263
              clear HO267
              clear BK254
              clear BK255
              clear BK268
              clear HB
              have HO259 := n0_
              have HO263 := n1_
              have HO267 := n2_
              have BK254 := n3_
              have BK255 := n4_
              have BK268 := n5_
              have HB := n6_
              clear n0_ n1_ n2_ n3_ n4_ n5_ n6_
              (try clear hb)
              (try clear hb2)
              (try clear hk)
              (try clear hi)
              refine hK.out _ _ ⟨(blk_cell BK254.out 0).trans rfl, (blk_cell BK254.out 1).trans rfl, (blk_cell BK255.out 0).trans rfl, (blk_cell BK255.out 1).trans rfl, (blk_cell BK268.out 0).trans rfl, (blk_cell BK268.out 1).trans rfl⟩ (fun hHeld => ?_)
              clear hK K
              refine norm_ (a' := ?_) ?_ ?_
              rotate_left
              · show Act.put _ (some 32) _ = _
                simp only [Act.put, List.setIfInBounds_toArray, List.set_cons_zero, List.set_cons_succ, i64_w, i32_w]
                rfl
              refine pure_ (i := 12) (N := some 33) (v := ?_) (a' := ?_) #[true, true, true, true, true, true, true, true, true, true, true, true, true, false, false, false, false, false, false, false, false, false, false, false, false, false, false] rfl rfl (any_of HT_.out (by kernel_rfl)) (fun _ _ _ h => h) (Or.inl ⟨by rfl, ?_⟩) ?_ ?_
              rotate_left
              · intro w'
                go_simp
                with_reducible rfl
              rotate_left
              · simp only [Act.put, List.setIfInBounds_toArray, List.set_cons_zero, List.set_cons_succ, i64_w, i32_w]
                rfl
              refine pure_ (i := 13) (N := some 34) (v := ?_) (a' := ?_) #[true, true, true, true, true, true, true, true, true, true, true, true, true, true, false, false, false, false, false, false, false, false, false, false, false, false, false] rfl rfl (any_of HT_.out (by kernel_rfl)) (fun _ _ _ h => h) (Or.inl ⟨by rfl, ?_⟩) ?_ ?_
              rotate_left
              · intro w'
                go_simp
                with_reducible rfl
              rotate_left
              · simp only [Act.put, List.setIfInBounds_toArray, List.set_cons_zero, List.set_cons_succ, i64_w, i32_w]
                rfl
              refine pure_ (i := 14) (N := some 35) (v := ?_) (a' := ?_) #[true, true, true, true, true, true, true, true, true, true, true, true, true, true, true, false, false, false, false, false, false, false, false, false, false, false, false] rfl rfl (any_of HT_.out (by kernel_rfl)) (fun _ _ _ h => h) (Or.inl ⟨by rfl, ?_⟩) ?_ ?_
              rotate_left
              · intro w'
                go_simp
                with_reducible rfl
              rotate_left
              · simp only [Act.put, List.setIfInBounds_toArray, List.set_cons_zero, List.set_cons_succ, i64_w, i32_w]
                rfl
              refine take_ (i := 15) (N := some 36) (v := ?_) (a' := ?_) #[true, true, true, true, true, true, true, true, true, true, true, true, true, true, true, true, false, false, false, false, false, false, false, false, false, false, false] rfl rfl (take_ofW HT_.out HW_.out (by kernel_rfl)) (fun _ _ _ h => h) (Or.inl ⟨by rfl, ?_⟩) hHeld ?_ ?_
              rotate_left
              · rintro w' ⟨s0, s1, s2, s3, s4, s5⟩
                go_simp
                with_reducible rfl
              rotate_left
              · simp only [Act.put, List.setIfInBounds_toArray, List.set_cons_zero, List.set_cons_succ, i64_w, i32_w]
                rfl
              refine take_ (i := 16) (N := some 37) (v := ?_) (a' := ?_) #[true, true, true, true, true, true, true, true, true, true, true, true, true, true, true, true, true, false, false, false, false, false, false, false, false, false, false] rfl rfl (take_ofW HT_.out HW_.out (by kernel_rfl)) (fun _ _ _ h => h) (Or.inl ⟨by rfl, ?_⟩) hHeld ?_ ?_
              rotate_left
              · rintro w' ⟨s0, s1, s2, s3, s4, s5⟩
                go_simp
                with_reducible rfl
              rotate_left
              · simp only [Act.put, List.setIfInBounds_toArray, List.set_cons_zero, List.set_cons_succ, i64_w, i32_w]
                rfl
              refine one_ (i := 17) (N := some 38) #[true, true, true, true, true, true, true, true, true, true, true, true, true, true, true, true, true, true, false, false, false, false, false, false, false, false, false] rfl rfl (one_of HT_.out (by kernel_rfl)) (by decide) (fun K hK => ?_)
              refine goes_ Tryd.func13 (by kernel_rfl) rfl #[.agg #[.int .i64 t264, .slice Ao28 t265.length co28], .agg #[.int .i64 t256, .slice Ao17 t257.length co17]] (by rfl) rfl rfl (by (try simp only [List.map_toArray, List.map_cons, List.map_nil]); first | done | rfl | (simp only [List.length_drop, List.length_take]; rfl)) ?_
              with_reducible refine (concordanceref08_Same.calls k t264 _ _ t265 t256 _ _ t257 false _ ?side1 ?side2 ?side3 ?side4 A41.out).mono ?_
              (case side1 => repeat (first | exact (Kd.R_reads' HO267.out).2.2 | (with_reducible refine Kd.C_alloc ?_ _) | (with_reducible refine Kd.C_drewN ?_ _) | (with_reducible refine Kd.C_drew ?_)))
              (case side2 => exact (Kd.R_reads' HO267.out).2.1)
              (case side3 => repeat (first | exact (Kd.R_reads' HO259.out).2.2 | (with_reducible refine Kd.C_alloc ?_ _) | (with_reducible refine Kd.C_drewN ?_ _) | (with_reducible refine Kd.C_drew ?_)))
              (case side4 => exact (Kd.R_reads' HO259.out).2.1)
              rintro e w59 ⟨rfl, hb⟩
              refine ⟨_, rfl, ?_⟩
              have n0_ := Aside0.mk (Kd.R_below (by (with_reducible repeat (first | apply Kd.R_alloc | apply Kd.R_drewN | apply Kd.R_drew)); exact HO259.out) hb)
              have n1_ := Aside0.mk (Kd.R_below (by (with_reducible repeat (first | apply Kd.R_alloc | apply Kd.R_drewN | apply Kd.R_drew)); exact HO263.out) hb)
              have n2_ := Aside0.mk (Kd.R_below (by (with_reducible repeat (first | apply Kd.R_alloc | apply Kd.R_drewN | apply Kd.R_drew)); exact HO267.out) hb)
              have n3_ := Aside0.mk (blk_below (g := gb254) (o := .cells #[.int .i64 t256, .slice Ao17 t257.length co17] 27 (0, 0)) (by (with_reducible repeat (first | refine blk_drewN ?_ _ | refine blk_drew ?_ | refine blk_alloc ?_ _)); exact BK254.out) hb)
              have n4_ := Aside0.mk (blk_below (g := gb255) (o := .cells #[.int .i64 t260, .slice Ao21 t261.length co21] 27 (0, 0)) (by (with_reducible repeat (first | refine blk_drewN ?_ _ | refine blk_drew ?_ | refine blk_alloc ?_ _)); exact BK255.out) hb)
              have n5_ := Aside0.mk (blk_below (g := gb268) (o := .cells #[.int .i64 t264, .slice Ao28 t265.length co28] 27 (0, 0)) (by (with_reducible repeat (first | refine blk_drewN ?_ _ | refine blk_drew ?_ | refine blk_alloc ?_ _)); exact BK268.out) hb)
              have n6_ := Aside0.mk (below_step (by repeat (first | (with_reducible first | exact HB.out | apply below_alloc | apply pw_below_drewN | apply below_drew1 | refine below_set ?_ GE254.out | refine below_set ?_ GE255.out | refine below_set ?_ GE268.out) | exact HB.out)) hb)
              clear HO259
              clear HO263
              clear HO267
              clear BK254
              clear BK255
              clear BK268
              clear HB
              have HO259 := n0_
              have HO263 := n1_
              have HO267 := n2_
              have BK254 := n3_
              have BK255 := n4_
              have BK268 := n5_
              have HB := n6_
              clear n0_ n1_ n2_ n3_ n4_ n5_ n6_
              (try clear hb)
              (try clear hb2)
              (try clear hk)
              (try clear hi)
              refine hK.out _ _ ⟨(blk_cell BK254.out 0).trans rfl, (blk_cell BK254.out 1).trans rfl, (blk_cell BK255.out 0).trans rfl, (blk_cell BK255.out 1).trans rfl, (blk_cell BK268.out 0).trans rfl, (blk_cell BK268.out 1).trans rfl⟩ (fun hHeld => ?_)
              clear hK K
              refine norm_ (a' := ?_) ?_ ?_
              rotate_left
              · show Act.put _ (some 38) _ = _
                simp only [Act.put, List.setIfInBounds_toArray, List.set_cons_zero, List.set_cons_succ, i64_w, i32_w]
                rfl
              refine pure_ (i := 18) (N := some 39) (v := ?_) (a' := ?_) #[true, true, true, true, true, true, true, true, true, true, true, true, true, true, true, true, true, true, true, false, false, false, false, false, false, false, false] rfl rfl (any_of HT_.out (by kernel_rfl)) (fun _ _ _ h => h) (Or.inl ⟨by rfl, ?_⟩) ?_ ?_
              rotate_left
              · intro w'
                go_simp
                with_reducible rfl
              rotate_left
              · simp only [Act.put, List.setIfInBounds_toArray, List.set_cons_zero, List.set_cons_succ, i64_w, i32_w]
                rfl
              refine pure_ (i := 19) (N := some 40) (v := ?_) (a' := ?_) #[true, true, true, true, true, true, true, true, true, true, true, true, true, true, true, true, true, true, true, true, false, false, false, false, false, false, false] rfl rfl (any_of HT_.out (by kernel_rfl)) (fun _ _ _ h => h) (Or.inl ⟨by rfl, ?_⟩) ?_ ?_
              rotate_left
              · intro w'
                go_simp
                with_reducible rfl
              rotate_left
              · simp only [Act.put, List.setIfInBounds_toArray, List.set_cons_zero, List.set_cons_succ, i64_w, i32_w]
                rfl
              refine pure_ (i := 20) (N := some 41) (v := ?_) (a' := ?_) #[true, true, true, true, true, true, true, true, true, true, true, true, true, true, true, true, true, true, true, true, true, false, false, false, false, false, false] rfl rfl (any_of HT_.out (by kernel_rfl)) (fun _ _ _ h => h) (Or.inl ⟨by rfl, ?_⟩) ?_ ?_
              rotate_left
              · intro w'
                go_simp
                with_reducible rfl
              rotate_left
              · simp only [Act.put, List.setIfInBounds_toArray, List.set_cons_zero, List.set_cons_succ, i64_w, i32_w]
                rfl
              refine pure_ (i := 21) (N := some 42) (v := undef) (a' := ?_) #[true, true, true, true, true, true, true, true, true, true, true, true, true, true, true, true, true, true, true, true, true, true, false, false, false, false, false] rfl rfl (any_of HT_.out (by kernel_rfl)) (fun _ _ _ h => h) (Or.inr ⟨by rfl, rfl⟩) ?_ ?_
              rotate_left
              · simp only [Act.put, List.setIfInBounds_toArray, List.set_cons_zero, List.set_cons_succ, i64_w, i32_w]
                rfl
              refine pure_ (i := 22) (N := some 43) (v := undef) (a' := ?_) #[true, true, true, true, true, true, true, true, true, true, true, true, true, true, true, true, true, true, true, true, true, true, true, false, false, false, false] rfl rfl (any_of HT_.out (by kernel_rfl)) (fun _ _ _ h => h) (Or.inr ⟨by rfl, rfl⟩) ?_ ?_
              rotate_left
              · simp only [Act.put, List.setIfInBounds_toArray, List.set_cons_zero, List.set_cons_succ, i64_w, i32_w]
                rfl
              refine pure_ (i := 23) (N := some 44) (v := undef) (a' := ?_) #[true, true, true, true, true, true, true, true, true, true, true, true, true, true, true, true, true, true, true, true, true, true, true, true, false, false, false] rfl rfl (any_of HT_.out (by kernel_rfl)) (fun _ _ _ h => h) (Or.inr ⟨by rfl, rfl⟩) ?_ ?_
              rotate_left
              · simp only [Act.put, List.setIfInBounds_toArray, List.set_cons_zero, List.set_cons_succ, i64_w, i32_w]
                rfl
              refine pure_ (i := 24) (N := some 45) (v := undef) (a' := ?_) #[true, true, true, true, true, true, true, true, true, true, true, true, true, true, true, true, true, true, true, true, true, true, true, true, true, false, false] rfl rfl (any_of HT_.out (by kernel_rfl)) (fun _ _ _ h => h) (Or.inr ⟨by rfl, rfl⟩) ?_ ?_
              rotate_left
              · simp only [Act.put, List.setIfInBounds_toArray, List.set_cons_zero, List.set_cons_succ, i64_w, i32_w]
                rfl
              refine pure_ (i := 25) (N := some 46) (v := undef) (a' := ?_) #[true, true, true, true, true, true, true, true, true, true, true, true, true, true, true, true, true, true, true, true, true, true, true, true, true, true, false] rfl rfl (any_of HT_.out (by kernel_rfl)) (fun _ _ _ h => h) (Or.inr ⟨by rfl, rfl⟩) ?_ ?_
              rotate_left
              · simp only [Act.put, List.setIfInBounds_toArray, List.set_cons_zero, List.set_cons_succ, i64_w, i32_w]
                rfl
              refine pure_ (i := 26) (N := some 47) (v := ?_) (a' := ?_) #[true, true, true, true, true, true, true, true, true, true, true, true, true, true, true, true, true, true, true, true, true, true, true, true, true, true, true] rfl rfl (any_of HT_.out (by kernel_rfl)) (fun _ _ _ h => h) (Or.inl ⟨by rfl, ?_⟩) ?_ ?_
              rotate_left
              · intro w'
                go_simp
                with_reducible rfl
              rotate_left
              · simp only [Act.put, List.setIfInBounds_toArray, List.set_cons_zero, List.set_cons_succ, i64_w, i32_w]
                rfl
              refine done_ (done_of HT_.out (by kernel_rfl)) ?_
              try go_wp2
              go_meet
              case rel => exact ⟨_, (true), (by first | rfl | (simp; done) | (simp [*]; done)), H', ⟨by first | omega | exact Nat.le_refl _⟩, ⟨by (with_reducible repeat (first | apply Kd.R_alloc | apply Kd.R_drewN | apply Kd.R_drew)); exact HO259.out⟩, ⟨by (with_reducible repeat (first | apply Kd.R_alloc | apply Kd.R_drewN | apply Kd.R_drew)); exact HO263.out⟩, ⟨by (with_reducible repeat (first | apply Kd.R_alloc | apply Kd.R_drewN | apply Kd.R_drew)); exact HO267.out⟩, ⟨by (with_reducible repeat (first | refine blk_drewN ?_ _ | refine blk_drew ?_ | refine blk_alloc ?_ _)); exact BK254.out⟩, ⟨by (with_reducible repeat (first | refine blk_drewN ?_ _ | refine blk_drew ?_ | refine blk_alloc ?_ _)); exact BK255.out⟩, ⟨by (with_reducible repeat (first | refine blk_drewN ?_ _ | refine blk_drew ?_ | refine blk_alloc ?_ _)); exact BK268.out⟩, ⟨by repeat (first | (with_reducible first | exact HB.out | apply below_alloc | apply pw_below_drewN | apply below_drew1 | refine below_set ?_ GE254.out | refine below_set ?_ GE255.out | refine below_set ?_ GE268.out) | exact HB.out)⟩⟩
        · rw [if_neg c31] at H
          have c31b0 : (t269 == t270) = false := beq_eq_false_iff_ne.mpr c31
          have c31b1 : (t269 != t270) = true := bne_iff_ne.mpr c31
          (first | rw [c31b0] | (simp only [i64_w, i32_w]; rw [c31b0]) | skip)
          have H' := Aside0.mk H
          clear H
          try go_wp2
          have n0_ : Aside0 (Kd.R k24 24 ((w24.setCell ⟨gb268, 0, none⟩ (.int .i64 t264)).setCell ⟨gb268, 1, none⟩ (.slice Ao28 t265.length co28)) w.heap.size (fun k_ => some k_ ≠ (.slice Ao21 t261.length co21 : Value).ownBlock ∧ some k_ ≠ (.slice Ao28 t265.length co28 : Value).ownBlock) (.slice Ao17 t257.length co17) t257) := ⟨by (with_reducible repeat (first | apply Kd.R_alloc | apply Kd.R_drewN | apply Kd.R_drew)); exact Kd.R_mono (Kd.R_far (p := ⟨gb268, 1, none⟩) (Kd.R_far (p := ⟨gb268, 0, none⟩) (Kd.R_types HO259.out BK268.out (by decide)) (fun _ hk => hk.2) (.int .i64 t264)) (fun _ hk => hk.2) (.slice Ao28 t265.length co28)) (fun _ hk => ⟨hk.1.1.2, hk.1.2⟩)⟩
          have n1_ : Aside0 (Kd.R k24 24 ((w24.setCell ⟨gb268, 0, none⟩ (.int .i64 t264)).setCell ⟨gb268, 1, none⟩ (.slice Ao28 t265.length co28)) w.heap.size (fun k_ => some k_ ≠ (.slice Ao17 t257.length co17 : Value).ownBlock ∧ some k_ ≠ (.slice Ao28 t265.length co28 : Value).ownBlock) (.slice Ao21 t261.length co21) t261) := ⟨by (with_reducible repeat (first | apply Kd.R_alloc | apply Kd.R_drewN | apply Kd.R_drew)); exact Kd.R_mono (Kd.R_far (p := ⟨gb268, 1, none⟩) (Kd.R_far (p := ⟨gb268, 0, none⟩) (Kd.R_types HO263.out BK268.out (by decide)) (fun _ hk => hk.2) (.int .i64 t264)) (fun _ hk => hk.2) (.slice Ao28 t265.length co28)) (fun _ hk => ⟨hk.1.1.2, hk.1.2⟩)⟩
          have n2_ : Aside0 (Kd.R k24 24 ((w24.setCell ⟨gb268, 0, none⟩ (.int .i64 t264)).setCell ⟨gb268, 1, none⟩ (.slice Ao28 t265.length co28)) w.heap.size (fun k_ => some k_ ≠ (.slice Ao17 t257.length co17 : Value).ownBlock ∧ some k_ ≠ (.slice Ao21 t261.length co21 : Value).ownBlock) (.slice Ao28 t265.length co28) t265) := ⟨by (with_reducible repeat (first | apply Kd.R_alloc | apply Kd.R_drewN | apply Kd.R_drew)); exact Kd.R_mono (Kd.R_far (p := ⟨gb268, 1, none⟩) (Kd.R_far (p := ⟨gb268, 0, none⟩) (Kd.R_types HO267.out BK268.out (by decide)) (fun _ hk => hk.2) (.int .i64 t264)) (fun _ hk => hk.2) (.slice Ao28 t265.length co28)) (fun _ hk => ⟨hk.1.1.2, hk.1.2⟩)⟩
          have n3_ : Aside0 (((w24.setCell ⟨gb268, 0, none⟩ (.int .i64 t264)).setCell ⟨gb268, 1, none⟩ (.slice Ao28 t265.length co28)).heap[gb254]? = some (.cells #[.int .i64 t256, .slice Ao17 t257.length co17] 27 (0, 0))) := ⟨by (with_reducible repeat (first | refine blk_drewN ?_ _ | refine blk_drew ?_ | refine blk_alloc ?_ _)); refine blk_far ?_ NB254_268.out _; (with_reducible repeat (first | refine blk_drewN ?_ _ | refine blk_drew ?_ | refine blk_alloc ?_ _)); refine blk_far ?_ NB254_268.out _; (with_reducible repeat (first | refine blk_drewN ?_ _ | refine blk_drew ?_ | refine blk_alloc ?_ _)); exact BK254.out⟩
          have n4_ : Aside0 (((w24.setCell ⟨gb268, 0, none⟩ (.int .i64 t264)).setCell ⟨gb268, 1, none⟩ (.slice Ao28 t265.length co28)).heap[gb255]? = some (.cells #[.int .i64 t260, .slice Ao21 t261.length co21] 27 (0, 0))) := ⟨by (with_reducible repeat (first | refine blk_drewN ?_ _ | refine blk_drew ?_ | refine blk_alloc ?_ _)); refine blk_far ?_ NB255_268.out _; (with_reducible repeat (first | refine blk_drewN ?_ _ | refine blk_drew ?_ | refine blk_alloc ?_ _)); refine blk_far ?_ NB255_268.out _; (with_reducible repeat (first | refine blk_drewN ?_ _ | refine blk_drew ?_ | refine blk_alloc ?_ _)); exact BK255.out⟩
          have n5_ : Aside0 (((w24.setCell ⟨gb268, 0, none⟩ (.int .i64 t264)).setCell ⟨gb268, 1, none⟩ (.slice Ao28 t265.length co28)).heap[gb268]? = some (.cells #[.int .i64 t264, .slice Ao28 t265.length co28] 27 (0, 0))) := ⟨by (with_reducible repeat (first | refine blk_drewN ?_ _ | refine blk_drew ?_ | refine blk_alloc ?_ _)); refine blk_put (cs := #[.int .i64 t264, .slice none 0 0]) ?_ 1 _ rfl; (with_reducible repeat (first | refine blk_drewN ?_ _ | refine blk_drew ?_ | refine blk_alloc ?_ _)); refine blk_put (cs := #[.int .i64 0, .slice none 0 0]) ?_ 0 _ rfl; (with_reducible repeat (first | refine blk_drewN ?_ _ | refine blk_drew ?_ | refine blk_alloc ?_ _)); exact BK268.out⟩
          have n6_ : Aside0 (Below w.heap.size w ((w24.setCell ⟨gb268, 0, none⟩ (.int .i64 t264)).setCell ⟨gb268, 1, none⟩ (.slice Ao28 t265.length co28))) := ⟨by repeat (first | (with_reducible first | exact HB.out | apply below_alloc | apply pw_below_drewN | apply below_drew1 | refine below_set ?_ GE254.out | refine below_set ?_ GE255.out | refine below_set ?_ GE268.out) | exact HB.out)⟩
          (try clear HO259)
          (try clear HO263)
          (try clear HO267)
          (try clear BK254)
          (try clear BK255)
          (try clear BK268)
          (try clear HB)
          generalize ((w24.setCell ⟨gb268, 0, none⟩ (.int .i64 t264)).setCell ⟨gb268, 1, none⟩ (.slice Ao28 t265.length co28)) = w60 at n0_ n1_ n2_ n3_ n4_ n5_ n6_ ⊢
          have HO259 := n0_
          have HO263 := n1_
          have HO267 := n2_
          have BK254 := n3_
          have BK255 := n4_
          have BK268 := n5_
          have HB := n6_
          clear n0_ n1_ n2_ n3_ n4_ n5_ n6_
          have n0_ := Aside0.mk (Kd.R_drew HO259.out)
          have n1_ := Aside0.mk (Kd.R_drew HO263.out)
          have n2_ := Aside0.mk (Kd.R_drew HO267.out)
          have n3_ := Aside0.mk (blk_drew BK254.out)
          have n4_ := Aside0.mk (blk_drew BK255.out)
          have n5_ := Aside0.mk (blk_drew BK268.out)
          have n6_ := Aside0.mk (below_drew1 HB.out)
          clear HO259
          clear HO263
          clear HO267
          clear BK254
          clear BK255
          clear BK268
          clear HB
          have HO259 := n0_
          have HO263 := n1_
          have HO267 := n2_
          have BK254 := n3_
          have BK255 := n4_
          have BK268 := n5_
          have HB := n6_
          clear n0_ n1_ n2_ n3_ n4_ n5_ n6_
          refine start_ (n := 27) (S := fun w' => w'.cell? ⟨gb254, 0, none⟩ = some (.int .i64 t256) ∧ w'.cell? ⟨gb254, 1, none⟩ = some (.slice Ao17 t257.length co17)) (ds := []) #[false, false, false, false, false, false, false, false, false, false, false, false, false, false, false, false, false, false, false, false, false, false, false, false, false, false, false] (by kernel_rfl) rfl rfl ⟨(blk_cell BK254.out 0).trans rfl, (blk_cell BK254.out 1).trans rfl⟩ (fun hHeld => ?_); refine with_tabW concordancelaw08_DocMay.tab5 concordancelaw08_DocMay.bits5 (fun HT_ HW_ => ?_)
          generalize w60.drew = w61 at HO259 HO263 HO267 BK254 BK255 BK268 HB hHeld ⊢
          refine take_ (i := 0) (N := some 21) (v := ?_) (a' := ?_) #[true, false, false, false, false, false, false, false, false, false, false, false, false, false, false, false, false, false, false, false, false, false, false, false, false, false, false] rfl rfl (take_ofW HT_.out HW_.out (by kernel_rfl)) (fun _ _ _ h => h) (Or.inl ⟨by rfl, ?_⟩) hHeld ?_ ?_
          rotate_left
          · rintro w' ⟨s0, s1⟩
            go_simp
            with_reducible rfl
          rotate_left
          · simp only [Act.put, List.setIfInBounds_toArray, List.set_cons_zero, List.set_cons_succ, i64_w, i32_w]
            rfl
          refine take_ (i := 2) (N := some 23) (v := ?_) (a' := ?_) #[true, false, true, false, false, false, false, false, false, false, false, false, false, false, false, false, false, false, false, false, false, false, false, false, false, false, false] rfl rfl (take_ofW HT_.out HW_.out (by kernel_rfl)) (fun _ _ _ h => h) (Or.inl ⟨by rfl, ?_⟩) hHeld ?_ ?_
          rotate_left
          · rintro w' ⟨s0, s1⟩
            go_simp
            with_reducible rfl
          rotate_left
          · simp only [Act.put, List.setIfInBounds_toArray, List.set_cons_zero, List.set_cons_succ, i64_w, i32_w]
            rfl
          refine one_ (i := 1) (N := some 22) #[true, true, true, false, false, false, false, false, false, false, false, false, false, false, false, false, false, false, false, false, false, false, false, false, false, false, false] rfl rfl (one_of HT_.out (by kernel_rfl)) (by decide) (fun K hK => ?_)
          refine goes_ Tryd.func6 (by kernel_rfl) rfl #[.agg #[.int .i64 t256, .slice Ao17 t257.length co17]] (by rfl) rfl rfl (by (try simp only [List.map_toArray, List.map_cons, List.map_nil]); first | done | rfl | (simp only [List.length_drop, List.length_take]; rfl)) ?_
          with_reducible refine (doc_May.calls t256 _ _ t257 t269 _ ?side1 ?side2 A29.out).mono ?_
          (case side1 => repeat (first | exact (Kd.R_reads' HO259.out).2.2 | (with_reducible refine Kd.C_alloc ?_ _) | (with_reducible refine Kd.C_drewN ?_ _) | (with_reducible refine Kd.C_drew ?_)))
          (case side2 => exact (Kd.R_reads' HO259.out).2.1)
          rintro e w62 ⟨rfl, hb⟩
          refine ⟨_, rfl, ?_⟩
          have n0_ := Aside0.mk (Kd.R_below (by (with_reducible repeat (first | apply Kd.R_alloc | apply Kd.R_drewN | apply Kd.R_drew)); exact HO259.out) hb)
          have n1_ := Aside0.mk (Kd.R_below (by (with_reducible repeat (first | apply Kd.R_alloc | apply Kd.R_drewN | apply Kd.R_drew)); exact HO263.out) hb)
          have n2_ := Aside0.mk (Kd.R_below (by (with_reducible repeat (first | apply Kd.R_alloc | apply Kd.R_drewN | apply Kd.R_drew)); exact HO267.out) hb)
          have n3_ := Aside0.mk (blk_below (g := gb254) (o := .cells #[.int .i64 t256, .slice Ao17 t257.length co17] 27 (0, 0)) (by (with_reducible repeat (first | refine blk_drewN ?_ _ | refine blk_drew ?_ | refine blk_alloc ?_ _)); exact BK254.out) hb)
          have n4_ := Aside0.mk (blk_below (g := gb255) (o := .cells #[.int .i64 t260, .slice Ao21 t261.length co21] 27 (0, 0)) (by (with_reducible repeat (first | refine blk_drewN ?_ _ | refine blk_drew ?_ | refine blk_alloc ?_ _)); exact BK255.out) hb)
          have n5_ := Aside0.mk (blk_below (g := gb268) (o := .cells #[.int .i64 t264, .slice Ao28 t265.length co28] 27 (0, 0)) (by (with_reducible repeat (first | refine blk_drewN ?_ _ | refine blk_drew ?_ | refine blk_alloc ?_ _)); exact BK268.out) hb)
          have n6_ := Aside0.mk (below_step (by repeat (first | (with_reducible first | exact HB.out | apply below_alloc | apply pw_below_drewN | apply below_drew1 | refine below_set ?_ GE254.out | refine below_set ?_ GE255.out | refine below_set ?_ GE268.out) | exact HB.out)) hb)
          clear HO259
          clear HO263
          clear HO267
          clear BK254
          clear BK255
          clear BK268
          clear HB
          have HO259 := n0_
          have HO263 := n1_
          have HO267 := n2_
          have BK254 := n3_
          have BK255 := n4_
          have BK268 := n5_
          have HB := n6_
          clear n0_ n1_ n2_ n3_ n4_ n5_ n6_
          (try clear hb)
          (try clear hb2)
          (try clear hk)
          (try clear hi)
          refine hK.out _ _ ⟨(blk_cell BK254.out 0).trans rfl, (blk_cell BK254.out 1).trans rfl⟩ (fun hHeld => ?_)
          clear hK K
          refine norm_ (a' := ?_) ?_ ?_
          rotate_left
          · show Act.put _ (some 22) _ = _
            simp only [Act.put, List.setIfInBounds_toArray, List.set_cons_zero, List.set_cons_succ, i64_w, i32_w]
            rfl
          refine one_ (i := 3) (N := some 24) #[true, true, true, true, false, false, false, false, false, false, false, false, false, false, false, false, false, false, false, false, false, false, false, false, false, false, false] rfl rfl (one_of HT_.out (by kernel_rfl)) (by decide) (fun K hK => ?_)
          refine goes_ Tryd.func11 (by kernel_rfl) rfl #[.agg #[.int .i64 t256, .slice Ao17 t257.length co17]] (by rfl) rfl rfl (by (try simp only [List.map_toArray, List.map_cons, List.map_nil]); first | done | rfl | (simp only [List.length_drop, List.length_take]; rfl)) ?_
          with_reducible refine (concordanceref08_May.calls k t256 _ _ t257 t270 _ ?side1 ?side2 A30.out).mono ?_
          (case side1 => repeat (first | exact (Kd.R_reads' HO259.out).2.2 | (with_reducible refine Kd.C_alloc ?_ _) | (with_reducible refine Kd.C_drewN ?_ _) | (with_reducible refine Kd.C_drew ?_)))
          (case side2 => exact (Kd.R_reads' HO259.out).2.1)
          rintro e w63 ⟨rfl, hb⟩
          refine ⟨_, rfl, ?_⟩
          have n0_ := Aside0.mk (Kd.R_below (by (with_reducible repeat (first | apply Kd.R_alloc | apply Kd.R_drewN | apply Kd.R_drew)); exact HO259.out) hb)
          have n1_ := Aside0.mk (Kd.R_below (by (with_reducible repeat (first | apply Kd.R_alloc | apply Kd.R_drewN | apply Kd.R_drew)); exact HO263.out) hb)
          have n2_ := Aside0.mk (Kd.R_below (by (with_reducible repeat (first | apply Kd.R_alloc | apply Kd.R_drewN | apply Kd.R_drew)); exact HO267.out) hb)
          have n3_ := Aside0.mk (blk_below (g := gb254) (o := .cells #[.int .i64 t256, .slice Ao17 t257.length co17] 27 (0, 0)) (by (with_reducible repeat (first | refine blk_drewN ?_ _ | refine blk_drew ?_ | refine blk_alloc ?_ _)); exact BK254.out) hb)
          have n4_ := Aside0.mk (blk_below (g := gb255) (o := .cells #[.int .i64 t260, .slice Ao21 t261.length co21] 27 (0, 0)) (by (with_reducible repeat (first | refine blk_drewN ?_ _ | refine blk_drew ?_ | refine blk_alloc ?_ _)); exact BK255.out) hb)
          have n5_ := Aside0.mk (blk_below (g := gb268) (o := .cells #[.int .i64 t264, .slice Ao28 t265.length co28] 27 (0, 0)) (by (with_reducible repeat (first | refine blk_drewN ?_ _ | refine blk_drew ?_ | refine blk_alloc ?_ _)); exact BK268.out) hb)
          have n6_ := Aside0.mk (below_step (by repeat (first | (with_reducible first | exact HB.out | apply below_alloc | apply pw_below_drewN | apply below_drew1 | refine below_set ?_ GE254.out | refine below_set ?_ GE255.out | refine below_set ?_ GE268.out) | exact HB.out)) hb)
          clear HO259
          clear HO263
          clear HO267
          clear BK254
          clear BK255
          clear BK268
          clear HB
          have HO259 := n0_
          have HO263 := n1_
          have HO267 := n2_
          have BK254 := n3_
          have BK255 := n4_
          have BK268 := n5_
          have HB := n6_
          clear n0_ n1_ n2_ n3_ n4_ n5_ n6_
          (try clear hb)
          (try clear hb2)
          (try clear hk)
          (try clear hi)
          refine hK.out _ _ ⟨(blk_cell BK254.out 0).trans rfl, (blk_cell BK254.out 1).trans rfl⟩ (fun hHeld => ?_)
          clear hK K
          refine norm_ (a' := ?_) ?_ ?_
          rotate_left
          · show Act.put _ (some 24) _ = _
            simp only [Act.put, List.setIfInBounds_toArray, List.set_cons_zero, List.set_cons_succ, i64_w, i32_w]
            rfl
          refine pure_ (i := 4) (N := some 25) (v := ?_) (a' := ?_) #[true, true, true, true, true, false, false, false, false, false, false, false, false, false, false, false, false, false, false, false, false, false, false, false, false, false, false] rfl rfl (any_of HT_.out (by kernel_rfl)) (fun _ _ _ h => h) (Or.inl ⟨by rfl, ?_⟩) ?_ ?_
          rotate_left
          · intro w'
            go_simp
            with_reducible rfl
          rotate_left
          · simp only [Act.put, List.setIfInBounds_toArray, List.set_cons_zero, List.set_cons_succ, i64_w, i32_w]
            rfl
          refine pure_ (i := 5) (N := some 26) (v := ?_) (a' := ?_) #[true, true, true, true, true, true, false, false, false, false, false, false, false, false, false, false, false, false, false, false, false, false, false, false, false, false, false] rfl rfl (any_of HT_.out (by kernel_rfl)) (fun _ _ _ h => h) (Or.inl ⟨by rfl, ?_⟩) ?_ ?_
          rotate_left
          · intro w'
            go_simp
            with_reducible rfl
          rotate_left
          · simp only [Act.put, List.setIfInBounds_toArray, List.set_cons_zero, List.set_cons_succ, i64_w, i32_w]
            rfl
          refine pure_ (i := 6) (N := some 27) (v := undef) (a' := ?_) #[true, true, true, true, true, true, true, false, false, false, false, false, false, false, false, false, false, false, false, false, false, false, false, false, false, false, false] rfl rfl (any_of HT_.out (by kernel_rfl)) (fun _ _ _ h => h) (Or.inr ⟨by rfl, rfl⟩) ?_ ?_
          rotate_left
          · simp only [Act.put, List.setIfInBounds_toArray, List.set_cons_zero, List.set_cons_succ, i64_w, i32_w]
            rfl
          refine pure_ (i := 7) (N := some 28) (v := undef) (a' := ?_) #[true, true, true, true, true, true, true, true, false, false, false, false, false, false, false, false, false, false, false, false, false, false, false, false, false, false, false] rfl rfl (any_of HT_.out (by kernel_rfl)) (fun _ _ _ h => h) (Or.inr ⟨by rfl, rfl⟩) ?_ ?_
          rotate_left
          · simp only [Act.put, List.setIfInBounds_toArray, List.set_cons_zero, List.set_cons_succ, i64_w, i32_w]
            rfl
          refine pure_ (i := 8) (N := some 29) (v := undef) (a' := ?_) #[true, true, true, true, true, true, true, true, true, false, false, false, false, false, false, false, false, false, false, false, false, false, false, false, false, false, false] rfl rfl (any_of HT_.out (by kernel_rfl)) (fun _ _ _ h => h) (Or.inr ⟨by rfl, rfl⟩) ?_ ?_
          rotate_left
          · simp only [Act.put, List.setIfInBounds_toArray, List.set_cons_zero, List.set_cons_succ, i64_w, i32_w]
            rfl
          refine pure_ (i := 9) (N := some 30) (v := undef) (a' := ?_) #[true, true, true, true, true, true, true, true, true, true, false, false, false, false, false, false, false, false, false, false, false, false, false, false, false, false, false] rfl rfl (any_of HT_.out (by kernel_rfl)) (fun _ _ _ h => h) (Or.inr ⟨by rfl, rfl⟩) ?_ ?_
          rotate_left
          · simp only [Act.put, List.setIfInBounds_toArray, List.set_cons_zero, List.set_cons_succ, i64_w, i32_w]
            rfl
          refine pure_ (i := 10) (N := some 31) (v := undef) (a' := ?_) #[true, true, true, true, true, true, true, true, true, true, true, false, false, false, false, false, false, false, false, false, false, false, false, false, false, false, false] rfl rfl (any_of HT_.out (by kernel_rfl)) (fun _ _ _ h => h) (Or.inr ⟨by rfl, rfl⟩) ?_ ?_
          rotate_left
          · simp only [Act.put, List.setIfInBounds_toArray, List.set_cons_zero, List.set_cons_succ, i64_w, i32_w]
            rfl
          refine pure_ (i := 11) (N := some 32) (v := undef) (a' := ?_) #[true, true, true, true, true, true, true, true, true, true, true, true, false, false, false, false, false, false, false, false, false, false, false, false, false, false, false] rfl rfl (any_of HT_.out (by kernel_rfl)) (fun _ _ _ h => h) (Or.inr ⟨by rfl, rfl⟩) ?_ ?_
          rotate_left
          · simp only [Act.put, List.setIfInBounds_toArray, List.set_cons_zero, List.set_cons_succ, i64_w, i32_w]
            rfl
          refine pure_ (i := 12) (N := some 33) (v := undef) (a' := ?_) #[true, true, true, true, true, true, true, true, true, true, true, true, true, false, false, false, false, false, false, false, false, false, false, false, false, false, false] rfl rfl (any_of HT_.out (by kernel_rfl)) (fun _ _ _ h => h) (Or.inr ⟨by rfl, rfl⟩) ?_ ?_
          rotate_left
          · simp only [Act.put, List.setIfInBounds_toArray, List.set_cons_zero, List.set_cons_succ, i64_w, i32_w]
            rfl
          refine pure_ (i := 13) (N := some 34) (v := ?_) (a' := ?_) #[true, true, true, true, true, true, true, true, true, true, true, true, true, true, false, false, false, false, false, false, false, false, false, false, false, false, false] rfl rfl (any_of HT_.out (by kernel_rfl)) (fun _ _ _ h => h) (Or.inl ⟨by rfl, ?_⟩) ?_ ?_
          rotate_left
          · intro w'
            go_simp
            with_reducible rfl
          rotate_left
          · simp only [Act.put, List.setIfInBounds_toArray, List.set_cons_zero, List.set_cons_succ, i64_w, i32_w]
            rfl
          refine pure_ (i := 14) (N := some 35) (v := ?_) (a' := ?_) #[true, true, true, true, true, true, true, true, true, true, true, true, true, true, true, false, false, false, false, false, false, false, false, false, false, false, false] rfl rfl (any_of HT_.out (by kernel_rfl)) (fun _ _ _ h => h) (Or.inl ⟨by rfl, ?_⟩) ?_ ?_
          rotate_left
          · intro w'
            go_simp
            with_reducible rfl
          rotate_left
          · simp only [Act.put, List.setIfInBounds_toArray, List.set_cons_zero, List.set_cons_succ, i64_w, i32_w]
            rfl
          refine pure_ (i := 15) (N := some 36) (v := undef) (a' := ?_) #[true, true, true, true, true, true, true, true, true, true, true, true, true, true, true, true, false, false, false, false, false, false, false, false, false, false, false] rfl rfl (any_of HT_.out (by kernel_rfl)) (fun _ _ _ h => h) (Or.inr ⟨by rfl, rfl⟩) ?_ ?_
          rotate_left
          · simp only [Act.put, List.setIfInBounds_toArray, List.set_cons_zero, List.set_cons_succ, i64_w, i32_w]
            rfl
          refine pure_ (i := 16) (N := some 37) (v := undef) (a' := ?_) #[true, true, true, true, true, true, true, true, true, true, true, true, true, true, true, true, true, false, false, false, false, false, false, false, false, false, false] rfl rfl (any_of HT_.out (by kernel_rfl)) (fun _ _ _ h => h) (Or.inr ⟨by rfl, rfl⟩) ?_ ?_
          rotate_left
          · simp only [Act.put, List.setIfInBounds_toArray, List.set_cons_zero, List.set_cons_succ, i64_w, i32_w]
            rfl
          refine pure_ (i := 17) (N := some 38) (v := undef) (a' := ?_) #[true, true, true, true, true, true, true, true, true, true, true, true, true, true, true, true, true, true, false, false, false, false, false, false, false, false, false] rfl rfl (any_of HT_.out (by kernel_rfl)) (fun _ _ _ h => h) (Or.inr ⟨by rfl, rfl⟩) ?_ ?_
          rotate_left
          · simp only [Act.put, List.setIfInBounds_toArray, List.set_cons_zero, List.set_cons_succ, i64_w, i32_w]
            rfl
          refine pure_ (i := 18) (N := some 39) (v := undef) (a' := ?_) #[true, true, true, true, true, true, true, true, true, true, true, true, true, true, true, true, true, true, true, false, false, false, false, false, false, false, false] rfl rfl (any_of HT_.out (by kernel_rfl)) (fun _ _ _ h => h) (Or.inr ⟨by rfl, rfl⟩) ?_ ?_
          rotate_left
          · simp only [Act.put, List.setIfInBounds_toArray, List.set_cons_zero, List.set_cons_succ, i64_w, i32_w]
            rfl
          refine pure_ (i := 19) (N := some 40) (v := ?_) (a' := ?_) #[true, true, true, true, true, true, true, true, true, true, true, true, true, true, true, true, true, true, true, true, false, false, false, false, false, false, false] rfl rfl (any_of HT_.out (by kernel_rfl)) (fun _ _ _ h => h) (Or.inl ⟨by rfl, ?_⟩) ?_ ?_
          rotate_left
          · intro w'
            go_simp
            with_reducible rfl
          rotate_left
          · simp only [Act.put, List.setIfInBounds_toArray, List.set_cons_zero, List.set_cons_succ, i64_w, i32_w]
            rfl
          refine pure_ (i := 20) (N := some 41) (v := ?_) (a' := ?_) #[true, true, true, true, true, true, true, true, true, true, true, true, true, true, true, true, true, true, true, true, true, false, false, false, false, false, false] rfl rfl (any_of HT_.out (by kernel_rfl)) (fun _ _ _ h => h) (Or.inl ⟨by rfl, ?_⟩) ?_ ?_
          rotate_left
          · intro w'
            go_simp
            with_reducible rfl
          rotate_left
          · simp only [Act.put, List.setIfInBounds_toArray, List.set_cons_zero, List.set_cons_succ, i64_w, i32_w]
            rfl
          refine pure_ (i := 21) (N := some 42) (v := undef) (a' := ?_) #[true, true, true, true, true, true, true, true, true, true, true, true, true, true, true, true, true, true, true, true, true, true, false, false, false, false, false] rfl rfl (any_of HT_.out (by kernel_rfl)) (fun _ _ _ h => h) (Or.inr ⟨by rfl, rfl⟩) ?_ ?_
          rotate_left
          · simp only [Act.put, List.setIfInBounds_toArray, List.set_cons_zero, List.set_cons_succ, i64_w, i32_w]
            rfl
          refine pure_ (i := 22) (N := some 43) (v := undef) (a' := ?_) #[true, true, true, true, true, true, true, true, true, true, true, true, true, true, true, true, true, true, true, true, true, true, true, false, false, false, false] rfl rfl (any_of HT_.out (by kernel_rfl)) (fun _ _ _ h => h) (Or.inr ⟨by rfl, rfl⟩) ?_ ?_
          rotate_left
          · simp only [Act.put, List.setIfInBounds_toArray, List.set_cons_zero, List.set_cons_succ, i64_w, i32_w]
            rfl
          refine pure_ (i := 23) (N := some 44) (v := undef) (a' := ?_) #[true, true, true, true, true, true, true, true, true, true, true, true, true, true, true, true, true, true, true, true, true, true, true, true, false, false, false] rfl rfl (any_of HT_.out (by kernel_rfl)) (fun _ _ _ h => h) (Or.inr ⟨by rfl, rfl⟩) ?_ ?_
          rotate_left
          · simp only [Act.put, List.setIfInBounds_toArray, List.set_cons_zero, List.set_cons_succ, i64_w, i32_w]
            rfl
          refine pure_ (i := 24) (N := some 45) (v := undef) (a' := ?_) #[true, true, true, true, true, true, true, true, true, true, true, true, true, true, true, true, true, true, true, true, true, true, true, true, true, false, false] rfl rfl (any_of HT_.out (by kernel_rfl)) (fun _ _ _ h => h) (Or.inr ⟨by rfl, rfl⟩) ?_ ?_
          rotate_left
          · simp only [Act.put, List.setIfInBounds_toArray, List.set_cons_zero, List.set_cons_succ, i64_w, i32_w]
            rfl
          refine pure_ (i := 25) (N := some 46) (v := undef) (a' := ?_) #[true, true, true, true, true, true, true, true, true, true, true, true, true, true, true, true, true, true, true, true, true, true, true, true, true, true, false] rfl rfl (any_of HT_.out (by kernel_rfl)) (fun _ _ _ h => h) (Or.inr ⟨by rfl, rfl⟩) ?_ ?_
          rotate_left
          · simp only [Act.put, List.setIfInBounds_toArray, List.set_cons_zero, List.set_cons_succ, i64_w, i32_w]
            rfl
          refine pure_ (i := 26) (N := some 47) (v := ?_) (a' := ?_) #[true, true, true, true, true, true, true, true, true, true, true, true, true, true, true, true, true, true, true, true, true, true, true, true, true, true, true] rfl rfl (any_of HT_.out (by kernel_rfl)) (fun _ _ _ h => h) (Or.inl ⟨by rfl, ?_⟩) ?_ ?_
          rotate_left
          · intro w'
            go_simp
            with_reducible rfl
          rotate_left
          · simp only [Act.put, List.setIfInBounds_toArray, List.set_cons_zero, List.set_cons_succ, i64_w, i32_w]
            rfl
          refine done_ (done_of HT_.out (by kernel_rfl)) ?_
          try go_wp2
          go_meet
          case rel => exact ⟨_, (true), (by first | rfl | (simp; done) | (simp [*]; done)), H', ⟨by first | omega | exact Nat.le_refl _⟩, ⟨by (with_reducible repeat (first | apply Kd.R_alloc | apply Kd.R_drewN | apply Kd.R_drew)); exact HO259.out⟩, ⟨by (with_reducible repeat (first | apply Kd.R_alloc | apply Kd.R_drewN | apply Kd.R_drew)); exact HO263.out⟩, ⟨by (with_reducible repeat (first | apply Kd.R_alloc | apply Kd.R_drewN | apply Kd.R_drew)); exact HO267.out⟩, ⟨by (with_reducible repeat (first | refine blk_drewN ?_ _ | refine blk_drew ?_ | refine blk_alloc ?_ _)); exact BK254.out⟩, ⟨by (with_reducible repeat (first | refine blk_drewN ?_ _ | refine blk_drew ?_ | refine blk_alloc ?_ _)); exact BK255.out⟩, ⟨by (with_reducible repeat (first | refine blk_drewN ?_ _ | refine blk_drew ?_ | refine blk_alloc ?_ _)); exact BK268.out⟩, ⟨by repeat (first | (with_reducible first | exact HB.out | apply below_alloc | apply pw_below_drewN | apply below_drew1 | refine below_set ?_ GE254.out | refine below_set ?_ GE255.out | refine below_set ?_ GE268.out) | exact HB.out)⟩⟩
      case rest =>
        clear HC10
        try clear c1
        try clear p2
        try clear c3
        try clear c6
        try clear c11
        try clear c12
        try clear c13
        try clear c31
        try clear c31b0
        try clear c31b1
        obtain ⟨kq, x47_9, rfl, HA, HJ9, HO_255001, HO_256001, HO_269001, BK254, BK255, BK268, HB⟩ := hcut
        cases kq with
        | zero => exact absurd HA.out (by simp [concordancelaw08_DocMay.j0])
        | succ kj9 =>
          have H := HA.out
          clear HA
          simp only [concordancelaw08_DocMay.j0] at H
          by_cases c64 : x47_9 = true
          · subst c64
            have H1 : (some false) = some r := by rw [if_pos rfl] at H; exact H
            clear H
            have H := H1
            clear H1
            obtain rfl := Option.some.inj H
            go_wp2
            go_ret
            exact ⟨by first | rfl | (simp [errW_none, errW_some] <;> rfl) | (simp only [← hji6]; first | rfl | (simp [errW_none, errW_some] <;> rfl)) | (simp [*, errW_none, errW_some] <;> rfl), by repeat (first | (with_reducible first | exact HB.out | apply below_alloc | apply pw_below_drewN | apply below_drew1 | refine below_set ?_ GE254.out | refine below_set ?_ GE255.out | refine below_set ?_ GE268.out) | exact HB.out)⟩
          · replace c64 := Bool.eq_false_iff.mpr c64
            subst c64
            have H1 : (concordancelaw08_DocMay.l0 kj9 0 t256 t257 t264 t265) = some r := by rw [if_neg (show ¬ (false = true) by decide)] at H; exact H
            clear H
            have H := H1
            clear H1
            have H' := Aside0.mk H
            clear H
            go_wp2
            go_loopg [8] kj9 (fun kq v8 w' => ∃ (x8_2 : Int) (x255001_2 : List (S24)) (x256001_2 : List (S24)) (x269001_2 : List (S24)) (u255001 : Value) (u256001 : Value) (u269001 : Value), v8 = .int .i64 x8_2 ∧ Aside0 (concordancelaw08_DocMay.l0 kq x8_2 t256 x255001_2 t264 x269001_2 = some r) ∧ Aside0 (kq ≤ kj9) ∧ Aside0 (Kd.R k24 24 w' w.heap.size (fun k_ => some k_ ≠ (u256001 : Value).ownBlock ∧ some k_ ≠ (u269001 : Value).ownBlock) u255001 x255001_2) ∧ Aside0 (Kd.R k24 24 w' w.heap.size (fun k_ => some k_ ≠ (u255001 : Value).ownBlock ∧ some k_ ≠ (u269001 : Value).ownBlock) u256001 x256001_2) ∧ Aside0 (Kd.R k24 24 w' w.heap.size (fun k_ => some k_ ≠ (u255001 : Value).ownBlock ∧ some k_ ≠ (u256001 : Value).ownBlock) u269001 x269001_2) ∧ Aside0 (w'.heap[gb254]? = some (.cells #[.int .i64 t256, u255001] 27 (0, 0))) ∧ Aside0 (w'.heap[gb255]? = some (.cells #[.int .i64 t260, u256001] 27 (0, 0))) ∧ Aside0 (w'.heap[gb268]? = some (.cells #[.int .i64 t264, u269001] 27 (0, 0))) ∧ Aside0 (Below w.heap.size w w'))
            case atStart => exact ⟨(0), (t257), (t261), (t265), (.slice Ao17 t257.length co17), (.slice Ao21 t261.length co21), (.slice Ao28 t265.length co28), (by first | rfl | (simp; done) | (simp [*]; done)), H', ⟨Nat.le_refl _⟩, ⟨by (with_reducible repeat (first | apply Kd.R_alloc | apply Kd.R_drewN | apply Kd.R_drew)); exact HO_255001.out⟩, ⟨by (with_reducible repeat (first | apply Kd.R_alloc | apply Kd.R_drewN | apply Kd.R_drew)); exact HO_256001.out⟩, ⟨by (with_reducible repeat (first | apply Kd.R_alloc | apply Kd.R_drewN | apply Kd.R_drew)); exact HO_269001.out⟩, ⟨by (with_reducible repeat (first | refine blk_drewN ?_ _ | refine blk_drew ?_ | refine blk_alloc ?_ _)); exact BK254.out⟩, ⟨by (with_reducible repeat (first | refine blk_drewN ?_ _ | refine blk_drew ?_ | refine blk_alloc ?_ _)); exact BK255.out⟩, ⟨by (with_reducible repeat (first | refine blk_drewN ?_ _ | refine blk_drew ?_ | refine blk_alloc ?_ _)); exact BK268.out⟩, ⟨by repeat (first | (with_reducible first | exact HB.out | apply below_alloc | apply pw_below_drewN | apply below_drew1 | refine below_set ?_ GE254.out | refine below_set ?_ GE255.out | refine below_set ?_ GE268.out) | exact HB.out)⟩⟩
            case round =>
              clear H'
              try clear c1
              try clear p2
              try clear c3
              try clear c6
              try clear c11
              try clear c12
              try clear c13
              try clear c31
              try clear c31b0
              try clear c31b1
              try clear c64
              try clear p2
              obtain ⟨x8_2, x255001_2, x256001_2, x269001_2, u255001, u256001, u269001, rfl, HA, HK2, HO_255001, HO_256001, HO_269001, BK254, BK255, BK268, HB⟩ := hrel
              cases gk with
              | zero => exact absurd HA.out (by simp [concordancelaw08_DocMay.l0])
              | succ k2 =>
                have H := HA.out
                clear HA
                simp only [concordancelaw08_DocMay.l0] at H
                by_cases c65 : x8_2 < (x269001_2.length : Int)
                · rw [if_pos c65] at H
                  have c65b0 : decide (x8_2 < (x269001_2.length : Int)) = true := decide_eq_true c65
                  clear c65
                  by_cases c66 : 0 ≤ x8_2
                  · rw [if_pos c66] at H
                    have c66b0 : decide (0 ≤ x8_2) = true := decide_eq_true c66
                    clear c66
                    by_cases c67 : x8_2 < (x255001_2.length : Int)
                    · rw [if_pos c67] at H
                      have c67b0 : decide (x8_2 < (x255001_2.length : Int)) = true := decide_eq_true c67
                      clear c67
                      by_cases c68 : ((rd_T24 x255001_2 x8_2).f0).size + 1 ≤ 9223372036854775807
                      · rw [if_pos c68] at H
                        have c68b0 := eq_true c68
                        have c68b1 : decide (((rd_T24 x255001_2 x8_2).f0).size + 1 ≤ 9223372036854775807) = true := decide_eq_true c68
                        try have c68b2 : (9223372036854775807 < ((rd_T24 x255001_2 x8_2).f0).size + 1) = False := eq_false (Nat.not_lt.2 c68)
                        obtain ⟨y277, hy277⟩ : ∃ y_ : List (S24), y_ = (x269001_2.set (x8_2 : Int).toNat (⟨((rd_T24 x255001_2 x8_2).f0) ++ (⟨#[120]⟩ : ByteArray), (rd_T24 x269001_2 x8_2).f1⟩ : S24)) := ⟨_, rfl⟩
                        replace H : (concordancelaw08_DocMay.l0 k2 (wrap64 (x8_2 + 1)) t256 x255001_2 t264 y277) = some r := by rw [hy277]; simpa using H
                        have Ny277 := Aside0.mk hy277
                        clear hy277
                        by_cases c70 : ((rd_T24 x255001_2 x8_2).f0).toList = ((rd_T24 x255001_2 x8_2).f0).toList
                        · skip
                          have c70b0 : (((rd_T24 x255001_2 x8_2).f0).toList == ((rd_T24 x255001_2 x8_2).f0).toList) = true := beq_iff_eq.mpr c70
                          have c70b1 : (((rd_T24 x255001_2 x8_2).f0).toList != ((rd_T24 x255001_2 x8_2).f0).toList) = false := bne_eq_false_iff_eq.mpr c70
                          clear c70
                          have H' := Aside0.mk H
                          clear H
                          have hnb71 := NB268_254.out
                          have hnc71 := NB254_268.out
                          have hnb72 := NB268_255.out
                          have hnc72 := NB255_268.out
                          have hcz73_0 : wr.cell? ⟨gb268, 0, none⟩ = some (.int .i64 t264) := (blk_cell BK268.out 0).trans rfl
                          have hcz73_1 : wr.cell? ⟨gb268, 1, none⟩ = some (u269001) := (blk_cell BK268.out 1).trans rfl
                          have hfz73_0 := blk_frozen BK268.out 0
                          have hfz73_1 := blk_frozen BK268.out 1
                          obtain ⟨Ao74, co74, eo74⟩ := Kd.R_slice HO_269001.out
                          subst eo74
                          have hnb75 := NB254_255.out
                          have hnc75 := NB255_254.out
                          have hcz76_0 : wr.cell? ⟨gb254, 0, none⟩ = some (.int .i64 t256) := (blk_cell BK254.out 0).trans rfl
                          have hcz76_1 : wr.cell? ⟨gb254, 1, none⟩ = some (u255001) := (blk_cell BK254.out 1).trans rfl
                          have hfz76_0 := blk_frozen BK254.out 0
                          have hfz76_1 := blk_frozen BK254.out 1
                          obtain ⟨Ao77, co77, eo77⟩ := Kd.R_slice HO_255001.out
                          subst eo77
                          have p276 : 0 ≤ (x8_2 : Int) := of_decide_eq_true (by first | (with_reducible assumption) | assumption)
                          have q276 : x8_2 < (x255001_2.length : Int) := of_decide_eq_true (by first | (with_reducible assumption) | assumption)
                          obtain ⟨ad276, e276, hx276_0, hx276_1⟩ := at_T24 (Kd.R_reads' HO_255001.out).2.2 x8_2 p276 q276
                          cases e276
                          replace p276 := eq_true p276
                          replace q276 := eq_true q276
                          have p69 : 0 ≤ (x8_2 : Int) := of_decide_eq_true (by first | (with_reducible assumption) | assumption)
                          have q69 : (x8_2 : Int) < ((x269001_2.length : Int) : Int) := of_decide_eq_true (by first | (with_reducible assumption) | assumption)
                          obtain ⟨go69, co69, eo69, gb69, gl69, cl69, HG69⟩ := Kd.R_form HO_269001.out (by omega)
                          (first | cases eo69 | (injection eo69 with ea_ en_ ec_; (first | subst ea_ | (injection ea_ with ea_; subst ea_)); subst ec_; clear en_))
                          have GB69 := Aside0.mk gb69
                          have GG69 := Aside0.mk HG69
                          clear gb69 gl69 HG69
                          obtain ⟨ce69, hcl69, hM69, hcc69, hfr69⟩ := Kd.R_elem HO_269001.out z24 (x8_2 : Int) p69 q69
                          obtain rfl := k24_openM hM69
                          have hx69_0 : wr.cell? ⟨go69, (x8_2 : Int).toNat * 2, none⟩ = some (.string ((rd_T24 x269001_2 x8_2).f0)) := hcc69 0 _ rfl
                          have hx69_1 : wr.cell? ⟨go69, (x8_2 : Int).toNat * 2 + 1, none⟩ = some (.string ((rd_T24 x269001_2 x8_2).f1)) := hcc69 1 _ rfl
                          have hf69_0 : wr.frozen? ⟨go69, (x8_2 : Int).toNat * 2, none⟩ = false := hfr69 0
                          have hf69_1 : wr.frozen? ⟨go69, (x8_2 : Int).toNat * 2 + 1, none⟩ = false := hfr69 1
                          clear hcl69 hcc69 hfr69 hM69
                          replace p69 := eq_true p69
                          replace q69 := eq_true q69
                          have HX78 := Aside0.mk (show Kd.R k24 24 wr w.heap.size (fun k_ => some k_ ≠ (.slice (some ad276) x255001_2.length co77 : Value).ownBlock ∧ some k_ ≠ (u256001 : Value).ownBlock) (.slice (some ⟨go69, 0, none⟩) x269001_2.length co74) x269001_2 from (by (with_reducible repeat (first | apply Kd.R_alloc | apply Kd.R_drewN | apply Kd.R_drew)); exact HO_269001.out))
                          obtain ⟨ce78, hcl78, hM78, hcc78, hfr78⟩ := Kd.R_elem HX78.out z24 (x8_2 : Int) (of_decide_eq_true (by first | (with_reducible assumption) | assumption)) (by have h_ : (x8_2 : Int) < ((x269001_2.length : Int) : Int) := of_decide_eq_true (by first | (with_reducible assumption) | assumption); first | exact h_ | (have e_ := (Kd.R_reads' HO_269001.out).1; omega) | simpa using h_)
                          obtain rfl := k24_openM hM78
                          have HP78 := Kd.R_seg HX78.out (x8_2 : Int) (of_decide_eq_true (by first | (with_reducible assumption) | assumption)) (by have h_ : (x8_2 : Int) < ((x269001_2.length : Int) : Int) := of_decide_eq_true (by first | (with_reducible assumption) | assumption); first | exact h_ | (have e_ := (Kd.R_reads' HO_269001.out).1; omega) | simpa using h_) (seg := [.string (((rd_T24 x255001_2 x8_2).f0) ++ (⟨#[120]⟩ : ByteArray))]) (j := 0) hcl78 hcc78 (show 1 ≤ 2 from by decide) (x' := (⟨((rd_T24 x255001_2 x8_2).f0) ++ (⟨#[120]⟩ : ByteArray), (rd_T24 x269001_2 x8_2).f1⟩ : S24)) (k24_mkM _ _ _ (⟨((rd_T24 x255001_2 x8_2).f0) ++ (⟨#[120]⟩ : ByteArray), (rd_T24 x269001_2 x8_2).f1⟩ : S24) ) (fun _ hk => hk)
                          have hx78_0 := hcc78 0 _ rfl
                          (try simp only [show (k24).sz = 2 from rfl, Nat.mul_one, Nat.add_zero] at hx78_0)
                          have hf78_0 := hfr78 0
                          (try simp only [show (k24).sz = 2 from rfl, Nat.mul_one, Nat.add_zero] at hf78_0)
                          clear hcl78 hcc78 hfr78 hM78
                          go_wp2_with (first | ((with_reducible refine gate_store (t := 9) (p := 67) rfl ?_); refine store_event (t := 9) (p := 67) (v := ?vo_w79) (w1 := (wr.setCell ⟨go69, (x8_2 : Int).toNat * 2, none⟩ (.string (((rd_T24 x255001_2 x8_2).f0) ++ (⟨#[120]⟩ : ByteArray))))) ?hg ?ho ?hn ?hr ?_; (case ho => rfl); (case hg => rfl); (case hn => rfl); (case hr => first | (go_simp; done) | (go_simp; rfl)); intro w79 hw; have hg : wr.grownBy w79 (some go69) := (by rw [hw]; exact HP78.2); have hp_ : Kd.R k24 24 w79 w.heap.size (fun k_ => some k_ ≠ (.slice (some ad276) x255001_2.length co77 : Value).ownBlock ∧ some k_ ≠ (u256001 : Value).ownBlock) (.slice (some ⟨go69, 0, none⟩) x269001_2.length co74) y277 := (by rw [hw, Ny277.out]; exact HP78.1); clear HP78; have n0_ := Aside0.mk (Kd.R_after (v := (.slice (some ⟨go69, 0, none⟩) x269001_2.length co74)) (v1 := (.slice (some ⟨go69, 0, none⟩) x269001_2.length co74)) (ok := (fun k_ => some k_ ≠ (u256001 : Value).ownBlock)) (by (with_reducible repeat (first | apply Kd.R_alloc | apply Kd.R_drewN | apply Kd.R_drew)); exact HO_255001.out) hg (.inl rfl)); have n1_ := Aside0.mk (Kd.R_after (v := (.slice (some ⟨go69, 0, none⟩) x269001_2.length co74)) (v1 := (.slice (some ⟨go69, 0, none⟩) x269001_2.length co74)) (ok := (fun k_ => some k_ ≠ (.slice (some ad276) x255001_2.length co77 : Value).ownBlock)) (by (with_reducible repeat (first | apply Kd.R_alloc | apply Kd.R_drewN | apply Kd.R_drew)); exact HO_256001.out) hg (.inl rfl)); have n2_ := Aside0.mk (hp_); have n3_ := Aside0.mk (blk_grown (g := gb254) (o := .cells #[.int .i64 t256, .slice (some ad276) x255001_2.length co77] 27 (0, 0)) (by (with_reducible repeat (first | refine blk_drewN ?_ _ | refine blk_drew ?_ | refine blk_alloc ?_ _)); exact BK254.out) hg (Kd.R_ne HO_269001.out BK254.out (by decide))); have n4_ := Aside0.mk (blk_grown (g := gb255) (o := .cells #[.int .i64 t260, u256001] 27 (0, 0)) (by (with_reducible repeat (first | refine blk_drewN ?_ _ | refine blk_drew ?_ | refine blk_alloc ?_ _)); exact BK255.out) hg (Kd.R_ne HO_269001.out BK255.out (by decide))); have n5_ := Aside0.mk (blk_grown (g := gb268) (o := .cells #[.int .i64 t264, .slice (some ⟨go69, 0, none⟩) x269001_2.length co74] 27 (0, 0)) (by (with_reducible repeat (first | refine blk_drewN ?_ _ | refine blk_drew ?_ | refine blk_alloc ?_ _)); exact BK268.out) hg (Kd.R_ne HO_269001.out BK268.out (by decide))); have n6_ := Aside0.mk ((by rw [hw]; exact below_set (HB.out) GB69.out : Below w.heap.size w w79)); clear HO_255001; clear HO_256001; clear HO_269001; clear BK254; clear BK255; clear BK268; clear HB; have HO_255001 := n0_; have HO_256001 := n1_; have HO_269001 := n2_; have BK254 := n3_; have BK255 := n4_; have BK268 := n5_; have HB := n6_; clear n0_ n1_ n2_ n3_ n4_ n5_ n6_; clear hg hw hp_; have hcz80_0 : w79.cell? ⟨gb254, 0, none⟩ = some (.int .i64 t256) := (blk_cell BK254.out 0).trans rfl; have hcz80_1 : w79.cell? ⟨gb254, 1, none⟩ = some (.slice (some ad276) x255001_2.length co77) := (blk_cell BK254.out 1).trans rfl; have hfz80_0 := blk_frozen BK254.out 0; have hfz80_1 := blk_frozen BK254.out 1; have p278 : 0 ≤ (x8_2 : Int) := of_decide_eq_true (by first | (with_reducible assumption) | assumption); have q278 : x8_2 < (x255001_2.length : Int) := of_decide_eq_true (by first | (with_reducible assumption) | assumption); obtain ⟨ad278, e278, hx278_0, hx278_1⟩ := at_T24 (Kd.R_reads' HO_255001.out).2.2 x8_2 p278 q278; obtain rfl : ad276 = ad278 := (by injection e278); replace p278 := eq_true p278; replace q278 := eq_true q278))
                          go_roundg k2
                          case measure => have := HJ9.out; have := HK2.out; omega
                          case rel => exact ⟨(wrap64 (x8_2 + 1)), (x255001_2), (x256001_2), (y277), (.slice (some ad276) x255001_2.length co77), (u256001), (.slice (some ⟨go69, 0, none⟩) x269001_2.length co74), (by first | rfl | (simp; done) | (simp [*]; done)), H', ⟨by have := HJ9.out; have := HK2.out; omega⟩, ⟨by (with_reducible repeat (first | apply Kd.R_alloc | apply Kd.R_drewN | apply Kd.R_drew)); exact HO_255001.out⟩, ⟨by (with_reducible repeat (first | apply Kd.R_alloc | apply Kd.R_drewN | apply Kd.R_drew)); exact HO_256001.out⟩, ⟨by (with_reducible repeat (first | apply Kd.R_alloc | apply Kd.R_drewN | apply Kd.R_drew)); exact HO_269001.out⟩, ⟨by (with_reducible repeat (first | refine blk_drewN ?_ _ | refine blk_drew ?_ | refine blk_alloc ?_ _)); exact BK254.out⟩, ⟨by (with_reducible repeat (first | refine blk_drewN ?_ _ | refine blk_drew ?_ | refine blk_alloc ?_ _)); exact BK255.out⟩, ⟨by (with_reducible repeat (first | refine blk_drewN ?_ _ | refine blk_drew ?_ | refine blk_alloc ?_ _)); exact BK268.out⟩, ⟨by repeat (first | (with_reducible first | exact HB.out | apply below_alloc | apply pw_below_drewN | apply below_drew1 | refine below_set ?_ GE254.out | refine below_set ?_ GE255.out | refine below_set ?_ GE268.out) | exact HB.out)⟩⟩
                        · exact absurd rfl c70
                      · rw [if_neg c68] at H
                        exact absurd H (by simp)
                    · rw [if_neg c67] at H
                      exact absurd H (by simp)
                  · rw [if_neg c66] at H
                    exact absurd H (by simp)
                · rw [if_neg c65] at H
                  have c65b0 : decide (x8_2 < (x269001_2.length : Int)) = false := decide_eq_false c65
                  clear c65
                  replace H := Option.bind_eq_some_iff.mp H
                  obtain ⟨⟨t279, t280⟩, A910, H⟩ := H
                  replace H : ((doc_May.f t279 t280).bind fun t283 => (if t283 = 0 then ((concordancelaw08_lives.f k2).bind fun t284 => (some t284)) else (some false))) = some r := H
                  have A91 := Aside0.mk A910
                  clear A910
                  replace H := Option.bind_eq_some_iff.mp H
                  obtain ⟨t283, A920, H⟩ := H
                  replace H : (if t283 = 0 then ((concordancelaw08_lives.f k2).bind fun t284 => (some t284)) else (some false)) = some r := H
                  have A92 := Aside0.mk A920
                  clear A920
                  by_cases c93 : t283 = 0
                  · rw [if_pos c93] at H
                    have c93b0 : (t283 == 0) = true := beq_iff_eq.mpr c93
                    have c93b1 : (t283 != 0) = false := bne_eq_false_iff_eq.mpr c93
                    clear c93
                    replace H := Option.bind_eq_some_iff.mp H
                    obtain ⟨t284, A940, H⟩ := H
                    replace H : (some t284) = some r := H
                    have A94 := Aside0.mk A940
                    clear A940
                    obtain rfl := Option.some.inj H
                    have hnb95 := NB268_254.out
                    have hnc95 := NB254_268.out
                    have hnb96 := NB268_255.out
                    have hnc96 := NB255_268.out
                    have hcz97_0 : wr.cell? ⟨gb268, 0, none⟩ = some (.int .i64 t264) := (blk_cell BK268.out 0).trans rfl
                    have hcz97_1 : wr.cell? ⟨gb268, 1, none⟩ = some (u269001) := (blk_cell BK268.out 1).trans rfl
                    have hfz97_0 := blk_frozen BK268.out 0
                    have hfz97_1 := blk_frozen BK268.out 1
                    obtain ⟨Ao98, co98, eo98⟩ := Kd.R_slice HO_269001.out
                    subst eo98
                    have hnb99 := NB254_255.out
                    have hnc99 := NB255_254.out
                    have hcz100_0 : wr.cell? ⟨gb254, 0, none⟩ = some (.int .i64 t256) := (blk_cell BK254.out 0).trans rfl
                    have hcz100_1 : wr.cell? ⟨gb254, 1, none⟩ = some (u255001) := (blk_cell BK254.out 1).trans rfl
                    have hfz100_0 := blk_frozen BK254.out 0
                    have hfz100_1 := blk_frozen BK254.out 1
                    obtain ⟨Ao101, co101, eo101⟩ := Kd.R_slice HO_255001.out
                    subst eo101
                    go_wp2_with (first | ((with_reducible refine gate_callee (f := 16) rfl ?_); refine goesL_ (some 77) rfl rfl Tryd.func16 (by kernel_rfl) rfl #[.agg #[.int .i64 t256, .slice Ao101 x255001_2.length co101]] rfl (by (try simp only [List.map_toArray, List.map_cons, List.map_nil]); first | done | rfl | (simp only [List.length_drop, List.length_take]; rfl)) ?_; (with_reducible refine (concordanceref08_Good.calls k2 t256 _ _ x255001_2 t279 t280 _ ?side1 ?side2 A91.out).mono ?_); (case side1 => repeat (first | exact (Kd.R_reads' HO_255001.out).2.2 | (with_reducible refine Kd.C_alloc ?_ _) | (with_reducible refine Kd.C_drewN ?_ _) | (with_reducible refine Kd.C_drew ?_))); (case side2 => exact (Kd.R_reads' HO_255001.out).2.1); rintro e w102 ⟨v281, rfl, ho0, hb⟩; refine ⟨_, rfl, ?_⟩; have n0_ := Aside0.mk (Kd.R_elder' (by (with_reducible repeat (first | apply Kd.R_alloc | apply Kd.R_drewN | apply Kd.R_drew)); exact HO_255001.out) (Kd.R_base ho0) hb); have n1_ := Aside0.mk (Kd.R_elder' (by (with_reducible repeat (first | apply Kd.R_alloc | apply Kd.R_drewN | apply Kd.R_drew)); exact HO_256001.out) (Kd.R_base ho0) hb); have n2_ := Aside0.mk (Kd.R_elder' (by (with_reducible repeat (first | apply Kd.R_alloc | apply Kd.R_drewN | apply Kd.R_drew)); exact HO_269001.out) (Kd.R_base ho0) hb); have n3_ := Aside0.mk (Kd.R_lower (Kd.R_new' (Kd.R_new' (Kd.R_new' ho0 (Kd.R_lt (by (with_reducible repeat (first | apply Kd.R_alloc | apply Kd.R_drewN | apply Kd.R_drew)); exact HO_255001.out))) (Kd.R_lt (by (with_reducible repeat (first | apply Kd.R_alloc | apply Kd.R_drewN | apply Kd.R_drew)); exact HO_256001.out))) (Kd.R_lt (by (with_reducible repeat (first | apply Kd.R_alloc | apply Kd.R_drewN | apply Kd.R_drew)); exact HO_269001.out))) (below_size (by repeat (first | (with_reducible first | exact HB.out | apply below_alloc | apply pw_below_drewN | apply below_drew1 | refine below_set ?_ GE254.out | refine below_set ?_ GE255.out | refine below_set ?_ GE268.out) | exact HB.out)))); have n4_ := Aside0.mk (blk_below (g := gb254) (o := .cells #[.int .i64 t256, .slice Ao101 x255001_2.length co101] 27 (0, 0)) (by (with_reducible repeat (first | refine blk_drewN ?_ _ | refine blk_drew ?_ | refine blk_alloc ?_ _)); exact BK254.out) hb); have n5_ := Aside0.mk (blk_below (g := gb255) (o := .cells #[.int .i64 t260, u256001] 27 (0, 0)) (by (with_reducible repeat (first | refine blk_drewN ?_ _ | refine blk_drew ?_ | refine blk_alloc ?_ _)); exact BK255.out) hb); have n6_ := Aside0.mk (blk_below (g := gb268) (o := .cells #[.int .i64 t264, .slice Ao98 x269001_2.length co98] 27 (0, 0)) (by (with_reducible repeat (first | refine blk_drewN ?_ _ | refine blk_drew ?_ | refine blk_alloc ?_ _)); exact BK268.out) hb); have n7_ := Aside0.mk (below_step (by repeat (first | (with_reducible first | exact HB.out | apply below_alloc | apply pw_below_drewN | apply below_drew1 | refine below_set ?_ GE254.out | refine below_set ?_ GE255.out | refine below_set ?_ GE268.out) | exact HB.out)) hb); clear HO_255001; clear HO_256001; clear HO_269001; clear BK254; clear BK255; clear BK268; clear HB; have HO_255001 := n0_; have HO_256001 := n1_; have HO_269001 := n2_; have HO282 := n3_; have BK254 := n4_; have BK255 := n5_; have BK268 := n6_; have HB := n7_; clear n0_ n1_ n2_ n3_ n4_ n5_ n6_ n7_; (try clear hb); (try clear hb2); (try clear hk); (try clear hi); (try clear ho0); obtain ⟨Ao103, co103, eo103⟩ := Kd.R_slice HO282.out; subst eo103) | ((with_reducible refine gate_callee (f := 6) rfl ?_); refine goesL_ (some 78) rfl rfl Tryd.func6 (by kernel_rfl) rfl #[.agg #[.int .i64 t279, .slice Ao103 t280.length co103]] rfl (by (try simp only [List.map_toArray, List.map_cons, List.map_nil]); first | done | rfl | (simp only [List.length_drop, List.length_take]; rfl)) ?_; (with_reducible refine (doc_May.calls t279 _ _ t280 t283 _ ?side1 ?side2 A92.out).mono ?_); (case side1 => repeat (first | exact (Kd.R_reads' HO282.out).2.2 | (with_reducible refine Kd.C_alloc ?_ _) | (with_reducible refine Kd.C_drewN ?_ _) | (with_reducible refine Kd.C_drew ?_))); (case side2 => exact (Kd.R_reads' HO282.out).2.1); rintro e w104 ⟨rfl, hb⟩; refine ⟨_, rfl, ?_⟩; have n0_ := Aside0.mk (Kd.R_below (by (with_reducible repeat (first | apply Kd.R_alloc | apply Kd.R_drewN | apply Kd.R_drew)); exact HO_255001.out) hb); have n1_ := Aside0.mk (Kd.R_below (by (with_reducible repeat (first | apply Kd.R_alloc | apply Kd.R_drewN | apply Kd.R_drew)); exact HO_256001.out) hb); have n2_ := Aside0.mk (Kd.R_below (by (with_reducible repeat (first | apply Kd.R_alloc | apply Kd.R_drewN | apply Kd.R_drew)); exact HO_269001.out) hb); have n3_ := Aside0.mk (Kd.R_below (by (with_reducible repeat (first | apply Kd.R_alloc | apply Kd.R_drewN | apply Kd.R_drew)); exact HO282.out) hb); have n4_ := Aside0.mk (blk_below (g := gb254) (o := .cells #[.int .i64 t256, .slice Ao101 x255001_2.length co101] 27 (0, 0)) (by (with_reducible repeat (first | refine blk_drewN ?_ _ | refine blk_drew ?_ | refine blk_alloc ?_ _)); exact BK254.out) hb); have n5_ := Aside0.mk (blk_below (g := gb255) (o := .cells #[.int .i64 t260, u256001] 27 (0, 0)) (by (with_reducible repeat (first | refine blk_drewN ?_ _ | refine blk_drew ?_ | refine blk_alloc ?_ _)); exact BK255.out) hb); have n6_ := Aside0.mk (blk_below (g := gb268) (o := .cells #[.int .i64 t264, .slice Ao98 x269001_2.length co98] 27 (0, 0)) (by (with_reducible repeat (first | refine blk_drewN ?_ _ | refine blk_drew ?_ | refine blk_alloc ?_ _)); exact BK268.out) hb); have n7_ := Aside0.mk (below_step (by repeat (first | (with_reducible first | exact HB.out | apply below_alloc | apply pw_below_drewN | apply below_drew1 | refine below_set ?_ GE254.out | refine below_set ?_ GE255.out | refine below_set ?_ GE268.out) | exact HB.out)) hb); clear HO_255001; clear HO_256001; clear HO_269001; clear HO282; clear BK254; clear BK255; clear BK268; clear HB; have HO_255001 := n0_; have HO_256001 := n1_; have HO_269001 := n2_; have HO282 := n3_; have BK254 := n4_; have BK255 := n5_; have BK268 := n6_; have HB := n7_; clear n0_ n1_ n2_ n3_ n4_ n5_ n6_ n7_; (try clear hb); (try clear hb2); (try clear hk); (try clear hi)) | (go_at_call 8; (with_reducible refine (concordancelaw08_lives.calls k2  t284 _ A94.out).mono ?_); rintro e w105 ⟨rfl, hb⟩; have n0_ := Aside0.mk (Kd.R_below (by (with_reducible repeat (first | apply Kd.R_alloc | apply Kd.R_drewN | apply Kd.R_drew)); exact HO_255001.out) hb); have n1_ := Aside0.mk (Kd.R_below (by (with_reducible repeat (first | apply Kd.R_alloc | apply Kd.R_drewN | apply Kd.R_drew)); exact HO_256001.out) hb); have n2_ := Aside0.mk (Kd.R_below (by (with_reducible repeat (first | apply Kd.R_alloc | apply Kd.R_drewN | apply Kd.R_drew)); exact HO_269001.out) hb); have n3_ := Aside0.mk (Kd.R_below (by (with_reducible repeat (first | apply Kd.R_alloc | apply Kd.R_drewN | apply Kd.R_drew)); exact HO282.out) hb); have n4_ := Aside0.mk (blk_below (g := gb254) (o := .cells #[.int .i64 t256, .slice Ao101 x255001_2.length co101] 27 (0, 0)) (by (with_reducible repeat (first | refine blk_drewN ?_ _ | refine blk_drew ?_ | refine blk_alloc ?_ _)); exact BK254.out) hb); have n5_ := Aside0.mk (blk_below (g := gb255) (o := .cells #[.int .i64 t260, u256001] 27 (0, 0)) (by (with_reducible repeat (first | refine blk_drewN ?_ _ | refine blk_drew ?_ | refine blk_alloc ?_ _)); exact BK255.out) hb); have n6_ := Aside0.mk (blk_below (g := gb268) (o := .cells #[.int .i64 t264, .slice Ao98 x269001_2.length co98] 27 (0, 0)) (by (with_reducible repeat (first | refine blk_drewN ?_ _ | refine blk_drew ?_ | refine blk_alloc ?_ _)); exact BK268.out) hb); have n7_ := Aside0.mk (below_step (by repeat (first | (with_reducible first | exact HB.out | apply below_alloc | apply pw_below_drewN | apply below_drew1 | refine below_set ?_ GE254.out | refine below_set ?_ GE255.out | refine below_set ?_ GE268.out) | exact HB.out)) hb); clear HO_255001; clear HO_256001; clear HO_269001; clear HO282; clear BK254; clear BK255; clear BK268; clear HB; have HO_255001 := n0_; have HO_256001 := n1_; have HO_269001 := n2_; have HO282 := n3_; have BK254 := n4_; have BK255 := n5_; have BK268 := n6_; have HB := n7_; clear n0_ n1_ n2_ n3_ n4_ n5_ n6_ n7_; (try clear hb); (try clear hb2); (try clear hk); (try clear hi)))
                    go_ret
                    exact ⟨by first | rfl | (simp [errW_none, errW_some] <;> rfl) | (simp only [← hji6]; first | rfl | (simp [errW_none, errW_some] <;> rfl)) | (simp [*, errW_none, errW_some] <;> rfl), by repeat (first | (with_reducible first | exact HB.out | apply below_alloc | apply pw_below_drewN | apply below_drew1 | refine below_set ?_ GE254.out | refine below_set ?_ GE255.out | refine below_set ?_ GE268.out) | exact HB.out)⟩
                  · rw [if_neg c93] at H
                    have c93b0 : (t283 == 0) = false := beq_eq_false_iff_ne.mpr c93
                    have c93b1 : (t283 != 0) = true := bne_iff_ne.mpr c93
                    obtain rfl := Option.some.inj H
                    have hnb106 := NB268_254.out
                    have hnc106 := NB254_268.out
                    have hnb107 := NB268_255.out
                    have hnc107 := NB255_268.out
                    have hcz108_0 : wr.cell? ⟨gb268, 0, none⟩ = some (.int .i64 t264) := (blk_cell BK268.out 0).trans rfl
                    have hcz108_1 : wr.cell? ⟨gb268, 1, none⟩ = some (u269001) := (blk_cell BK268.out 1).trans rfl
                    have hfz108_0 := blk_frozen BK268.out 0
                    have hfz108_1 := blk_frozen BK268.out 1
                    obtain ⟨Ao109, co109, eo109⟩ := Kd.R_slice HO_269001.out
                    subst eo109
                    have hnb110 := NB254_255.out
                    have hnc110 := NB255_254.out
                    have hcz111_0 : wr.cell? ⟨gb254, 0, none⟩ = some (.int .i64 t256) := (blk_cell BK254.out 0).trans rfl
                    have hcz111_1 : wr.cell? ⟨gb254, 1, none⟩ = some (u255001) := (blk_cell BK254.out 1).trans rfl
                    have hfz111_0 := blk_frozen BK254.out 0
                    have hfz111_1 := blk_frozen BK254.out 1
                    obtain ⟨Ao112, co112, eo112⟩ := Kd.R_slice HO_255001.out
                    subst eo112
                    go_wp2_with (first | ((with_reducible refine gate_callee (f := 16) rfl ?_); refine goesL_ (some 77) rfl rfl Tryd.func16 (by kernel_rfl) rfl #[.agg #[.int .i64 t256, .slice Ao112 x255001_2.length co112]] rfl (by (try simp only [List.map_toArray, List.map_cons, List.map_nil]); first | done | rfl | (simp only [List.length_drop, List.length_take]; rfl)) ?_; (with_reducible refine (concordanceref08_Good.calls k2 t256 _ _ x255001_2 t279 t280 _ ?side1 ?side2 A91.out).mono ?_); (case side1 => repeat (first | exact (Kd.R_reads' HO_255001.out).2.2 | (with_reducible refine Kd.C_alloc ?_ _) | (with_reducible refine Kd.C_drewN ?_ _) | (with_reducible refine Kd.C_drew ?_))); (case side2 => exact (Kd.R_reads' HO_255001.out).2.1); rintro e w113 ⟨v281, rfl, ho0, hb⟩; refine ⟨_, rfl, ?_⟩; have n0_ := Aside0.mk (Kd.R_elder' (by (with_reducible repeat (first | apply Kd.R_alloc | apply Kd.R_drewN | apply Kd.R_drew)); exact HO_255001.out) (Kd.R_base ho0) hb); have n1_ := Aside0.mk (Kd.R_elder' (by (with_reducible repeat (first | apply Kd.R_alloc | apply Kd.R_drewN | apply Kd.R_drew)); exact HO_256001.out) (Kd.R_base ho0) hb); have n2_ := Aside0.mk (Kd.R_elder' (by (with_reducible repeat (first | apply Kd.R_alloc | apply Kd.R_drewN | apply Kd.R_drew)); exact HO_269001.out) (Kd.R_base ho0) hb); have n3_ := Aside0.mk (Kd.R_lower (Kd.R_new' (Kd.R_new' (Kd.R_new' ho0 (Kd.R_lt (by (with_reducible repeat (first | apply Kd.R_alloc | apply Kd.R_drewN | apply Kd.R_drew)); exact HO_255001.out))) (Kd.R_lt (by (with_reducible repeat (first | apply Kd.R_alloc | apply Kd.R_drewN | apply Kd.R_drew)); exact HO_256001.out))) (Kd.R_lt (by (with_reducible repeat (first | apply Kd.R_alloc | apply Kd.R_drewN | apply Kd.R_drew)); exact HO_269001.out))) (below_size (by repeat (first | (with_reducible first | exact HB.out | apply below_alloc | apply pw_below_drewN | apply below_drew1 | refine below_set ?_ GE254.out | refine below_set ?_ GE255.out | refine below_set ?_ GE268.out) | exact HB.out)))); have n4_ := Aside0.mk (blk_below (g := gb254) (o := .cells #[.int .i64 t256, .slice Ao112 x255001_2.length co112] 27 (0, 0)) (by (with_reducible repeat (first | refine blk_drewN ?_ _ | refine blk_drew ?_ | refine blk_alloc ?_ _)); exact BK254.out) hb); have n5_ := Aside0.mk (blk_below (g := gb255) (o := .cells #[.int .i64 t260, u256001] 27 (0, 0)) (by (with_reducible repeat (first | refine blk_drewN ?_ _ | refine blk_drew ?_ | refine blk_alloc ?_ _)); exact BK255.out) hb); have n6_ := Aside0.mk (blk_below (g := gb268) (o := .cells #[.int .i64 t264, .slice Ao109 x269001_2.length co109] 27 (0, 0)) (by (with_reducible repeat (first | refine blk_drewN ?_ _ | refine blk_drew ?_ | refine blk_alloc ?_ _)); exact BK268.out) hb); have n7_ := Aside0.mk (below_step (by repeat (first | (with_reducible first | exact HB.out | apply below_alloc | apply pw_below_drewN | apply below_drew1 | refine below_set ?_ GE254.out | refine below_set ?_ GE255.out | refine below_set ?_ GE268.out) | exact HB.out)) hb); clear HO_255001; clear HO_256001; clear HO_269001; clear BK254; clear BK255; clear BK268; clear HB; have HO_255001 := n0_; have HO_256001 := n1_; have HO_269001 := n2_; have HO282 := n3_; have BK254 := n4_; have BK255 := n5_; have BK268 := n6_; have HB := n7_; clear n0_ n1_ n2_ n3_ n4_ n5_ n6_ n7_; (try clear hb); (try clear hb2); (try clear hk); (try clear hi); (try clear ho0); obtain ⟨Ao114, co114, eo114⟩ := Kd.R_slice HO282.out; subst eo114) | ((with_reducible refine gate_callee (f := 6) rfl ?_); refine goesL_ (some 78) rfl rfl Tryd.func6 (by kernel_rfl) rfl #[.agg #[.int .i64 t279, .slice Ao114 t280.length co114]] rfl (by (try simp only [List.map_toArray, List.map_cons, List.map_nil]); first | done | rfl | (simp only [List.length_drop, List.length_take]; rfl)) ?_; (with_reducible refine (doc_May.calls t279 _ _ t280 t283 _ ?side1 ?side2 A92.out).mono ?_); (case side1 => repeat (first | exact (Kd.R_reads' HO282.out).2.2 | (with_reducible refine Kd.C_alloc ?_ _) | (with_reducible refine Kd.C_drewN ?_ _) | (with_reducible refine Kd.C_drew ?_))); (case side2 => exact (Kd.R_reads' HO282.out).2.1); rintro e w115 ⟨rfl, hb⟩; refine ⟨_, rfl, ?_⟩; have n0_ := Aside0.mk (Kd.R_below (by (with_reducible repeat (first | apply Kd.R_alloc | apply Kd.R_drewN | apply Kd.R_drew)); exact HO_255001.out) hb); have n1_ := Aside0.mk (Kd.R_below (by (with_reducible repeat (first | apply Kd.R_alloc | apply Kd.R_drewN | apply Kd.R_drew)); exact HO_256001.out) hb); have n2_ := Aside0.mk (Kd.R_below (by (with_reducible repeat (first | apply Kd.R_alloc | apply Kd.R_drewN | apply Kd.R_drew)); exact HO_269001.out) hb); have n3_ := Aside0.mk (Kd.R_below (by (with_reducible repeat (first | apply Kd.R_alloc | apply Kd.R_drewN | apply Kd.R_drew)); exact HO282.out) hb); have n4_ := Aside0.mk (blk_below (g := gb254) (o := .cells #[.int .i64 t256, .slice Ao112 x255001_2.length co112] 27 (0, 0)) (by (with_reducible repeat (first | refine blk_drewN ?_ _ | refine blk_drew ?_ | refine blk_alloc ?_ _)); exact BK254.out) hb); have n5_ := Aside0.mk (blk_below (g := gb255) (o := .cells #[.int .i64 t260, u256001] 27 (0, 0)) (by (with_reducible repeat (first | refine blk_drewN ?_ _ | refine blk_drew ?_ | refine blk_alloc ?_ _)); exact BK255.out) hb); have n6_ := Aside0.mk (blk_below (g := gb268) (o := .cells #[.int .i64 t264, .slice Ao109 x269001_2.length co109] 27 (0, 0)) (by (with_reducible repeat (first | refine blk_drewN ?_ _ | refine blk_drew ?_ | refine blk_alloc ?_ _)); exact BK268.out) hb); have n7_ := Aside0.mk (below_step (by repeat (first | (with_reducible first | exact HB.out | apply below_alloc | apply pw_below_drewN | apply below_drew1 | refine below_set ?_ GE254.out | refine below_set ?_ GE255.out | refine below_set ?_ GE268.out) | exact HB.out)) hb); clear HO_255001; clear HO_256001; clear HO_269001; clear HO282; clear BK254; clear BK255; clear BK268; clear HB; have HO_255001 := n0_; have HO_256001 := n1_; have HO_269001 := n2_; have HO282 := n3_; have BK254 := n4_; have BK255 := n5_; have BK268 := n6_; have HB := n7_; clear n0_ n1_ n2_ n3_ n4_ n5_ n6_ n7_; (try clear hb); (try clear hb2); (try clear hk); (try clear hi)))
                    go_ret
                    exact ⟨by first | rfl | (simp [errW_none, errW_some] <;> rfl) | (simp only [← hji6]; first | rfl | (simp [errW_none, errW_some] <;> rfl)) | (simp [*, errW_none, errW_some] <;> rfl), by repeat (first | (with_reducible first | exact HB.out | apply below_alloc | apply pw_below_drewN | apply below_drew1 | refine below_set ?_ GE254.out | refine below_set ?_ GE255.out | refine below_set ?_ GE268.out) | exact HB.out)⟩
    · rw [if_neg c8] at H
      exact absurd H (by simp)
  · rw [if_neg c7] at H
    exact absurd H (by simp)

end Go.Proofs.YtbbfilmajiilhaaDoor.PAll
