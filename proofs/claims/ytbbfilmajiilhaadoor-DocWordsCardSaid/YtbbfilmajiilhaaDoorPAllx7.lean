-- written by a program of this session (wip/px): the walk of printed functions
import Derived.Test.YtbbfilmajiilhaaDoorPAllx0
import Derived.Test.YtbbfilmajiilhaaDoorPAllx2
import Derived.Test.YtbbfilmajiilhaaDoorPAllx5
namespace Go.Proofs.YtbbfilmajiilhaaDoor.PAll
open Go.RowKit Go.Proofs.YtbbfilmajiilhaaDoorW.PrintWords Go.Proofs.YtbbfilmajiilhaaDoorW.PrintLast Go.Proofs.YtbbfilmajiilhaaDoorW.PrintMore
attribute [local go_sem] max2_int min2_int max_two min_two max_three min_three max_four min_four   -- for this text's walks alone
set_option linter.unusedVariables false
set_option linter.unusedSimpArgs false

/-! ### concordanceref08_Good: function 16 -/
mutual
def concordanceref08_Good.l0 : Nat → List ByteArray → Int → Int → List (S24) → Int → List (S24) → Option (Int × (List (S24)))
  | 0, _, _, _, _, _, _ => none
  | k + 1, x4, x5, x229000, x229001, x231000, x231001 => if x5 < (x229001.length : Int) then (concordanceref08_Good.j1 k x4 x5 (decide (x5 < 4)) x229000 x229001 x231000 x231001) else (concordanceref08_Good.j1 k x4 x5 false x229000 x229001 x231000 x231001)
def concordanceref08_Good.j1 : Nat → List ByteArray → Int → Bool → Int → List (S24) → Int → List (S24) → Option (Int × (List (S24)))
  | 0, _, _, _, _, _, _, _ => none
  | k + 1, x4, x5, x21, x229000, x229001, x231000, x231001 => if x21 = true then (if 0 ≤ x5 then (if x5 < (x229001.length : Int) then ((concordanceref08_Name.f k ((rd_T24 x229001 x5).f0)).bind fun t236 => (if t236 = true then (if 0 ≤ (mn (((rd_T24 x229001 x5).f1).size : Int) 40) then (if (mn (((rd_T24 x229001 x5).f1).size : Int) 40) ≤ (((rd_T24 x229001 x5).f1).size : Int) then (if ([] : List (S24)).length + x231001.length < 4398046511104 then ((some (([] : List (S24)) ++ x231001 : List (S24))).bind fun y238 => (if y238.length < 4398046511104 then ((some (y238 ++ [(⟨(rd_T24 x229001 x5).f0, ((rd_T24 x229001 x5).f1).extract 0 ((mn (((rd_T24 x229001 x5).f1).size : Int) 40) : Int).toNat⟩ : S24)] : List (S24))).bind fun y241 => ((concordanceref08_May.f k x229000 y241).bind fun t244 => (if t244 = 0 then (concordanceref08_Good.l0 k x4 (wrap64 (x5 + 1)) x229000 x229001 x229000 y241) else (concordanceref08_Good.l0 k x4 (wrap64 (x5 + 1)) x229000 x229001 x231000 x231001)))) else (none))) else (none)) else (none)) else (none)) else (if x5 < (x4.length : Int) then (if 0 ≤ (mn (((rd_T24 x229001 x5).f1).size : Int) 40) then (if (mn (((rd_T24 x229001 x5).f1).size : Int) 40) ≤ (((rd_T24 x229001 x5).f1).size : Int) then (if ([] : List (S24)).length + x231001.length < 4398046511104 then ((some (([] : List (S24)) ++ x231001 : List (S24))).bind fun y247 => (if y247.length < 4398046511104 then ((some (y247 ++ [(⟨rdOf ByteArray.empty x4 x5, ((rd_T24 x229001 x5).f1).extract 0 ((mn (((rd_T24 x229001 x5).f1).size : Int) 40) : Int).toNat⟩ : S24)] : List (S24))).bind fun y250 => ((concordanceref08_May.f k x229000 y250).bind fun t253 => (if t253 = 0 then (concordanceref08_Good.l0 k x4 (wrap64 (x5 + 1)) x229000 x229001 x229000 y250) else (concordanceref08_Good.l0 k x4 (wrap64 (x5 + 1)) x229000 x229001 x231000 x231001)))) else (none))) else (none)) else (none)) else (none)) else (none)))) else (none)) else (none)) else (some (x231000, x231001))
end
def concordanceref08_Good.f (k : Nat) (a0_0 : Int) (l0_1 : List (S24)) : Option (Int × (List (S24))) := concordanceref08_Good.l0 k (([(⟨#[116]⟩ : ByteArray), (⟨#[117]⟩ : ByteArray), (⟨#[118]⟩ : ByteArray), (⟨#[119]⟩ : ByteArray)] : List ByteArray)) 0 a0_0 l0_1 a0_0 ([] : List (S24))
theorem concordanceref08_Good.mono_l : ∀ k, (∀ y0 y1 y2 y3 y4 y5, LeO (concordanceref08_Good.l0 k y0 y1 y2 y3 y4 y5) (concordanceref08_Good.l0 (k + 1) y0 y1 y2 y3 y4 y5)) ∧ (∀ y0 y1 y2 y3 y4 y5 y6, LeO (concordanceref08_Good.j1 k y0 y1 y2 y3 y4 y5 y6) (concordanceref08_Good.j1 (k + 1) y0 y1 y2 y3 y4 y5 y6))
  | 0 => ⟨fun _ _ _ _ _ _ r h => by simp [concordanceref08_Good.l0] at h, fun _ _ _ _ _ _ _ r h => by simp [concordanceref08_Good.j1] at h⟩
  | k + 1 => by
    obtain ⟨ih0, ih1⟩ := concordanceref08_Good.mono_l k
    refine ⟨?_, ?_⟩
    · intro y0 y1 y2 y3 y4 y5
      unfold concordanceref08_Good.l0
      repeat' first
      | (with_reducible exact ih0 _ _ _ _ _ _)
      | (with_reducible exact ih1 _ _ _ _ _ _ _)
      | (with_reducible exact concordanceref08_May.mono _ _ _)
      | (with_reducible exact concordanceref08_Name.mono _ _)
      | (with_reducible exact LeO.refl _)
      | (with_reducible exact LeO.none _)
      | (with_reducible refine LeO.ite ?_ ?_)
      | (with_reducible refine LeO.bind ?_ (fun _ => ?_))
      | exact ih0 _ _ _ _ _ _
      | exact ih1 _ _ _ _ _ _ _
      | exact concordanceref08_May.mono _ _ _
      | exact concordanceref08_Name.mono _ _
      | exact LeO.none _
      | refine LeO.ite ?_ ?_
      | refine LeO.bind ?_ (fun _ => ?_)
    · intro y0 y1 y2 y3 y4 y5 y6
      unfold concordanceref08_Good.j1
      repeat' first
      | (with_reducible exact ih0 _ _ _ _ _ _)
      | (with_reducible exact ih1 _ _ _ _ _ _ _)
      | (with_reducible exact concordanceref08_May.mono _ _ _)
      | (with_reducible exact concordanceref08_Name.mono _ _)
      | (with_reducible exact LeO.refl _)
      | (with_reducible exact LeO.none _)
      | (with_reducible refine LeO.ite ?_ ?_)
      | (with_reducible refine LeO.bind ?_ (fun _ => ?_))
      | exact ih0 _ _ _ _ _ _
      | exact ih1 _ _ _ _ _ _ _
      | exact concordanceref08_May.mono _ _ _
      | exact concordanceref08_Name.mono _ _
      | exact LeO.none _
      | refine LeO.ite ?_ ?_
      | refine LeO.bind ?_ (fun _ => ?_)
theorem concordanceref08_Good.mono : ∀ a0 a1 k, LeO (concordanceref08_Good.f k a0 a1) (concordanceref08_Good.f (k + 1) a0 a1) := by
  intro a0 a1 k
  obtain ⟨ih0, ih1⟩ := concordanceref08_Good.mono_l k
  unfold concordanceref08_Good.f
  repeat' first
      | (with_reducible exact ih0 _ _ _ _ _ _)
      | (with_reducible exact ih1 _ _ _ _ _ _ _)
      | (with_reducible exact concordanceref08_May.mono _ _ _)
      | (with_reducible exact concordanceref08_Name.mono _ _)
      | (with_reducible exact LeO.refl _)
      | (with_reducible exact LeO.none _)
      | (with_reducible refine LeO.ite ?_ ?_)
      | (with_reducible refine LeO.bind ?_ (fun _ => ?_))
      | exact ih0 _ _ _ _ _ _
      | exact ih1 _ _ _ _ _ _ _
      | exact concordanceref08_May.mono _ _ _
      | exact concordanceref08_Name.mono _ _
      | exact LeO.none _
      | refine LeO.ite ?_ ?_
      | refine LeO.bind ?_ (fun _ => ?_)

/-! ### concordancelaw08_words: function 5 -/
def concordancelaw08_words.l0 : Nat → Int → List Int → Int → Option (ByteArray)
  | 0, _, _, _ => none
  | k + 1, x0, x3, x4 => if x4 < x0 then ((some (([97, 32] : List Int) : List Int)).bind fun y285 => (if x3.length + y285.length < 140737488355328 then (concordancelaw08_words.l0 k x0 (x3 ++ y285) (wrap64 (x4 + 1))) else (none))) else (some (strOfNums x3))
def concordancelaw08_words.f (k : Nat) (a0 : Int) : Option (ByteArray) := concordancelaw08_words.l0 k a0 ([] : List Int) 0
theorem concordancelaw08_words.mono_l : ∀ k, (∀ y0 y1 y2, LeO (concordancelaw08_words.l0 k y0 y1 y2) (concordancelaw08_words.l0 (k + 1) y0 y1 y2))
  | 0 => fun _ _ _ r h => by simp [concordancelaw08_words.l0] at h
  | k + 1 => by
    have ih0 := concordancelaw08_words.mono_l k
    · intro y0 y1 y2
      unfold concordancelaw08_words.l0
      repeat' first
      | (with_reducible exact ih0 _ _ _)
      | (with_reducible exact LeO.refl _)
      | (with_reducible exact LeO.none _)
      | (with_reducible refine LeO.ite ?_ ?_)
      | (with_reducible refine LeO.bind ?_ (fun _ => ?_))
      | exact ih0 _ _ _
      | exact LeO.none _
      | refine LeO.ite ?_ ?_
      | refine LeO.bind ?_ (fun _ => ?_)
theorem concordancelaw08_words.mono : ∀ a0 k, LeO (concordancelaw08_words.f k a0) (concordancelaw08_words.f (k + 1) a0) := by
  intro a0 k
  have ih0 := concordancelaw08_words.mono_l k
  unfold concordancelaw08_words.f
  repeat' first
      | (with_reducible exact ih0 _ _ _)
      | (with_reducible exact LeO.refl _)
      | (with_reducible exact LeO.none _)
      | (with_reducible refine LeO.ite ?_ ?_)
      | (with_reducible refine LeO.bind ?_ (fun _ => ?_))
      | exact ih0 _ _ _
      | exact LeO.none _
      | refine LeO.ite ?_ ?_
      | refine LeO.bind ?_ (fun _ => ?_)
set_option maxHeartbeats 8000000 in
set_option maxRecDepth 100000 in
theorem concordancelaw08_words.calls (k : Nat) (a0 : Int) (r : ByteArray) (w : World) (h : concordancelaw08_words.f k a0 = some r) :
    Calls Tryd.prog 5 #[.int .i64 a0] w fun e w' => e = .returned (.string r) ∧ Below w.heap.size w w' := by
  have HB := Aside0.mk (Below.refl w.heap.size w)
  have H : (concordancelaw08_words.l0 k a0 ([] : List Int) 0) = some r := h
  clear h
  have H' := Aside0.mk H
  clear H
  go_enter Tryd.func5, Tryd.ntmps5
  go_wp2
  go_loopg [3, 4] k (fun kq v3 v4 w' => ∃ (x3_1 : List Int) (x4_1 : Int), v4 = .int .i64 x4_1 ∧ Aside0 (concordancelaw08_words.l0 kq a0 x3_1 x4_1 = some r) ∧ Aside0 (kq ≤ k) ∧ Aside0 (Kd.R (Kd.int .u8) 5 w' w.heap.size (fun _ => True) v3 x3_1) ∧ Aside0 (Below w.heap.size w w'))
  case atStart => exact ⟨(([] : List Int)), (0), (by first | rfl | (simp; done) | (simp [*]; done)), H', ⟨Nat.le_refl _⟩, ⟨by first | exact Kd.R_nil _ _ _ _ _ | exact Kd.N_nil _ _ _ _ _ | exact Kd.V_nil _ _ _ _ _ | exact Kd.Q_nil _ _ _ _ _ | exact Kd.S_nil _ _ _ _ _⟩, ⟨by repeat (first | (with_reducible first | exact HB.out | apply below_alloc | apply pw_below_drewN | apply below_drew1) | exact HB.out)⟩⟩
  case round =>
    clear H'
    obtain ⟨x3_1, x4_1, rfl, HA, HK1, HO_3, HB⟩ := hrel
    cases gk with
    | zero => exact absurd HA.out (by simp [concordancelaw08_words.l0])
    | succ k1 =>
      have H := HA.out
      clear HA
      simp only [concordancelaw08_words.l0] at H
      by_cases c2 : x4_1 < a0
      · rw [if_pos c2] at H
        have c2b0 : decide (x4_1 < a0) = true := decide_eq_true c2
        clear c2
        obtain ⟨y285, hy285⟩ : ∃ y_ : List Int, y_ = (([97, 32] : List Int)) := ⟨_, rfl⟩
        replace H : (if x3_1.length + y285.length < 140737488355328 then (concordancelaw08_words.l0 k1 a0 (x3_1 ++ y285) (wrap64 (x4_1 + 1))) else (none)) = some r := by first | (rw [hy285]; with_reducible exact H) | (have H2_ := (Option.bind_some _ _).symm.trans H; rw [hy285]; with_reducible exact H2_) | (have H2_ := (Option.bind_some _ _).symm.trans H; with_reducible exact H2_) | with_reducible exact H | (rw [hy285]; exact H) | exact H
        have Ny285 := Aside0.mk hy285
        clear hy285
        by_cases c3 : x3_1.length + y285.length < 140737488355328
        · rw [if_pos c3] at H
          have LMc3 := Aside0.mk c3
          clear c3
          obtain ⟨y288, hy288⟩ : ∃ y_ : List Int, y_ = (x3_1 ++ y285) := ⟨_, rfl⟩
          replace H : (concordancelaw08_words.l0 k1 a0 y288 (wrap64 (x4_1 + 1))) = some r := by first | (rw [hy288]; with_reducible exact H) | (have H2_ := (Option.bind_some _ _).symm.trans H; rw [hy288]; with_reducible exact H2_) | (have H2_ := (Option.bind_some _ _).symm.trans H; with_reducible exact H2_) | with_reducible exact H | (rw [hy288]; exact H) | exact H
          have Ny288 := Aside0.mk hy288
          clear hy288
          have H' := Aside0.mk H
          clear H
          go_wp2_with (first | ((with_reducible refine gate_dst (N := 11) rfl ?_); refine Kd.R_lit (Kd.int .u8) _ 5 ?hg (N := 11) ?hd (xs := ([97, 32] : List Int)) (inner := [.int .u8 97, .int .u8 32]) (ok := fun _ => True) (okp := fun _ => True) ?hr ?hp (fun _ hk => hk) trivial (Below.refl _ _) (Nat.le_refl _) (by simp) ?_; (case hd => rfl); (case hg => rfl); (case hr => first | (go_simp; done) | (go_simp; rfl)); (case hp => exact (Reps.one (show Kd.M (Kd.int .u8) _ _ _ 97 [.int .u8 97] from rfl) (Reps.one (show Kd.M (Kd.int .u8) _ _ _ 32 [.int .u8 32] from rfl) (Reps.none _ _)))); intro v286 w4 ho5 hb hg_ hnew_; clear hg_ hnew_; (first | rw [← Ny285.out] at ho5 | (simp only [Int.reduceToNat] at ho5; rw [← Ny285.out] at ho5)); have n0_ := Aside0.mk (Kd.R_elder' (by (with_reducible repeat (first | apply Kd.R_alloc | apply Kd.R_drewN | apply Kd.R_drew)); exact HO_3.out) (Kd.R_base ho5) hb); have n1_ := Aside0.mk (Kd.R_lower (Kd.R_new' ho5 (Kd.R_lt (by (with_reducible repeat (first | apply Kd.R_alloc | apply Kd.R_drewN | apply Kd.R_drew)); exact HO_3.out))) (below_size (by repeat (first | (with_reducible first | exact HB.out | apply below_alloc | apply pw_below_drewN | apply below_drew1) | exact HB.out)))); have n2_ := Aside0.mk (below_step (by repeat (first | (with_reducible first | exact HB.out | apply below_alloc | apply pw_below_drewN | apply below_drew1) | exact HB.out)) hb); clear HO_3; clear HB; have HO_3 := n0_; have HO287 := n1_; have HB := n2_; clear n0_ n1_ n2_; clear hb ho5; obtain ⟨Ao7, co7, eo7⟩ := Kd.R_slice HO287.out; subst eo7) | ((with_reducible refine gate_builtin (b := .append) (xs := #[.tmp 10, .tmp 11]) rfl ?_); at_builtin; refine Kd.R_append_rows (Kd.int .u8) (w0 := w) w.heap.size rfl (.tmp 10) (.tmp 11) 37 5 (.int .u8 0) 1 rfl Tryd.underlying37 info5 rfl (by decide) (by omega) u3 x3_1 y285 _ _ _ (fun k_ => some k_ ≠ (.slice Ao7 y285.length co7 : Value).ownBlock) (fun _ => False) rfl rfl ?aO ?aR (fun _ _ h => h) (fun _ h => h.elim) ?aF ?aB ?aS ?aL ?_; (case aR => repeat (first | exact (Kd.R_reads' HO287.out).2.2 | (with_reducible refine Kd.C_alloc ?_ _) | (with_reducible refine Kd.C_drewN ?_ _) | (with_reducible refine Kd.C_drew ?_))); (case aB => exact (by repeat (first | (with_reducible first | exact HB.out | apply below_alloc | apply pw_below_drewN | apply below_drew1) | exact HB.out))); (case aF => exact (fun k_ hk => Kd.fresh' (Kd.R_lt (by (with_reducible repeat (first | apply Kd.R_alloc | apply Kd.R_drewN | apply Kd.R_drew)); exact HO287.out)) k_ hk)); (case aO => exact (by (with_reducible repeat (first | apply Kd.R_alloc | apply Kd.R_drewN | apply Kd.R_drew)); first | exact Kd.R_mono HO_3.out (fun _ hk => hk.2) | exact Kd.R_mono HO_3.out (fun _ _ => trivial))); (case aS => exact (below_size (by repeat (first | (with_reducible first | exact HB.out | apply below_alloc | apply pw_below_drewN | apply below_drew1) | exact HB.out)))); (case aL => have := LMc3.out; omega); intro v289 w6 ho hb hg hat; rw [← Ny288.out] at ho; have n0_ := Aside0.mk (Kd.R_after (ok := (fun _ => True)) (by (with_reducible repeat (first | apply Kd.R_alloc | apply Kd.R_drewN | apply Kd.R_drew)); exact HO287.out) hg hat); have n1_ := Aside0.mk (hb); have n2_ := Aside0.mk (ho); clear HO287; clear HB; clear HO_3; have HO287 := n0_; have HB := n1_; have HO290 := n2_; clear n0_ n1_ n2_; clear ho hb hg hat))
          go_roundg k1
          case measure => have := HK1.out; omega
          case rel => exact ⟨(y288), (wrap64 (x4_1 + 1)), (by first | rfl | (simp; done) | (simp [*]; done)), H', ⟨by have := HK1.out; omega⟩, ⟨by (with_reducible repeat (first | apply Kd.R_alloc | apply Kd.R_drewN | apply Kd.R_drew)); exact Kd.R_mono HO290.out (fun _ hk => trivial)⟩, ⟨by repeat (first | (with_reducible first | exact HB.out | apply below_alloc | apply pw_below_drewN | apply below_drew1) | exact HB.out)⟩⟩
        · rw [if_neg c3] at H
          exact absurd H (by simp)
      · rw [if_neg c2] at H
        have c2b0 : decide (x4_1 < a0) = false := decide_eq_false c2
        clear c2
        obtain rfl := Option.some.inj H
        have hcv8 := own_string (P := Tryd.prog) Tryd.underlying37 Tryd.underlying5 Tryd.underlying9 (Kd.own_of_R HO_3.out)
        go_wp2
        go_ret
        exact ⟨by first | rfl | (simp [errW_none, errW_some] <;> rfl) | (simp [*, errW_none, errW_some] <;> rfl), by repeat (first | (with_reducible first | exact HB.out | apply below_alloc | apply pw_below_drewN | apply below_drew1) | exact HB.out)⟩

-- EXTERN: function 7 (doc_Weight): module Bnd0

end Go.Proofs.YtbbfilmajiilhaaDoor.PAll
