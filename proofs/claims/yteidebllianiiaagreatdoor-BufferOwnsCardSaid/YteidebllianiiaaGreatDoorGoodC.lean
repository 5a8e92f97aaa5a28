/- The document's answer to a document that may be, made of any (concordanceref08.Good): its walk. -/
import Derived.Test.YteidebllianiiaaGreatDoorPAllx0
import Derived.Test.YteidebllianiiaaGreatDoorSq
import Derived.Test.YteidebllianiiaaGreatDoorPAllx3
import Derived.Test.YteidebllianiiaaGreatDoorPAllx5
namespace Go.Proofs.YteidebllianiiaaGreatDoor.PAll
open Go.RowKit Go.Proofs.YteidebllianiiaaGreatDoorW.PrintWords Go.Proofs.YteidebllianiiaaGreatDoorW.PrintLast Go.Proofs.YteidebllianiiaaGreatDoorW.PrintMore
attribute [local go_sem] max2_int min2_int max_two min_two max_three min_three max_four min_four   -- for this text's walks alone
set_option linter.unusedVariables false
set_option linter.unusedSimpArgs false

/-! ### concordanceref08_Good: function 23 -/
mutual
def concordanceref08_Good.l0 : Nat → List ByteArray → Int → Int → List (S50) → Int → List (S50) → Option (Int × (List (S50)))
 | 0, _, _, _, _, _, _ => none
 | k + 1, x4, x5, x168000, x168001, x170000, x170001 => if x5 < (x168001.length : Int) then (concordanceref08_Good.j1 k x4 x5 (decide (x5 < 4)) x168000 x168001 x170000 x170001) else (concordanceref08_Good.j1 k x4 x5 false x168000 x168001 x170000 x170001)
def concordanceref08_Good.j1 : Nat → List ByteArray → Int → Bool → Int → List (S50) → Int → List (S50) → Option (Int × (List (S50)))
 | 0, _, _, _, _, _, _, _ => none
 | k + 1, x4, x5, x21, x168000, x168001, x170000, x170001 => if x21 = true then (if 0 ≤ x5 then (if x5 < (x168001.length : Int) then ((concordanceref08_Name.f k ((rd_T50 x168001 x5).f0)).bind fun t175 => (if t175 = true then (if 0 ≤ (mn (((rd_T50 x168001 x5).f1).size : Int) 40) then (if (mn (((rd_T50 x168001 x5).f1).size : Int) 40) ≤ (((rd_T50 x168001 x5).f1).size : Int) then (if ([] : List (S50)).length + x170001.length < 4398046511104 then ((some (([] : List (S50)) ++ x170001 : List (S50))).bind fun y177 => (if y177.length < 4398046511104 then ((some (y177 ++ [(⟨(rd_T50 x168001 x5).f0, ((rd_T50 x168001 x5).f1).extract 0 ((mn (((rd_T50 x168001 x5).f1).size : Int) 40) : Int).toNat⟩ : S50)] : List (S50))).bind fun y180 => ((concordanceref08_May.f k x168000 y180).bind fun t183 => (if t183 = 0 then (concordanceref08_Good.l0 k x4 (wrap64 (x5 + 1)) x168000 x168001 x168000 y180) else (concordanceref08_Good.l0 k x4 (wrap64 (x5 + 1)) x168000 x168001 x170000 x170001)))) else (none))) else (none)) else (none)) else (none)) else (if x5 < (x4.length : Int) then (if 0 ≤ (mn (((rd_T50 x168001 x5).f1).size : Int) 40) then (if (mn (((rd_T50 x168001 x5).f1).size : Int) 40) ≤ (((rd_T50 x168001 x5).f1).size : Int) then (if ([] : List (S50)).length + x170001.length < 4398046511104 then ((some (([] : List (S50)) ++ x170001 : List (S50))).bind fun y186 => (if y186.length < 4398046511104 then ((some (y186 ++ [(⟨rdOf ByteArray.empty x4 x5, ((rd_T50 x168001 x5).f1).extract 0 ((mn (((rd_T50 x168001 x5).f1).size : Int) 40) : Int).toNat⟩ : S50)] : List (S50))).bind fun y189 => ((concordanceref08_May.f k x168000 y189).bind fun t192 => (if t192 = 0 then (concordanceref08_Good.l0 k x4 (wrap64 (x5 + 1)) x168000 x168001 x168000 y189) else (concordanceref08_Good.l0 k x4 (wrap64 (x5 + 1)) x168000 x168001 x170000 x170001)))) else (none))) else (none)) else (none)) else (none)) else (none)))) else (none)) else (none)) else (some (x170000, x170001))
end
def concordanceref08_Good.f (k : Nat) (a0_0 : Int) (l0_1 : List (S50)) : Option (Int × (List (S50))) := concordanceref08_Good.l0 k (([(⟨#[116]⟩ : ByteArray), (⟨#[117]⟩ : ByteArray), (⟨#[118]⟩ : ByteArray), (⟨#[119]⟩ : ByteArray)] : List ByteArray)) 0 a0_0 l0_1 a0_0 ([] : List (S50))
theorem concordanceref08_Good.mono_l : ∀ k, (∀ y0 y1 y2 y3 y4 y5, LeO (concordanceref08_Good.l0 k y0 y1 y2 y3 y4 y5) (concordanceref08_Good.l0 (k + 1) y0 y1 y2 y3 y4 y5)) ∧ (∀ y0 y1 y2 y3 y4 y5 y6, LeO (concordanceref08_Good.j1 k y0 y1 y2 y3 y4 y5 y6) (concordanceref08_Good.j1 (k + 1) y0 y1 y2 y3 y4 y5 y6))
 | 0 => ⟨fun _ _ _ _ _ _ r h => by simp [concordanceref08_Good.l0] at h, fun _ _ _ _ _ _ _ r h => by simp [concordanceref08_Good.j1] at h⟩
 | k + 1 => by
  obtain ⟨ih0, ih1⟩ := concordanceref08_Good.mono_l k
  refine ⟨?_, ?_⟩
  ·intro y0 y1 y2 y3 y4 y5
   unfold concordanceref08_Good.l0
   repeat' first
   | (with_reducible exact ih0 _ _ _ _ _ _)
   | (with_reducible exact ih1 _ _ _ _ _ _ _)
   | (with_reducible exact concordanceref08_May.mono _ _ _)
   | (with_reducible exact concordanceref08_Name.mono _ _)
   | (with_reducible exact LeO.refl _)
   | (with_reducible exact LeO.none _)
   | (with_reducible refine LeO.ite ?_ ?_)
   | (with_reducible refine LeO.bind ?_ (fun _ => ?_))
   | exact ih0 _ _ _ _ _ _
   | exact ih1 _ _ _ _ _ _ _
   | exact concordanceref08_May.mono _ _ _
   | exact concordanceref08_Name.mono _ _
   | exact LeO.none _
   | refine LeO.ite ?_ ?_
   | refine LeO.bind ?_ (fun _ => ?_)
  ·intro y0 y1 y2 y3 y4 y5 y6
   unfold concordanceref08_Good.j1
   repeat' first
   | (with_reducible exact ih0 _ _ _ _ _ _)
   | (with_reducible exact ih1 _ _ _ _ _ _ _)
   | (with_reducible exact concordanceref08_May.mono _ _ _)
   | (with_reducible exact concordanceref08_Name.mono _ _)
   | (with_reducible exact LeO.refl _)
   | (with_reducible exact LeO.none _)
   | (with_reducible refine LeO.ite ?_ ?_)
   | (with_reducible refine LeO.bind ?_ (fun _ => ?_))
   | exact ih0 _ _ _ _ _ _
   | exact ih1 _ _ _ _ _ _ _
   | exact concordanceref08_May.mono _ _ _
   | exact concordanceref08_Name.mono _ _
   | exact LeO.none _
   | refine LeO.ite ?_ ?_
   | refine LeO.bind ?_ (fun _ => ?_)
theorem concordanceref08_Good.mono : ∀ a0 a1 k, LeO (concordanceref08_Good.f k a0 a1) (concordanceref08_Good.f (k + 1) a0 a1) := by
 intro a0 a1 k
 obtain ⟨ih0, ih1⟩ := concordanceref08_Good.mono_l k
 unfold concordanceref08_Good.f
 repeat' first
   | (with_reducible exact ih0 _ _ _ _ _ _)
   | (with_reducible exact ih1 _ _ _ _ _ _ _)
   | (with_reducible exact concordanceref08_May.mono _ _ _)
   | (with_reducible exact concordanceref08_Name.mono _ _)
   | (with_reducible exact LeO.refl _)
   | (with_reducible exact LeO.none _)
   | (with_reducible refine LeO.ite ?_ ?_)
   | (with_reducible refine LeO.bind ?_ (fun _ => ?_))
   | exact ih0 _ _ _ _ _ _
   | exact ih1 _ _ _ _ _ _ _
   | exact concordanceref08_May.mono _ _ _
   | exact concordanceref08_Name.mono _ _
   | exact LeO.none _
   | refine LeO.ite ?_ ?_
   | refine LeO.bind ?_ (fun _ => ?_)
set_option maxHeartbeats 8000000 in
set_option maxRecDepth 100000 in
theorem concordanceref08_Good.calls (k : Nat) (a0_0 : Int) (A0_1 : Option Addr) (c0_1 : Nat) (l0_1 : List (S50)) (r1 : Int) (r2 : List (S50)) (w : World) (hr0_1 : Kd.C k50 w A0_1 l0_1.length l0_1) (hc0_1 : l0_1.length ≤ c0_1) (h : concordanceref08_Good.f k a0_0 l0_1 = some (r1, r2)) :
  Calls Tryz.prog 23 #[.agg #[.int .i64 a0_0, .slice A0_1 l0_1.length c0_1]] w fun e w' => ∃ v1_ : Value, e = .returned (.agg #[.int .i64 r1, v1_]) ∧ Kd.R k50 50 w' w.heap.size (fun _ => True) v1_ r2 ∧ Below w.heap.size w w' := by
 have hu31 := Tryz.underlying31
 have hu50 := Tryz.underlying50
 have HR0_1 := Aside0.mk hr0_1
 have HC0_1 := Aside0.mk hc0_1
 clear hr0_1 hc0_1
 have HB := sA (Below.refl w.heap.size w)
 have H : (concordanceref08_Good.l0 k (([(⟨#[116]⟩ : ByteArray), (⟨#[117]⟩ : ByteArray), (⟨#[118]⟩ : ByteArray), (⟨#[119]⟩ : ByteArray)] : List ByteArray)) 0 a0_0 l0_1 a0_0 ([] : List (S50))) = some (r1, r2) := h
 clear h
 obtain ⟨y170, hy170⟩ : ∃ y_ : List ByteArray, y_ = (([(⟨#[116]⟩ : ByteArray), (⟨#[117]⟩ : ByteArray), (⟨#[118]⟩ : ByteArray), (⟨#[119]⟩ : ByteArray)] : List ByteArray)) := ⟨_, rfl⟩
 replace H : (concordanceref08_Good.l0 k y170 0 a0_0 l0_1 a0_0 ([] : List (S50))) = some (r1, r2) := by first | (rw [hy170]; with_reducible exact H) | (have H2_ := (Option.bind_some _ _).symm.trans H; rw [hy170]; with_reducible exact H2_) | (have H2_ := (Option.bind_some _ _).symm.trans H; with_reducible exact H2_) | with_reducible exact H | (rw [hy170]; exact H) | exact H
 have Ny170 := Aside0.mk hy170
 clear hy170
 have H' := Aside0.mk H
 clear H
 go_enter Tryz.func23, Tryz.ntmps23
 go_wp2_with (first | ((with_reducible refine gate_dst (N := 1) rfl ?_); refine box_event ?hg (N := 1) ?hd (cs := #[.int .i64 a0_0, .slice A0_1 l0_1.length c0_1]) (t := 31) ?hr ?_; (case hd => rfl); (case hg => rfl); (case hr => first | (go_simp; done) | (go_simp; rfl)); intro gb167 hg w2 hbox hb; have BK167 := sA (hbox); have GW167 := sA ((by rw [hg]; exact (below_size (sW HB.out)) : w.heap.size ≤ gb167)); have GE167 := sA ((by rw [hg]; exact (below_size (sW HB.out)) : w.heap.size ≤ gb167)); replace HB := sA (below_step (sW HB.out) hb); clear hb hbox hg) | ((with_reducible refine gate_dst (N := 2) rfl ?_); refine box_event ?hg (N := 2) ?hd (cs := #[.int .i64 0, .slice none 0 0]) (t := 31) ?hr ?_; (case hd => rfl); (case hg => rfl); (case hr => first | (go_simp; done) | (go_simp; rfl)); intro gb168 hg w3 hbox hb; have BK168 := sA (hbox); have GW168 := sA ((by rw [hg]; exact (below_size (by repeat (first | exact sW HB.out | refine sS ?_))) : w.heap.size ≤ gb168)); have GE168 := sA ((by rw [hg]; exact (below_size (by repeat (first | exact sW HB.out | refine sS ?_))) : w.heap.size ≤ gb168)); replace HB := sA (below_step (by repeat (first | exact sW HB.out | refine sS ?_)) hb); have NB167_168 := sA ((by rw [hg]; exact Nat.ne_of_lt (blk_lt (sB BK167.out)) : gb167 ≠ gb168)); have NB168_167 := sA ((by rw [hg]; exact Nat.ne_of_gt (blk_lt (sB BK167.out)) : gb168 ≠ gb167)); replace BK167 := sA (blk_below (sB BK167.out) hb); clear hb hbox hg; have hnb4 := NB167_168.out; have hnc4 := NB168_167.out; have hcz5_0 := c0 BK167.out; have hcz5_1 := c1 BK167.out; have hfz5_0 := blk_frozen BK167.out 0; have hfz5_1 := blk_frozen BK167.out 1) | ((with_reducible refine gate_dst (N := 3) rfl ?_); refine box_event ?hg (N := 3) ?hd (cs := #[.int .i64 0, .slice none 0 0]) (t := 31) ?hr ?_; (case hd => rfl); (case hg => rfl); (case hr => first | (go_simp; done) | (go_simp; rfl)); intro gb169 hg w6 hbox hb; have BK169 := sA (hbox); have GW169 := sA ((by rw [hg]; exact (below_size (by repeat (first | exact sW HB.out | refine sS ?_))) : w.heap.size ≤ gb169)); have GE169 := sA ((by rw [hg]; exact (below_size (by repeat (first | exact sW HB.out | refine sS ?_))) : w.heap.size ≤ gb169)); replace HB := sA (below_step (by repeat (first | exact sW HB.out | refine sS ?_)) hb); have NB167_169 := sA ((by rw [hg]; exact Nat.ne_of_lt (blk_lt (sB BK167.out)) : gb167 ≠ gb169)); have NB169_167 := sA ((by rw [hg]; exact Nat.ne_of_gt (blk_lt (sB BK167.out)) : gb169 ≠ gb167)); replace BK167 := sA (blk_below (sB BK167.out) hb); have NB168_169 := sA ((by rw [hg]; exact Nat.ne_of_lt (blk_lt (sB BK168.out)) : gb168 ≠ gb169)); have NB169_168 := sA ((by rw [hg]; exact Nat.ne_of_gt (blk_lt (sB BK168.out)) : gb169 ≠ gb168)); replace BK168 := sA (blk_below (sB BK168.out) hb); clear hb hbox hg; have hnb7 := NB169_167.out; have hnc7 := NB167_169.out; have hnb8 := NB169_168.out; have hnc8 := NB168_169.out; have hcz9_0 := c0 BK169.out; have hcz9_1 := c1 BK169.out; have hfz9_0 := blk_frozen BK169.out 0; have hfz9_1 := blk_frozen BK169.out 1) | ((with_reducible refine gate_dst (N := 12) rfl ?_); refine Kd.R_lit Kd.string _ 9 ?hg (N := 12) ?hd (xs := ([(⟨#[116]⟩ : ByteArray), (⟨#[117]⟩ : ByteArray), (⟨#[118]⟩ : ByteArray), (⟨#[119]⟩ : ByteArray)] : List ByteArray)) (inner := [.string (⟨#[116]⟩ : ByteArray), .string (⟨#[117]⟩ : ByteArray), .string (⟨#[118]⟩ : ByteArray), .string (⟨#[119]⟩ : ByteArray)]) (ok := fun _ => True) (okp := fun _ => True) ?hr ?hp (fun _ hk => hk) trivial (Below.refl _ _) (Nat.le_refl _) (by simp) ?_; (case hd => rfl); (case hg => rfl); (case hr => first | (go_simp; done) | (go_simp; rfl)); (case hp => exact (Reps.one (show Kd.M Kd.string _ _ _ (⟨#[116]⟩ : ByteArray) [.string (⟨#[116]⟩ : ByteArray)] from rfl) (Reps.one (show Kd.M Kd.string _ _ _ (⟨#[117]⟩ : ByteArray) [.string (⟨#[117]⟩ : ByteArray)] from rfl) (Reps.one (show Kd.M Kd.string _ _ _ (⟨#[118]⟩ : ByteArray) [.string (⟨#[118]⟩ : ByteArray)] from rfl) (Reps.one (show Kd.M Kd.string _ _ _ (⟨#[119]⟩ : ByteArray) [.string (⟨#[119]⟩ : ByteArray)] from rfl) (Reps.none _ _)))))); intro v171 w10 ho11 hb hg_ hnew_; clear hg_ hnew_; (first | rw [← Ny170.out] at ho11 | (simp only [Int.reduceToNat] at ho11; rw [← Ny170.out] at ho11)); have HO172 := sA (Kd.R_lower ho11 (below_size (by repeat (first | exact sW HB.out | refine sS ?_)))); replace BK167 := sA (blk_below (sF NB167_169.out (sF NB167_169.out (sB BK167.out))) hb); replace BK168 := sA (blk_below (sF NB168_169.out (sF NB168_169.out (sB BK168.out))) hb); replace BK169 := sA (blk_below (g := gb169) (o := .cells #[.int .i64 a0_0, .slice none 0 0] 31 (0, 0)) (by apply sB; refine blk_put (cs := #[.int .i64 a0_0, .slice none 0 0]) ?_ 1 _ rfl; apply sB; refine blk_put (cs := #[.int .i64 0, .slice none 0 0]) ?_ 0 _ rfl; apply sB; exact BK169.out) hb); replace HB := sA (below_step (by repeat (first | exact sW HB.out | refine sS ?_)) hb); clear hb ho11))
 go_loopg [5] k (fun kq v5 w' => ∃ (x5_1 : Int) (x170000_1 : Int) (x170001_1 : List (S50)) (u170001 : Value), v5 = .int .i64 x5_1 ∧ Aside0 (concordanceref08_Good.l0 kq y170 x5_1 a0_0 l0_1 x170000_1 x170001_1 = some (r1, r2)) ∧ Aside0 (kq ≤ k) ∧ Aside0 (Kd.R Kd.string 9 w' w.heap.size (fun _ => True) v171 y170) ∧ Aside0 (Kd.R k50 50 w' w.heap.size (fun _ => True) u170001 x170001_1) ∧ Aside0 (w'.heap[gb167]? = some (.cells #[.int .i64 a0_0, (.slice A0_1 l0_1.length c0_1)] 31 (0, 0))) ∧ Aside0 (w'.heap[gb168]? = some (.cells #[.int .i64 0, (.slice none 0 0)] 31 (0, 0))) ∧ Aside0 (w'.heap[gb169]? = some (.cells #[.int .i64 x170000_1, u170001] 31 (0, 0))) ∧ Aside0 (Below w.heap.size w w'))
 case atStart => exact ⟨(0), (a0_0), (([] : List (S50))), (.slice none 0 0), (by first | rfl | (simp; done) | (simp [*]; done)), H', ⟨Nat.le_refl _⟩, ⟨sR HO172.out⟩, ⟨by first | exact Kd.R_nil _ _ _ _ _ | exact Kd.N_nil _ _ _ _ _ | exact Kd.V_nil _ _ _ _ _ | exact Kd.Q_nil _ _ _ _ _ | exact Kd.S_nil _ _ _ _ _⟩, ⟨sB BK167.out⟩, ⟨sB BK168.out⟩, ⟨sB BK169.out⟩, ⟨by repeat (first | exact sW HB.out | refine sS ?_)⟩⟩
 case round =>
  clear H'
  try clear c2; try clear p2; try clear c4; try clear c7; try clear c8; try clear hcz5_0; try clear hcz5_1; try clear hcz9_0; try clear hcz9_1; try clear hfz5_0; try clear hfz5_1; try clear hfz9_0; try clear hfz9_1
  obtain ⟨x5_1, x170000_1, x170001_1, u170001, rfl, HA, HK1, HO_4, HO_170001, BK167, BK168, BK169, HB⟩ := hrel
  cases gk with
  | zero => exact absurd HA.out (by simp [concordanceref08_Good.l0])
  | succ k1 =>
   have H := HA.out
   clear HA
   simp only [concordanceref08_Good.l0] at H
   have HC12 := Aside0.mk H
   clear H
   go_upto_region 4 with (fail)
   go_cut [21] (fun v21 wc => ∃ (kq : Nat) (x21_11 : Bool), v21 = .bool x21_11 ∧ Aside0 (concordanceref08_Good.j1 kq y170 x5_1 x21_11 a0_0 l0_1 x170000_1 x170001_1 = some (r1, r2)) ∧ Aside0 (kq ≤ k1) ∧ Aside0 (Kd.R Kd.string 9 wc w.heap.size (fun _ => True) v171 y170) ∧ Aside0 (Kd.R k50 50 wc w.heap.size (fun _ => True) u170001 x170001_1) ∧ Aside0 (wc.heap[gb167]? = some (.cells #[.int .i64 a0_0, (.slice A0_1 l0_1.length c0_1)] 31 (0, 0))) ∧ Aside0 (wc.heap[gb168]? = some (.cells #[.int .i64 0, (.slice none 0 0)] 31 (0, 0))) ∧ Aside0 (wc.heap[gb169]? = some (.cells #[.int .i64 x170000_1, u170001] 31 (0, 0))) ∧ Aside0 (Below w.heap.size w wc))
   case first =>
    have H := HC12.out
    clear HC12
    by_cases c13 : x5_1 < (l0_1.length : Int)
    ·rw [if_pos c13] at H
     have c13b0 : decide (x5_1 < (l0_1.length : Int)) = true := decide_eq_true c13
     clear c13
     (first | rw [c13b0] | (simp only [i64_w, i32_w]; rw [c13b0]) | skip)
     have H' := Aside0.mk H
     clear H
     have hnb14 := NB167_168.out
     have hnc14 := NB168_167.out
     have hnb15 := NB167_169.out
     have hnc15 := NB169_167.out
     have hcz16_0 := c0 BK167.out
     have hcz16_1 := c1 BK167.out
     have hfz16_0 := blk_frozen BK167.out 0
     have hfz16_1 := blk_frozen BK167.out 1
     go_wp2
     go_meet
     case rel => exact ⟨_, (decide (x5_1 < 4)), (by first | rfl | (simp; done) | (simp [*]; done)), H', ⟨by have := HK1.out; first | omega | exact Nat.le_refl _⟩, ⟨sR HO_4.out⟩, ⟨sR HO_170001.out⟩, ⟨sB BK167.out⟩, ⟨sB BK168.out⟩, ⟨sB BK169.out⟩, ⟨by repeat (first | exact sW HB.out | refine sS ?_)⟩⟩
    ·rw [if_neg c13] at H
     have c13b0 : decide (x5_1 < (l0_1.length : Int)) = false := decide_eq_false c13
     clear c13
     (first | rw [c13b0] | (simp only [i64_w, i32_w]; rw [c13b0]) | skip)
     have H' := Aside0.mk H
     clear H
     have hnb17 := NB167_168.out
     have hnc17 := NB168_167.out
     have hnb18 := NB167_169.out
     have hnc18 := NB169_167.out
     have hcz19_0 := c0 BK167.out
     have hcz19_1 := c1 BK167.out
     have hfz19_0 := blk_frozen BK167.out 0
     have hfz19_1 := blk_frozen BK167.out 1
     go_wp2
     go_meet
     case rel => exact ⟨_, (false), (by first | rfl | (simp; done) | (simp [*]; done)), H', ⟨by have := HK1.out; first | omega | exact Nat.le_refl _⟩, ⟨sR HO_4.out⟩, ⟨sR HO_170001.out⟩, ⟨sB BK167.out⟩, ⟨sB BK168.out⟩, ⟨sB BK169.out⟩, ⟨by repeat (first | exact sW HB.out | refine sS ?_)⟩⟩
   case rest =>
    clear HC12
    try clear c1; try clear c2; try clear p2; try clear c4; try clear c7; try clear c8; try clear c13; try clear c13b0; try clear c14; try clear c15; try clear c17; try clear c18; try clear hcz16_0; try clear hcz16_1; try clear hcz19_0; try clear hcz19_1; try clear hcz5_0; try clear hcz5_1; try clear hcz9_0; try clear hcz9_1; try clear hfz16_0; try clear hfz16_1; try clear hfz19_0; try clear hfz19_1; try clear hfz5_0; try clear hfz5_1; try clear hfz9_0; try clear hfz9_1; try clear p2
    obtain ⟨kq, x21_11, rfl, HA, HJ11, HO_4, HO_170001, BK167, BK168, BK169, HB⟩ := hcut
    cases kq with
    | zero => exact absurd HA.out (by simp [concordanceref08_Good.j1])
    | succ kj11 =>
     have H := HA.out
     clear HA
     simp only [concordanceref08_Good.j1] at H
     by_cases c20 : x21_11 = true
     ·subst c20
      rw [if_pos rfl] at H
      by_cases c21 : 0 ≤ x5_1
      ·rw [if_pos c21] at H
       have c21b0 : decide (0 ≤ x5_1) = true := decide_eq_true c21
       clear c21
       by_cases c22 : x5_1 < (l0_1.length : Int)
       ·rw [if_pos c22] at H
        have c22b0 : decide (x5_1 < (l0_1.length : Int)) = true := decide_eq_true c22
        clear c22
        replace H := Option.bind_eq_some_iff.mp H
        obtain ⟨t175, A230, H⟩ := H
        have A23 := Aside0.mk A230
        clear A230
        obtain ⟨tx, htx⟩ : ∃ y_, y_ = (rd_T50 l0_1 x5_1).f1 := ⟨_, rfl⟩
        rw [← htx] at H
        have HN : ∃ nm : ByteArray, (t175 = true ∧ nm = (rd_T50 l0_1 x5_1).f0 ∨ t175 = false ∧ x5_1 < (y170.length : Int) ∧ nm = rdOf ByteArray.empty y170 x5_1) ∧ (if 0 ≤ (mn (tx.size : Int) 40) then (if (mn (tx.size : Int) 40) ≤ (tx.size : Int) then (if ([] : List S50).length + x170001_1.length < 4398046511104 then ((some (([] : List S50) ++ x170001_1 : List S50)).bind fun y177 => (if y177.length < 4398046511104 then ((some (y177 ++ [(⟨nm, tx.extract 0 ((mn (tx.size : Int) 40) : Int).toNat⟩ : S50)] : List S50)).bind fun y180 => ((concordanceref08_May.f kj11 a0_0 y180).bind fun t183 => (if t183 = 0 then (concordanceref08_Good.l0 kj11 y170 (wrap64 (x5_1 + 1)) a0_0 l0_1 a0_0 y180) else (concordanceref08_Good.l0 kj11 y170 (wrap64 (x5_1 + 1)) a0_0 l0_1 x170000_1 x170001_1)))) else none)) else none) else none) else none) = some (r1, r2) := by
         cases t175
         ·rw [if_neg (by decide)] at H
          by_cases c : x5_1 < (y170.length : Int)
          ·rw [if_pos c] at H; exact ⟨_, .inr ⟨rfl, c, rfl⟩, H⟩
          ·rw [if_neg c] at H; exact absurd H (by simp)
         ·rw [if_pos rfl] at H; exact ⟨_, .inl ⟨rfl, rfl⟩, H⟩
        clear H
        obtain ⟨nm, hnm, H⟩ := HN
        have H' := Aside0.mk H
        clear H
        have HNM := Aside0.mk hnm
        clear hnm
        have hnb32 := NB167_168.out; have hnc32 := NB168_167.out; have hnb33 := NB167_169.out; have hnc33 := NB169_167.out; have hcz34_0 := c0 BK167.out; have hcz34_1 := c1 BK167.out; have hfz34_0 := blk_frozen BK167.out 0; have hfz34_1 := blk_frozen BK167.out 1
        have p173 : 0 ≤ (x5_1 : Int) := of_decide_eq_true (by assumption)
        have q173 : x5_1 < (l0_1.length : Int) := of_decide_eq_true (by assumption)
        obtain ⟨ad173, e173, hx173_0, hx173_1⟩ := at_T50 HR0_1.out x5_1 p173 q173
        cases e173
        rw [← htx] at hx173_1
        have HTX := Aside0.mk htx
        clear htx
        replace hx173_0 := (HB.out.cell (World.block_lt_of_cell? w _ hx173_0)).trans hx173_0
        replace hx173_1 := (HB.out.cell (World.block_lt_of_cell? w _ hx173_1)).trans hx173_1
        replace p173 := eq_true p173
        replace q173 := eq_true q173
        go_upto_if 33 with (first | ((with_reducible refine gate_dst (N := 6) rfl ?_); refine box_event ?hg (N := 6) ?hd (cs := #[.string (⟨#[]⟩ : ByteArray), .string (⟨#[]⟩ : ByteArray)]) (t := 50) ?hr ?_; (case hd => rfl); (case hg => rfl); (case hr => first | (go_simp; done) | (go_simp; rfl)); intro gb174 hg w35 hbox hb; replace HO_4 := sA (Kd.R_below (sR HO_4.out) hb); replace HO_170001 := sA (Kd.R_below (Kd.R_elderB (sR HO_170001.out) gb174 (Nat.le_of_eq hg.symm)) hb); have BK174 := sA (hbox); have GW174 := sA ((by rw [hg]; exact (below_size (by repeat (first | exact sW HB.out | refine sS ?_))) : w.heap.size ≤ gb174)); have GE174 := sA ((by rw [hg]; exact (below_size (by repeat (first | exact sW HB.out | refine sS ?_))) : w.heap.size ≤ gb174)); replace HB := sA (below_step (by repeat (first | exact sW HB.out | refine sS ?_)) hb); have NB167_174 := sA ((by rw [hg]; exact Nat.ne_of_lt (blk_lt (sB BK167.out)) : gb167 ≠ gb174)); have NB174_167 := sA ((by rw [hg]; exact Nat.ne_of_gt (blk_lt (sB BK167.out)) : gb174 ≠ gb167)); replace BK167 := sA (blk_below (sB BK167.out) hb); have NB168_174 := sA ((by rw [hg]; exact Nat.ne_of_lt (blk_lt (sB BK168.out)) : gb168 ≠ gb174)); have NB174_168 := sA ((by rw [hg]; exact Nat.ne_of_gt (blk_lt (sB BK168.out)) : gb174 ≠ gb168)); replace BK168 := sA (blk_below (sB BK168.out) hb); have NB169_174 := sA ((by rw [hg]; exact Nat.ne_of_lt (blk_lt (sB BK169.out)) : gb169 ≠ gb174)); have NB174_169 := sA ((by rw [hg]; exact Nat.ne_of_gt (blk_lt (sB BK169.out)) : gb174 ≠ gb169)); replace BK169 := sA (blk_below (sB BK169.out) hb); clear hb hbox hg; have hnb36 := NB174_167.out; have hnc36 := NB167_174.out; have hnb37 := NB174_168.out; have hnc37 := NB168_174.out; have hnb38 := NB174_169.out; have hnc38 := NB169_174.out; have hcz39_0 := c0 BK174.out; have hcz39_1 := c1 BK174.out; have hfz39_0 := blk_frozen BK174.out 0; have hfz39_1 := blk_frozen BK174.out 1) | ((with_reducible refine gate_callee (f := 40) rfl ?_); refine goesL_ (some 31) rfl rfl Tryz.func40 (by kernel_rfl) rfl #[.string ((rd_T50 l0_1 x5_1).f0)] rfl (by (try simp only [List.map_toArray, List.map_cons, List.map_nil]); first | done | rfl | (simp only [List.length_drop, List.length_take]; rfl)) ?_; (with_reducible refine (concordanceref08_Name.calls kj11 ((rd_T50 l0_1 x5_1).f0) t175 _ A23.out).mono ?_); rintro e w' ⟨rfl, ⟨nd, rfl⟩⟩; refine ⟨_, rfl, ?_⟩; have hcz40_0 := c0 BK167.out; have hcz40_1 := c1 BK167.out; have hfz40_0 := blk_frozen BK167.out 0; have hfz40_1 := blk_frozen BK167.out 1))
        go_cut [] (fun wx => Aside0 (Kd.R Kd.string 9 wx w.heap.size (fun _ => True) v171 y170) ∧ Aside0 (Kd.R k50 50 wx w.heap.size (fun k_ => True ∧ k_ ≠ gb174) u170001 x170001_1) ∧ Aside0 (wx.heap[gb167]? = some (.cells #[.int .i64 a0_0, (.slice (some ad173) l0_1.length c0_1)] 31 (0, 0))) ∧ Aside0 (wx.heap[gb168]? = some (.cells #[.int .i64 0, (.slice none 0 0)] 31 (0, 0))) ∧ Aside0 (wx.heap[gb169]? = some (.cells #[.int .i64 x170000_1, u170001] 31 (0, 0))) ∧ Aside0 (wx.heap[gb174]? = some (.cells #[.string nm, .string tx] 50 (0, 0))) ∧ Aside0 (Below w.heap.size w wx))
        case first =>
         obtain ⟨rfl, rfl⟩ | ⟨rfl, q184, rfl⟩ := HNM.out
         ·go_wp2
          go_meet
          exact ⟨⟨by apply sR; exact Kd.R_mono (Kd.R_far (p := ⟨gb174, 1, none⟩) (Kd.R_far (p := ⟨gb174, 0, none⟩) (Kd.R_types HO_4.out BK174.out (by decide)) (fun _ hk => hk.2) (.string ((rd_T50 l0_1 x5_1).f0))) (fun _ hk => hk.2) (.string tx)) (fun _ h_ => h_.1)⟩, ⟨by apply sR; exact Kd.R_mono (Kd.R_far (p := ⟨gb174, 1, none⟩) (Kd.R_far (p := ⟨gb174, 0, none⟩) (Kd.R_mono HO_170001.out (fun k_ hk => (⟨hk, hk.2⟩ : _ ∧ k_ ≠ gb174))) (fun _ hk => hk.2) (.string ((rd_T50 l0_1 x5_1).f0))) (fun _ hk => hk.2) (.string tx)) (fun _ h_ => h_.1)⟩, ⟨sF NB167_174.out (sF NB167_174.out (sB BK167.out))⟩, ⟨sF NB168_174.out (sF NB168_174.out (sB BK168.out))⟩, ⟨sF NB169_174.out (sF NB169_174.out (sB BK169.out))⟩, ⟨by apply sB; refine blk_put (cs := #[.string ((rd_T50 l0_1 x5_1).f0), .string (⟨#[]⟩ : ByteArray)]) ?_ 1 _ rfl; apply sB; refine blk_put (cs := #[.string (⟨#[]⟩ : ByteArray), .string (⟨#[]⟩ : ByteArray)]) ?_ 0 _ rfl; apply sB; exact BK174.out⟩, ⟨by repeat (first | exact sW HB.out | refine sS ?_)⟩⟩
         ·obtain ⟨Ao102, co102, eo102⟩ := Kd.R_slice HO_4.out; subst eo102; have p184 : 0 ≤ (x5_1 : Int) := of_decide_eq_true (by assumption); obtain ⟨ad184, e184, hx184_0⟩ := Kd.at_string (Kd.R_reads' HO_4.out).2.2 x5_1 p184 q184; cases e184; have hn184_0 : ad184.block ≠ gb174 := Kd.own_blk (Kd.R_ne HO_4.out BK174.out (by decide)); replace hx184_0 := (cell_far (p := ⟨gb174, 0, none⟩) (by first | (rw [add_block]; exact hn184_0) | (show (Addr.add _ _).block ≠ _; rw [add_block]; exact hn184_0) | exact hn184_0) (.string ((rd_T50 l0_1 x5_1).f0))).trans hx184_0; replace hx184_0 := (cell_far (p := ⟨gb174, 1, none⟩) (by first | (rw [add_block]; exact hn184_0) | (show (Addr.add _ _).block ≠ _; rw [add_block]; exact hn184_0) | exact hn184_0) (.string tx)).trans hx184_0; clear hn184_0; replace p184 := eq_true p184; have dq184 := decide_eq_true q184; replace q184 := eq_true q184
          go_wp2
          go_meet
          exact ⟨⟨by apply sR; exact Kd.R_mono (Kd.R_far (p := ⟨gb174, 0, none⟩) (Kd.R_far (p := ⟨gb174, 1, none⟩) (Kd.R_far (p := ⟨gb174, 0, none⟩) (Kd.R_types HO_4.out BK174.out (by decide)) (fun _ hk => hk.2) (.string ((rd_T50 l0_1 x5_1).f0))) (fun _ hk => hk.2) (.string tx)) (fun _ hk => hk.2) (.string (rdOf ByteArray.empty y170 x5_1))) (fun _ h_ => h_.1)⟩, ⟨by apply sR; exact Kd.R_mono (Kd.R_far (p := ⟨gb174, 0, none⟩) (Kd.R_far (p := ⟨gb174, 1, none⟩) (Kd.R_far (p := ⟨gb174, 0, none⟩) (Kd.R_mono HO_170001.out (fun k_ hk => (⟨hk, hk.2⟩ : _ ∧ k_ ≠ gb174))) (fun _ hk => hk.2) (.string ((rd_T50 l0_1 x5_1).f0))) (fun _ hk => hk.2) (.string tx)) (fun _ hk => hk.2) (.string (rdOf ByteArray.empty y170 x5_1))) (fun _ h_ => h_.1)⟩, ⟨sF NB167_174.out (sF NB167_174.out (sF NB167_174.out (sB BK167.out)))⟩, ⟨sF NB168_174.out (sF NB168_174.out (sF NB168_174.out (sB BK168.out)))⟩, ⟨sF NB169_174.out (sF NB169_174.out (sF NB169_174.out (sB BK169.out)))⟩, ⟨by apply sB; refine blk_put (cs := #[.string ((rd_T50 l0_1 x5_1).f0), .string tx]) ?_ 0 _ rfl; apply sB; refine blk_put (cs := #[.string ((rd_T50 l0_1 x5_1).f0), .string (⟨#[]⟩ : ByteArray)]) ?_ 1 _ rfl; apply sB; refine blk_put (cs := #[.string (⟨#[]⟩ : ByteArray), .string (⟨#[]⟩ : ByteArray)]) ?_ 0 _ rfl; apply sB; exact BK174.out⟩, ⟨by repeat (first | exact sW HB.out | refine sS ?_)⟩⟩
        case rest =>
         obtain ⟨HO_4, HO_170001, BK167, BK168, BK169, BK174, HB⟩ := hcut
         clear HNM HTX hx173_0 hx173_1 p173 q173
         try clear hcz34_0; try clear hcz34_1; try clear hfz34_0; try clear hfz34_1; try clear hcz39_0; try clear hcz39_1; try clear hfz39_0; try clear hfz39_1; try clear hcz40_0; try clear hcz40_1; try clear hfz40_0; try clear hfz40_1
         have H := H'.out
         clear H'
         obtain ⟨ji25, hji25⟩ : ∃ j_ : Int, (mn (tx.size : Int) 40) = j_ := ⟨_, rfl⟩
         first | rw [hji25] at H | simp only [hji25] at H
         have hji25_ : (if 40 < (tx.size : Int) then 40 else (tx.size : Int)) = ji25 := hji25
         by_cases c26 : 0 ≤ (ji25)
         ·rw [if_pos c26] at H
          have c26b0 := eq_true c26
          have c26b1 : decide (0 ≤ (ji25)) = true := decide_eq_true c26
          clear c26
          by_cases c27 : (ji25) ≤ (tx.size : Int)
          ·rw [if_pos c27] at H
           have c27b0 := eq_true c27
           have c27b1 : decide ((ji25) ≤ (tx.size : Int)) = true := decide_eq_true c27
           clear c27
           by_cases c28 : ([] : List (S50)).length + x170001_1.length < 4398046511104
           ·rw [if_pos c28] at H
            have LMc28 := Aside0.mk c28
            clear c28
            obtain ⟨y177, hy177⟩ : ∃ y_ : List (S50), y_ = (([] : List (S50)) ++ x170001_1) := ⟨_, rfl⟩
            replace H : (if y177.length < 4398046511104 then ((some (y177 ++ [(⟨nm, tx.extract 0 ((ji25) : Int).toNat⟩ : S50)] : List (S50))).bind fun y180 => ((concordanceref08_May.f kj11 a0_0 y180).bind fun t183 => (if t183 = 0 then (concordanceref08_Good.l0 kj11 y170 (wrap64 (x5_1 + 1)) a0_0 l0_1 a0_0 y180) else (concordanceref08_Good.l0 kj11 y170 (wrap64 (x5_1 + 1)) a0_0 l0_1 x170000_1 x170001_1)))) else (none)) = some (r1, r2) := by first | (rw [hy177]; with_reducible exact H) | (have H2_ := (Option.bind_some _ _).symm.trans H; rw [hy177]; with_reducible exact H2_) | (have H2_ := (Option.bind_some _ _).symm.trans H; with_reducible exact H2_) | with_reducible exact H | (rw [hy177]; exact H) | exact H
            have Ny177 := Aside0.mk hy177
            clear hy177
            by_cases c29 : y177.length < 4398046511104
            ·rw [if_pos c29] at H
             have LMc29 := Aside0.mk c29
             clear c29
             obtain ⟨y180, hy180⟩ : ∃ y_ : List (S50), y_ = (y177 ++ [(⟨nm, tx.extract 0 ((ji25) : Int).toNat⟩ : S50)]) := ⟨_, rfl⟩
             replace H : ((concordanceref08_May.f kj11 a0_0 y180).bind fun t183 => (if t183 = 0 then (concordanceref08_Good.l0 kj11 y170 (wrap64 (x5_1 + 1)) a0_0 l0_1 a0_0 y180) else (concordanceref08_Good.l0 kj11 y170 (wrap64 (x5_1 + 1)) a0_0 l0_1 x170000_1 x170001_1))) = some (r1, r2) := by first | (rw [hy180]; with_reducible exact H) | (have H2_ := (Option.bind_some _ _).symm.trans H; rw [hy180]; with_reducible exact H2_) | (have H2_ := (Option.bind_some _ _).symm.trans H; with_reducible exact H2_) | with_reducible exact H | (rw [hy180]; exact H) | exact H
             have Ny180 := Aside0.mk hy180
             clear hy180
             replace H := Option.bind_eq_some_iff.mp H
             obtain ⟨t183, A300, H⟩ := H
             have A30 := Aside0.mk A300
             clear A300
             have hnb32 := NB167_168.out; have hnc32 := NB168_167.out; have hnb33 := NB167_169.out; have hnc33 := NB169_167.out; have hnb39 := NB174_167.out; have hnc39 := NB167_174.out; have hcz34_0 := c0 BK167.out; have hcz34_1 := c1 BK167.out; have hfz34_0 := blk_frozen BK167.out 0; have hfz34_1 := blk_frozen BK167.out 1; have hcz39_0 := c0 BK174.out; have hcz39_1 := c1 BK174.out; have hfz39_0 := blk_frozen BK174.out 0; have hfz39_1 := blk_frozen BK174.out 1
             go_upto_if 64 with (first | ((with_reducible refine gate_dst (N := 8) rfl ?_); refine box_event ?hg (N := 8) ?hd (cs := #[.int .i64 0, .slice none 0 0]) (t := 31) ?hr ?_; (case hd => rfl); (case hg => rfl); (case hr => first | (go_simp; done) | (go_simp; rfl)); intro gb176 hg w41 hbox hb; replace HO_4 := sA (Kd.R_below (by apply sR; exact (Kd.R_mono (Kd.R_far (p := ⟨gb174, 1, none⟩) (Kd.R_types HO_4.out BK174.out (by decide)) (fun _ hk => hk.2) (.string (tx.extract 0 ((ji25) : Int).toNat))) (fun _ h_ => h_.1))) hb); replace HO_170001 := sA (Kd.R_below (by apply sR; exact (Kd.R_mono (Kd.R_far (p := ⟨gb174, 1, none⟩) (Kd.R_mono HO_170001.out (fun k_ hk => (⟨hk, hk.2⟩ : _ ∧ k_ ≠ gb174))) (fun _ hk => hk.2) (.string (tx.extract 0 ((ji25) : Int).toNat))) (fun _ h_ => h_.1))) hb); have BK176 := sA (hbox); have GW176 := sA ((by rw [hg]; exact (below_size (by repeat (first | exact sW HB.out | refine sS ?_))) : w.heap.size ≤ gb176)); have GE176 := sA ((by rw [hg]; exact (below_size (by repeat (first | exact sW HB.out | refine sS ?_))) : w.heap.size ≤ gb176)); replace HB := sA (below_step (by repeat (first | exact sW HB.out | refine sS ?_)) hb); have NB167_176 := sA ((by rw [hg]; exact Nat.ne_of_lt (blk_lt (sF NB167_174.out (sB BK167.out))) : gb167 ≠ gb176)); have NB176_167 := sA ((by rw [hg]; exact Nat.ne_of_gt (blk_lt (sF NB167_174.out (sB BK167.out))) : gb176 ≠ gb167)); replace BK167 := sA (blk_below (sF NB167_174.out (sB BK167.out)) hb); have NB168_176 := sA ((by rw [hg]; exact Nat.ne_of_lt (blk_lt (sF NB168_174.out (sB BK168.out))) : gb168 ≠ gb176)); have NB176_168 := sA ((by rw [hg]; exact Nat.ne_of_gt (blk_lt (sF NB168_174.out (sB BK168.out))) : gb176 ≠ gb168)); replace BK168 := sA (blk_below (sF NB168_174.out (sB BK168.out)) hb); have NB169_176 := sA ((by rw [hg]; exact Nat.ne_of_lt (blk_lt (sF NB169_174.out (sB BK169.out))) : gb169 ≠ gb176)); have NB176_169 := sA ((by rw [hg]; exact Nat.ne_of_gt (blk_lt (sF NB169_174.out (sB BK169.out))) : gb176 ≠ gb169)); replace BK169 := sA (blk_below (sF NB169_174.out (sB BK169.out)) hb); have NB174_176 := sA ((by rw [hg]; exact Nat.ne_of_lt (blk_lt (g := gb174) (o := .cells #[.string nm, .string (tx.extract 0 ((ji25) : Int).toNat)] 50 (0, 0)) (by apply sB; refine blk_put (cs := #[.string nm, .string tx]) ?_ 1 _ rfl; apply sB; exact BK174.out)) : gb174 ≠ gb176)); have NB176_174 := sA ((by rw [hg]; exact Nat.ne_of_gt (blk_lt (g := gb174) (o := .cells #[.string nm, .string (tx.extract 0 ((ji25) : Int).toNat)] 50 (0, 0)) (by apply sB; refine blk_put (cs := #[.string nm, .string tx]) ?_ 1 _ rfl; apply sB; exact BK174.out)) : gb176 ≠ gb174)); replace BK174 := sA (blk_below (g := gb174) (o := .cells #[.string nm, .string (tx.extract 0 ((ji25) : Int).toNat)] 50 (0, 0)) (by apply sB; refine blk_put (cs := #[.string nm, .string tx]) ?_ 1 _ rfl; apply sB; exact BK174.out) hb); clear hb hbox hg; have hnb42 := NB176_167.out; have hnc42 := NB167_176.out; have hnb43 := NB176_168.out; have hnc43 := NB168_176.out; have hnb44 := NB176_169.out; have hnc44 := NB169_176.out; have hnb45 := NB176_174.out; have hnc45 := NB174_176.out; have hcz46_0 := c0 BK176.out; have hcz46_1 := c1 BK176.out; have hfz46_0 := blk_frozen BK176.out 0; have hfz46_1 := blk_frozen BK176.out 1; have hnb47 := NB169_168.out; have hnc47 := NB168_169.out; have hcz48_0 := c0 BK169.out; have hcz48_1 := c1 BK169.out; have hfz48_0 := blk_frozen BK169.out 0; have hfz48_1 := blk_frozen BK169.out 1; obtain ⟨Ao50, co50, eo50⟩ := Kd.R_slice HO_170001.out; subst eo50) | ((with_reducible refine gate_builtin (b := .append) (xs := #[.tmp 51, .tmp 53]) rfl ?_); at_builtin; refine Kd.R_append_rows k50 (w0 := w) w.heap.size rfl (.tmp 51) (.tmp 53) 29 50 (.agg #[(.string ⟨#[]⟩), (.string ⟨#[]⟩)]) 32 rfl Tryz.underlying29 info50 rfl (by decide) (by omega) (.slice none 0 0) ([] : List (S50)) x170001_1 _ _ _ (fun k_ => some k_ ≠ (.slice Ao50 x170001_1.length co50 : Value).ownBlock ∧ k_ ≠ gb174) (fun _ => False) rfl rfl ?aO ?aR (fun _ _ h => h) (fun _ h => h.elim) ?aF ?aB ?aS ?aL ?_; (case aR => refine (Kd.R_reads' (e := 50) (base := w.heap.size) (ok := fun k_ => (True ∧ k_ ≠ gb174)) (n := x170001_1.length) (c := co50) ?_).2.2; exact (by apply sR; exact (Kd.R_mono (Kd.R_far (p := ⟨gb176, 1, none⟩) (Kd.R_far (p := ⟨gb176, 0, none⟩) (Kd.R_types HO_170001.out BK176.out (by decide)) (fun _ hk => hk.2) (.int .i64 a0_0)) (fun _ hk => hk.2) (.slice none 0 0)) (fun _ h_ => h_.1)))); (case aB => exact (by repeat (first | exact sW HB.out | refine sS ?_))); (case aF => exact (fun k_ hk => ⟨Kd.fresh' (Kd.R_lt (by apply sR; exact (Kd.R_mono (Kd.R_far (p := ⟨gb176, 1, none⟩) (Kd.R_far (p := ⟨gb176, 0, none⟩) (Kd.R_types HO_170001.out BK176.out (by decide)) (fun _ hk => hk.2) (.int .i64 a0_0)) (fun _ hk => hk.2) (.slice none 0 0)) (fun _ h_ => h_.1)))) k_ hk, Kd.freshB (g := gb174) (o := .cells #[.string nm, .string (tx.extract 0 ((ji25) : Int).toNat)] 50 (0, 0)) (sF NB174_176.out (sF NB174_176.out (sB BK174.out))) k_ hk⟩)); (case aO => exact ((Kd.R_nil _ _ _ _ (fun k_ => some k_ ≠ (.slice Ao50 x170001_1.length co50 : Value).ownBlock ∧ k_ ≠ gb174)))); (case aS => exact (below_size (by repeat (first | exact sW HB.out | refine sS ?_)))); (case aL => have := LMc28.out; omega); intro v178 w49 ho hb hg hat; rw [← Ny177.out] at ho; replace HO_4 := sA (Kd.R_grown (by apply sR; exact (Kd.R_mono (Kd.R_far (p := ⟨gb176, 1, none⟩) (Kd.R_far (p := ⟨gb176, 0, none⟩) (Kd.R_types HO_4.out BK176.out (by decide)) (fun _ hk => hk.2) (.int .i64 a0_0)) (fun _ hk => hk.2) (.slice none 0 0)) (fun _ h_ => h_.1))) hg (fun _ _ => by simp [Value.ownBlock])); replace HO_170001 := sA (Kd.R_after (Kd.R_apart_nil (by apply sR; exact (Kd.R_mono (Kd.R_far (p := ⟨gb176, 1, none⟩) (Kd.R_far (p := ⟨gb176, 0, none⟩) (Kd.R_types HO_170001.out BK176.out (by decide)) (fun _ hk => hk.2) (.int .i64 a0_0)) (fun _ hk => hk.2) (.slice none 0 0)) (fun _ h_ => h_.1)))) hg hat); replace BK167 := sA (blk_grown (sF NB167_176.out (sF NB167_176.out (sB BK167.out))) hg (by simp [Value.ownBlock])); replace BK168 := sA (blk_grown (sF NB168_176.out (sF NB168_176.out (sB BK168.out))) hg (by simp [Value.ownBlock])); replace BK169 := sA (blk_grown (sF NB169_176.out (sF NB169_176.out (sB BK169.out))) hg (by simp [Value.ownBlock])); replace BK174 := sA (blk_grown (sF NB174_176.out (sF NB174_176.out (sB BK174.out))) hg (by simp [Value.ownBlock])); replace BK176 := sA (blk_grown (g := gb176) (o := .cells #[.int .i64 a0_0, .slice none 0 0] 31 (0, 0)) (by apply sB; refine blk_put (cs := #[.int .i64 a0_0, .slice none 0 0]) ?_ 1 _ rfl; apply sB; refine blk_put (cs := #[.int .i64 0, .slice none 0 0]) ?_ 0 _ rfl; apply sB; exact BK176.out) hg (by simp [Value.ownBlock])); replace HB := sA (hb); have HO179 := sA (ho); clear ho hb hg hat; obtain ⟨Ao51, co51, eo51⟩ := Kd.R_slice HO179.out; subst eo51; have hcz52_0 := c0 BK176.out; have hcz52_1 := c1 BK176.out; have hfz52_0 := blk_frozen BK176.out 0; have hfz52_1 := blk_frozen BK176.out 1; have hcz53_0 := c0 BK174.out; have hcz53_1 := c1 BK174.out; have hfz53_0 := blk_frozen BK174.out 0; have hfz53_1 := blk_frozen BK174.out 1) | ((with_reducible refine gate_builtin (b := .append) (xs := #[.tmp 57, .tmp 59]) rfl ?_); at_builtin; refine Kd.R_append k50 (w0 := w) w.heap.size rfl (.tmp 57) (.tmp 59) 29 50 (.agg #[(.string ⟨#[]⟩), (.string ⟨#[]⟩)]) 32 rfl Tryz.underlying29 info50 rfl (by decide) (by omega) (.slice Ao51 y177.length co51) y177 (⟨nm, tx.extract 0 ((ji25) : Int).toNat⟩ : S50) [.string nm, .string (tx.extract 0 ((ji25) : Int).toNat)] (fun k_ => some k_ ≠ (.slice Ao50 x170001_1.length co50 : Value).ownBlock ∧ k_ ≠ gb174) (fun _ => False) rfl (by first | (go_simp; done) | (go_simp; rfl)) ?aP (fun _ hk => hk.elim) ?aF ?aO ?aB ?aS ?aL ?_; (case aP => exact k50_mkM _ _ _ (⟨nm, tx.extract 0 ((ji25) : Int).toNat⟩ : S50)); (case aB => exact (by repeat (first | exact sW HB.out | refine sS ?_))); (case aF => exact (fun k_ hk => ⟨Kd.fresh' (Kd.R_lt (by apply sR; exact (Kd.R_mono (Kd.R_far (p := ⟨gb176, 1, none⟩) (Kd.R_types HO_170001.out BK176.out (by decide)) (fun _ hk => hk.2) (.slice Ao51 y177.length co51)) (fun _ h_ => h_.1)))) k_ hk, Kd.freshB (g := gb174) (o := .cells #[.string nm, .string (tx.extract 0 ((ji25) : Int).toNat)] 50 (0, 0)) (sF NB174_176.out (sB BK174.out)) k_ hk⟩)); (case aO => exact (by apply sR; exact Kd.R_mono (Kd.R_far (p := ⟨gb176, 1, none⟩) (Kd.R_types HO179.out BK176.out (by decide)) (fun _ hk => hk.2) (.slice Ao51 y177.length co51)) (fun _ hk => ⟨hk.1.1, hk.1.2⟩))); (case aS => exact (below_size (by repeat (first | exact sW HB.out | refine sS ?_)))); (case aL => have := LMc29.out; omega); intro v181 w54 ho hb hg hat; rw [← Ny180.out] at ho; replace HO_4 := sA (Kd.R_over' (by apply sR; exact (Kd.R_mono (Kd.R_far (p := ⟨gb176, 1, none⟩) (Kd.R_types HO_4.out BK176.out (by decide)) (fun _ hk => hk.2) (.slice Ao51 y177.length co51)) (fun _ h_ => h_.1))) (Kd.R_typed (by apply sR; exact (Kd.R_mono (Kd.R_far (p := ⟨gb176, 1, none⟩) (Kd.R_types HO179.out BK176.out (by decide)) (fun _ hk => hk.2) (.slice Ao51 y177.length co51)) (fun _ h_ => h_.1)))) (by decide) hg); replace HO_170001 := sA (Kd.R_after (ok := (fun k_ => k_ ≠ gb174)) (by apply sR; exact Kd.R_mono (Kd.R_far (p := ⟨gb176, 1, none⟩) (Kd.R_types HO_170001.out BK176.out (by decide)) (fun _ hk => hk.2) (.slice Ao51 y177.length co51)) (fun _ hk => ⟨hk.1.1.2, hk.1.2⟩)) hg hat); replace BK167 := sA (blk_grown (sF NB167_176.out (sB BK167.out)) hg (Kd.R_ne HO179.out BK167.out (by decide))); replace BK168 := sA (blk_grown (sF NB168_176.out (sB BK168.out)) hg (Kd.R_ne HO179.out BK168.out (by decide))); replace BK169 := sA (blk_grown (sF NB169_176.out (sB BK169.out)) hg (Kd.R_ne HO179.out BK169.out (by decide))); replace BK174 := sA (blk_grown (sF NB174_176.out (sB BK174.out)) hg (Kd.R_away HO179.out (fun _ hk => hk.2))); replace BK176 := sA (blk_grown (g := gb176) (o := .cells #[.int .i64 a0_0, .slice Ao51 y177.length co51] 31 (0, 0)) (by apply sB; refine blk_put (cs := #[.int .i64 a0_0, .slice none 0 0]) ?_ 1 _ rfl; apply sB; exact BK176.out) hg (Kd.R_ne HO179.out BK176.out (by decide))); replace HB := sA (hb); have HO182 := sA (ho); clear HO179; clear ho hb hg hat; obtain ⟨Ao55, co55, eo55⟩ := Kd.R_slice HO182.out; subst eo55; have hcz56_0 := c0 BK176.out; have hcz56_1 := c1 BK176.out; have hfz56_0 := blk_frozen BK176.out 0; have hfz56_1 := blk_frozen BK176.out 1) | ((with_reducible refine gate_callee (f := 41) rfl ?_); refine goesL_ (some 63) rfl rfl Tryz.func41 (by kernel_rfl) rfl #[.agg #[.int .i64 a0_0, .slice Ao55 y180.length co55]] rfl (by (try simp only [List.map_toArray, List.map_cons, List.map_nil]); first | done | rfl | (simp only [List.length_drop, List.length_take]; rfl)) ?_; (with_reducible refine (concordanceref08_May.calls kj11 a0_0 _ _ y180 t183 _ ?side1 ?side2 A30.out).mono ?_); (case side1 => refine (Kd.R_reads' (e := 50) (base := w.heap.size) (ok := fun k_ => (some k_ ≠ (.slice Ao50 x170001_1.length co50 : Value).ownBlock ∧ k_ ≠ gb174)) (n := y180.length) (c := co55) ?_).2.2; exact (by apply sR; exact (Kd.R_mono (Kd.R_far (p := ⟨gb176, 1, none⟩) (Kd.R_types HO182.out BK176.out (by decide)) (fun _ hk => hk.2) (.slice Ao55 y180.length co55)) (fun _ h_ => h_.1)))); (case side2 => exact (Kd.R_reads' HO182.out).2.1); rintro e w57 ⟨rfl, hb⟩; refine ⟨_, rfl, ?_⟩; replace HO_4 := sA (Kd.R_below (by apply sR; exact (Kd.R_mono (Kd.R_far (p := ⟨gb176, 1, none⟩) (Kd.R_types HO_4.out BK176.out (by decide)) (fun _ hk => hk.2) (.slice Ao55 y180.length co55)) (fun _ h_ => h_.1))) hb); replace HO_170001 := sA (Kd.R_below (by apply sR; exact (Kd.R_mono (Kd.R_far (p := ⟨gb176, 1, none⟩) (Kd.R_types HO_170001.out BK176.out (by decide)) (fun _ hk => hk.2) (.slice Ao55 y180.length co55)) (fun _ h_ => h_.1))) hb); replace HO182 := sA (Kd.R_below (by apply sR; exact (Kd.R_mono (Kd.R_far (p := ⟨gb176, 1, none⟩) (Kd.R_types HO182.out BK176.out (by decide)) (fun _ hk => hk.2) (.slice Ao55 y180.length co55)) (fun _ h_ => h_.1))) hb); replace BK167 := sA (blk_below (sF NB167_176.out (sB BK167.out)) hb); replace BK168 := sA (blk_below (sF NB168_176.out (sB BK168.out)) hb); replace BK169 := sA (blk_below (sF NB169_176.out (sB BK169.out)) hb); replace BK174 := sA (blk_below (sF NB174_176.out (sB BK174.out)) hb); replace BK176 := sA (blk_below (g := gb176) (o := .cells #[.int .i64 a0_0, .slice Ao55 y180.length co55] 31 (0, 0)) (by apply sB; refine blk_put (cs := #[.int .i64 a0_0, .slice Ao51 y177.length co51]) ?_ 1 _ rfl; apply sB; exact BK176.out) hb); replace HB := sA (below_step (by repeat (first | exact sW HB.out | refine sS ?_)) hb); (try clear hb); (try clear hb2); (try clear hk); (try clear hi); have hcz58_0 := c0 BK176.out; have hcz58_1 := c1 BK176.out; have hfz58_0 := blk_frozen BK176.out 0; have hfz58_1 := blk_frozen BK176.out 1; have hcz59_0 := c0 BK169.out; have hcz59_1 := c1 BK169.out; have hfz59_0 := blk_frozen BK169.out 0; have hfz59_1 := blk_frozen BK169.out 1))
             have H := Aside0.mk H
             by_cases c31 : t183 = 0
             ·have H' := Aside0.mk ((if_pos c31).symm.trans H.out)
              have c31b0 : (t183 == 0) = true := beq_iff_eq.mpr c31
              have c31b1 : (t183 != 0) = false := bne_eq_false_iff_eq.mpr c31
              clear c31 H
              first | rw [c31b0] | skip
              go_wp2
              go_roundg kj11
              case measure => have := HK1.out; have := HJ11.out; omega
              case rel => exact ⟨(wrap64 (x5_1 + 1)), (a0_0), (y180), (.slice Ao55 y180.length co55), (by first | rfl | (simp; done) | (simp [*]; done)), H', ⟨by have := HK1.out; have := HJ11.out; omega⟩, ⟨by apply sR; exact Kd.R_mono (Kd.R_far (p := ⟨gb169, 1, none⟩) (Kd.R_far (p := ⟨gb169, 0, none⟩) (Kd.R_types HO_4.out BK169.out (by decide)) (fun _ hk => hk.2) (.int .i64 a0_0)) (fun _ hk => hk.2) (.slice Ao55 y180.length co55)) (fun _ hk => trivial)⟩, ⟨by apply sR; exact Kd.R_mono (Kd.R_far (p := ⟨gb169, 1, none⟩) (Kd.R_far (p := ⟨gb169, 0, none⟩) (Kd.R_types HO182.out BK169.out (by decide)) (fun _ hk => hk.2) (.int .i64 a0_0)) (fun _ hk => hk.2) (.slice Ao55 y180.length co55)) (fun _ hk => trivial)⟩, ⟨sF NB167_169.out (sF NB167_169.out (sB BK167.out))⟩, ⟨sF NB168_169.out (sF NB168_169.out (sB BK168.out))⟩, ⟨by apply sB; refine blk_put (cs := #[.int .i64 a0_0, .slice Ao50 x170001_1.length co50]) ?_ 1 _ rfl; apply sB; refine blk_put (cs := #[.int .i64 x170000_1, .slice Ao50 x170001_1.length co50]) ?_ 0 _ rfl; apply sB; exact BK169.out⟩, ⟨by repeat (first | exact sW HB.out | refine sS ?_)⟩⟩
             ·have H' := Aside0.mk ((if_neg c31).symm.trans H.out)
              have c31b0 : (t183 == 0) = false := beq_eq_false_iff_ne.mpr c31
              have c31b1 : (t183 != 0) = true := bne_iff_ne.mpr c31
              clear c31 H
              first | rw [c31b0] | skip
              go_wp2
              go_roundg kj11
              case measure => have := HK1.out; have := HJ11.out; omega
              case rel => exact ⟨(wrap64 (x5_1 + 1)), (x170000_1), (x170001_1), (.slice Ao50 x170001_1.length co50), (by first | rfl | (simp; done) | (simp [*]; done)), H', ⟨by have := HK1.out; have := HJ11.out; omega⟩, ⟨sR HO_4.out⟩, ⟨by apply sR; exact Kd.R_mono HO_170001.out (fun _ hk => trivial)⟩, ⟨sB BK167.out⟩, ⟨sB BK168.out⟩, ⟨sB BK169.out⟩, ⟨by repeat (first | exact sW HB.out | refine sS ?_)⟩⟩
            ·rw [if_neg c29] at H
             exact absurd H (by simp)
           ·rw [if_neg c28] at H
            exact absurd H (by simp)
          ·rw [if_neg c27] at H
           exact absurd H (by simp)
         ·rw [if_neg c26] at H
          exact absurd H (by simp)
       ·rw [if_neg c22] at H
        exact absurd H (by simp)
      ·rw [if_neg c21] at H
       exact absurd H (by simp)
     ·replace c20 := Bool.eq_false_iff.mpr c20
      subst c20
      have H1 : (some (x170000_1, x170001_1)) = some (r1, r2) := by rw [if_neg (show ¬ (false = true) by decide)] at H; exact H
      clear H
      have H := H1
      clear H1
      simp only [Option.some.injEq, Prod.mk.injEq] at H
      obtain ⟨rfl, rfl⟩ := H
      have hnb150 := NB169_167.out
      have hnc150 := NB167_169.out
      have hnb151 := NB169_168.out
      have hnc151 := NB168_169.out
      have hcz152_0 := c0 BK169.out
      have hcz152_1 := c1 BK169.out
      have hfz152_0 := blk_frozen BK169.out 0
      have hfz152_1 := blk_frozen BK169.out 1
      have hnb153 := NB168_167.out
      have hnc153 := NB167_168.out
      have hcz154_0 := c0 BK168.out
      have hcz154_1 := c1 BK168.out
      have hfz154_0 := blk_frozen BK168.out 0
      have hfz154_1 := blk_frozen BK168.out 1
      obtain ⟨Ao155, co155, eo155⟩ := Kd.R_slice HO_170001.out
      subst eo155
      go_wp2
      refine bodyPost_ret (results_cell_row rfl _ _ gb168 31 #[.int .i64 x170000_1, .slice Ao155 x170001_1.length co155] (0, 0) _ rfl (by apply sB; refine blk_put (cs := #[.int .i64 x170000_1, .slice none 0 0]) ?_ 1 _ rfl; apply sB; refine blk_put (cs := #[.int .i64 0, .slice none 0 0]) ?_ 0 _ rfl; apply sB; exact BK168.out) Tryz.underlying31 rfl (by kernel_rfl)) rfl ?_
      exact ⟨_, by first | rfl | (simp [errW_none, errW_some] <;> rfl) | (simp [*, errW_none, errW_some] <;> rfl), by apply sR; exact Kd.R_mono (Kd.R_far (p := ⟨gb168, 1, none⟩) (Kd.R_far (p := ⟨gb168, 0, none⟩) (Kd.R_types HO_170001.out BK168.out (by decide)) (fun _ hk => hk.2) (.int .i64 x170000_1)) (fun _ hk => hk.2) (.slice Ao155 x170001_1.length co155)) (fun _ hk => trivial), by repeat (first | exact sW HB.out | refine sS ?_)⟩

end Go.Proofs.YteidebllianiiaaGreatDoor.PAll
