/- The best of many: put, replace, New, Add. No condition but on size. -/
import Derived.Test.YtkjffoeelfodhaaDown
import Derived.Deep.AppendLies
import Derived.RangeFuncBox
namespace Go.Proofs.Ytkjffoeelfodhaa
open Go.RowKit Go.Shelf Go.Sort Go.Proofs.Ytkjffoeelfodhaa.Sc Go.Proofs.Ytkjffoeelfodhaa.PAll Go.Proofs.YtkjffoeelfodhaaW.PrintWords Go.Proofs.YtkjffoeelfodhaaW.PrintLast Go.Proofs.YtkjffoeelfodhaaW.PrintMore

theorem IsTop.below_base {w w1 : World} {base g : Nat} {v : Value} {k tot : Int} {K : List Rk} (h : IsTop w base g v k tot K) (hg : w.grownBy w1 v.ownBlock) : Below base w w1 := by
  refine (Below.refl base w).grown hg ?_ (fun j hj => ?_)
  · exact Nat.le_of_lt (Nat.lt_of_le_of_lt h.ge h.lt)
  · obtain ⟨inner, ho⟩ := Kd.R_own h.row
    exact own_base ho j hj
theorem IsTop.boxed {w : World} {base g : Nat} {v : Value} {k tot : Int} {K : List Rk} (h : IsTop w base g v k tot K) (o : Nat) : w.frozen? ⟨g, o, none⟩ = false := by simp [World.frozen?, h.cell]
theorem grownBy_setCell_any (W : World) (b o : Nat) (v : Value) : W.grownBy (W.setCell ⟨b, o, none⟩ v) (some b) := by
  exact ⟨rfl, rfl, rfl, (KeepsWalks.setCell W _ v).size, fun k _ hk => Below.heap_setCell W ⟨b, o, none⟩ v k (fun e => hk (by rw [e]))⟩
/-- The field is written: another row. -/
theorem IsTop.field {W w1 : World} {base g : Nat} {v v1 : Value} {k tot : Int} {K K1 : List Rk} (h : IsTop W base g v k tot K) (hR : Kd.R k28 28 w1 base (fun _ => True) v1 (K1.map ofR)) (hg : W.grownBy w1 v.ownBlock) :
    w1.cell? ⟨g, 2, none⟩ = some v ∧ w1.frozen? ⟨g, 2, none⟩ = false ∧ IsTop (w1.setCell ⟨g, 2, none⟩ v1) base g v1 k tot K1 := by
  have hb : w1.heap[g]? = some (.cells #[.int .i64 k, .int .i64 tot, v, .func (.func 25) #[] #[]] 55 (0, 0)) := (hg.block g h.lt (Kd.R_ne h.row h.cell (by decide))).trans h.cell
  have hlt : g < w1.heap.size := (Array.getElem?_eq_some_iff.1 hb).1
  refine ⟨by simp [World.cell?, hb], by simp [World.frozen?, hb], ⟨?_, h.ge, ?_⟩⟩
  · simp [World.setCell, hb, Array.getElem?_modify]
  · exact Kd.R_grown1 hR rfl (grownBy_setCell_any w1 g 2 v1) (Kd.R_ne hR hb (by decide))

set_option maxHeartbeats 2000000 in
set_option maxRecDepth 100000 in
theorem put_any (base g : Nat) (v : Value) (k tot : Int) (K : List Rk) (x : Rk) (w : World) (hT : IsTop w base g v k tot K) (hl : K.length ≤ 10000) :
    Calls Try.prog 26 #[.pointer (some ⟨g, 2, none⟩), .agg #[.int .i64 x.1, .int .i64 x.2.1, .int .i64 x.2.2]] w fun e w' => e = .returned (.tuple #[]) ∧ ∃ v', IsTop w' base g v' k tot (Sc.up (K.length + 2) (K ++ [x]) K.length) ∧ Below base w w' := by
  obtain ⟨x0, x1, x2⟩ := x
  dsimp only
  obtain ⟨W1, hW1⟩ : ∃ W1, W1 = w.alloc (.cells #[.int .i64 x0, .int .i64 x1, .int .i64 x2] 28) := ⟨_, rfl⟩
  have hb1 : Below w.heap.size w W1 := by rw [hW1]; exact (Below.refl _ w).alloc (Nat.le_refl _) _
  have hT1 := hT.below hb1
  have d0 : W1.cell? ⟨w.heap.size, 0, none⟩ = some (.int .i64 x0) := by rw [hW1]; simp [go_sem]
  have d1 : W1.cell? ⟨w.heap.size, 1, none⟩ = some (.int .i64 x1) := by rw [hW1]; simp [go_sem]
  have d2 : W1.cell? ⟨w.heap.size, 2, none⟩ = some (.int .i64 x2) := by rw [hW1]; simp [go_sem]
  obtain ⟨A1, n1, e1⟩ := Kd.R_slice hT1.row
  rw [List.length_map] at e1
  subst e1
  have d3 := hT1.c2
  have hbw : Below base w W1 := hb1.mono (Nat.le_of_lt (Nat.lt_of_le_of_lt hT.ge hT.lt))
  have hsz : base ≤ W1.heap.size := Nat.le_trans (Nat.le_of_lt (Nat.lt_of_le_of_lt hT.ge hT.lt)) hb1.size
  have hT2 : IsTop (W1.alloc (.cells #[.int .i64 x0, .int .i64 x1, .int .i64 x2] 28)).drew base g (.slice A1 K.length n1) k tot K := (hT1.below ((Below.refl _ W1).alloc (Nat.le_refl _) _)).drew
  have hbW : Below base w (W1.alloc (.cells #[.int .i64 x0, .int .i64 x1, .int .i64 x2] 28)).drew := (hbw.alloc hsz _).drew
  have hone : Kd.C k28 (W1.alloc (.cells #[.int .i64 x0, .int .i64 x1, .int .i64 x2] 28)).drew (some ⟨W1.heap.size, 0, none⟩) 1 [ofR (x0, x1, x2)] := by
    refine ⟨rfl, by decide, fun _ => ⟨_, rfl, fun j p hj => ?_⟩⟩
    obtain rfl : j = 0 := by
      have := (List.getElem?_eq_some_iff.1 hj).1
      simp at this; exact this
    obtain rfl : ofR (x0, x1, x2) = p := by simpa using hj
    refine ⟨[.int .i64 x0, .int .i64 x1, .int .i64 x2], rfl, k28_mk _ _, fun i u hu => ?_⟩
    show (W1.alloc _).cell? _ = some u
    match i with
    | 0 => simp at hu; subst hu; simp [go_sem]
    | 1 => simp at hu; subst hu; simp [go_sem]
    | 2 => simp at hu; subst hu; simp [go_sem]
    | i + 3 => simp at hu
  have hbase : base ≤ (W1.alloc (.cells #[.int .i64 x0, .int .i64 x1, .int .i64 x2] 28)).drew.heap.size := Nat.le_trans hsz (by show W1.heap.size ≤ (W1.alloc _).heap.size; simp)
  have hbd : ((K.map ofR).length + 1) * 24 ≤ 140737488355328 := by rw [List.length_map]; omega
  have d4 := hT2.c2
  have d5 : (W1.alloc (.cells #[.int .i64 x0, .int .i64 x1, .int .i64 x2] 28)).cell? ⟨g, 2, none⟩ = some (.slice A1 K.length n1) := d4
  have HU := Lib.hid hl
  have HT2 := Lib.hid hT2
  have HW := Lib.hid hW1
  clear hT hT1 hb1 hbw hl hsz
  go_enter Try.func26, Try.ntmps26
  go_wp2_with fail
  rw [← hW1]
  clear hW1
  have hrw := HT2.out.row
  go_region_law (first | (refine Kd.R_append_rows_step k28 (w0 := w) base (by rfl) (.tmp 8) (.tmp 10) 24 28 (.agg #[.int .i64 0, .int .i64 0, .int .i64 0]) 24 rfl Try.underlying24 info28 rfl (by decide) (by decide) _ (K.map ofR) [ofR (x0, x1, x2)] (some ⟨W1.heap.size, 0, none⟩) 1 1 (fun _ => True) (fun _ => False) rfl rfl hrw hone (fun _ _ h => h) (fun _ h => h.elim) (fun _ _ => trivial) hbW hbase hbd ?_; intro v1 w1 hR1 hb1 hg1 _; obtain ⟨hc1, hf1, hT3⟩ := IsTop.field (K1 := K ++ [(x0, x1, x2)]) HT2.out (by rw [List.map_append]; exact hR1) hg1; obtain ⟨A2, n2, e2⟩ := Kd.R_slice hT3.row; subst e2))
  all_goals
    have hlen2 : ((K ++ [(x0, x1, x2)]).map ofR).length = K.length + 1 := by simp
    have hbx : Below base w (w1.setCell ⟨g, 2, none⟩ (.slice A2 ((K ++ [(x0, x1, x2)]).map ofR).length n2)) := hb1.setCell (p := ⟨g, 2, none⟩) HT2.out.ge _
    have hl := HU.out
    rw [hlen2] at hT3 hbx
    have d6 := hT3.c2
    have HT3 := Lib.hid hT3
    have HBX := Lib.hid hbx
    clear hT3 hbx
    go_wp2_with fail
    refine (up_any base g _ k tot (K ++ [(x0, x1, x2)]) K.length _ HT3.out (by simp) (by simp; omega)).mono ?_
    rintro e w5 ⟨rfl, hT5, hg5⟩
    go_wp2_with fail
    go_end0
    have hbb := HBX.out.trans (HT3.out.below_base hg5)
    rw [List.length_append, List.length_singleton] at hT5
    exact ⟨rfl, _, hT5, hbb⟩

set_option maxHeartbeats 2000000 in
set_option maxRecDepth 100000 in
theorem replace_any (base g : Nat) (v : Value) (k tot : Int) (K : List Rk) (x : Rk) (w : World) (hT : IsTop w base g v k tot K) (h0 : 0 < K.length) (hl : K.length ≤ 10000) :
    Calls Try.prog 27 #[.pointer (some ⟨g, 2, none⟩), .agg #[.int .i64 x.1, .int .i64 x.2.1, .int .i64 x.2.2]] w fun e w' => e = .returned (.tuple #[]) ∧ IsTop w' base g v k tot (Sc.down K.length (K.set 0 x) 0) ∧ Below base w w' := by
  obtain ⟨x0, x1, x2⟩ := x
  dsimp only
  obtain ⟨W1, hW1⟩ : ∃ W1, W1 = w.alloc (.cells #[.int .i64 x0, .int .i64 x1, .int .i64 x2] 28) := ⟨_, rfl⟩
  have hb1 : Below w.heap.size w W1 := by rw [hW1]; exact (Below.refl _ w).alloc (Nat.le_refl _) _
  have hT1 := hT.below hb1
  have d0 : W1.cell? ⟨w.heap.size, 0, none⟩ = some (.int .i64 x0) := by rw [hW1]; simp [go_sem]
  have d1 : W1.cell? ⟨w.heap.size, 1, none⟩ = some (.int .i64 x1) := by rw [hW1]; simp [go_sem]
  have d2 : W1.cell? ⟨w.heap.size, 2, none⟩ = some (.int .i64 x2) := by rw [hW1]; simp [go_sem]
  obtain ⟨gb, cap, rfl, hge, hgl, hne⟩ := hT1.form h0
  have d3 := hT1.c2
  obtain ⟨d4, d5, d6⟩ := hT1.at 0 h0
  rw [Nat.zero_mul] at d4
  rw [Nat.zero_mul, Nat.zero_add] at d5 d6
  have hf := hT1.thaw h0
  have f0 := hf 0
  have f1 := hf 1
  have f2 := hf 2
  have hbw : Below base w W1 := hb1.mono (Nat.le_of_lt (Nat.lt_of_le_of_lt hT.ge hT.lt))
  have p0 := eq_true (show (0 : Int) < (K.length : Int) by omega)
  have p1 := eq_true (show 0 < K.length from h0)
  have HH := Lib.hid (And.intro hT1 (And.intro hbw (And.intro h0 hl)))
  have n0 : ¬ w.heap.size = gb := by
    intro e
    have h1 := hT1.row
    obtain ⟨gb', cap', e', _, _, cells, hc⟩ := Kd.R_form (hT.row) (by simpa using h0)
    rw [List.length_map] at e'
    cases e'
    have := (Array.getElem?_eq_some_iff.1 hc).1
    omega
  have n1 : ¬ gb = w.heap.size := fun e => n0 e.symm
  clear hT hT1 hb1 hbw hf h0 hl
  go_enter Try.func27, Try.ntmps27
  go_wp2_with fail
  rw [← hW1]
  clear hW1
  go_region
  all_goals
    obtain ⟨hT1, hbw, h0, hl⟩ := HH.out
    obtain ⟨s1, g1⟩ := hT1.store hne 0 h0 x0 x1 x2
    rw [Nat.zero_mul] at s1 g1
    rw [Nat.zero_add] at s1 g1
    have hlen : (K.set 0 (x0, x1, x2)).length = K.length := List.length_set
    rw [← hlen] at s1
    have HS := Lib.hid (And.intro s1.drew (hbw.trans (hT1.below_base (grown_drew g1))))
    have HL := Lib.hid (And.intro h0 (And.intro hl hlen))
    clear hT1 hbw h0 hl s1 g1 hlen HH
    go_wp2_with fail
    refine (down_any base g _ k tot (K.set 0 (x0, x1, x2)) 0 _ HS.out.1 (by rw [HL.out.2.2]; exact HL.out.1) (by rw [HL.out.2.2]; have := HL.out.2.1; omega)).mono ?_
    rintro e w5 ⟨rfl, hT5, hg5⟩
    go_wp2_with fail
    go_end0
    have hbb := HS.out.2.trans (HS.out.1.below_base hg5)
    rw [HL.out.2.2] at hT5
    exact ⟨rfl, hT5, hbb⟩
end Go.Proofs.Ytkjffoeelfodhaa
