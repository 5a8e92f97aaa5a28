/- The best of many: Add, New. No condition but on size. -/
import Derived.Test.YtkjffoeelfodhaaAdd
namespace Go.Proofs.Ytkjffoeelfodhaa
open Go.RowKit Go.Shelf Go.Sort Go.Proofs.Ytkjffoeelfodhaa.Sc Go.Proofs.Ytkjffoeelfodhaa.PAll Go.Proofs.YtkjffoeelfodhaaW.PrintWords Go.Proofs.YtkjffoeelfodhaaW.PrintLast Go.Proofs.YtkjffoeelfodhaaW.PrintMore

theorem IsTop.total {W : World} {base g : Nat} {v : Value} {k tot : Int} {K : List Rk} (h : IsTop W base g v k tot K) (t2 : Int) : IsTop (W.setCell ⟨g, 1, none⟩ (.int .i64 t2)) base g v k t2 K := by
  refine ⟨?_, h.ge, ?_⟩
  · simp [World.setCell, h.cell, Array.getElem?_modify]
  · exact Kd.R_grown1 h.row rfl (grownBy_setCell_any W g 1 _) (Kd.R_ne h.row h.cell (by decide))

set_option maxHeartbeats 2000000 in
set_option maxRecDepth 100000 in
theorem add_any (base g : Nat) (v : Value) (k : Nat) (tot : Int) (K : List Rk) (x : Rk) (w : World) (hT : IsTop w base g v (k : Int) tot K) (hk : k ≤ 1000) (hl : K.length ≤ k) :
    Calls Try.prog 20 #[.pointer (some ⟨g, 0, none⟩), .agg #[.int .i64 x.1, .int .i64 x.2.1, .int .i64 x.2.2]] w fun e w' => ∃ b v' tot', e = .returned (.bool b) ∧ IsTop w' base g v' (k : Int) tot' (addK k K x) ∧ Below base w w' := by
  obtain ⟨x0, x1, x2⟩ := x
  dsimp only
  have hgl := hT.lt
  have hbase : base ≤ w.heap.size := Nat.le_of_lt (Nat.lt_of_le_of_lt hT.ge hT.lt)
  have hT1 := hT.below ((Below.refl _ w).alloc (Nat.le_refl _) (.cells #[.int .i64 x0, .int .i64 x1, .int .i64 x2] 28))
  have d1 := hT1.c1
  have d2 := hT1.boxed 1
  clear hT1
  obtain ⟨W2, hW2⟩ : ∃ W2, W2 = (w.setCell ⟨g, 1, none⟩ (.int .i64 (wrap64 (tot + 1)))).alloc (.cells #[.int .i64 x0, .int .i64 x1, .int .i64 x2] 28) := ⟨_, rfl⟩
  have hsz : (w.setCell ⟨g, 1, none⟩ (.int .i64 (wrap64 (tot + 1)))).heap.size = w.heap.size := by simp [World.setCell]
  have hT2 : IsTop W2 base g v (k : Int) (wrap64 (tot + 1)) K := by rw [hW2]; exact (hT.total _).below ((Below.refl _ _).alloc (Nat.le_refl _) _)
  have hB2 : Below base w W2 := by rw [hW2]; exact ((Below.refl base w).setCell (p := ⟨g, 1, none⟩) hT.ge _).alloc (by rw [hsz]; exact hbase) _
  have d3 : W2.cell? ⟨w.heap.size, 0, none⟩ = some (.int .i64 x0) := by rw [hW2]; simp [go_sem, hsz]
  have d4 : W2.cell? ⟨w.heap.size, 1, none⟩ = some (.int .i64 x1) := by rw [hW2]; simp [go_sem, hsz]
  have d5 : W2.cell? ⟨w.heap.size, 2, none⟩ = some (.int .i64 x2) := by rw [hW2]; simp [go_sem, hsz]
  have n0 : ¬ w.heap.size = g := by omega
  have n1 : ¬ g = w.heap.size := by omega
  obtain ⟨A1, n1', e1⟩ := Kd.R_slice hT2.row
  rw [List.length_map] at e1
  subst e1
  have HT2 := Lib.hid hT2
  have HB2 := Lib.hid hB2
  have d6 := hT2.c0
  have d7 := hT2.c2
  have hWW := Lib.hid hW2
  clear hT hB2 hT2 hsz hW2
  go_enter Try.func20, Try.ntmps20
  go_wp2_with fail
  rw [← hWW.out]
  clear d1 d2
  obtain ⟨B, hBB⟩ : ∃ B, w.heap.size = B := ⟨_, rfl⟩
  rw [hBB] at d3 d4 d5 n0 n1 ⊢
  clear hBB hWW
  by_cases hlt : K.length < k
  · have g1 : decide ((K.length : Int) < (k : Int)) = true := decide_eq_true (by omega)
    have g2 : (K.length : Int) < (k : Int) := by omega
    have hadd : addK k K (x0, x1, x2) = Sc.up (K.length + 2) (K ++ [(x0, x1, x2)]) K.length := by unfold addK; rw [if_pos hlt]
    have HADD := Lib.hid hadd
    clear hadd
    go_quiet (fail)
    go_wp2_with fail
    obtain ⟨W3, hW3⟩ : ∃ W3, W3 = W2.drewN nq := ⟨_, rfl⟩
    have hT3 : IsTop W3 base g (.slice A1 K.length n1') (k : Int) (wrap64 (tot + 1)) K := by rw [hW3]; exact HT2.out.drewN _
    have hB3 : Below base w W3 := by rw [hW3]; exact pw_below_drewN HB2.out _
    have e3 : W3.cell? ⟨B, 0, none⟩ = some (.int .i64 x0) := by rw [hW3]; exact d3
    have e4 : W3.cell? ⟨B, 1, none⟩ = some (.int .i64 x1) := by rw [hW3]; exact d4
    have e5 : W3.cell? ⟨B, 2, none⟩ = some (.int .i64 x2) := by rw [hW3]; exact d5
    rw [← hW3]
    clear hW3 d3 d4 d5 d6 d7 HT2 HB2
    go_still_tail 4, (by kernel_rfl)
    change wpList _ _ _ _ _ W3.drew
    have hT4 := hT3.drew
    have HB4 := Lib.hid (hB3.drew)
    clear hT3 hB3 e3 e4 e5
    generalize W3.drew = W4 at *
    have HP := Lib.hid (put_any base g _ (k : Int) _ K (x0, x1, x2) W4 hT4 (by omega))
    clear hT4
    go_wp2_with fail
    refine HP.out.mono ?_
    rintro e w5 ⟨rfl, v', hT5, hb5⟩
    have hBB5 := HB4.out.trans hb5
    go_wp2_with fail
    go_ret
    exact ⟨true, v', _, rfl, by rw [HADD.out]; exact hT5, hBB5⟩
  · have g1 : decide ((K.length : Int) < (k : Int)) = false := decide_eq_false (by omega)
    have g2 : ¬ (K.length : Int) < (k : Int) := by omega
    have g3 : decide (K.length < k) = false := decide_eq_false hlt
    have hlk : K.length = k := by omega
    have hadd : addK k K (x0, x1, x2) = if decide (0 < k) && bet (x0, x1, x2) (at' K 0) then Sc.down K.length (K.set 0 (x0, x1, x2)) 0 else K := by unfold addK; rw [if_neg hlt]
    have HADD := Lib.hid hadd
    clear hadd
    go_quiet (fail)
    go_wp2_with fail
    obtain ⟨W3, hW3⟩ : ∃ W3, W3 = W2.drewN nq := ⟨_, rfl⟩
    have hT3 : IsTop W3 base g (.slice A1 K.length n1') (k : Int) (wrap64 (tot + 1)) K := by rw [hW3]; exact HT2.out.drewN _
    have hB3 : Below base w W3 := by rw [hW3]; exact pw_below_drewN HB2.out _
    have e3 : W3.cell? ⟨B, 0, none⟩ = some (.int .i64 x0) := by rw [hW3]; exact d3
    have e4 : W3.cell? ⟨B, 1, none⟩ = some (.int .i64 x1) := by rw [hW3]; exact d4
    have e5 : W3.cell? ⟨B, 2, none⟩ = some (.int .i64 x2) := by rw [hW3]; exact d5
    rw [← hW3]
    clear hW3 d3 d4 d5 d6 d7 HT2 HB2
    have e6 := hT3.c0
    rcases Nat.eq_zero_or_pos k with rfl | h0
    · have hg : decide ((0 : Int) < ((0 : Nat) : Int)) = false := by decide
      have HT3 := Lib.hid hT3
      have HB3 := Lib.hid hB3
      clear hT3 hB3
      go_quiet (fail)
      go_wp2_with fail
      go_ret
      exact ⟨false, _, _, rfl, by rw [HADD.out]; exact HT3.out.drewN _, pw_below_drewN HB3.out _⟩
    · have hadd := HADD.out
      rw [decide_eq_true h0, Bool.true_and] at hadd
      clear HADD
      obtain ⟨gb, cap, e2, hge, hgl3, hne⟩ := hT3.form (by omega)
      cases e2
      obtain ⟨e7, e8, e9⟩ := hT3.at 0 (by omega)
      rw [Nat.zero_mul] at e7
      rw [Nat.zero_mul, Nat.zero_add] at e8 e9
      have hA := fun W => better_any (x0, x1, x2) (at' K 0) W
      generalize at' K 0 = y at *
      generalize bet (x0, x1, x2) y = r at *
      obtain ⟨y0, y1, y2⟩ := y
      dsimp only at e7 e8 e9
      have HADD := Lib.hid hadd
      clear hadd
      have HA := Lib.hid hA
      have e10 := hT3.c2
      have HT3 := Lib.hid hT3
      have HB3 := Lib.hid hB3
      have hB0 := Lib.hid ((Below.refl W3.heap.size W3).drew)
      have p0 := eq_true (show (0 : Int) < (K.length : Int) by omega)
      have p1 := eq_true (show 0 < K.length by omega)
      have p2 := eq_true (show (0 : Int) < (k : Int) by omega)
      have p3 := eq_true (show 0 < k from h0)
      have hBl := World.block_lt_of_cell? _ _ e3
      clear hA hT3 hB3
      have HLK := Lib.hid (And.intro hlk h0)
      clear hlk h0
      go_region_held3 (fun w' => ((w'.cell? ⟨g, 0, none⟩ = some (.int .i64 (k : Int)) ∧ w'.cell? ⟨g, 2, none⟩ = some (.slice (some ⟨gb, 0, none⟩) K.length n1')) ∧
          (w'.cell? ⟨B, 0, none⟩ = some (.int .i64 x0) ∧ w'.cell? ⟨B, 1, none⟩ = some (.int .i64 x1) ∧ w'.cell? ⟨B, 2, none⟩ = some (.int .i64 x2)) ∧
          (w'.cell? ⟨gb, 0, none⟩ = some (.int .i64 y0) ∧ w'.cell? ⟨gb, 1, none⟩ = some (.int .i64 y1) ∧ w'.cell? ⟨gb, 2, none⟩ = some (.int .i64 y2))) ∧ Below W3.heap.size W3 w')
        (first | assumption | exact ⟨⟨⟨e6, e10⟩, ⟨e3, e4, e5⟩, ⟨e7, e8, e9⟩⟩, hB0.out⟩ | go_keep)
        (first | (go_at_call 8; (with_reducible refine Calls.mono (HA.out _) ?_); rintro e w5 ⟨rfl, hb6⟩; have hbb := below_two (And.right (by assumption)) hb6; obtain ⟨⟨i1, i2⟩, ⟨i3, i4, i5⟩, ⟨i6, i7, i8⟩⟩ := And.left (by assumption : _ ∧ Below W3.heap.size W3 _); have ht := And.intro (And.intro (cell_below i1 hb6) (cell_below i2 hb6)) (And.intro (And.intro (cell_below i3 hb6) (And.intro (cell_below i4 hb6) (cell_below i5 hb6))) (And.intro (cell_below i6 hb6) (And.intro (cell_below i7 hb6) (cell_below i8 hb6))))))
      all_goals
        have hT5 := HT3.out.below hbb
        have hB5 := Below.trans HB3.out (hbb.mono (Nat.le_of_lt (Nat.lt_of_le_of_lt HT3.out.ge HT3.out.lt)))
        obtain ⟨⟨-, -⟩, ⟨i3, i4, i5⟩, -⟩ := ht
        have HT5 := Lib.hid hT5
        have HB5 := Lib.hid hB5
        clear hbb hb6 hT5 hB5
        cases r with
        | false =>
          go_wp2_with fail
          go_ret
          exact ⟨false, _, _, rfl, by rw [HADD.out]; exact HT5.out, HB5.out⟩
        | true =>
          go_wp2_with fail
          go_still_tail 4, (by kernel_rfl)
          change wpList _ _ _ _ _ w5.drew
          have hT6 := HT5.out.drew
          have HB6 := Lib.hid (HB5.out.drew)
          clear i3 i4 i5
          generalize w5.drew = W6 at *
          have HP := Lib.hid (replace_any base g _ (k : Int) _ K (x0, x1, x2) W6 hT6 (by have := HLK.out; omega) (by omega))
          clear hT6
          go_wp2_with fail
          refine HP.out.mono ?_
          rintro e w7 ⟨rfl, hT7, hb7⟩
          have hBB7 := HB6.out.trans hb7
          go_wp2_with fail
          go_ret
          exact ⟨true, _, _, rfl, by rw [HADD.out]; exact hT7, hBB7⟩

set_option maxRecDepth 100000 in
/-- Nothing yet. -/
theorem top_new (k : Int) (w : World) (hk : k ≤ 1000) :
    Calls Try.prog 19 #[.int .i64 k] w fun e w' => e = .returned (.pointer (some ⟨w.heap.size, 0, none⟩)) ∧ IsTop w' w.heap.size w.heap.size (.slice none 0 0) ((k.toNat : Nat) : Int) 0 [] ∧ Below w.heap.size w w' := by
  by_cases h : k < 0
  · have hn : k.toNat = 0 := by omega
    rw [hn]
    clear hn
    have hmx : max k 0 = 0 := by omega
    go_enter Try.func19, Try.ntmps19
    go_wp2_with fail
    go_ret
    exact ⟨rfl, ⟨World.alloc_heap_new w _, Nat.le_refl _, Kd.R_nil _ _ _ _ _⟩, (Below.refl _ w).alloc (Nat.le_refl _) _⟩
  · obtain ⟨n, rfl⟩ : ∃ n : Nat, k = (n : Int) := ⟨k.toNat, by omega⟩
    rw [Int.toNat_natCast]
    go_enter Try.func19, Try.ntmps19
    go_wp2_with fail
    go_ret
    exact ⟨rfl, ⟨World.alloc_heap_new w _, Nat.le_refl _, Kd.R_nil _ _ _ _ _⟩, (Below.refl _ w).alloc (Nat.le_refl _) _⟩
end Go.Proofs.Ytkjffoeelfodhaa
