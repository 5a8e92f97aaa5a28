/- The best of lists: Join. No condition but on size. -/
import Derived.Test.YtkjffoeelfodhaaListK
namespace Go.Proofs.Ytkjffoeelfodhaa
open Go.RowKit Go.Shelf Go.Sort Go.Proofs.Ytkjffoeelfodhaa.Sc Go.Proofs.Ytkjffoeelfodhaa.PAll Go.Proofs.YtkjffoeelfodhaaW.PrintWords Go.Proofs.YtkjffoeelfodhaaW.PrintLast Go.Proofs.YtkjffoeelfodhaaW.PrintMore

theorem addAll_append (k : Nat) (K xs ys : List Rk) : addAll k K (xs ++ ys) = addAll k (addAll k K xs) ys := by unfold addAll; rw [List.foldl_append]
theorem addAll_len (k : Nat) (xs : List Rk) : (addAll k [] xs).length ≤ k := (addAll_ok k xs [] [] heap_nil (Kept.nil k) (Nat.zero_le _)).2.2
/-- The ranks of so many lists. -/
def upTo (l : List (List S28)) (i : Nat) : List Rk := (l.take i).flatten.map toR
theorem upTo_succ (l : List (List S28)) (i : Nat) (h : i < l.length) : upTo l (i + 1) = upTo l i ++ (rd_L4 l (i : Int)).map toR := by
  unfold upTo rd_L4
  rw [Int.toNat_natCast, List.take_succ_eq_append_getElem h, List.flatten_append, List.map_append, List.flatten_singleton, List.getD_eq_getElem?_getD, List.getElem?_eq_getElem h]; rfl
theorem upTo_all (l : List (List S28)) : upTo l l.length = l.flatten.map toR := by unfold upTo; rw [List.take_length]
theorem row_take (r : List S28) (j : Nat) (h : j < r.length) : (r.take (j + 1)).map toR = (r.take j).map toR ++ [toR (rd_T28 r (j : Int))] := by
  rw [List.take_succ_eq_append_getElem h, List.map_append]
  unfold rd_T28
  rw [Int.toNat_natCast, List.getD_eq_getElem?_getD, List.getElem?_eq_getElem h]; rfl
/-- The best k. -/
def bestR (l : List Rk) (k : Nat) : List Rk := (sortR l).take k

set_option maxHeartbeats 2000000 in
set_option maxRecDepth 100000 in
theorem join_any (A : Option Addr) (c : Nat) (l : List (List S28)) (k : Int) (w : World) (hC : Kd.C (Kd.slice 28 k28) w A l.length l) (hk : k ≤ 1000) :
    Calls Try.prog 14 #[.slice A l.length c, .int .i64 k] w fun e w' => ∃ v, e = .returned v ∧ Kd.R k28 28 w' w.heap.size (fun _ => True) v ((bestR (l.flatten.map toR) k.toNat).map ofR) ∧ Below w.heap.size w w' := by
  obtain ⟨n, hn⟩ : ∃ n, l.length = n := ⟨_, rfl⟩
  have hmax := Kd.C_max hC
  rw [hn] at hC hmax ⊢
  have HN := Lib.hid hn
  have HC := Lib.hid hC
  have HNEW := Lib.hid (top_new k w hk)
  obtain ⟨kn, hkn⟩ : ∃ kn, k.toNat = kn := ⟨_, rfl⟩
  rw [hkn] at HNEW ⊢
  have hkb : kn ≤ 1000 := by omega
  have HKB := Lib.hid hkb
  clear hn hC hkn hk hkb
  go_enter Try.func14, Try.ntmps14
  go_wp2_with fail
  refine HNEW.out.mono ?_
  rintro e w1 ⟨rfl, hT, hb⟩
  obtain ⟨g, hg⟩ : ∃ g, w.heap.size = g := ⟨_, rfl⟩
  rw [hg] at hT ⊢
  have HG := Lib.hid hg
  clear hg
  go_wp2_with fail
  go_loopw [14] (fun vi wr => ∃ (i : Nat) (v : Value) (tot : Int), vi = .int .i64 i ∧ i ≤ n ∧ IsTop wr w.heap.size g v (kn : Int) tot (addAll kn [] (upTo l i)) ∧ Below w.heap.size w wr) (fun vi _ => n - (intOf vi).toNat)
  case atStart => exact ⟨0, _, _, rfl, by omega, by rw [HG.out]; exact hT, hb⟩
  case round =>
    clear hT hb
    obtain ⟨i, v, tot, rfl, hi, hT, hB⟩ := hrel
    have HT := Lib.hid hT
    have HB := Lib.hid hB
    clear hT hB
    by_cases hlt : i < n
    · obtain ⟨ad, A0, c0, rfl, hx, hcl, hC0⟩ := at_L4 HC.out (i : Int) (by omega) (by omega)
      rw [Int.toNat_natCast] at hx
      have hx2 := (HB.out.cell (World.block_lt_of_cell? _ _ hx)).trans hx
      have p0 := eq_true (show (0 : Int) ≤ (i : Int) by omega)
      have p1 := eq_true (show (i : Int) < (n : Int) by omega)
      have HU := Lib.hid (upTo_succ l i (by rw [HN.out]; exact hlt))
      have HC0 := Lib.hid hC0
      obtain ⟨row, hrow⟩ : ∃ row, rd_L4 l (i : Int) = row := ⟨_, rfl⟩
      rw [hrow] at HC0 HU hx2
      obtain ⟨m, hm⟩ : ∃ m, row.length = m := ⟨_, rfl⟩
      rw [hm] at HC0 hx2
      have hmx := Kd.C_max HC0.out
      have HM := Lib.hid hm
      clear hx hcl hC0 hrow hm
      go_wp2_with fail
      clear hx2
      go_loopw [20] (fun vj ws => ∃ (j : Nat) (v : Value) (tot : Int), vj = .int .i64 j ∧ j ≤ m ∧ IsTop ws w.heap.size g v (kn : Int) tot (addAll kn [] (upTo l i ++ (row.take j).map toR)) ∧ Below w.heap.size w ws) (fun vj _ => m - (intOf vj).toNat)
      case atStart => exact ⟨0, _, _, rfl, by omega, by rw [List.take_zero, List.map_nil, List.append_nil]; exact HT.out, HB.out⟩
      case round =>
        clear HT HB
        obtain ⟨j, v, tot, rfl, hj, hT, hB⟩ := hrel
        have HT := Lib.hid hT
        have HB := Lib.hid hB
        clear hT hB
        by_cases hjl : j < m
        · obtain ⟨ad2, rfl, y0, y1, y2⟩ := at_T28 HC0.out (j : Int) (by omega) (by omega)
          rw [Int.toNat_natCast] at y0 y1 y2
          have z0 := (HB.out.cell (World.block_lt_of_cell? _ _ y0)).trans y0
          have z1 := (HB.out.cell (World.block_lt_of_cell? _ _ y1)).trans y1
          have z2 := (HB.out.cell (World.block_lt_of_cell? _ _ y2)).trans y2
          have q0 := eq_true (show (0 : Int) ≤ (j : Int) by omega)
          have q1 := eq_true (show (j : Int) < (m : Int) by omega)
          have HR := Lib.hid (row_take row j (by rw [HM.out]; exact hjl))
          obtain ⟨x, hx⟩ : ∃ x, toR (rd_T28 row (j : Int)) = x := ⟨_, rfl⟩
          have hxe : rd_T28 row (j : Int) = ofR x := by rw [← hx]; exact (ofR_to _).symm
          rw [hxe] at z0 z1 z2
          rw [hx] at HR
          obtain ⟨x0, x1, x2⟩ := x
          have z0' : wr.cell? (ad2.add (j * 3)) = some (.int .i64 x0) := z0
          have z1' : wr.cell? ⟨(ad2.add (j * 3)).block, (ad2.add (j * 3)).off + 1, none⟩ = some (.int .i64 x1) := z1
          have z2' : wr.cell? ⟨(ad2.add (j * 3)).block, (ad2.add (j * 3)).off + 2, none⟩ = some (.int .i64 x2) := z2
          clear y0 y1 y2 hx hxe z0 z1 z2
          have hba : Below wr.heap.size wr (wr.alloc (.cells #[.int .i64 x0, .int .i64 x1, .int .i64 x2] 28)) := (Below.refl _ wr).alloc (Nat.le_refl _) _
          have hlenK := addAll_len kn (upTo l i ++ (row.take j).map toR)
          have HADD := Lib.hid (add_any w.heap.size g v kn tot _ (x0, x1, x2) _ (HT.out.below hba) HKB.out hlenK)
          have HBA := Lib.hid (HB.out.trans (hba.mono HB.out.size))
          clear hba hlenK
          go_wp2_with fail
          refine HADD.out.mono ?_
          rintro e w5 ⟨b5, v5, tot5, rfl, hT5, hb5⟩
          have hBB := HBA.out.trans hb5
          have hstep : addAll kn [] (upTo l i ++ (row.take (j + 1)).map toR) = addK kn (addAll kn [] (upTo l i ++ (row.take j).map toR)) (x0, x1, x2) := by
            rw [HR.out, ← List.append_assoc, addAll_append]; rfl
          rw [← hstep] at hT5
          have HX := Lib.hid (And.intro hT5 hBB)
          clear hT5 hBB hb5 hstep
          go_wp2_with fail
          go_roundw
          case rel => exact ⟨j + 1, _, _, by go_num, by omega, HX.out.1, HX.out.2⟩
          case measure => simp [intOf]; omega
        · obtain rfl : j = m := by omega
          have hT := HT.out
          rw [List.take_of_length_le (by rw [HM.out]; exact Nat.le_refl _), ← HU.out] at hT
          have HX := Lib.hid hT
          clear hT
          go_wp2_with fail
          go_roundw
          case rel => exact ⟨i + 1, _, _, by go_num, by omega, HX.out, HB.out⟩
          case measure => simp [intOf]; omega
    · obtain rfl : i = n := by omega
      have hT := HT.out
      rw [← HN.out, upTo_all] at hT
      have hl := addAll_len kn (l.flatten.map toR)
      have HL := Lib.hid (list_any w.heap.size g v (kn : Int) tot _ wr hT (by have := HKB.out; omega))
      clear hT hl
      go_wp2_with fail
      refine HL.out.mono ?_
      rintro e w5 ⟨v5, rfl, hR, hb5⟩
      rw [addAll_sorted] at hR
      have hR2 := Kd.R_lower hR HB.out.size
      have hBB := HB.out.trans (hb5.mono HB.out.size)
      go_wp2_with fail
      go_ret
      exact ⟨v5, rfl, hR2, hBB⟩

/-! ### in the form of printed functions -/
def score_Better.f (a0_0 : Int) (a0_1 : Int) (a0_2 : Int) (a1_0 : Int) (a1_1 : Int) (a1_2 : Int) : Option (Bool) := some (bet (a0_0, a0_1, a0_2) (a1_0, a1_1, a1_2))
theorem score_Better.calls (a0_0 : Int) (a0_1 : Int) (a0_2 : Int) (a1_0 : Int) (a1_1 : Int) (a1_2 : Int) (r : Bool) (w : World) (h : score_Better.f a0_0 a0_1 a0_2 a1_0 a1_1 a1_2 = some r) :
    Calls Try.prog 8 #[.agg #[.int .i64 a0_0, .int .i64 a0_1, .int .i64 a0_2], .agg #[.int .i64 a1_0, .int .i64 a1_1, .int .i64 a1_2]] w fun e w' => e = .returned (.bool r) ∧ Below w.heap.size w w' := by
  cases h
  exact better_any (a0_0, a0_1, a0_2) (a1_0, a1_1, a1_2) w
def score_Join.f (l0 : List (List (S28))) (a1 : Int) : Option ((List (S28))) := if a1 ≤ 1000 then some ((bestR (l0.flatten.map toR) a1.toNat).map ofR) else none
theorem score_Join.calls (A0 : Option Addr) (c0 : Nat) (l0 : List (List (S28))) (a1 : Int) (r : List (S28)) (w : World) (hr0 : Kd.C (Kd.slice 28 k28) w A0 l0.length l0) (_hc0 : l0.length ≤ c0) (h : score_Join.f l0 a1 = some r) :
    Calls Try.prog 14 #[.slice A0 l0.length c0, .int .i64 a1] w fun e w' => ∃ v0_ : Value, e = .returned (v0_) ∧ Kd.R k28 28 w' w.heap.size (fun _ => True) v0_ r ∧ Below w.heap.size w w' := by
  unfold score_Join.f at h
  split at h
  · cases h
    exact join_any A0 c0 l0 a1 w hr0 (by assumption)
  · cases h
def score_Best.f (l0 : List (S28)) (a1 : Int) : Option ((List (S28))) := if a1 ≤ 1000 then some ((bestR (l0.map toR) a1.toNat).map ofR) else none
set_option maxRecDepth 100000 in
theorem score_Best.calls (A0 : Option Addr) (c0 : Nat) (l0 : List (S28)) (a1 : Int) (r : List (S28)) (w : World) (hr0 : Kd.C k28 w A0 l0.length l0) (hc0 : l0.length ≤ c0) (h : score_Best.f l0 a1 = some r) :
    Calls Try.prog 13 #[.slice A0 l0.length c0, .int .i64 a1] w fun e w' => ∃ v0_ : Value, e = .returned (v0_) ∧ Kd.R k28 28 w' w.heap.size (fun _ => True) v0_ r ∧ Below w.heap.size w w' := by
  unfold score_Best.f at h
  split at h
  · rename_i hk
    cases h
    have hone : Kd.C (Kd.slice 28 k28) (w.alloc (.cells #[.slice A0 l0.length c0] 24)) (some ⟨w.heap.size, 0, none⟩) 1 [l0] := by
      refine ⟨rfl, by decide, fun _ => ⟨_, rfl, fun j p hj => ?_⟩⟩
      obtain rfl : j = 0 := by
        have := (List.getElem?_eq_some_iff.1 hj).1
        simp at this; exact this
      obtain rfl : l0 = p := by simpa using hj
      refine ⟨[.slice A0 l0.length c0], rfl, ⟨A0, c0, rfl, hc0, Kd.C_alloc hr0 _⟩, fun i u hu => ?_⟩
      obtain rfl : i = 0 := by
        have := (List.getElem?_eq_some_iff.1 hu).1
        simp at this; exact this
      obtain rfl : Value.slice A0 l0.length c0 = u := by simpa using hu
      simp [go_sem]
    have hJ := join_any (some ⟨w.heap.size, 0, none⟩) 1 [l0] a1 _ hone hk
    rw [show [l0].flatten = l0 by simp] at hJ
    have hb : Below w.heap.size w (w.alloc (.cells #[.slice A0 l0.length c0] 24)) := (Below.refl _ w).alloc (Nat.le_refl _) _
    have HJ := Lib.hid hJ
    have HB := Lib.hid hb
    clear hone hJ hb hr0 hk
    go_enter Try.func13, Try.ntmps13
    go_wp2_with fail
    refine HJ.out.mono ?_
    rintro e w1 ⟨v, rfl, hR, hb1⟩
    have hR2 := Kd.R_lower hR HB.out.size
    have hBB := HB.out.trans (hb1.mono HB.out.size)
    go_wp2_with fail
    go_ret
    exact ⟨v, rfl, hR2, hBB⟩
  · cases h
end Go.Proofs.Ytkjffoeelfodhaa
