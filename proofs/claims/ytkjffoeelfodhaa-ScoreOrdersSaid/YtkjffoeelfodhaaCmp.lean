/- Ranks: compare, Better, and a pile's 'ahead'. No condition. -/
import Derived.Test.YtkjffoeelfodhaaShelf
import Derived.Test.YtkjffoeelfodhaaRows
import Derived.Test.YtkjffoeelfodhaaScoreH
import Derived.WalkKit
import Derived.Below
import Derived.Lib.Hide
import Derived.Deep.RegionHeld3
import Derived.Deep.QuietTactic
import Derived.BigQuiet
import Derived.Sort.Grow
namespace Go.Proofs.Ytkjffoeelfodhaa
open Go.RowKit Go.Shelf Go.Sort Go.Proofs.Ytkjffoeelfodhaa.Sc

theorem cmp_int (x y : Int) (w : World) : Calls Try.prog 24 #[.int .i64 x, .int .i64 y] w fun e w' => e = .returned (.int .i64 (Lib.compareInt x y)) ∧ w' = w := Try.cmp_Compare_int x y w

/-- The first one that is not 0. -/
def or3 (x y z : Int) : Int := if x ≠ 0 then x else if y ≠ 0 then y else z
set_option maxRecDepth 100000 in
theorem or_any (b : Nat) (x y z : Int) (w : World) (h0 : w.cell? ⟨b, 0, none⟩ = some (.int .i64 x)) (h1 : w.cell? ⟨b, 1, none⟩ = some (.int .i64 y)) (h2 : w.cell? ⟨b, 2, none⟩ = some (.int .i64 z)) :
    Calls Try.prog 23 #[.slice (some ⟨b, 0, none⟩) 3 3] w fun e w' => e = .returned (.int .i64 (or3 x y z)) ∧ w' = w := by
  obtain ⟨r, hr⟩ : ∃ r, or3 x y z = r := ⟨_, rfl⟩
  rw [hr]
  have HR := Lib.hid hr
  clear hr
  go_enter Try.func23, Try.ntmps23
  go_wp2_with fail
  go_loopw [8] (fun vk wr => ∃ k : Nat, k ≤ 3 ∧ vk = .int .i64 k ∧ wr = w ∧ (0 < k → x = 0) ∧ (1 < k → y = 0) ∧ (2 < k → z = 0)) (fun vk _ => 3 - (intOf vk).toNat)
  case atStart => exact ⟨0, by omega, rfl, rfl, by omega, by omega, by omega⟩
  case round =>
    obtain ⟨k, hk, rfl, hw, hx, hy, hz⟩ := hrel
    subst hw
    have HX := Lib.hid (And.intro hx (And.intro hy hz))
    clear hx hy hz
    match k, hk, HX with
    | 0, _, HX =>
      by_cases h : x = 0
      · have hb : (x != 0) = false := by simpa using h
        have H := Lib.hid h
        clear h
        go_wp2_with fail
        go_roundw
        case rel => exact ⟨1, by omega, rfl, trivial, fun _ => H.out, by omega, by omega⟩
        case measure => simp [intOf]
      · have hb : (x != 0) = true := by simpa using h
        have H := Lib.hid h
        clear h
        go_wp2_with fail
        go_ret
        exact ⟨congrArg (fun n : Int => Ending.returned (.int .i64 n)) (by rw [← HR.out]; unfold or3; rw [if_pos H.out]), rfl⟩
    | 1, _, HX =>
      by_cases h : y = 0
      · have hb : (y != 0) = false := by simpa using h
        have H := Lib.hid h
        clear h
        go_wp2_with fail
        go_roundw
        case rel => exact ⟨2, by omega, rfl, trivial, fun _ => HX.out.1 (by omega), fun _ => H.out, by omega⟩
        case measure => simp [intOf]
      · have hb : (y != 0) = true := by simpa using h
        have H := Lib.hid h
        clear h
        go_wp2_with fail
        go_ret
        exact ⟨congrArg (fun n : Int => Ending.returned (.int .i64 n)) (by rw [← HR.out]; unfold or3; rw [if_neg (by simpa using HX.out.1 (by omega)), if_pos H.out]), rfl⟩
    | 2, _, HX =>
      by_cases h : z = 0
      · have hb : (z != 0) = false := by simpa using h
        have H := Lib.hid h
        clear h
        go_wp2_with fail
        go_roundw
        case rel => exact ⟨3, by omega, rfl, trivial, fun _ => HX.out.1 (by omega), fun _ => HX.out.2.1 (by omega), fun _ => H.out⟩
        case measure => simp [intOf]
      · have hb : (z != 0) = true := by simpa using h
        have H := Lib.hid h
        clear h
        go_wp2_with fail
        go_ret
        exact ⟨congrArg (fun n : Int => Ending.returned (.int .i64 n)) (by rw [← HR.out]; unfold or3; rw [if_neg (by simpa using HX.out.1 (by omega)), if_neg (by simpa using HX.out.2.1 (by omega))]), rfl⟩
    | 3, _, HX =>
      go_wp2_with fail
      go_ret
      exact ⟨congrArg (fun n : Int => Ending.returned (.int .i64 n)) (by rw [← HR.out]; unfold or3; rw [if_neg (by simpa using HX.out.1 (by omega)), if_neg (by simpa using HX.out.2.1 (by omega))]; rw [HX.out.2.2 (by omega)]), rfl⟩

/-- A rank's cells. -/
def encK (x : Rk) : List Value := [.int .i64 x.1, .int .i64 x.2.1, .int .i64 x.2.2]
def cfR (a b : Rk) : Int := or3 (Lib.compareInt b.2.1 a.2.1) (Lib.compareInt a.2.2 b.2.2) (Lib.compareInt a.1 b.1)
theorem cmpI_lt (x y : Int) : (Lib.compareInt x y < 0 ↔ x < y) ∧ (Lib.compareInt x y = 0 ↔ x = y) := by
  unfold Lib.compareInt
  by_cases h1 : x < y
  · simp [h1]; omega
  · by_cases h2 : y < x
    · simp [h1, h2]; omega
    · simp [h1, h2]; omega
theorem cfR_lt (a b : Rk) : decide (cfR a b < 0) = bet a b := by
  unfold cfR or3 bet
  obtain ⟨h1, h2⟩ := cmpI_lt b.2.1 a.2.1
  obtain ⟨h3, h4⟩ := cmpI_lt a.2.2 b.2.2
  obtain ⟨h5, h6⟩ := cmpI_lt a.1 b.1
  by_cases e1 : a.2.1 = b.2.1
  · have k1 := h2.2 e1.symm
    by_cases e2 : a.2.2 = b.2.2
    · have k2 := h4.2 e2
      rw [e1] at k1
      rw [e2] at k2
      simp [k1, k2, e1, e2, h5]
    · have k2 : ¬ Lib.compareInt a.2.2 b.2.2 = 0 := fun h => e2 (h4.1 h)
      rw [e1] at k1
      simp [k1, k2, e1, e2, h3]
  · have k1 : ¬ Lib.compareInt b.2.1 a.2.1 = 0 := fun h => e1 (h2.1 h).symm
    simp [k1, e1, h1]

theorem three_grow (W : World) (o1 o2 o3 : Obj) : (((W.alloc o1).alloc o2).alloc o3).drew = grow (W.drewN 1) #[o1, o2, o3] := by
  rw [alloc_eq_grow, alloc_eq_grow, alloc_eq_grow]
  show grow (grow (grow W.drew #[o1]) #[o2]) #[o3] = _
  rw [grow_grow, grow_grow]; rfl
theorem below_grow {n : Nat} {W W1 : World} (h : ∃ q os', W1 = grow (W.drewN q) os') (hn : n ≤ W.heap.size) : Below n W W1 := by
  obtain ⟨q, os', rfl⟩ := h
  have hsz : (grow (W.drewN q) os').heap.size = W.heap.size + os'.size := by show (W.heap ++ os').size = _; rw [Array.size_append]
  exact ⟨rfl, rfl, rfl, by omega, fun k hk => by
    show (W.heap ++ os')[k]? = _
    rw [Array.getElem?_append_left (by omega)]⟩

set_option maxHeartbeats 1000000 in
set_option maxRecDepth 100000 in
theorem compare_any (a b : Rk) (W : World) :
    Calls Try.prog 18 #[.agg #[.int .i64 a.1, .int .i64 a.2.1, .int .i64 a.2.2], .agg #[.int .i64 b.1, .int .i64 b.2.1, .int .i64 b.2.2]] W fun e w' => e = .returned (.int .i64 (cfR a b)) ∧ ∃ q os', w' = grow (W.drewN q) os' := by
  obtain ⟨x, y, z⟩ := a
  obtain ⟨x', y', z'⟩ := b
  dsimp only
  obtain ⟨p, hp⟩ : ∃ p, Lib.compareInt y' y = p := ⟨_, rfl⟩
  obtain ⟨q, hq⟩ : ∃ q, Lib.compareInt z z' = q := ⟨_, rfl⟩
  obtain ⟨r, hr⟩ : ∃ r, Lib.compareInt x x' = r := ⟨_, rfl⟩
  have e0 : cfR (x, y, z) (x', y', z') = or3 p q r := by unfold cfR; rw [hp, hq, hr]
  rw [e0]
  have c1 := fun w => cmp_int y' y w
  have c2 := fun w => cmp_int z z' w
  have c3 := fun w => cmp_int x x' w
  rw [hp] at c1
  rw [hq] at c2
  rw [hr] at c3
  have C1 := Lib.hid c1
  have C2 := Lib.hid c2
  have C3 := Lib.hid c3
  clear hp hq hr e0 c1 c2 c3
  go_enter Try.func18, Try.ntmps18
  go_wp2_with fail
  have hw1 : W.heap.size < (W.alloc (.cells #[.int .i64 x, .int .i64 y, .int .i64 z] 28)).heap.size := by simp
  go_region_held3 (fun w' => (w'.cell? ⟨W.heap.size, 0, none⟩ = some (.int .i64 x) ∧ w'.cell? ⟨W.heap.size, 1, none⟩ = some (.int .i64 y) ∧ w'.cell? ⟨W.heap.size, 2, none⟩ = some (.int .i64 z) ∧ w'.cell? ⟨W.heap.size + 1, 0, none⟩ = some (.int .i64 x') ∧ w'.cell? ⟨W.heap.size + 1, 1, none⟩ = some (.int .i64 y') ∧ w'.cell? ⟨W.heap.size + 1, 2, none⟩ = some (.int .i64 z')) ∧ W.heap.size + 2 ≤ w'.heap.size) (first | assumption | (simp [go_sem]; done) | go_keep)
    (first | (go_at_call 24; first | ((with_reducible refine Calls.mono (C1.out _) ?_); rintro e w' ⟨rfl, rfl⟩) | ((with_reducible refine Calls.mono (C2.out _) ?_); rintro e w' ⟨rfl, rfl⟩) | ((with_reducible refine Calls.mono (C3.out _) ?_); rintro e w' ⟨rfl, rfl⟩)) | (go_at_call 23; (with_reducible refine Calls.mono (or_any _ p q r _ (by simp [go_sem]) (by simp [go_sem]) (by simp [go_sem])) ?_); rintro e w' ⟨rfl, rfl⟩))
  all_goals
    go_wp2_with fail
    go_ret
    exact ⟨rfl, 1, _, three_grow W _ _ _⟩
set_option maxRecDepth 100000 in
theorem better_any (a b : Rk) (W : World) :
    Calls Try.prog 8 #[.agg #[.int .i64 a.1, .int .i64 a.2.1, .int .i64 a.2.2], .agg #[.int .i64 b.1, .int .i64 b.2.1, .int .i64 b.2.2]] W fun e w' => e = .returned (.bool (bet a b)) ∧ Below W.heap.size W w' := by
  have hc := fun W => compare_any a b W
  have hb := cfR_lt a b
  obtain ⟨x, y, z⟩ := a
  obtain ⟨x', y', z'⟩ := b
  dsimp only at hc
  dsimp only
  generalize cfR (x, y, z) (x', y', z') = r at *
  have HC := Lib.hid hc
  have HB := Lib.hid hb
  rw [← hb]
  clear hc hb
  have hb1 : Below W.heap.size W ((W.alloc (.cells #[.int .i64 x, .int .i64 y, .int .i64 z] 28)).alloc (.cells #[.int .i64 x', .int .i64 y', .int .i64 z'] 28)) := ((Below.refl _ W).alloc (Nat.le_refl _) _).alloc (by simp) _
  have HB1 := Lib.hid hb1
  clear hb1
  go_enter Try.func8, Try.ntmps8
  go_wp2_with fail
  refine (HC.out _).mono ?_
  rintro e w1 ⟨rfl, hg⟩
  have hb2 := HB1.out.trans (below_grow (n := W.heap.size) hg (by simp; omega))
  go_wp2_with fail
  go_ret
  exact ⟨rfl, hb2⟩
set_option maxRecDepth 100000 in
/-- A pile's 'ahead'. -/
theorem ahead_any (a b : Rk) (W : World) :
    Calls Try.prog 25 #[.agg #[.int .i64 a.1, .int .i64 a.2.1, .int .i64 a.2.2], .agg #[.int .i64 b.1, .int .i64 b.2.1, .int .i64 b.2.2]] W fun e w' => e = .returned (.bool (wrs a b)) ∧ Below W.heap.size W w' := by
  have hc := fun W => better_any b a W
  unfold wrs
  generalize bet b a = r at *
  obtain ⟨x, y, z⟩ := a
  obtain ⟨x', y', z'⟩ := b
  dsimp only at hc
  dsimp only
  have HC := Lib.hid hc
  clear hc
  have hb1 : Below W.heap.size W ((W.alloc (.cells #[.int .i64 x, .int .i64 y, .int .i64 z] 28)).alloc (.cells #[.int .i64 x', .int .i64 y', .int .i64 z'] 28)) := ((Below.refl _ W).alloc (Nat.le_refl _) _).alloc (by simp) _
  have HB1 := Lib.hid hb1
  clear hb1
  go_enter Try.func25, Try.ntmps25
  go_wp2_with fail
  refine (HC.out _).mono ?_
  rintro e w1 ⟨rfl, hg⟩
  have hb2 := HB1.out.trans (hg.mono (by simp; omega))
  go_wp2_with fail
  go_ret
  exact ⟨rfl, hb2⟩
end Go.Proofs.Ytkjffoeelfodhaa
