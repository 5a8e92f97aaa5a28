/- Sets of numbers as bits: New, Has, Put, Cut, Size. No condition. -/
import Derived.Test.YtfoheajcahiceaaDoorBits0
import Derived.Test.YtfoheajcahiceaaDoorPAllx0
import Derived.Test.YtfoheajcahiceaaDoorPAllx1
import Derived.Lib.Hide
import Derived.RangeFuncBox
import Derived.Deep.RegionHeld3
import Derived.Deep.RegionLaw
import Derived.WalkSpells
import Derived.WalkLawsBesides
namespace Go.Proofs.YtfoheajcahiceaaDoor
open Go.RowKit Go.Proofs.YtfoheajcahiceaaDoor.PAll Go.Proofs.YtfoheajcahiceaaDoorW.PrintWords Go.Proofs.YtfoheajcahiceaaDoorW.PrintLast Go.Proofs.YtfoheajcahiceaaDoorW.PrintMore

/-- A set at block g, its words' slice is v; all its memory is from block 'base' on. -/
structure IsSet (w : World) (base g : Nat) (v : Value) (r : List Bool) : Prop where
  cell : w.heap[g]? = some (.cells #[.int .i64 (r.length : Int), v] 56 (0, 0))
  ge : base ≤ g
  row : Kd.R (Kd.int .u64) 57 w base (fun _ => True) v (wordsOf r)

section
variable {w w1 : World} {base g : Nat} {v : Value} {r : List Bool}
theorem IsSet.lower {base' : Nat} (h : IsSet w base g v r) (hb : base' ≤ base) : IsSet w base' g v r := ⟨h.cell, Nat.le_trans hb h.ge, Kd.R_lower h.row hb⟩
theorem IsSet.lt (h : IsSet w base g v r) : g < w.heap.size := (Array.getElem?_eq_some_iff.1 h.cell).1
theorem IsSet.below (h : IsSet w base g v r) (hb : Below w.heap.size w w1) : IsSet w1 base g v r := ⟨(hb.block g h.lt).trans h.cell, h.ge, Kd.R_below h.row hb⟩
theorem IsSet.grown (h : IsSet w base g v r) {row : Option Nat} (hg : w.grownBy w1 row) (h1 : some g ≠ row) (h2 : row ≠ v.ownBlock) : IsSet w1 base g v r :=
  ⟨(hg.block g h.lt h1).trans h.cell, h.ge, Kd.R_grown1 h.row rfl hg h2⟩
theorem IsSet.ne_row (h : IsSet w base g v r) : some g ≠ v.ownBlock := Kd.R_ne h.row h.cell (by decide)
theorem IsSet.c0 (h : IsSet w base g v r) : w.cell? ⟨g, 0, none⟩ = some (.int .i64 (r.length : Int)) := by simp [World.cell?, h.cell]
theorem IsSet.c1 (h : IsSet w base g v r) : w.cell? ⟨g, 1, none⟩ = some v := by simp [World.cell?, h.cell]
theorem IsSet.form (h : IsSet w base g v r) : ∃ A c, v = .slice A (nW r.length) c ∧ Kd.C (Kd.int .u64) w A (nW r.length) (wordsOf r) := by
  obtain ⟨A, c, e, _, hc⟩ := Kd.R_reads h.row
  rw [wordsOf_len] at e hc
  exact ⟨A, c, e, hc⟩
end
theorem rd_words (r : List Bool) (k : Nat) (h : k < nW r.length) : rd (wordsOf r) (k : Int) = ((wordN r k : Nat) : Int) := by
  unfold rd
  rw [Int.toNat_natCast, List.getD_eq_getElem?_getD, wordsOf_get r k h]; rfl

/-- Is a number in? -/
def hasB (r : List Bool) (i : Int) : Bool := decide (0 ≤ i) && (decide (i < r.length) && bit r i.toNat)

theorem quo64 (i : Int) (k : Nat) (h0 : 0 ≤ i) (h : i < 1000000000) (hk : i.toNat / 64 = k) : IntKind.i64.wrap (Int.tdiv i 64) = (k : Int) ∧ wrap64 (Int.tdiv i 64) = (k : Int) := by
  rw [← i64_w, and_self, IntKind.wrap_i64, Int.tdiv_eq_ediv_of_nonneg (by omega)]; omega
theorem rem64 (i : Int) (m : Nat) (h0 : 0 ≤ i) (hm : i.toNat % 64 = m) : Int.tmod i 64 = (m : Int) := by rw [Int.tmod_eq_emod_of_nonneg (by omega)]; omega
theorem bit_test (x i : Nat) (hx : x < 18446744073709551616) : (Go.bits .and .u64 ((x : Int) / 2 ^ i) 1 == 1) = x.testBit i := by
  have e : ((x : Int) / 2 ^ i) = ((x / 2 ^ i : Nat) : Int) := by rw [Int.natCast_ediv, Int.natCast_pow]; rfl
  have hle : x / 2 ^ i ≤ x := Nat.div_le_self _ _
  rw [e, show (1 : Int) = ((1 : Nat) : Int) from rfl, bits_and_u64_nat _ _ (by omega) (by decide), Nat.testBit_eq_decide_div_mod_eq, Nat.and_one_is_mod]
  by_cases h : x / 2 ^ i % 2 = 1
  · simp [h]
  · have : x / 2 ^ i % 2 = 0 := by omega
    simp [this]

set_option maxHeartbeats 400000 in
set_option maxRecDepth 100000 in
theorem in_any (base g : Nat) (v : Value) (r : List Bool) (i : Int) (w : World) (hS : IsSet w base g v r) :
    Calls Tryd.prog 38 #[.pointer (some ⟨g, 0, none⟩), .int .i64 i] w fun e w' => e = .returned (.bool (decide (0 ≤ i) && decide (i < r.length))) ∧ Below w.heap.size w w' := by
  have h0 := hS.c0
  by_cases hi : 0 ≤ i
  · go_enter Tryd.func38, Tryd.ntmps38
    go_wp2
    go_ret
    exact ⟨by simp [hi], Below.refl _ _⟩
  · have hn : decide (0 ≤ i) = false := decide_eq_false hi
    go_enter Tryd.func38, Tryd.ntmps38
    go_wp2
    go_ret
    exact ⟨rfl, Below.refl _ _⟩

set_option maxHeartbeats 400000 in
set_option maxRecDepth 100000 in
theorem has_any (base g : Nat) (v : Value) (r : List Bool) (i : Int) (w : World) (hS : IsSet w base g v r) (hl : r.length ≤ 100000) :
    Calls Tryd.prog 15 #[.pointer (some ⟨g, 0, none⟩), .int .i64 i] w fun e w' => e = .returned (.bool (hasB r i)) ∧ Below w.heap.size w w' := by
  obtain ⟨B, hB0⟩ : ∃ B, hasB r i = B := ⟨_, rfl⟩
  rw [hB0]
  have HB := Lib.hid hB0
  clear hB0
  go_enter Tryd.func15, Tryd.ntmps15
  go_wp2_with fail
  refine (in_any base g v r i w hS).mono ?_
  rintro e w1 ⟨rfl, hb⟩
  by_cases hi : 0 ≤ i ∧ i < r.length
  · obtain ⟨hi0, hi1⟩ := hi
    obtain rfl : bit r i.toNat = B := by rw [← HB.out]; unfold hasB; rw [decide_eq_true hi0, decide_eq_true hi1]; rfl
    rw [decide_eq_true hi0, decide_eq_true hi1]
    clear HB
    have hS1 := hS.below hb
    clear hS
    obtain ⟨k, hk⟩ : ∃ k, i.toNat / 64 = k := ⟨_, rfl⟩
    obtain ⟨m, hm⟩ : ∃ m, i.toNat % 64 = m := ⟨_, rfl⟩
    have hk1 : k < nW r.length := by unfold nW; omega
    obtain ⟨A, c, rfl, hC⟩ := hS1.form
    have h1 := hS1.c1
    obtain ⟨ad, rfl, hx⟩ := Kd.at_int hC (k : Int) (by omega) (by omega)
    rw [rd_words r _ hk1, Int.toNat_natCast] at hx
    obtain ⟨q1, q1b⟩ := quo64 i k hi0 (by omega) hk
    have q2 := rem64 i m hi0 hm
    have p0 := eq_true (show (0 : Int) ≤ (k : Int) by omega)
    have p1 := eq_true (show (k : Int) < ((nW r.length : Nat) : Int) by omega)
    have p2 := eq_true (show (0 : Int) ≤ (m : Int) by omega)
    have q4 := bit_test (wordN r k) m (wordN_lt _ _)
    rw [wordN_bit r _ _ (by omega), show 64 * k + m = i.toNat by omega] at q4
    have q5 : min m 64 = m := by omega
    clear hS1 hC hl hk hm hk1 hi0 hi1
    go_wp2
    go_ret
    exact ⟨by first | rfl | simp, hb⟩
  · have hn : (decide (0 ≤ i) && decide (i < (r.length : Int))) = false := by
      rw [Bool.and_eq_false_iff, decide_eq_false_iff_not, decide_eq_false_iff_not]; omega
    obtain rfl : false = B := by rw [← HB.out]; unfold hasB; rw [← Bool.and_assoc, hn]; rfl
    rw [hn]
    clear hn HB
    clear hi hS hl
    go_wp2
    go_ret
    exact ⟨rfl, hb⟩
end Go.Proofs.YtfoheajcahiceaaDoor
