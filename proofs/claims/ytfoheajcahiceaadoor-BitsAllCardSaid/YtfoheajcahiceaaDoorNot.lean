/- Sets of numbers as bits: Not, Full. No condition but on size. -/
import Derived.Test.YtfoheajcahiceaaDoorLike
namespace Go.Proofs.YtfoheajcahiceaaDoor
open Go.RowKit Go.Proofs.YtfoheajcahiceaaDoor.PAll Go.Proofs.YtfoheajcahiceaaDoorW.PrintWords Go.Proofs.YtfoheajcahiceaaDoorW.PrintLast Go.Proofs.YtfoheajcahiceaaDoorW.PrintMore

/-- All others. -/
def notB (r : List Bool) : List Bool := r.map (fun b => !b)
theorem notB_len (r : List Bool) : (notB r).length = r.length := by unfold notB; simp
theorem bit_not (r : List Bool) (i : Nat) : bit (notB r) i = (decide (i < r.length) && !bit r i) := by
  unfold bit notB
  by_cases h : i < r.length
  · simp [h]
  · simp [h]
theorem not_word (r : List Bool) (k : Nat) (h : 64 * k + 64 ≤ r.length) : 18446744073709551615 - wordN r k = wordN (notB r) k := by
  apply pack_eq
  · have := wordN_lt r k; omega
  · intro j hj
    have e : 18446744073709551615 - wordN r k = 2 ^ 64 - (wordN r k + 1) := by omega
    rw [e, Nat.testBit_two_pow_sub_succ (wordN_lt r k), wordN_bit r k j hj, bit_not]
    simp [hj]; omega
theorem not_last (r : List Bool) (k m : Nat) (hm : m < 64) (h : r.length = 64 * k + m) : (18446744073709551615 - wordN r k) &&& (2 ^ m - 1) = wordN (notB r) k := by
  apply pack_eq
  · have := wordN_lt r k
    exact Nat.and_lt_two_pow _ (by have : 2 ^ m ≤ 2 ^ 64 := Nat.pow_le_pow_right (by decide) (by omega); omega)
  · intro j hj
    have e : 18446744073709551615 - wordN r k = 2 ^ 64 - (wordN r k + 1) := by omega
    rw [Nat.testBit_and, e, Nat.testBit_two_pow_sub_succ (wordN_lt r k), wordN_bit r k j hj, Nat.testBit_two_pow_sub_one, bit_not]
    by_cases hjm : j < m
    · simp [hj, hjm]; omega
    · have : ¬ (64 * k + j < r.length) := by omega
      simp [hjm, this]

/-- The first i words are turned, the others not yet. -/
def halfW (r : List Bool) (i : Nat) : List Int := (List.range (nW r.length)).map (fun k => if k < i then ((18446744073709551615 - wordN r k : Nat) : Int) else 0)
theorem halfW_len (r : List Bool) (i : Nat) : (halfW r i).length = nW r.length := by unfold halfW; simp
theorem halfW_get (r : List Bool) (i k : Nat) (h : k < nW r.length) : (halfW r i)[k]? = some (if k < i then ((18446744073709551615 - wordN r k : Nat) : Int) else 0) := by unfold halfW; simp [h]
theorem halfW_zero (r : List Bool) : halfW r 0 = wordsOf (List.replicate r.length false) := by
  rw [← wordsOf_none]
  apply List.ext_getElem?
  intro k
  by_cases hk : k < nW r.length
  · rw [halfW_get r 0 k hk]; simp [hk]
  · rw [List.getElem?_eq_none (by rw [halfW_len]; omega), List.getElem?_eq_none (by simp; omega)]
theorem halfW_succ (r : List Bool) (i : Nat) (h : i < nW r.length) : (halfW r i).set i ((18446744073709551615 - wordN r i : Nat) : Int) = halfW r (i + 1) := by
  apply List.ext_getElem?
  intro k
  by_cases hk : k < nW r.length
  · rw [halfW_get r (i + 1) k hk, List.getElem?_set]
    by_cases hki : i = k
    · subst hki; rw [if_pos rfl, if_pos (by rw [halfW_len]; exact h), if_pos (by omega)]
    · rw [if_neg hki, halfW_get r i k hk]
      by_cases hlt : k < i
      · rw [if_pos hlt, if_pos (by omega)]
      · rw [if_neg hlt, if_neg (by omega)]
  · rw [List.getElem?_eq_none (by rw [List.length_set, halfW_len]; omega), List.getElem?_eq_none (by rw [halfW_len]; omega)]
theorem halfW_even (r : List Bool) (h : r.length % 64 = 0) : halfW r (nW r.length) = wordsOf (notB r) := by
  apply wordsOf_eq
  · rw [halfW_len, notB_len]
  · intro k hk
    rw [notB_len] at hk
    rw [halfW_get r _ k hk, if_pos hk, not_word r k (by unfold nW at hk; omega)]
theorem halfW_odd (r : List Bool) (m : Nat) (hm : r.length % 64 = m) (h0 : 0 < m) :
    (halfW r (nW r.length)).set (nW r.length - 1) (((18446744073709551615 - wordN r (nW r.length - 1)) &&& (2 ^ m - 1) : Nat) : Int) = wordsOf (notB r) := by
  apply wordsOf_eq
  · rw [List.length_set, halfW_len, notB_len]
  · intro k hk
    rw [notB_len] at hk
    rw [List.getElem?_set]
    by_cases hki : nW r.length - 1 = k
    · rw [if_pos hki, if_pos (by rw [halfW_len]; omega), hki, not_last r k m (by omega) (by unfold nW at hki hk; omega)]
    · rw [if_neg hki, halfW_get r _ k hk, if_pos hk, not_word r k (by unfold nW at hk hki; omega)]

/-- A set's memory, with any words. -/
structure IsRaw (w : World) (base g : Nat) (v : Value) (n : Nat) (ws : List Int) : Prop where
  cell : w.heap[g]? = some (.cells #[.int .i64 (n : Int), v] 56 (0, 0))
  ge : base ≤ g
  row : Kd.R (Kd.int .u64) 57 w base (fun _ => True) v ws
theorem IsSet.raw {w : World} {base g : Nat} {v : Value} {r : List Bool} (h : IsSet w base g v r) : IsRaw w base g v r.length (wordsOf r) := ⟨h.cell, h.ge, h.row⟩
section
variable {w w1 : World} {base g n : Nat} {v : Value} {ws : List Int}
theorem IsRaw.set {r : List Bool} (h : IsRaw w base g v r.length (wordsOf r)) : IsSet w base g v r := ⟨h.cell, h.ge, h.row⟩
theorem IsRaw.lt (h : IsRaw w base g v n ws) : g < w.heap.size := (Array.getElem?_eq_some_iff.1 h.cell).1
theorem IsRaw.below (h : IsRaw w base g v n ws) (hb : Below w.heap.size w w1) : IsRaw w1 base g v n ws := ⟨(hb.block g h.lt).trans h.cell, h.ge, Kd.R_below h.row hb⟩
theorem IsRaw.c0 (h : IsRaw w base g v n ws) : w.cell? ⟨g, 0, none⟩ = some (.int .i64 (n : Int)) := by simp [World.cell?, h.cell]
theorem IsRaw.c1 (h : IsRaw w base g v n ws) : w.cell? ⟨g, 1, none⟩ = some v := by simp [World.cell?, h.cell]
theorem IsRaw.drew (h : IsRaw w base g v n ws) : IsRaw w.drew base g v n ws := ⟨h.cell, h.ge, Kd.R_drew h.row⟩
/-- A word that is written. -/
theorem IsRaw.put (h : IsRaw w base g v n ws) (k : Nat) (hk : k < ws.length) (x : Int) : ∃ gb cap, v = .slice (some ⟨gb, 0, none⟩) ws.length cap ∧ base ≤ gb ∧ w.cell? ⟨gb, k, none⟩ = some (.int .u64 (rd ws k)) ∧ w.frozen? ⟨gb, k, none⟩ = false ∧ IsRaw (w.setCell ⟨gb, k, none⟩ (.int .u64 x)) base g v n (ws.set k x) := by
  obtain ⟨gb, cap, rfl, hge, hgl, _⟩ := Kd.R_form h.row (by omega)
  obtain ⟨hx, hfz⟩ := Kd.R_cell (0 : Int) h.row (k : Int) (by omega) (by omega)
  obtain ⟨hp, hgr⟩ := Kd.R_put h.row (k : Int) x
  rw [Int.toNat_natCast] at hx hfz hp hgr
  have hne : some g ≠ some gb := Kd.R_ne h.row h.cell (by decide)
  exact ⟨gb, cap, rfl, hge, hx, hfz, ⟨(hgr.block g h.lt hne).trans h.cell, h.ge, hp⟩⟩
end
theorem xor_not (x : Nat) (hx : x < 18446744073709551616) : Go.bits .xor .u64 (if IntKind.u64.signed = true then -1 else IntKind.u64.max) (x : Int) = ((18446744073709551615 - x : Nat) : Int) := by
  rw [show (if IntKind.u64.signed = true then -1 else IntKind.u64.max) = ((18446744073709551615 : Nat) : Int) from rfl, bits_xor_u64_nat _ _ (by decide) hx]
  congr 1
  apply Nat.eq_of_testBit_eq
  intro j
  have e : 18446744073709551615 - x = 2 ^ 64 - (x + 1) := by omega
  rw [e, Nat.testBit_two_pow_sub_succ hx, Nat.testBit_xor, show (18446744073709551615 : Nat) = 2 ^ 64 - 1 from rfl, Nat.testBit_two_pow_sub_one]
  by_cases hj : j < 64
  · simp [hj]
  · have : x.testBit j = false := Nat.testBit_lt_two_pow (Nat.lt_of_lt_of_le hx (Nat.pow_le_pow_right (n := 2) (by decide) (show 64 ≤ j by omega)))
    simp [hj, this]

theorem mask_step (x m : Nat) (hx : x < 18446744073709551616) (hm : m < 64) : Go.bits .and .u64 (x : Int) (IntKind.u64.wrap (IntKind.u64.wrap (2 ^ m) - 1)) = ((x &&& (2 ^ m - 1) : Nat) : Int) := by
  have h2 : 2 ^ m < 2 ^ 64 := Nat.pow_lt_pow_right (by decide) hm
  have h1 : 0 < 2 ^ m := Nat.pow_pos (by decide)
  rw [show ((2 : Int) ^ m) = ((2 ^ m : Nat) : Int) by rw [Int.natCast_pow]; rfl]
  generalize 2 ^ m = p at *
  rw [wrap_nat p (by omega), show ((p : Int) - 1) = ((p - 1 : Nat) : Int) by omega, wrap_nat _ (by omega), bits_and_u64_nat _ _ hx (by omega)]

set_option maxHeartbeats 2000000 in
set_option maxRecDepth 100000 in
theorem not_any (base g : Nat) (v : Value) (r : List Bool) (w : World) (hS : IsSet w base g v r) (hl : r.length ≤ 1000) :
    Calls Tryd.prog 29 #[.pointer (some ⟨g, 0, none⟩)] w fun e w' => ∃ g2 v2, e = .returned (.pointer (some ⟨g2, 0, none⟩)) ∧ IsSet w' w.heap.size g2 v2 (notB r) ∧ Below w.heap.size w w' := by
  have h0 := hS.c0
  obtain ⟨A, c, rfl, hC⟩ := hS.form
  have hgl := hS.lt
  have y1 := hS.c1
  go_enter Tryd.func29, Tryd.ntmps29
  go_wp2_with fail
  refine (new_any r.length w (by omega)).mono ?_
  rintro e w1 ⟨g2, v2, rfl, hN, -, hb1⟩
  rw [Int.toNat_natCast] at hN
  have hR := hN.raw
  rw [List.length_replicate, ← halfW_zero] at hR
  have hS1 := hS.below hb1
  have h1 := hS1.c1
  clear h0 hN
  obtain ⟨q, hq⟩ : ∃ q, nW r.length = q := ⟨_, rfl⟩
  have HQ := Lib.hid hq
  have hq2 : q ≤ 100 := by unfold nW at hq; omega
  rw [hq] at h1 hC y1
  clear hq hS1
  have HC := Lib.hid hC
  have HY := Lib.hid y1
  clear hC y1
  go_wp2_with fail
  go_loopw [17] (fun vk wr => ∃ i : Nat, i ≤ q ∧ vk = .int .i64 i ∧ IsRaw wr w.heap.size g2 v2 r.length (halfW r i) ∧ Below w.heap.size w wr) (fun vk _ => q - (intOf vk).toNat)
  case atStart => exact ⟨0, by omega, rfl, hR, hb1⟩
  case round =>
    clear hR h1
    obtain ⟨i, hi, rfl, hR, hb⟩ := hrel
    have hc0 := (hb.cell (p := ⟨g, 0, none⟩) hgl).trans hS.c0
    have hC2 := Kd.C_below HC.out hb
    have hc2 := hR.c1
    by_cases hlt : i < q
    · have hk1 : i < nW r.length := by rw [HQ.out]; exact hlt
      obtain ⟨ad, rfl, hx⟩ := Kd.at_int hC2 (i : Int) (by omega) (by omega)
      rw [rd_words r _ hk1, Int.toNat_natCast] at hx
      obtain ⟨gb, cap, rfl, hge, hy, hfz, hR2⟩ := hR.put i (by rw [halfW_len]; exact hk1) ((18446744073709551615 - wordN r i : Nat) : Int)
      rw [halfW_succ r i hk1] at hR2
      have hb2 : Below w.heap.size w (wr.setCell ⟨gb, i, none⟩ (.int .u64 ((18446744073709551615 - wordN r i : Nat) : Int))) := hb.setCell (p := ⟨gb, i, none⟩) hge _
      have hxn := xor_not (wordN r i) (wordN_lt r i)
      rw [halfW_len, HQ.out] at hc2
      have p0 := eq_true (show (0 : Int) ≤ (i : Int) by omega)
      have p1 := eq_true (show (i : Int) < (q : Int) by omega)
      generalize ((18446744073709551615 - wordN r i : Nat) : Int) = X at *
      have HX := Lib.hid hxn
      have HR2 := Lib.hid hR2
      have HB2 := Lib.hid hb2
      clear hC2 hR hR2 hb2 hk1 hS hb hb1 hge hxn
      go_wp2_with fail
      go_roundw
      case rel => exact ⟨i + 1, by omega, by go_num, by rw [HX.out]; exact HR2.out, by rw [HX.out]; exact HB2.out⟩
      case measure => simp [intOf]; omega
    · obtain rfl : i = q := by omega
      have hq := HQ.out
      by_cases hm0 : r.length % 64 = 0
      · have hm : (r.length : Int) % 64 = 0 := by omega
        rw [← hq, halfW_even r hm0] at hR
        clear hC2 hc2
        go_wp2_with fail
        go_ret
        exact ⟨g2, v2, rfl, (show IsRaw wr w.heap.size g2 v2 (notB r).length (wordsOf (notB r)) by rw [notB_len]; exact hR).set, hb⟩
      · obtain ⟨m, hme⟩ : ∃ m, r.length % 64 = m := ⟨_, rfl⟩
        have hm : (r.length : Int) % 64 = (m : Int) := by omega
        have hm0' : 0 < m := by omega
        obtain ⟨t, rfl⟩ : ∃ t, i = t + 1 := ⟨i - 1, by unfold nW at hq; omega⟩
        have hi1 : t < nW r.length := by omega
        obtain ⟨gb, cap, rfl, hge, hy, hfz, hR2⟩ := hR.put t (by rw [halfW_len]; exact hi1) (((18446744073709551615 - wordN r t) &&& (2 ^ m - 1) : Nat) : Int)
        have ho := halfW_odd r m hme hm0'
        rw [hq, Nat.add_sub_cancel] at ho
        rw [ho] at hR2
        have hb2 : Below w.heap.size w (wr.setCell ⟨gb, t, none⟩ (.int .u64 (((18446744073709551615 - wordN r t) &&& (2 ^ m - 1) : Nat) : Int))) := hb.setCell (p := ⟨gb, t, none⟩) hge _
        have hrd : rd (halfW r (t + 1)) (t : Int) = ((18446744073709551615 - wordN r t : Nat) : Int) := by
          unfold rd
          rw [Int.toNat_natCast, List.getD_eq_getElem?_getD, halfW_get r _ t hi1, if_pos (by omega)]; rfl
        rw [hrd] at hy
        rw [halfW_len, hq] at hc2
        have p0 := eq_true (show (0 : Int) ≤ (t : Int) by omega)
        have p1 := eq_true (show (t : Int) < ((t + 1 : Nat) : Int) by omega)
        have p2 := eq_true (show (0 : Int) < (m : Int) by omega)
        have p3 := eq_true (show (0 : Int) ≤ (m : Int) by omega)
        have p4 : min m 64 = m := by omega
        have p5 : IntKind.i64.wrap (t : Int) = (t : Int) := by rw [IntKind.wrap_i64]; omega
        have p6 : (t : Int) < (t : Int) + 1 := by omega
        have H7 := Lib.hid (mask_step (18446744073709551615 - wordN r t) m (by omega) (by omega))
        have HR2 := Lib.hid hR2
        have HB2 := Lib.hid hb2
        clear hR2 hb2 hrd ho hi1 hR hb hC2 hS hm0 hme hge hb1 hq
        go_wp2
        go_region_law (fail)
        all_goals
          rw [H7.out]
          go_wp2
          go_ret
          exact ⟨g2, _, rfl, (show IsRaw _ w.heap.size g2 _ (notB r).length (wordsOf (notB r)) by rw [notB_len]; exact HR2.out.drew).set, HB2.out.drew⟩

set_option maxRecDepth 100000 in
/-- A set of all. -/
theorem full_any (n : Int) (w : World) (hl : n ≤ 1000) :
    Calls Tryd.prog 21 #[.int .i64 n] w fun e w' => ∃ g v, e = .returned (.pointer (some ⟨g, 0, none⟩)) ∧ IsSet w' w.heap.size g v (List.replicate n.toNat true) ∧ Below w.heap.size w w' := by
  have e0 : notB (List.replicate n.toNat false) = List.replicate n.toNat true := by unfold notB; rw [List.map_replicate]; rfl
  have HE := Lib.hid e0
  have HL := Lib.hid hl
  clear e0 hl
  go_enter Tryd.func21, Tryd.ntmps21
  go_wp2_with fail
  refine (new_any n w (by have := HL.out; omega)).mono ?_
  rintro e w1 ⟨g, v, rfl, hS, -, hb1⟩
  go_wp2_with fail
  refine (not_any _ g v _ w1 hS (by rw [List.length_replicate]; have := HL.out; omega)).mono ?_
  rintro e w2 ⟨g2, v2, rfl, hS2, hb2⟩
  rw [HE.out] at hS2
  go_wp2_with fail
  go_ret
  exact ⟨g2, v2, rfl, hS2.lower hb1.size, hb1.trans (hb2.mono hb1.size)⟩
end Go.Proofs.YtfoheajcahiceaaDoor
