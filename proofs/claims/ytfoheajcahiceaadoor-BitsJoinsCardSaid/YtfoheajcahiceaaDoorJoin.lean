/- Sets of numbers as bits: And, Or. No condition but on size. -/
import Derived.Test.YtfoheajcahiceaaDoorNot
import Derived.StillTailTactics
namespace Go.Proofs.YtfoheajcahiceaaDoor
open Go.RowKit Go.Shelf Go.Proofs.YtfoheajcahiceaaDoor.PAll Go.Proofs.YtfoheajcahiceaaDoorW.PrintWords Go.Proofs.YtfoheajcahiceaaDoorW.PrintLast Go.Proofs.YtfoheajcahiceaaDoorW.PrintMore

/-- What is in both; or in one of them. -/
def joinB (a b : List Bool) (or : Bool) : List Bool := (List.range (max a.length b.length)).map (fun i => (bit a i && bit b i) || (or && (bit a i || bit b i)))
theorem joinB_len (a b : List Bool) (or : Bool) : (joinB a b or).length = max a.length b.length := by unfold joinB; simp
theorem bit_join (a b : List Bool) (or : Bool) (i : Nat) : bit (joinB a b or) i = ((bit a i && bit b i) || (or && (bit a i || bit b i))) := by
  by_cases h : i < max a.length b.length
  · show (joinB a b or).getD i false = _
    unfold joinB
    simp [List.getD_eq_getElem?_getD, h]
  · rw [bit_out (by rw [joinB_len]; omega), bit_out (r := a) (by omega), bit_out (r := b) (by omega)]; simp
theorem and_word (a b : List Bool) (k : Nat) : wordN a k &&& wordN b k = wordN (joinB a b false) k := by
  apply pack_eq
  · exact Nat.and_lt_two_pow _ (wordN_lt b k)
  · intro j hj
    rw [Nat.testBit_and, wordN_bit a k j hj, wordN_bit b k j hj, bit_join]; simp
theorem or_word (a b : List Bool) (k : Nat) : wordN a k ||| wordN b k = wordN (joinB a b true) k := by
  apply pack_eq
  · exact Nat.or_lt_two_pow (wordN_lt a k) (wordN_lt b k)
  · intro j hj
    rw [Nat.testBit_or, wordN_bit a k j hj, wordN_bit b k j hj, bit_join]
    cases bit a (64 * k + j) <;> cases bit b (64 * k + j) <;> rfl

/-- The first i words are there, the others not yet. -/
def partW (r : List Bool) (i : Nat) : List Int := (List.range (nW r.length)).map (fun k => if k < i then ((wordN r k : Nat) : Int) else 0)
theorem partW_len (r : List Bool) (i : Nat) : (partW r i).length = nW r.length := by unfold partW; simp
theorem partW_get (r : List Bool) (i k : Nat) (h : k < nW r.length) : (partW r i)[k]? = some (if k < i then ((wordN r k : Nat) : Int) else 0) := by unfold partW; simp [h]
theorem partW_zero (r : List Bool) : partW r 0 = wordsOf (List.replicate r.length false) := by
  rw [← wordsOf_none]
  apply List.ext_getElem?
  intro k
  by_cases hk : k < nW r.length
  · rw [partW_get r 0 k hk]; simp [hk]
  · rw [List.getElem?_eq_none (by rw [partW_len]; omega), List.getElem?_eq_none (by simp; omega)]
theorem partW_succ (r : List Bool) (i : Nat) (h : i < nW r.length) : (partW r i).set i ((wordN r i : Nat) : Int) = partW r (i + 1) := by
  apply List.ext_getElem?
  intro k
  by_cases hk : k < nW r.length
  · rw [partW_get r (i + 1) k hk, List.getElem?_set]
    by_cases hki : i = k
    · subst hki; rw [if_pos rfl, if_pos (by rw [partW_len]; exact h), if_pos (by omega)]
    · rw [if_neg hki, partW_get r i k hk]
      by_cases hlt : k < i
      · rw [if_pos hlt, if_pos (by omega)]
      · rw [if_neg hlt, if_neg (by omega)]
  · rw [List.getElem?_eq_none (by rw [List.length_set, partW_len]; omega), List.getElem?_eq_none (by rw [partW_len]; omega)]
theorem partW_all (r : List Bool) : partW r (nW r.length) = wordsOf r := by
  apply wordsOf_eq
  · rw [partW_len]
  · intro k hk
    rw [partW_get r _ k hk, if_pos hk]

set_option maxHeartbeats 400000 in
set_option maxRecDepth 100000 in
theorem word_any (base g : Nat) (v : Value) (r : List Bool) (k : Nat) (w : World) (hS : IsSet w base g v r) :
    Calls Tryd.prog 45 #[.pointer (some ⟨g, 0, none⟩), .int .i64 k] w fun e w' => e = .returned (.int .u64 ((wordN r k : Nat) : Int)) ∧ w' = w := by
  obtain ⟨A, c, rfl, hC⟩ := hS.form
  have h1 := hS.c1
  by_cases hk : k < nW r.length
  · obtain ⟨ad, rfl, hx⟩ := Kd.at_int hC (k : Int) (by omega) (by omega)
    rw [rd_words r _ hk, Int.toNat_natCast] at hx
    have p0 := eq_true (show (0 : Int) ≤ (k : Int) by omega)
    have p1 := eq_true (show (k : Int) < ((nW r.length : Nat) : Int) by omega)
    clear hS hC
    generalize nW r.length = q at *
    go_enter Tryd.func45, Tryd.ntmps45
    go_wp2
    go_ret
    exact ⟨rfl, rfl⟩
  · have e0 := wordN_out (r := r) (k := k) (by omega)
    rw [e0]
    have p1 : ¬ ((k : Int) < ((nW r.length : Nat) : Int)) := by omega
    clear hS hC e0
    generalize nW r.length = q at *
    go_enter Tryd.func45, Tryd.ntmps45
    go_wp2
    go_ret
    exact ⟨rfl, rfl⟩
theorem and_fn (x y : Nat) (w : World) (hx : x < 18446744073709551616) (hy : y < 18446744073709551616) :
    Calls Tryd.prog 43 #[.int .u64 (x : Int), .int .u64 (y : Int)] w fun e w' => e = .returned (.int .u64 ((x &&& y : Nat) : Int)) ∧ w' = w := by
  have e0 := bits_and_u64_nat x y hx hy
  go_enter Tryd.func43, Tryd.ntmps43
  go_wp2
  go_ret
  exact ⟨rfl, rfl⟩
theorem bits_or_u64_nat (a b : Nat) (ha : a < 18446744073709551616) (hb : b < 18446744073709551616) :
    Go.bits .or .u64 (a : Int) (b : Int) = ((a ||| b : Nat) : Int) := by
  have hx : a ||| b < 2 ^ 64 := Nat.or_lt_two_pow (by omega) (by omega)
  have h1 : (BitVec.ofInt 64 (a : Int)).toNat = a := by
    rw [BitVec.ofInt_natCast, BitVec.toNat_ofNat]; exact Nat.mod_eq_of_lt (by omega)
  have h2 : (BitVec.ofInt 64 (b : Int)).toNat = b := by
    rw [BitVec.ofInt_natCast, BitVec.toNat_ofNat]; exact Nat.mod_eq_of_lt (by omega)
  show IntKind.u64.wrap ((BitVec.ofInt 64 (a : Int) ||| BitVec.ofInt 64 (b : Int)).toNat : Int) = _
  rw [BitVec.toNat_or, h1, h2, IntKind.wrap_u64]
  omega
theorem or_fn (x y : Nat) (w : World) (hx : x < 18446744073709551616) (hy : y < 18446744073709551616) :
    Calls Tryd.prog 44 #[.int .u64 (x : Int), .int .u64 (y : Int)] w fun e w' => e = .returned (.int .u64 ((x ||| y : Nat) : Int)) ∧ w' = w := by
  have e0 := bits_or_u64_nat x y hx hy
  go_enter Tryd.func44, Tryd.ntmps44
  go_wp2
  go_ret
  exact ⟨rfl, rfl⟩

set_option maxHeartbeats 2000000 in
set_option maxRecDepth 100000 in
theorem join_any (base ga base2 gb : Nat) (va vb : Value) (a b : List Bool) (or : Bool) (f : Nat) (F : Nat → Nat → Nat) (w : World) (hSa : IsSet w base ga va a) (hSb : IsSet w base2 gb vb b) (hla : a.length ≤ 1000) (hlb : b.length ≤ 1000)
    (hF : ∀ x y w, x < 18446744073709551616 → y < 18446744073709551616 → Calls Tryd.prog f #[.int .u64 ((x : Nat) : Int), .int .u64 ((y : Nat) : Int)] w fun e w' => e = .returned (.int .u64 ((F x y : Nat) : Int)) ∧ w' = w)
    (hE0 : Hid (∀ (x y : Value) (w : World), (callFunc f #[x, y]).run Tryd.prog w = .ok (.enter f #[x, y]) w))
    (hJ : ∀ k, F (wordN a k) (wordN b k) = wordN (joinB a b or) k) :
    Calls Tryd.prog 42 #[.pointer (some ⟨ga, 0, none⟩), .pointer (some ⟨gb, 0, none⟩), .func (.func f) #[] #[]] w fun e w' => ∃ g2 v2, e = .returned (.pointer (some ⟨g2, 0, none⟩)) ∧ IsSet w' w.heap.size g2 v2 (joinB a b or) ∧ Below w.heap.size w w' := by
  have h0 := hSa.c0
  have h1 := hSb.c0
  obtain ⟨q, hq⟩ : ∃ q : Nat, max a.length b.length = q := ⟨_, rfl⟩
  have hmx : (if a.length < b.length then (b.length : Int) else (a.length : Int)) = (q : Int) := by split <;> omega
  have HM := Lib.hid hmx
  clear hmx
  go_enter Tryd.func42, Tryd.ntmps42
  go_wp2_with fail
  go_still_tail 9, (by kernel_rfl)
  change wpList _ _ _ _ _ w.drew
  rw [HM.out]
  have hB0 : Below w.heap.size w w.drew := (Below.refl _ _).drew
  have hlen := joinB_len a b or
  rw [hq] at hlen
  have hz : w.drew.heap.size = w.heap.size := rfl
  have HZ := Lib.hid hz
  have HL := Lib.hid hlen
  have HQ := Lib.hid hq
  have HA := Lib.hid hSa
  have HBB := Lib.hid hSb
  clear h0 h1 hSa hSb hlen hq hz
  generalize w.drew = w0 at *
  go_wp2_with fail
  refine (new_any (q : Int) w0 (by have := HQ.out; omega)).mono ?_
  rintro e w1 ⟨g2, v2, rfl, hN, -, hb1⟩
  rw [Int.toNat_natCast] at hN
  have hR := hN.raw
  rw [List.length_replicate, ← HL.out, ← partW_zero, HL.out] at hR
  have hB1 : Below w.heap.size w w1 := hB0.trans (hb1.mono (by rw [HZ.out]; exact Nat.le_refl _))
  obtain ⟨n, hn⟩ : ∃ n, nW q = n := ⟨_, rfl⟩
  have hn2 : n ≤ 100 := by unfold nW at hn; have := HQ.out; omega
  have HN := Lib.hid hn
  have hR0 : IsRaw w1 w.heap.size g2 v2 q (partW (joinB a b or) 0) := by rw [← HZ.out]; exact hR
  have hc2 := hR0.c1
  have hform := Kd.R_slice hR0.row
  rw [partW_len, HL.out, hn] at hform
  obtain ⟨A, c, rfl⟩ := hform
  clear hN hR hb1 hn hB0
  go_wp2_with fail
  clear hc2
  go_loopw [24] (fun vk wr => ∃ i : Nat, i ≤ n ∧ vk = .int .i64 i ∧ IsRaw wr w.heap.size g2 (.slice A n c) q (partW (joinB a b or) i) ∧ Below w.heap.size w wr) (fun vk _ => n - (intOf vk).toNat)
  case atStart => exact ⟨0, by omega, rfl, hR0, hB1⟩
  case round =>
    clear hR0 hB1
    obtain ⟨i, hi, rfl, hR, hB⟩ := hrel
    have hSa := HA.out.below hB
    have hSb := HBB.out.below hB
    have hc2 := hR.c1
    by_cases hlt : i < n
    · have hk1 : i < nW (joinB a b or).length := by rw [HL.out, HN.out]; exact hlt
      obtain ⟨gq, cap, hA, hge, hy, hfz, hR2⟩ := hR.put i (by rw [partW_len]; exact hk1) ((wordN (joinB a b or) i : Nat) : Int)
      rw [partW_succ _ i hk1] at hR2
      rw [partW_len, HL.out, HN.out] at hA
      cases hA
      have hb2 : Below w.heap.size w (wr.setCell ⟨gq, i, none⟩ (.int .u64 ((wordN (joinB a b or) i : Nat) : Int))) := hB.setCell (p := ⟨gq, i, none⟩) hge _
      have hw1 := word_any base ga va a i wr.drew hSa.drew
      have hw2 := word_any base2 gb vb b i wr.drew hSb.drew
      have hf := hF (wordN a i) (wordN b i) wr.drew (wordN_lt _ _) (wordN_lt _ _)
      rw [hJ i] at hf
      have p0 := eq_true (show (0 : Int) ≤ (i : Int) by omega)
      have p1 := eq_true (show (i : Int) < (n : Int) by omega)
      have H1 := Lib.hid hw1
      have H2 := Lib.hid hw2
      have H3 := Lib.hid hf
      have HR2 := Lib.hid hR2
      have HB2 := Lib.hid hb2
      clear hw1 hw2 hf hR2 hb2 hR hSa hSb hk1 hge hB
      go_wp2_with fail
      go_still_tail 14, (by kernel_rfl)
      still_call H1.out
      repeat still_step
      still_call H2.out
      repeat still_step
      have hE := hE0.out
      still_call H3.out
      clear hE
      repeat still_step
      refine wpStill_nil ?_
      change wpList _ _ _ _ _ wr.drew
      have hfz' : wr.drew.frozen? ⟨gq, i, none⟩ = false := hfz
      have hy' : wr.drew.cell? ⟨gq, i, none⟩ = some (.int .u64 (rd (partW (joinB a b or) i) i)) := hy
      have HR3 := Lib.hid (HR2.out.drew)
      have HB3 := Lib.hid (HB2.out.drew)
      go_wp2
      go_roundw
      case rel => exact ⟨i + 1, by omega, by go_num, HR3.out, HB3.out⟩
      case measure => simp [intOf]; omega
    · obtain rfl : i = n := by omega
      have hR2 := hR
      rw [← HN.out, ← HL.out, partW_all] at hR2
      have HR := Lib.hid hR2.set
      clear hR2 hR hSa hSb
      go_wp2_with fail
      go_ret
      exact ⟨g2, _, rfl, HR.out, hB⟩

set_option maxRecDepth 100000 in
theorem and_any (base ga base2 gb : Nat) (va vb : Value) (a b : List Bool) (w : World) (hSa : IsSet w base ga va a) (hSb : IsSet w base2 gb vb b) (hla : a.length ≤ 1000) (hlb : b.length ≤ 1000) :
    Calls Tryd.prog 26 #[.pointer (some ⟨ga, 0, none⟩), .pointer (some ⟨gb, 0, none⟩)] w fun e w' => ∃ g2 v2, e = .returned (.pointer (some ⟨g2, 0, none⟩)) ∧ IsSet w' w.heap.size g2 v2 (joinB a b false) ∧ Below w.heap.size w w' := by
  have H := Lib.hid (join_any base ga base2 gb va vb a b false 43 (fun x y => x &&& y) w hSa hSb hla hlb (fun x y w hx hy => and_fn x y w hx hy) (Lib.hid (fun x y w => enters_of Tryd.func43 (by kernel_rfl) rfl #[x, y] w)) (and_word a b))
  clear hSa hSb
  go_enter Tryd.func26, Tryd.ntmps26
  go_wp2_with fail
  refine H.out.mono ?_
  rintro e w1 ⟨g2, v2, rfl, hS, hb⟩
  go_wp2_with fail
  go_ret
  exact ⟨g2, v2, rfl, hS, hb⟩
set_option maxRecDepth 100000 in
theorem or_any (base ga base2 gb : Nat) (va vb : Value) (a b : List Bool) (w : World) (hSa : IsSet w base ga va a) (hSb : IsSet w base2 gb vb b) (hla : a.length ≤ 1000) (hlb : b.length ≤ 1000) :
    Calls Tryd.prog 28 #[.pointer (some ⟨ga, 0, none⟩), .pointer (some ⟨gb, 0, none⟩)] w fun e w' => ∃ g2 v2, e = .returned (.pointer (some ⟨g2, 0, none⟩)) ∧ IsSet w' w.heap.size g2 v2 (joinB a b true) ∧ Below w.heap.size w w' := by
  have H := Lib.hid (join_any base ga base2 gb va vb a b true 44 (fun x y => x ||| y) w hSa hSb hla hlb (fun x y w hx hy => or_fn x y w hx hy) (Lib.hid (fun x y w => enters_of Tryd.func44 (by kernel_rfl) rfl #[x, y] w)) (or_word a b))
  clear hSa hSb
  go_enter Tryd.func28, Tryd.ntmps28
  go_wp2_with fail
  refine H.out.mono ?_
  rintro e w1 ⟨g2, v2, rfl, hS, hb⟩
  go_wp2_with fail
  go_ret
  exact ⟨g2, v2, rfl, hS, hb⟩
end Go.Proofs.YtfoheajcahiceaaDoor
