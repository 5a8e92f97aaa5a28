/- Sets of numbers as bits: Count, Rank, Next. No condition but on size. -/
import Derived.Test.YtfoheajcahiceaaDoorTurn
import Derived.Test.YtfoheajcahiceaaDoorPop
import Derived.Shelf.Spec.TrailingZeros
namespace Go.Proofs.YtfoheajcahiceaaDoor
open Go.RowKit Go.Proofs.YtfoheajcahiceaaDoor.PAll Go.Proofs.YtfoheajcahiceaaDoorW.PrintWords Go.Proofs.YtfoheajcahiceaaDoorW.PrintLast Go.Proofs.YtfoheajcahiceaaDoorW.PrintMore

/-- How many bits a word has. -/
theorem ones_word (r : List Bool) (k : Nat) (w : World) :
    Calls Tryd.prog 36 #[.int .u64 ((wordN r k : Nat) : Int)] w fun e w' => e = .returned (.int .i64 ((sumB (fun j => bit r (64 * k + j)) 64 : Nat) : Int)) ∧ Below w.heap.size w w' := by
  have e : sumB (wordN r k).testBit 64 = sumB (fun j => bit r (64 * k + j)) 64 := sumB_ext (fun j hj => wordN_bit r k j hj)
  have h := ones_ok (wordN r k) (wordN_lt r k)
  rw [e] at h
  refine (bits_OnesCount64.calls _ _ w h).mono ?_
  rintro e w' ⟨rfl, q, rfl⟩
  exact ⟨rfl, pw_below_drewN (Below.refl _ _) q⟩

set_option maxHeartbeats 1000000 in
set_option maxRecDepth 100000 in
theorem count_any (base g : Nat) (v : Value) (r : List Bool) (w : World) (hS : IsSet w base g v r) (hl : r.length ≤ 100000) :
    Calls Tryd.prog 12 #[.pointer (some ⟨g, 0, none⟩)] w fun e w' => e = .returned (.int .i64 ((cnt r r.length : Nat) : Int)) ∧ Below w.heap.size w w' := by
  obtain ⟨A, c, rfl, hC⟩ := hS.form
  have h1 := hS.c1
  obtain ⟨q, hq⟩ : ∃ q, nW r.length = q := ⟨_, rfl⟩
  rw [hq] at hC h1
  have HQ := Lib.hid (And.intro hq hl)
  have hq2 : q ≤ 2000 := by unfold nW at hq; omega
  clear hq hl hS
  go_enter Tryd.func12, Tryd.ntmps12
  go_wp2
  go_loopw [3, 11] (fun va vb wr => ∃ k n : Nat, k ≤ q ∧ va = .int .i64 n ∧ vb = .int .i64 k ∧ Hid (n = cnt r (64 * k)) ∧ Below w.heap.size w wr) (fun _ vb _ => q - (intOf vb).toNat)
  case atStart => exact ⟨0, 0, by omega, rfl, rfl, Lib.hid rfl, Below.refl _ _⟩
  case round =>
    obtain ⟨k, n, hk, rfl, rfl, hn, hb⟩ := hrel
    by_cases hlt : k < q
    · have hC1 := Kd.C_below hC hb
      obtain ⟨ad, rfl, hx⟩ := Kd.at_int hC1 (k : Int) (by omega) (by omega)
      rw [rd_words r _ (by rw [HQ.out.1]; exact hlt), Int.toNat_natCast] at hx
      clear hC hC1 h1
      have p0 := eq_true (show (0 : Int) ≤ (k : Int) by omega)
      have p1 := eq_true (show (k : Int) < (q : Int) by omega)
      go_wp2_with fail
      refine (ones_word r k _).mono ?_
      rintro e w1 ⟨rfl, hb1⟩
      have hb2 := hb.trans (hb1.mono hb.size)
      have hc := cnt_word r (64 * k) 64
      have hn2 : n + sumB (fun j => bit r (64 * k + j)) 64 = cnt r (64 * (k + 1)) := by rw [hn.out, show 64 * (k + 1) = 64 * k + 64 by omega, hc]
      generalize sumB (fun j => bit r (64 * k + j)) 64 = m at *
      have hle := cnt_le r (64 * (k + 1))
      have HN := Lib.hid hn2
      have hnm : n + m ≤ 1000000 := by omega
      clear hc hn2 hn hle hb1 hb
      go_wp2_with fail
      go_roundw
      case rel => exact ⟨k + 1, n + m, by omega, by go_num, by go_num, HN, hb2⟩
      case measure => simp [intOf]; omega
    · obtain rfl : k = q := by omega
      have hend : n = cnt r r.length := by
        rw [hn.out, ← HQ.out.1]
        exact cnt_out r _ (by unfold nW; omega)
      subst hend
      clear hC h1 hn
      go_wp2_with fail
      go_ret
      exact ⟨rfl, hb⟩

theorem shl_word (r : List Bool) (k m : Nat) (hm : m < 64) : IntKind.u64.wrap (((wordN r k : Nat) : Int) * 2 ^ (64 - m)) = ((pack (fun j => decide (64 - m ≤ j) && bit r (64 * k + (j - (64 - m)))) 64 : Nat) : Int) := by
  have e : (((wordN r k : Nat) : Int) * 2 ^ (64 - m)) = ((wordN r k * 2 ^ (64 - m) : Nat) : Int) := by rw [Int.natCast_mul, Int.natCast_pow]; rfl
  rw [e, IntKind.wrap_u64]
  have e2 : wordN r k * 2 ^ (64 - m) % 2 ^ 64 = pack (fun j => decide (64 - m ≤ j) && bit r (64 * k + (j - (64 - m)))) 64 := by
    apply pack_eq (Nat.mod_lt _ (by decide))
    intro j hj
    rw [Nat.testBit_mod_two_pow, Nat.testBit_mul_two_pow]
    simp only [hj, decide_true, Bool.true_and, ge_iff_le]
    by_cases h : 64 - m ≤ j
    · rw [wordN_bit r k _ (by omega)]
    · simp [h]
  rw [← e2]
  rfl
theorem sum_shift (r : List Bool) (k m : Nat) (hm : m < 64) : sumB (pack (fun j => decide (64 - m ≤ j) && bit r (64 * k + (j - (64 - m)))) 64).testBit 64 = sumB (fun j => bit r (64 * k + j)) m := by
  have e : sumB (pack (fun j => decide (64 - m ≤ j) && bit r (64 * k + (j - (64 - m)))) 64).testBit 64 = sumB (fun j => decide (64 - m ≤ j) && bit r (64 * k + (j - (64 - m)))) 64 :=
    sumB_ext (fun j hj => by rw [pack_bit]; simp [hj])
  rw [e]
  have e2 := sumB_add (64 - m) m (fun j => decide (64 - m ≤ j) && bit r (64 * k + (j - (64 - m))))
  rw [show 64 - m + m = 64 by omega] at e2
  rw [e2, sumB_ext (f := fun j => decide (64 - m ≤ j) && bit r (64 * k + (j - (64 - m)))) (g := fun _ => false) (fun j hj => by simp; omega), sumB_false, Nat.zero_add]
  refine sumB_ext (fun j _ => ?_)
  rw [show 64 - m + j - (64 - m) = j by omega]
  simp
/-- How many bits the lower part of a word has. -/
theorem ones_shift (r : List Bool) (k m : Nat) (hm : m < 64) (x : Int) (hx : x = IntKind.u64.wrap (((wordN r k : Nat) : Int) * 2 ^ (64 - m))) (w : World) :
    Calls Tryd.prog 36 #[.int .u64 x] w fun e w' => e = .returned (.int .i64 ((sumB (fun j => bit r (64 * k + j)) m : Nat) : Int)) ∧ Below w.heap.size w w' := by
  rw [hx, shl_word r k m hm]
  have h := ones_ok _ (pack_lt 64 (fun j => decide (64 - m ≤ j) && bit r (64 * k + (j - (64 - m)))))
  rw [sum_shift r k m hm] at h
  refine (bits_OnesCount64.calls _ _ w h).mono ?_
  rintro e w' ⟨rfl, q, rfl⟩
  exact ⟨rfl, pw_below_drewN (Below.refl _ _) q⟩

set_option maxHeartbeats 1000000 in
set_option maxRecDepth 100000 in
theorem rank_any (base g : Nat) (v : Value) (r : List Bool) (i : Int) (w : World) (hS : IsSet w base g v r) (hl : r.length ≤ 100000) :
    Calls Tryd.prog 18 #[.pointer (some ⟨g, 0, none⟩), .int .i64 i] w fun e w' => e = .returned (.int .i64 ((cnt r (min i.toNat r.length) : Nat) : Int)) ∧ Below w.heap.size w w' := by
  obtain ⟨A, c, rfl, hC⟩ := hS.form
  have h0 := hS.c0
  have h1 := hS.c1
  obtain ⟨N, hN⟩ : ∃ N, min i.toNat r.length = N := ⟨_, rfl⟩
  rw [hN]
  go_enter Tryd.func18, Tryd.ntmps18
  go_upto_region 1 with fail
  go_cut [1] (fun v1 wx => v1 = .int .i64 N ∧ wx = w)
  case first =>
    by_cases hi : i < 0
    · obtain rfl : 0 = N := by omega
      have hn : ¬ ((r.length : Int) < 0) := by omega
      go_wp2_with fail
      all_goals (go_meet; exact ⟨rfl, rfl⟩)
    · by_cases hi2 : (r.length : Int) < i
      · obtain rfl : r.length = N := by omega
        go_wp2_with fail
        all_goals (go_meet; exact ⟨rfl, rfl⟩)
      · obtain rfl : i = (N : Int) := by omega
        clear hi hN
        go_wp2_with fail
        all_goals (go_meet; exact ⟨rfl, rfl⟩)
  case rest =>
    obtain ⟨rfl, rfl⟩ := hcut
    have hNl : N ≤ 100000 := by omega
    obtain ⟨q, hq⟩ : ∃ q : Nat, (N : Int) / 64 = (q : Int) := ⟨N / 64, by omega⟩
    obtain ⟨m, hm⟩ : ∃ m : Nat, (N : Int) % 64 = (m : Int) := ⟨N % 64, by omega⟩
    have hq2 : q ≤ 2000 := by omega
    have HQ := Lib.hid (And.intro hq (And.intro hm hN))
    clear hN hl hm
    go_wp2_with fail
    clear hq
    go_loopw [5, 17] (fun va vb wr => ∃ k n : Nat, k ≤ q ∧ va = .int .i64 n ∧ vb = .int .i64 k ∧ Hid (n = cnt r (64 * k)) ∧ Below wc.heap.size wc wr) (fun _ vb _ => q - (intOf vb).toNat)
    case atStart => exact ⟨0, 0, by omega, rfl, rfl, Lib.hid rfl, Below.refl _ _⟩
    case round =>
      obtain ⟨k, n, hk, rfl, rfl, hn, hb⟩ := hrel
      have hC1 := Kd.C_below hC hb
      have y1 := (hb.cell (p := ⟨g, 1, none⟩) hS.lt).trans h1
      clear hC h1 h0
      obtain ⟨hqq, hmm, hNN⟩ := HQ.out
      have hmm2 : m < 64 := by omega
      have hN2 : N = 64 * q + m := by omega
      by_cases hlt : k < q
      · have hk1 : k < nW r.length := by unfold nW; omega
        obtain ⟨ad, rfl, hx⟩ := Kd.at_int hC1 (k : Int) (by omega) (by omega)
        rw [rd_words r _ hk1, Int.toNat_natCast] at hx
        have p0 := eq_true (show (0 : Int) ≤ (k : Int) by omega)
        have p1 := eq_true (show (k : Int) < (nW r.length : Int) by omega)
        clear hC1 hqq hmm hNN hN2 hmm2
        go_wp2_with fail
        refine (ones_word r k _).mono ?_
        rintro e w1 ⟨rfl, hb1⟩
        have hb2 := hb.trans (hb1.mono hb.size)
        have hc := cnt_word r (64 * k) 64
        have hn2 : n + sumB (fun j => bit r (64 * k + j)) 64 = cnt r (64 * (k + 1)) := by rw [hn.out, show 64 * (k + 1) = 64 * k + 64 by omega, hc]
        generalize sumB (fun j => bit r (64 * k + j)) 64 = m at *
        have hle := cnt_le r (64 * (k + 1))
        have HN := Lib.hid hn2
        have hnm : n + m ≤ 1000000 := by omega
        clear hc hn2 hn hle hb1 hb
        go_wp2_with fail
        go_roundw
        case rel => exact ⟨k + 1, n + m, by omega, by go_num, by go_num, HN, hb2⟩
        case measure => simp [intOf]; omega
      · obtain rfl : k = q := by omega
        by_cases hm0 : m = 0
        · subst hm0
          have hend : n = cnt r N := by rw [hn.out, hN2]; rfl
          subst hend
          have hq : (N : Int) / 64 = (k : Int) := hqq
          have hm : (N : Int) % 64 = 0 := by omega
          clear hC1 hn hqq hmm hNN hN2
          go_wp2_with fail
          go_ret
          exact ⟨rfl, hb⟩
        · have hk1 : k < nW r.length := by unfold nW; omega
          obtain ⟨ad, rfl, hx⟩ := Kd.at_int hC1 (k : Int) (by omega) (by omega)
          rw [rd_words r _ hk1, Int.toNat_natCast] at hx
          have p0 := eq_true (show (0 : Int) ≤ (k : Int) by omega)
          have p1 := eq_true (show (k : Int) < (nW r.length : Int) by omega)
          have hq : (N : Int) / 64 = (k : Int) := hqq
          have hm : (N : Int) % 64 = (m : Int) := hmm
          have pm := eq_true (show (0 : Int) < (m : Int) by omega)
          have hc := cnt_word r (64 * k) m
          have hn2 : n + sumB (fun j => bit r (64 * k + j)) m = cnt r N := by rw [hn.out, hN2, hc]
          have hle := cnt_le r N
          have HN := Lib.hid hn2
          have hnl : n ≤ 1000000 := by omega
          obtain ⟨d, hd⟩ : ∃ d : Nat, (64 : Int) - (m : Int) = (d : Int) := ⟨64 - m, by omega⟩
          have hd2 : d = 64 - m := by omega
          have hd3 : min d 64 = d := by omega
          have HD := Lib.hid hd2
          clear hC1 hn hqq hmm hNN hN2 hc hn2 hle hd2
          go_wp2_with fail
          refine (ones_shift r k m hmm2 _ (by rw [← HD.out]) _).mono ?_
          rintro e w1 ⟨rfl, hb1⟩
          have hb2 := hb.trans (hb1.mono hb.size)
          have hn2 := HN.out
          have hle := cnt_le r N
          generalize sumB (fun j => bit r (64 * k + j)) m = z at *
          have hnm : n + z ≤ 1000000 := by omega
          clear hn2 hle hb1 hb
          go_wp2_with fail
          go_ret
          exact ⟨by rw [← HN.out]; rfl, hb2⟩
end Go.Proofs.YtfoheajcahiceaaDoor
