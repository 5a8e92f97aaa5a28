/- Pick, Stuck, End. No condition but on size. -/
import Derived.Test.YtcfkmhmgappckaaAsk
namespace Go.Proofs.Ytcfkmhmgappckaa
open Go.RowKit Go.Proofs.Ytcfkmhmgappckaa.Sc Go.Proofs.Ytcfkmhmgappckaa.PAll Go.Proofs.YtcfkmhmgappckaaW.PrintWords Go.Proofs.YtcfkmhmgappckaaW.PrintLast Go.Proofs.YtcfkmhmgappckaaW.PrintMore

theorem cell_stay {w w' : World} {B : Nat} {a : Addr} {v : Value} (hB : w.heap.size ≤ B) (hb : Below B w w') (h : w.cell? a = some v) : w'.cell? a = some v :=
  (hb.cell (Nat.lt_of_lt_of_le (World.block_lt_of_cell? w a h) hB)).trans h
theorem Reads.cell {w : World} {A : Option Addr} {n : Nat} {l : List Int} (h : Kd.C (Kd.int .i64) w A n l) (i : Nat) (hi : i < l.length) : ∃ ad, A = some ad ∧ w.cell? (ad.add i) = some (.int .i64 (l.getD i 0)) := by
  have hn : l.length = n := h.1
  obtain ⟨ad, e, hc⟩ := h.2.2 (by omega)
  obtain ⟨c, hs, hr, hcell⟩ := hc i _ (List.getElem?_eq_getElem hi)
  have hs1 : (Kd.int .i64).sz = 1 := rfl
  obtain rfl : c = [.int .i64 l[i]] := hr
  have := hcell 0 _ rfl
  rw [hs1, Nat.mul_one, Nat.add_zero] at this
  exact ⟨ad, e, by rw [this, List.getD_eq_getElem?_getD, List.getElem?_eq_getElem hi]; rfl⟩
set_option maxHeartbeats 1000000 in
set_option maxRecDepth 100000 in
theorem pick_sch {w : World} {base g : Nat} {F : Nat → Prop} {S : Sd} (h : Sch w base g F S) (hn : S.T.length ≤ 1000) (n : Int) (n1 : -9223372036854775808 ≤ n) (n2 : n ≤ 9223372036854775807) :
    Calls Try.prog 24 #[.pointer (some ⟨g, 0, none⟩), .int .i64 n] w fun e w' => e = .returned (.tuple #[.int .i64 (pick S n).1, .bool (pick S n).2]) ∧ Below w.heap.size w w' := by
  have HR := Lib.hid (ready_reads h hn)
  have hl : (ready S).length ≤ 1000 := by unfold ready; rw [readyF_len]; exact Nat.le_trans List.countP_le_length hn
  clear h hn
  obtain ⟨L, hL⟩ : ∃ L, L = ready S := ⟨_, rfl⟩
  have hp : pick S n = if L.length = 0 then (0, false) else (L.getD ((if n < 0 then -(n + 1) else n) % (L.length : Int)).toNat 0, true) := by rw [hL]; rfl
  rw [← hL] at HR hl
  rw [hp]
  clear hL hp
  by_cases h0 : L.length = 0
  · rw [if_pos h0]
    have hnil : L = [] := List.eq_nil_of_length_eq_zero h0
    subst hnil
    clear h0
    go_enter Try.func24, Try.ntmps24
    go_wp2_with fail
    refine HR.out.mono ?_
    rintro e w1 ⟨v, rfl, ⟨A, c, rfl, hc, _⟩, hb⟩
    have HB := Lib.hid hb
    clear hb
    go_wp2_with fail
    go_ret2
    exact ⟨rfl, HB.out⟩
  · rw [if_neg h0]
    have hbe : ((L.length : Int) == 0) = false := by rw [beq_eq_false_iff_ne]; omega
    obtain ⟨N, hN, hN2⟩ : ∃ N : Nat, (if n < 0 then -(n + 1) else n) = (N : Int) ∧ (N : Int) ≤ 9223372036854775807 := ⟨(if n < 0 then -(n + 1) else n).toNat, by split <;> omega, by split <;> omega⟩
    rw [hN]
    have hm := Nat.mod_lt N (show 0 < L.length by omega)
    have e1 : ((N : Int) % (L.length : Int)).toNat = N % L.length := by rw [← Int.natCast_emod, Int.toNat_natCast]
    have i1 : (0 : Int) ≤ (N : Int) % (L.length : Int) := by rw [← Int.natCast_emod]; omega
    have i2 : (N : Int) % (L.length : Int) < (L.length : Int) := by rw [← Int.natCast_emod]; omega
    have i3 : (0 : Int) < (L.length : Int) := by omega
    by_cases hneg : n < 0
    · rw [if_pos hneg] at hN
      have hd : decide (n < 0) = true := decide_eq_true hneg
      have HN := Lib.hid hN
      clear hN h0
      go_enter Try.func24, Try.ntmps24
      go_wp2_with fail
      refine HR.out.mono ?_
      rintro e w1 ⟨v, rfl, ⟨A, c, rfl, hc, hC⟩, hb⟩
      have HB := Lib.hid hb
      obtain ⟨ad, rfl, hce⟩ := Reads.cell hC (N % L.length) hm
      obtain ⟨x, hx⟩ : ∃ x, x = L.getD (N % L.length) 0 := ⟨_, rfl⟩
      rw [← hx] at hce
      have HX := Lib.hid hx
      clear hx
      clear hb hC
      have hN := HN.out
      go_wp2_with fail
      go_ret2
      exact ⟨by rw [e1, ← HX.out]; rfl, HB.out⟩
    · rw [if_neg hneg] at hN
      subst hN
      have hd : decide ((N : Int) < 0) = false := decide_eq_false hneg
      clear h0 n1 n2
      go_enter Try.func24, Try.ntmps24
      go_wp2_with fail
      refine HR.out.mono ?_
      rintro e w1 ⟨v, rfl, ⟨A, c, rfl, hc, hC⟩, hb⟩
      have HB := Lib.hid hb
      obtain ⟨ad, rfl, hce⟩ := Reads.cell hC (N % L.length) hm
      obtain ⟨x, hx⟩ : ∃ x, x = L.getD (N % L.length) 0 := ⟨_, rfl⟩
      rw [← hx] at hce
      have HX := Lib.hid hx
      clear hx
      clear hb hC
      go_wp2_with fail
      go_ret2
      exact ⟨by rw [e1, ← HX.out]; rfl, HB.out⟩
end Go.Proofs.Ytcfkmhmgappckaa
