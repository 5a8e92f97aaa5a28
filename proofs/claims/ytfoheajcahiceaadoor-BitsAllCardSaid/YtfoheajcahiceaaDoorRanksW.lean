/- BitsRanks: the walk. Condition: the library's table is as its initialiser lays it. -/
import Derived.Test.YtfoheajcahiceaaDoorTurnsW
namespace Go.Proofs.YtfoheajcahiceaaDoor
open Go.RowKit Go.Proofs.YtfoheajcahiceaaDoor.PAll Go.Proofs.YtfoheajcahiceaaDoorW.PrintWords Go.Proofs.YtfoheajcahiceaaDoorW.PrintLast Go.Proofs.YtfoheajcahiceaaDoorW.PrintMore

theorem next_cases (r : List Bool) (j : Int) : (nextI r j = -1 ∧ ∀ l, j.toNat ≤ l → bit r l = false) ∨
    ∃ p : Nat, nextI r j = (p : Int) ∧ j.toNat ≤ p ∧ p < r.length ∧ bit r p = true ∧ ∀ l, j.toNat ≤ l → l < p → bit r l = false := by
  unfold nextI
  cases h : nextN r j.toNat with
  | none =>
    left
    refine ⟨rfl, fun l hl => ?_⟩
    unfold nextN at h
    rw [List.find?_eq_none] at h
    by_cases hlt : l < r.length
    · have := h l (by simpa using hlt)
      simpa [hl] using this
    · exact bit_out (by omega)
  | some p =>
    right
    unfold nextN at h
    rw [List.find?_range_eq_some] at h
    obtain ⟨h1, h2, h3⟩ := h
    simp only [Bool.and_eq_true, decide_eq_true_eq, List.mem_range] at h1 h2
    refine ⟨p, rfl, h1.1, h2, h1.2, fun l hl hlt => ?_⟩
    have := h3 l hlt
    simpa [hl] using this
theorem cnt_gap (r : List Bool) (a : Nat) : ∀ b, a ≤ b → (∀ l, a ≤ l → l < b → bit r l = false) → cnt r b = cnt r a
  | 0, h, _ => by rw [show a = 0 by omega]
  | b + 1, h, hg => by
    by_cases hab : a = b + 1
    · rw [hab]
    · show cnt r b + (bit r b).toNat = _
      rw [hg b (by omega) (by omega), cnt_gap r a b (by omega) (fun l h1 h2 => hg l h1 (by omega))]; rfl

set_option maxHeartbeats 2000000 in
set_option maxRecDepth 100000 in
theorem bitsRanks_walk (n : Int) (A : Option Addr) (nl c : Nat) (l : Nat → Int × Int) (w : World) (hT : Tab w) (hD : Deeds w A nl l) :
    Calls Tryd.prog 4 #[.int .i64 n, .slice A nl c] w fun e w' => e = .returned (.bool true) ∧ Below w.heap.size w w' := by
  go_enter Tryd.func4, Tryd.ntmps4
  go_wp2_with fail
  refine (size_law n w).mono ?_
  rintro e w0 ⟨m, rfl, hm, -, hb0⟩
  go_wp2_with fail
  refine (made_any m A nl c l w0 (hT.below hb0) (by omega) (hD.below hb0)).mono ?_
  rintro e w1 ⟨g, v, vr, r, rfl, hS, hR, hlr, hb1⟩
  have hl : r.length ≤ 200 := by omega
  obtain ⟨AR, cR, rfl, hcR, hCR⟩ := Kd.R_reads hR
  have hT1 := (hT.below hb0).below hb1
  have hB1 := hb0.trans (hb1.mono hb0.size)
  have HL := Lib.hid hl
  clear hlr hm hT hD hl hR hb1
  go_wp2_with fail
  refine (next_any _ g v r (-5) w1 hS hT1 (by have := HL.out; omega)).mono ?_
  rintro e w2 ⟨rfl, hb2⟩
  have hS2 := hS.below hb2
  have hT2 := hT1.below hb2
  have hC2 := Kd.C_below hCR hb2
  have hB2 := hB1.trans (hb2.mono hB1.size)
  clear hS hT1 hCR hB1 hb2
  have e5 : nextI r (-5) = nextI r ((0 : Nat) : Int) := rfl
  rw [e5]
  clear e5
  go_wp2_with fail
  go_loopw [8, 9] (fun v8 v9 wr => ∃ j : Nat, v8 = .int .i64 ((cnt r (min j r.length) : Nat) : Int) ∧ v9 = .int .i64 (nextI r (j : Int)) ∧ IsSet wr w0.heap.size g v r ∧ Tab wr ∧ Kd.C Kd.bool wr AR r.length r ∧ Below w.heap.size w wr) (fun _ v9 _ => if 0 ≤ intOf v9 then r.length + 1 - (intOf v9).toNat else 0)
  case atStart => exact ⟨0, by rw [Nat.zero_min]; rfl, rfl, hS2, hT2, hC2, hB2⟩
  case round =>
    clear hS2 hT2 hC2 hB2
    obtain ⟨j, rfl, rfl, hS, hT, hC, hB⟩ := hrel
    have hl1 : r.length ≤ 100000 := by have := HL.out; omega
    rcases next_cases r (j : Int) with ⟨hn, hg⟩ | ⟨p, hn, hjp, hp, hbp, hg⟩
    · have hk : cnt r (min j r.length) = cnt r r.length := by
        by_cases hj : j ≤ r.length
        · rw [show min j r.length = j by omega]
          exact (cnt_gap r j r.length hj (fun l h1 _ => hg l (by omega))).symm
        · rw [show min j r.length = r.length by omega]
      rw [hn, hk]
      have hn1 : ¬ (0 : Int) ≤ -1 := by decide
      have r1 : cnt r (min ((r.length : Nat) : Int).toNat r.length) = cnt r r.length := by rw [Int.toNat_natCast, Nat.min_self]
      have r2 : cnt r (min (1000 : Int).toNat r.length) = cnt r r.length := by rw [show min (1000 : Int).toNat r.length = r.length by have := HL.out; omega]
      have r3 : cnt r (min (-1 : Int).toNat r.length) = 0 := by rw [show (-1 : Int).toNat = 0 from rfl, Nat.zero_min]; rfl
      have HR := Lib.hid (And.intro r1 (And.intro r2 r3))
      have HL1 := Lib.hid hl1
      have c1 := count_any _ g v r wr hS hl1
      have cS := fun w' => size_any w0.heap.size g v r w'
      have cR := fun w' q => rank_any w0.heap.size g v r q w'
      have H1 := Lib.hid c1
      have H2 := Lib.hid cS
      have H3 := Lib.hid cR
      clear hn hg hk r1 r2 r3 hl1 c1 cS cR hC
      generalize hK : cnt r r.length = K at *
      clear hK
      go_wp2_with fail
      refine H1.out.mono ?_
      rintro e w3 ⟨rfl, hb3⟩
      have hS3 := hS.below hb3
      have hT3 := hT.below hb3
      have hB3 := hB.trans (hb3.mono hB.size)
      clear H1 hS hT hB
      go_wp2_with fail
      refine (H2.out w3 hS3).mono ?_
      rintro e w4 ⟨rfl, hb4⟩
      have hS4 := hS3.below hb4
      have hT4 := hT3.below hb4
      have hB4 := hB3.trans (hb4.mono hB3.size)
      go_wp2_with fail
      refine (H3.out w4 _ hS4 HL1.out).mono ?_
      rintro e w5 ⟨rfl, hb5⟩
      rw [HR.out.1]
      have hS5 := hS4.below hb5
      have hT5 := hT4.below hb5
      have hB5 := hB4.trans (hb5.mono hB4.size)
      go_wp2_with fail
      refine (H3.out w5 _ hS5 HL1.out).mono ?_
      rintro e w6 ⟨rfl, hb6⟩
      rw [HR.out.2.1]
      have hS6 := hS5.below hb6
      have hT6 := hT5.below hb6
      have hB6 := hB5.trans (hb6.mono hB5.size)
      go_wp2_with fail
      refine (H3.out w6 _ hS6 HL1.out).mono ?_
      rintro e w7 ⟨rfl, hb7⟩
      rw [HR.out.2.2]
      have hT7 := hT6.below hb7
      have hB7 := hB6.trans (hb7.mono hB6.size)
      go_wp2_with fail
      refine (lives_any w7 hT7).mono ?_
      rintro e w8 ⟨rfl, hb8⟩
      go_wp2_with fail
      go_ret
      exact ⟨rfl, hB7.trans (hb8.mono hB7.size)⟩
    · rw [Int.toNat_natCast] at hjp hg
      have hk : cnt r (min j r.length) = cnt r p := by rw [show min j r.length = j by omega]; exact (cnt_gap r j p hjp hg).symm
      rw [hn, hk]
      have r1 : cnt r (min ((p : Nat) : Int).toNat r.length) = cnt r p := by rw [Int.toNat_natCast, show min p r.length = p by omega]
      have r2 : hasB r (p : Int) = true := by unfold hasB; rw [Int.toNat_natCast, hbp, decide_eq_true (show (0 : Int) ≤ (p : Int) by omega), decide_eq_true (show (p : Int) < (r.length : Int) by omega)]; rfl
      have r3 : cnt r (p + 1) = cnt r p + 1 := by show cnt r p + (bit r p).toNat = _; rw [hbp]; rfl
      have r4 : cnt r (min (p + 1) r.length) = cnt r p + 1 := by rw [show min (p + 1) r.length = p + 1 by omega, r3]
      have r5 : cnt r p + 1 ≤ 300 := by rw [← r3]; have := cnt_le r (p + 1); have := HL.out; omega
      have HR := Lib.hid (And.intro r1 (And.intro r2 r4))
      have HL1 := Lib.hid hl1
      have hp2 : p ≤ 200 := by have := HL.out; omega
      have HP := Lib.hid hp
      have HCC := Lib.hid hC
      have HN := Lib.hid (next_cases r ((p + 1 : Nat) : Int))
      have hcR := Lib.hid (Kd.R_below (d := Kd.bool) (e := 4) (base := 0) (ok := fun _ => True) (v := .slice none 0 0) (xs := []) (w := wr) (w1 := wr))
      clear hn hjp hg hk hbp r1 r2 r3 r4 hl1 hC hp hcR
      generalize hK : cnt r p = K at *
      clear hK
      go_wp2_with fail
      refine (rank_any _ g v r (p : Int) wr hS HL1.out).mono ?_
      rintro e w3 ⟨rfl, hb3⟩
      rw [HR.out.1]
      have hS3 := hS.below hb3
      have hT3 := hT.below hb3
      have hB3 := hB.trans (hb3.mono hB.size)
      have hC3 := Kd.C_below HCC.out hb3
      clear hS hT hB HCC
      go_wp2_with fail
      refine (has_any _ g v r (p : Int) w3 hS3 HL1.out).mono ?_
      rintro e w4 ⟨rfl, hb4⟩
      rw [HR.out.2.1]
      have hS4 := hS3.below hb4
      have hT4 := hT3.below hb4
      have hB4 := hB3.trans (hb4.mono hB3.size)
      have hC4 := Kd.C_below hC3 hb4
      clear hS3 hT3 hB3 hC3
      go_wp2_with fail
      refine (concordanceref03_Has.calls AR cR r (p : Int) _ w4 hC4 hcR (ref_has r (p : Int))).mono ?_
      rintro e w5 ⟨rfl, hd5⟩
      rw [HR.out.2.1]
      have hb5 := below_drawn hd5
      have hS5 := hS4.below hb5
      have hT5 := hT4.below hb5
      have hB5 := hB4.trans (hb5.mono hB4.size)
      have hC5 := Kd.C_below hC4 hb5
      clear hS4 hT4 hB4 hC4 hd5
      go_wp2_with fail
      refine (next_any _ g v r _ w5 hS5 hT5 HL1.out).mono ?_
      rintro e w6 ⟨rfl, hb6⟩
      have hS6 := hS5.below hb6
      have hT6 := hT5.below hb6
      have hB6 := hB5.trans (hb6.mono hB5.size)
      have hC6 := Kd.C_below hC5 hb6
      clear hS5 hT5 hB5 hC5
      go_wp2_with fail
      go_roundw
      case rel => exact ⟨p + 1, by rw [HR.out.2.2]; rfl, by rfl, hS6, hT6, hC6, hB6⟩
      case measure =>
        have := HP.out
        rcases HN.out with ⟨hn, _⟩ | ⟨q, hn, hpq, _⟩
        · have hn' : nextI r ((p : Int) + 1) = -1 := hn
          simp [intOf, hn']; omega
        · have hn' : nextI r ((p : Int) + 1) = (q : Int) := hn
          simp [intOf, hn']; omega
end Go.Proofs.YtfoheajcahiceaaDoor
