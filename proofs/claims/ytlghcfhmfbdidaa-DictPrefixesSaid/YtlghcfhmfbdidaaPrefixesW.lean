/- DictPrefixes: the walk. No condition beyond the row's own. -/
import Derived.Test.YtlghcfhmfbdidaaLives
import Derived.Test.YtlghcfhmfbdidaaDictPlain
import Derived.Test.YtlghcfhmfbdidaaOpenStrs
namespace Go.Proofs.Ytlghcfhmfbdidaa
open Go.RowKit Go.Proofs.Ytlghcfhmfbdidaa.PAll Go.Proofs.YtlghcfhmfbdidaaW.PrintWords Go.Proofs.YtlghcfhmfbdidaaW.PrintLast Go.Proofs.YtlghcfhmfbdidaaW.PrintMore

set_option maxHeartbeats 2000000 in
set_option maxRecDepth 100000 in
theorem dictPrefixes_walk (A0 : Option Addr) (c0 : Nat) (l : List ByteArray) (s : ByteArray) (w : World) (hr0 : Kd.C Kd.string w A0 l.length l) (hc0 : l.length ≤ c0) (hs : s.size ≤ maxLen) :
    Calls Try.prog 3 #[.slice A0 l.length c0, .string s] w fun e w' => e = .returned (.bool true) ∧ Below w.heap.size w w' := by
  obtain ⟨k1, hk1⟩ := (good_ev l).rounds
  obtain ⟨k2, hk2⟩ := (rises_ev (goodL l) (goodL_up l) (by have := goodL_len l; omega)).rounds
  have hup := Lib.hid (goodL_up l)
  have hlen := goodL_len l
  generalize goodL l = G at *
  go_enter Try.func3, Try.ntmps3
  go_wp2_with fail
  refine (concordanceref07_Good.calls k1 A0 c0 l 20 G w hr0 hc0 hk1).mono ?_
  rintro e w1 ⟨v, rfl, hR, hb1⟩
  obtain ⟨A1, c1, rfl, hc1, hC1⟩ := Kd.R_reads hR
  clear hR
  go_wp2_with fail
  refine (made_any A1 c1 k2 G w1 hC1 hc1 (by omega) hk2).mono ?_
  rintro e w2 ⟨g, rfl, hDR, hb2⟩
  have hD := hDR.isD
  have hb3 := hb1.trans (hb2.mono hb1.size)
  have hC2 := Kd.C_below hC1 hb2
  clear hDR hb1 hb2 hC1 hr0 hc0
  go_wp2_with fail
  generalize s.extract 0 (min (s.size : Int) 4).toNat = b at *
  have hup := hup.out
  refine (prefix_any g G (vals G.length) b w2 hD (by omega)).mono ?_
  rintro e w3 ⟨rfl, hb4⟩
  have hC3 := Kd.C_below hC2 hb4
  have hb5 := hb3.trans (hb4.mono hb3.size)
  have hI := Lib.hid (fun i hi => prefix_iff hup b i hi)
  obtain ⟨hp1, hp2⟩ := prefixN_bound hup b
  generalize placeN G b = K at *
  generalize prefixN G b = T at *
  clear hb4 hC2 hD hb3 hup
  have q1 : decide ((K : Int) < 0) = false := decide_eq_false (by omega)
  have q2 : decide ((T : Int) < (K : Int)) = false := decide_eq_false (by omega)
  have q3 : decide ((G.length : Int) < (T : Int)) = false := decide_eq_false (by omega)
  have q4 : decide (T < K) = false := decide_eq_false (by omega)
  have q5 : decide (G.length < T) = false := decide_eq_false (by omega)
  go_wp2_with fail
  go_loopw [9] (fun vi wr => ∃ i q : Nat, i ≤ G.length ∧ vi = .int .i64 i ∧ wr = w3.drewN q) (fun vi _ => G.length - (intOf vi).toNat)
  case atStart => exact ⟨0, 0, by omega, rfl, rfl⟩
  case round =>
    clear q1 q2 q3 q4 q5
    obtain ⟨i, q, hi, rfl, rfl⟩ := hrel
    by_cases hlt : i < G.length
    · obtain ⟨ad, rfl, hx⟩ := Kd.at_string hC3 (i : Int) (by omega) (by omega)
      have hx2 : w3.cell? (ad.add i) = some (.string (nth G i)) := hx
      clear hx
      have p0 := eq_true (show (0 : Int) ≤ (i : Int) by omega)
      have p1 := eq_true (show (i : Int) < (G.length : Int) by omega)
      have hraw := Lib.hasPrefix_raw (nth G i) b
      have hpi := hI.out i hlt
      unfold pfx at hpi
      rw [← hraw] at hpi
      clear hraw
      generalize nth G i = x at *
      by_cases hge : b.size ≤ x.size
      · rw [decide_eq_true hge, Bool.true_and] at hpi
        have hmin : (min (x.size : Int) (b.size : Int)) = (b.size : Int) := by omega
        have hge2 : (b.size : Int) ≤ (x.size : Int) := by omega
        by_cases a1 : K ≤ i
        · have a1' : (K : Int) ≤ (i : Int) := by omega
          by_cases a2 : i < T
          · have a2' : (i : Int) < (T : Int) := by omega
            rw [decide_eq_true a1, decide_eq_true a2] at hpi
            go_wp2
            repeat (go_quiet (fail); try go_wp2)
            go_roundw
            case rel => exact ⟨i + 1, _, by omega, by go_num, rfl⟩
            case measure => simp [intOf]; omega
          · have a2' : ¬ (i : Int) < (T : Int) := by omega
            rw [decide_eq_true a1, decide_eq_false a2] at hpi
            go_wp2
            repeat (go_quiet (fail); try go_wp2)
            go_roundw
            case rel => exact ⟨i + 1, _, by omega, by go_num, rfl⟩
            case measure => simp [intOf]; omega
        · have a1' : ¬ (K : Int) ≤ (i : Int) := by omega
          rw [decide_eq_false a1, Bool.false_and] at hpi
          go_wp2
          repeat (go_quiet (fail); try go_wp2)
          go_roundw
          case rel => exact ⟨i + 1, _, by omega, by go_num, rfl⟩
          case measure => simp [intOf]; omega
      · rw [decide_eq_false hge, Bool.false_and] at hpi
        have hge2 : ¬ (b.size : Int) ≤ (x.size : Int) := by omega
        by_cases a1 : K ≤ i
        · have a1' : (K : Int) ≤ (i : Int) := by omega
          by_cases a2 : i < T
          · have a2' : (i : Int) < (T : Int) := by omega
            rw [decide_eq_true a1, decide_eq_true a2] at hpi
            cases hpi
          · have a2' : ¬ (i : Int) < (T : Int) := by omega
            clear hpi
            go_wp2
            repeat (go_quiet (fail); try go_wp2)
            go_roundw
            case rel => exact ⟨i + 1, _, by omega, by go_num, rfl⟩
            case measure => simp [intOf]; omega
        · have a1' : ¬ (K : Int) ≤ (i : Int) := by omega
          clear hpi
          go_wp2
          repeat (go_quiet (fail); try go_wp2)
          go_roundw
          case rel => exact ⟨i + 1, _, by omega, by go_num, rfl⟩
          case measure => simp [intOf]; omega
    · obtain rfl : i = G.length := by omega
      go_wp2_with fail
      refine (lives_any (w3.drewN q)).mono ?_
      rintro e w4 ⟨rfl, hb6⟩
      go_wp2_with fail
      go_ret
      have hb7 : Below w.heap.size w (w3.drewN q) := pw_below_drewN hb5 q
      exact ⟨rfl, hb7.trans (hb6.mono hb7.size)⟩
end Go.Proofs.Ytlghcfhmfbdidaa
