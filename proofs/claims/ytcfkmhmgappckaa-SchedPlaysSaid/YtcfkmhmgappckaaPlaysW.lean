/- SchedPlays, walked: true for every input. -/
import Derived.Test.YtcfkmhmgappckaaBnd5
set_option linter.unusedVariables false
set_option linter.unusedSimpArgs false
namespace Go.Proofs.Ytcfkmhmgappckaa
open Go.RowKit Go.Proofs.Ytcfkmhmgappckaa.Sc Go.Proofs.Ytcfkmhmgappckaa.PAll Go.Proofs.YtcfkmhmgappckaaW.PrintWords Go.Proofs.YtcfkmhmgappckaaW.PrintLast Go.Proofs.YtcfkmhmgappckaaW.PrintMore

set_option maxHeartbeats 4000000 in
set_option maxRecDepth 100000 in
theorem schedPlays_walk (t m c : Int) (A : Option Addr) (cap : Nat) (l : List Dd) (w : World) (ht : (Lit.int .i64 t).wf = true) (hm : (Lit.int .i64 m).wf = true) (hc : (Lit.int .i64 c).wf = true) (hD : DeedsAt w A l) :
    Calls Try.prog 7 #[.int .i64 t, .int .i64 m, .int .i64 c, .slice A l.length cap] w fun e w' => e = .returned (.bool true) ∧ Below w.heap.size w w' := by
  have hst := fun W => size_any t W ht
  have hsm := fun W => size_any m W hm
  have hsc := fun W => size_any c W hc
  have bt := sizeI_in t
  have bm := sizeI_in m
  have bc := sizeI_in c
  obtain ⟨T, hT⟩ : ∃ T, T = sizeI t := ⟨_, rfl⟩
  obtain ⟨M, hM⟩ : ∃ M, M = sizeI m := ⟨_, rfl⟩
  obtain ⟨C, hC⟩ : ∃ C, C = sizeI c := ⟨_, rfl⟩
  simp only [← hT, ← hM, ← hC] at hst hsm hsc bt bm bc
  have HT := Lib.hid hst
  have HM := Lib.hid hsm
  have HC := Lib.hid hsc
  have HD := Lib.hid hD
  have HF := Lib.hid (fits_new T M C (by omega) (by omega) (by omega))
  have HBT := Lib.hid (show T ≤ 1000 by omega)
  have HBM := Lib.hid (show M ≤ 1000 by omega)
  have HBC := Lib.hid (show C ≤ 1000 by omega)
  clear hst hsm hsc bt bm bc hT hM hC ht hm hc hD
  go_enter Try.func7, Try.ntmps7
  go_wp2_with fail
  refine (HT.out w).mono ?_
  rintro e w1 ⟨rfl, b1⟩
  go_wp2_with fail
  refine (HM.out w1).mono ?_
  rintro e w2 ⟨rfl, b2⟩
  go_wp2_with fail
  refine (HC.out w2).mono ?_
  rintro e w3 ⟨rfl, b3⟩
  have B3 := Lib.hid (b1.trans ((b2.mono b1.size).trans (b3.mono (Nat.le_trans b1.size b2.size))))
  clear b1 b2 b3
  go_wp2_with fail
  refine (new_any w3 T M C HBT.out HBM.out HBC.out).mono ?_
  rintro e w4 ⟨g, rfl, s4, b4⟩
  have S4 := Lib.hid s4
  have B4 := Lib.hid b4
  clear s4 b4
  go_wp2_with fail
  refine (HT.out w4).mono ?_
  rintro e w5 ⟨rfl, b5⟩
  go_wp2_with fail
  refine (HM.out w5).mono ?_
  rintro e w6 ⟨rfl, b6⟩
  go_wp2_with fail
  refine (HC.out w6).mono ?_
  rintro e w7 ⟨rfl, b7⟩
  have B7 := Lib.hid (b5.trans ((b6.mono b5.size).trans (b7.mono (Nat.le_trans b5.size b6.size))))
  clear b5 b6 b7
  go_wp2_with fail
  refine (rnew_any w7 T M C HBT.out HBM.out HBC.out).mono ?_
  rintro e w8 ⟨h, rfl, r8, b8⟩
  have h8 := two_new S4.out B4.out B7.out r8 b8
  have hb8 : Below w.heap.size w w8 := B3.out.trans ((B4.out.mono B3.out.size).trans ((B7.out.mono (Nat.le_trans B3.out.size B4.out.size)).trans (b8.mono (Nat.le_trans B3.out.size (Nat.le_trans B4.out.size B7.out.size)))))
  have H8 := Lib.hid (h8.less (fun k (hk : k < w.heap.size) => Nat.lt_of_lt_of_le hk B3.out.size))
  have B8 := Lib.hid hb8
  clear r8 b8 h8 hb8 S4 B4 B7 B3 HT HM HC HBT HBM HBC
  obtain ⟨BB, hBB⟩ : ∃ k, k = w3.heap.size := ⟨_, rfl⟩
  obtain ⟨DD, hDD⟩ : ∃ k, k = w7.heap.size := ⟨_, rfl⟩
  obtain ⟨S0, hS0⟩ : ∃ S, S = newS T M C := ⟨_, rfl⟩
  rw [← hBB, ← hDD, ← hS0] at H8
  rw [← hS0] at HF
  clear hBB hDD hS0
  go_wp2_with fail
  refine (like_any H8.out HF.out).mono ?_
  rintro e w9 ⟨rfl, b9⟩
  have H9 := Lib.hid (H8.out.below b9)
  have B9 := Lib.hid (B8.out.trans (b9.mono B8.out.size))
  clear b9 H8 B8
  go_upto_region 8 with fail
  go_loopw [11] (fun v11 wr => ∃ i : Nat, v11 = .int .i64 (i : Int) ∧ i ≤ 60 ∧ i ≤ l.length ∧ Two (fun k => k < w.heap.size) wr BB DD g h (deeds S0 l i) (deeds S0 l i) ∧ Below w.heap.size w wr) (fun v11 _ => 60 - (intOf v11).toNat)
  case atStart => exact ⟨0, rfl, by omega, by omega, H9.out, B9.out⟩
  case round =>
    clear H9 B9
    obtain ⟨i, rfl, h1, h2, hs, hb⟩ := hrel
    by_cases hlt : i < l.length
    · have g1 := eq_true (show ((i : Nat) : Int) < (l.length : Int) by omega)
      by_cases h60 : i < 60
      · have g2 := eq_true (show ((i : Nat) : Int) < 60 by omega)
        obtain ⟨b, o, rfl, hcells⟩ := (HD.out.below hb).2 (by omega)
        obtain ⟨c0, c1, c2, c3, c4⟩ := hcells i hlt
        have hbo := HD.out.1 _ (List.getElem_mem hlt)
        have hstep := deeds_step S0 l i hlt
        obtain ⟨d, hd⟩ : ∃ d, d = l[i] := ⟨_, rfl⟩
        rw [← hd] at c0 c1 c2 c3 c4 hbo hstep
        have hdo := does_any hs (HF.out.deeds l i) d hbo.1 hbo.2
        rw [← hstep] at hdo
        have HDO := Lib.hid hdo
        have HB := Lib.hid hb
        have HST := Lib.hid (HF.out.deeds l (i + 1))
        clear hdo hstep hcells hs hb hbo hd
        go_wp2_with fail
        refine HDO.out.mono ?_
        rintro e w10 ⟨rfl, hs, hm⟩
        have HS := Lib.hid hs
        have HB10 := Lib.hid (HB.out.trans (moves_below (w2 := wr) hm (fun k hk => hk) HB.out.size))
        clear hs hm HDO HB
        go_wp2_with fail
        refine (like_any HS.out HST.out).mono ?_
        rintro e w11 ⟨rfl, b11⟩
        have HS11 := Lib.hid (HS.out.below b11)
        have HB11 := Lib.hid (HB10.out.trans (b11.mono HB10.out.size))
        clear b11 HS HB10
        go_wp2_with fail
        go_roundw
        case rel => exact ⟨i + 1, by go_num, by omega, by omega, HS11.out, HB11.out⟩
        case measure => simp only [intOf]; omega
      · have g2 : decide (((i : Nat) : Int) < 60) = false := decide_eq_false (by omega)
        have HB := Lib.hid hb
        clear hs hb
        go_wp2_with fail
        refine (lives_any wr).mono ?_
        rintro e w10 ⟨rfl, b10⟩
        have HB10 := Lib.hid (HB.out.trans (b10.mono HB.out.size))
        clear b10
        go_wp2_with fail
        go_ret
        exact ⟨rfl, HB10.out⟩
    · have g1 : decide (((i : Nat) : Int) < (l.length : Int)) = false := decide_eq_false (by omega)
      have HB := Lib.hid hb
      clear hs hb
      go_wp2_with fail
      refine (lives_any wr).mono ?_
      rintro e w10 ⟨rfl, b10⟩
      have HB10 := Lib.hid (HB.out.trans (b10.mono HB.out.size))
      clear b10
      go_wp2_with fail
      go_ret
      exact ⟨rfl, HB10.out⟩
end Go.Proofs.Ytcfkmhmgappckaa
