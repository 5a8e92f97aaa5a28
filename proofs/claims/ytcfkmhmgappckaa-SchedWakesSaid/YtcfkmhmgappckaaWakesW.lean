/- SchedWakes, walked. No condition. -/
import Derived.Test.YtcfkmhmgappckaaWakesP
import Derived.Test.YtcfkmhmgappckaaWakeW
namespace Go.Proofs.Ytcfkmhmgappckaa
open Go.RowKit Go.Proofs.Ytcfkmhmgappckaa.Sc Go.Proofs.Ytcfkmhmgappckaa.PAll Go.Proofs.YtcfkmhmgappckaaW.PrintWords Go.Proofs.YtcfkmhmgappckaaW.PrintLast Go.Proofs.YtcfkmhmgappckaaW.PrintMore

theorem nextBelow {w w1 w2 : World} {S : Sd} {g : Nat} (h : Next w1 w.heap.size g (fun k => w.heap.size ≤ k ∧ k < w1.heap.size) S w2) (hb : Below w.heap.size w w1) : Below w.heap.size w w2 :=
  hb.trans (movesBelow h.2 hb.size)
set_option maxHeartbeats 4000000 in
set_option maxRecDepth 100000 in
theorem schedWakes_walk (T : Int) (w : World) (hT : (Lit.int .i64 T).wf = true) :
    Calls Try.prog 4 #[.int .i64 T] w fun e w' => e = .returned (.bool true) ∧ Below w.heap.size w w' := by
  have h5 : -9223372036854775808 ≤ T ∧ T ≤ 9223372036854775807 := by simpa only [Lit.wf, show IntKind.i64.min = -9223372036854775808 by decide, show IntKind.i64.max = 9223372036854775807 by decide, Bool.and_eq_true, decide_eq_true_eq] using hT
  obtain ⟨hT1, hT2⟩ := h5
  clear hT
  go_enter Try.func4, Try.ntmps4
  go_upto_if 14 with fail
  go_cut [0] (fun v0 wx => ∃ N : Nat, v0 = .int .i64 (N : Int) ∧ (N : Int) ≤ 9223372036854775807 ∧ wx = w)
  case first =>
    by_cases h0 : T < 0
    · obtain ⟨N, hN⟩ : ∃ N : Nat, -(T + 1) = (N : Int) := ⟨(-(T + 1)).toNat, by omega⟩
      have hN2 : (N : Int) ≤ 9223372036854775807 := by omega
      have hd : decide (T < 0) = true := decide_eq_true h0
      go_wp2_with fail
      go_meet
      exact ⟨N, rfl, hN2, rfl⟩
    · obtain ⟨N, hN⟩ : ∃ N : Nat, T = (N : Int) := ⟨T.toNat, by omega⟩
      subst hN
      have hd : decide ((N : Int) < 0) = false := decide_eq_false (by omega)
      clear h0
      go_wp2_with fail
      go_meet
      exact ⟨N, rfl, hT2, rfl⟩
  case rest =>
    obtain ⟨N, rfl, hN, rfl⟩ := hcut
    rename World => W
    clear hT1 hT2
    obtain ⟨n, hn⟩ : ∃ n : Nat, n = 1 + N % 8 := ⟨_, rfl⟩
    have hn1 : 1 ≤ n := by omega
    have hn2 : n ≤ 8 := by omega
    have hsum : (1 : Int) + (N : Int) % 8 = (n : Int) := by omega
    have HSUM := Lib.hid hsum
    clear hsum
    have HN := Lib.hid (new_any W (1 + (N : Int) % 8 + 1) 1 1 (by omega) (by omega) (by omega))
    obtain ⟨K1, K2, K3, K4⟩ := chk_at n hn1 hn2
    have K1 := Lib.hid K1
    have K3 := Lib.hid K3
    simp only [chk2, chk4, Bool.and_eq_true, decide_eq_true_eq, Bool.not_eq_true'] at K2 K4
    have K2 := Lib.hid K2
    have K4 := Lib.hid K4
    go_wp2_with fail
    refine HN.out.mono ?_
    rintro e w1 ⟨g, rfl, s1, b1⟩
    rw [HSUM.out] at s1 ⊢
    clear HSUM hn HN
    have s1 : Sch w1 W.heap.size g (fun k => W.heap.size ≤ k ∧ k < w1.heap.size) (wk1 n 0) := s1
    have H1 := Lib.hid (Next.of_below s1 b1.size (Below.refl _ _))
    have B1 := Lib.hid b1
    have hbs := b1.size
    clear s1 b1
    go_wp2_with fail
    go_loopw [5] (fun v5 wr => ∃ t : Nat, v5 = .int .i64 (t : Int) ∧ t ≤ n ∧ Next w1 W.heap.size g (fun k => W.heap.size ≤ k ∧ k < w1.heap.size) (wk1 n t) wr) (fun v5 _ => n - (intOf v5).toNat)
    case atStart => exact ⟨0, rfl, by omega, H1.out⟩
    case round =>
      clear H1
      obtain ⟨t, rfl, ht, hs⟩ := hrel
      obtain ⟨hok, hsz⟩ := wk_ok1 n t
      obtain ⟨l1, l2, l3⟩ := len_of n hn2 _ hsz
      have hbr : W.heap.size ≤ wr.heap.size := Nat.le_trans hbs hs.2.size
      by_cases hlt : t < n
      · have g1 : ((t : Nat) : Int) < (n : Int) := by omega
        have k := K1.out t hlt
        simp only [chk1, Bool.and_eq_true, decide_eq_true_eq] at k
        obtain ⟨⟨k1, k2⟩, k3⟩ := k
        have hl := lock_any hs.1 hbr hok l1 l2 (t : Int) 0
        obtain ⟨m1, m2, m3⟩ := len_of n hn2 _ (hsz.trans (size_lock (wk1 n t) t 0))
        have hw := fun w3 (hN3 : Next wr W.heap.size g (Plus (fun k => W.heap.size ≤ k ∧ k < w1.heap.size) w1 wr) (lock (wk1 n t) t 0).1 w3) => wait_any hN3.1 (Nat.le_trans hbr hN3.2.size) (hok.lock (t : Int) 0) m1 m2 m3 (t : Int) 0 0
        obtain ⟨_, hsz2⟩ := wk_ok1 n (t + 1)
        obtain ⟨o1, o2, o3⟩ := len_of n hn2 _ hsz2
        rw [k1] at hl
        rw [k2] at hw
        have HL := Lib.hid hl
        have HW := Lib.hid hw
        have HS := Lib.hid hs
        have HK3 := Lib.hid k3
        clear hl hw hs k1 k2 k3 hok hsz hsz2 l1 l2 l3 m1 m2 m3
        go_wp2_with fail
        refine HL.out.mono ?_
        rintro e w3 ⟨rfl, hN3⟩
        have H3 := Lib.hid hN3
        clear hN3
        go_wp2_with fail
        refine (HW.out w3 H3.out).mono ?_
        rintro e w4 ⟨rfl, hN4⟩
        have hN5 : Next w1 W.heap.size g (fun k => W.heap.size ≤ k ∧ k < w1.heap.size) (wk1 n (t + 1)) w4 := HS.out.trans (H3.out.trans hN4)
        have H5 := Lib.hid hN5
        clear hN4 hN5
        have hst := state_sch H5.out.1 o1 (t : Int)
        rw [HK3.out] at hst
        have HST := Lib.hid hst
        clear hst
        go_wp2_with fail
        refine HST.out.mono ?_
        rintro e w5 ⟨rfl, hw'⟩
        rw [hw']
        clear hw' w5
        go_wp2_with fail
        go_roundw
        case rel => exact ⟨t + 1, by go_num, by omega, H5.out⟩
        case measure => simp [intOf]; omega
      · obtain rfl : t = n := by omega
        have hwk := wake_any hs.1 hbr hok l1 l3 0
        rw [K2.out.1.1.1] at hwk
        obtain ⟨ok0, sz0⟩ := wk_ok2 t 0
        obtain ⟨m1, m2, m3⟩ := len_of t hn2 _ sz0
        obtain ⟨ok9, sz9⟩ := wk_ok2 t t
        obtain ⟨p1, p2, p3⟩ := len_of t hn2 _ sz9
        have hrf := ok0.rowFew
        have e1 : (((t - 1 : Nat) : Int) != IntKind.i64.wrap ((t : Int) - 1)) = false := by rw [IntWalk.i64_in _ (by omega)]; simp; omega
        have e2 : (((t - 1 : Nat) : Int) != (t : Int) - 1) = false := by simp; omega
        have HWK := Lib.hid hwk
        have HS := Lib.hid hs
        have HOK0 := Lib.hid ok0
        have HRF := Lib.hid hrf
        obtain ⟨wA, hwA⟩ : ∃ wA, wA = wr := ⟨_, rfl⟩
        subst hwA
        clear hwk hs hok hsz l1 l2 l3 ok0 hrf sz0 sz9
        go_wp2_with fail
        refine HWK.out.mono ?_
        rintro e w3 ⟨rfl, hN3⟩
        have hN3 : Next w1 W.heap.size g (fun k => W.heap.size ≤ k ∧ k < w1.heap.size) (wk2 t 0) w3 := HS.out.trans hN3
        have H3 := Lib.hid hN3
        clear hN3 HWK HS
        have how := owner_sch H3.out.1 m2 0
        rw [K2.out.1.1.2] at how
        have hrw := row_sch H3.out.1 m2 (fun x hx => Nat.le_trans (HRF.out x hx) m1) 0
        have hstk := fun w4 (hb : Below w3.heap.size w3 w4) => stuck_sch (H3.out.1.below hb) m1
        rw [K2.out.2] at hstk
        have HOW := Lib.hid how
        have HRW := Lib.hid hrw
        have HSTK := Lib.hid hstk
        clear how hrw hstk
        go_wp2_with fail
        refine HOW.out.mono ?_
        rintro e w4 ⟨rfl, hw'⟩
        rw [hw']
        clear hw' w4
        go_wp2_with fail
        refine HRW.out.mono ?_
        rintro e w4 ⟨v, rfl, ⟨A, cp, rfl, _, _⟩, hb4⟩
        rw [K2.out.1.2]
        have HB4 := Lib.hid hb4
        clear hb4
        go_wp2_with fail
        refine (HSTK.out w4 HB4.out).mono ?_
        rintro e w5 ⟨rfl, rfl⟩
        have hN5 : Next w1 W.heap.size g (fun k => W.heap.size ≤ k ∧ k < w1.heap.size) (wk2 t 0) w4 := H3.out.trans (Next.of_below H3.out.1 (Nat.le_trans hbs H3.out.2.size) HB4.out)
        have H5 := Lib.hid hN5
        clear hN5 H3 HB4 HOW HRW HSTK
        go_wp2_with fail
        clear e1 e2
        go_loopw [10] (fun v10 wr => ∃ i : Nat, v10 = .int .i64 (i : Int) ∧ i ≤ t ∧ Next w1 W.heap.size g (fun k => W.heap.size ≤ k ∧ k < w1.heap.size) (wk2 t i) wr) (fun v10 _ => t - (intOf v10).toNat)
        case atStart => exact ⟨0, rfl, by omega, H5.out⟩
        case round =>
          clear H5
          obtain ⟨i, rfl, hi, hs⟩ := hrel
          obtain ⟨hok, hsz⟩ := wk_ok2 t i
          obtain ⟨l1, l2, l3⟩ := len_of t hn2 _ hsz
          have hbr : W.heap.size ≤ wr.heap.size := Nat.le_trans hbs hs.2.size
          by_cases hlt2 : i < t
          · have g1 : ((i : Nat) : Int) < (t : Int) := by omega
            have k := K3.out i hlt2
            simp only [chk3, Bool.and_eq_true, decide_eq_true_eq] at k
            obtain ⟨⟨k1, k2⟩, k3⟩ := k
            have how := owner_sch hs.1 l2 0
            rw [k1] at how
            have hul := unlock_any hs.1 hbr hok l1 l2 l3 (i : Int) 0
            rw [k2] at hul
            obtain ⟨q1, q2, q3⟩ := len_of t hn2 _ (hsz.trans (size_unlock (wk2 t i) i 0))
            have hen := fun w3 (hN3 : Next wr W.heap.size g (Plus (fun k => W.heap.size ≤ k ∧ k < w1.heap.size) w1 wr) (unlock (wk2 t i) i 0).1 w3) => end_any hN3.1 (Nat.le_trans hbr hN3.2.size) q1 q2 (i : Int)
            rw [k3] at hen
            have HOW := Lib.hid how
            have HUL := Lib.hid hul
            have HEN := Lib.hid hen
            have HS := Lib.hid hs
            clear how hul hen hs k1 k2 k3 hok hsz l1 l2 l3 q1 q2 q3
            go_wp2_with fail
            refine HOW.out.mono ?_
            rintro e w4 ⟨rfl, hw'⟩
            rw [hw']
            clear hw' w4
            go_wp2_with fail
            refine HUL.out.mono ?_
            rintro e w4 ⟨rfl, hN4⟩
            have H4 := Lib.hid hN4
            clear hN4
            go_wp2_with fail
            refine (HEN.out w4 H4.out).mono ?_
            rintro e w5 ⟨rfl, hN5⟩
            have hN6 : Next w1 W.heap.size g (fun k => W.heap.size ≤ k ∧ k < w1.heap.size) (wk2 t (i + 1)) w5 := HS.out.trans (H4.out.trans hN5)
            have H6 := Lib.hid hN6
            clear hN5 hN6
            go_wp2_with fail
            go_roundw
            case rel => exact ⟨i + 1, by go_num, by omega, H6.out⟩
            case measure => simp [intOf]; omega
          · obtain rfl : i = t := by omega
            have hwk := wake_any hs.1 hbr hok l1 l3 0
            have kw : (wake (wk2 i i) 0).2 = (0, 0) := by
              have : (wake (wk2 i i) 0).2.2 = 0 := by
                unfold wake
                have e : there (wk2 i i).R 0 = true := (there_iff _ _).2 ⟨by omega, by rw [hsz.2.2]; simp [newS]⟩
                rw [if_pos e]
              exact Prod.ext K4.out.1.1.1 this
            rw [kw] at hwk
            obtain ⟨q1, q2, q3⟩ := len_of i hn2 _ (hsz.trans (size_wake (wk2 i i) 0))
            obtain ⟨r1, r2, r3⟩ := len_of i hn2 _ ((hsz.trans (size_wake (wk2 i i) 0)).trans (size_end (wake (wk2 i i) 0).1 i))
            have HWK := Lib.hid hwk
            have HS := Lib.hid hs
            clear hwk hs hok hsz l1 l2 l3 kw
            go_wp2_with fail
            refine HWK.out.mono ?_
            rintro e w3 ⟨rfl, hN3⟩
            have H3 := Lib.hid (HS.out.trans hN3)
            clear hN3 HWK
            have hs1 := stuck_sch H3.out.1 q1
            rw [K4.out.1.1.2] at hs1
            have he := end_any H3.out.1 (Nat.le_trans hbs H3.out.2.size) q1 q2 (i : Int)
            rw [K4.out.1.2] at he
            have HS1 := Lib.hid hs1
            have HE := Lib.hid he
            clear hs1 he
            go_wp2_with fail
            refine HS1.out.mono ?_
            rintro e w4 ⟨rfl, rfl⟩
            go_wp2_with fail
            refine HE.out.mono ?_
            rintro e w5 ⟨rfl, hN5⟩
            have H5 := Lib.hid (H3.out.trans hN5)
            clear hN5
            have hs2 := stuck_sch H5.out.1 r1
            rw [K4.out.2] at hs2
            have HS2 := Lib.hid hs2
            clear hs2
            go_wp2_with fail
            refine HS2.out.mono ?_
            rintro e w6 ⟨rfl, rfl⟩
            go_wp2_with fail
            refine (lives_any _).mono ?_
            rintro e w7 ⟨rfl, hb7⟩
            have hfin := nextBelow H5.out B1.out
            have HF := Lib.hid (hfin.trans (hb7.mono hfin.size))
            clear hb7 hfin
            go_wp2_with fail
            go_ret
            exact ⟨rfl, HF.out⟩
end Go.Proofs.Ytcfkmhmgappckaa
