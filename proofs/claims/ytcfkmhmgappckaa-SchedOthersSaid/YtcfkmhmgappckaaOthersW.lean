/- SchedOthers, walked: true for every input. -/
import Derived.Test.YtcfkmhmgappckaaBnd5
set_option linter.unusedVariables false
set_option linter.unusedSimpArgs false
namespace Go.Proofs.Ytcfkmhmgappckaa
open Go.RowKit Go.Proofs.Ytcfkmhmgappckaa.Sc Go.Proofs.Ytcfkmhmgappckaa.PAll Go.Proofs.YtcfkmhmgappckaaW.PrintWords Go.Proofs.YtcfkmhmgappckaaW.PrintLast Go.Proofs.YtcfkmhmgappckaaW.PrintMore

theorem first_two_of (a b : Bool) (h : first a b ≠ 0) : first a b = 1 ∨ first a b = 12 := by cases a <;> cases b <;> simp_all [first]
theorem lock_same (S : Sd) (t m : Int) (h : (lock S t m).2.2 ≠ 0) : (lock S t m).1 = S ∧ ((lock S t m).2.2 = 1 ∨ (lock S t m).2.2 = 12) := by
  by_cases hn : lockE S t m = 0
  · have e : (lock S t m).2.2 = 0 := by unfold Sc.lock; rw [if_neg (by omega)]
    exact absurd e h
  · have e : lock S t m = (S, false, lockE S t m) := by unfold Sc.lock; rw [if_pos hn]
    rw [e]
    exact ⟨rfl, first_two_of _ _ hn⟩
theorem unlock_same (S : Sd) (t m : Int) (h : (unlock S t m).2 ≠ 0) : (unlock S t m).1 = S ∧ ((unlock S t m).2 = 1 ∨ (unlock S t m).2 = 12) :=
  ⟨if_neg h, first_two_of _ _ h⟩
theorem wait_same (S : Sd) (t c m : Int) (h : (wait S t c m).2 ≠ 0) : (wait S t c m).1 = S ∧ ((wait S t c m).2 = 1 ∨ (wait S t c m).2 = 12) :=
  ⟨if_neg h, first_two_of _ _ h⟩
theorem rest_same (S : Sd) (t c : Int) (h : (Sc.rest S t c).2 ≠ 0) : (Sc.rest S t c).1 = S ∧ ((Sc.rest S t c).2 = 1 ∨ (Sc.rest S t c).2 = 12) :=
  ⟨if_neg h, first_two_of _ _ h⟩
theorem end_same (S : Sd) (t : Int) (h : (endT S t).2 ≠ 0) : (endT S t).1 = S ∧ ((endT S t).2 = 1 ∨ (endT S t).2 = 12) :=
  ⟨if_neg h, first_two_of _ _ h⟩
set_option maxHeartbeats 4000000 in
set_option maxRecDepth 100000 in
theorem schedOthers_walk (t m c : Int) (A : Option Addr) (cap : Nat) (l : List Dd) (d : Dd) (w0 : World) (ht : (Lit.int .i64 t).wf = true) (hm : (Lit.int .i64 m).wf = true) (hc : (Lit.int .i64 c).wf = true) (hD : DeedsAt w0 A l) :
    Calls Try.prog 8 #[.int .i64 t, .int .i64 m, .int .i64 c, .slice A l.length cap, d.val] w0 fun e w' => e = .returned (.bool true) ∧ Below w0.heap.size w0 w' := by
  have hst := fun W => size_any t W ht
  have hsm := fun W => size_any m W hm
  have hsc := fun W => size_any c W hc
  have bt := sizeI_in t
  have bm := sizeI_in m
  have bc := sizeI_in c
  obtain ⟨T, hT⟩ : ∃ T, T = sizeI t := ⟨_, rfl⟩
  obtain ⟨M, hM⟩ : ∃ M, M = sizeI m := ⟨_, rfl⟩
  obtain ⟨C, hC⟩ : ∃ C, C = sizeI c := ⟨_, rfl⟩
  simp only [← hT, ← hM, ← hC] at hst hsm hsc bt bm bc
  have HT := Lib.hid hst
  have HM := Lib.hid hsm
  have HC := Lib.hid hsc
  have HD := Lib.hid hD
  have HF := Lib.hid (fits_new T M C (by omega) (by omega) (by omega))
  have HBT := Lib.hid (show T ≤ 1000 by omega)
  have HBM := Lib.hid (show M ≤ 1000 by omega)
  have HBC := Lib.hid (show C ≤ 1000 by omega)
  clear hst hsm hsc bt bm bc hT hM hC ht hm hc hD
  obtain ⟨dk, dt, dm, dc, dp⟩ := d
  unfold Dd.val
  dsimp only
  obtain ⟨w, hw⟩ : ∃ wa, wa = w0.alloc (.cells #[.int .i64 dk, .int .i64 dt, .int .i64 dm, .int .i64 dc, .bool dp] 45 (0, 0)) := ⟨_, rfl⟩
  have hba : Below w0.heap.size w0 w := by rw [hw]; exact below_alloc (Below.refl _ _) _
  have c0 : w.cell? ⟨w0.heap.size, 0, none⟩ = some (.int .i64 dk) := by rw [hw]; exact cell_at_new _ _ _ 0 _ rfl
  have c1 : w.cell? ⟨w0.heap.size, 1, none⟩ = some (.int .i64 dt) := by rw [hw]; exact cell_at_new _ _ _ 1 _ rfl
  have c2 : w.cell? ⟨w0.heap.size, 2, none⟩ = some (.int .i64 dm) := by rw [hw]; exact cell_at_new _ _ _ 2 _ rfl
  have c3 : w.cell? ⟨w0.heap.size, 3, none⟩ = some (.int .i64 dc) := by rw [hw]; exact cell_at_new _ _ _ 3 _ rfl
  have C0 := Lib.hid c0
  have C1 := Lib.hid c1
  have C2 := Lib.hid c2
  have C3 := Lib.hid c3
  have HBA := Lib.hid hba
  replace HD := Lib.hid (HD.out.below hba)
  clear c0 c1 c2 c3 hba
  go_enter Try.func8, Try.ntmps8
  go_upto_region 1 with fail
  rw [← hw]
  clear hw
  go_wp2_with fail
  refine (HT.out w).mono ?_
  rintro e w1 ⟨rfl, b1⟩
  go_wp2_with fail
  refine (HM.out w1).mono ?_
  rintro e w2 ⟨rfl, b2⟩
  go_wp2_with fail
  refine (HC.out w2).mono ?_
  rintro e w3 ⟨rfl, b3⟩
  have B3 := Lib.hid (b1.trans ((b2.mono b1.size).trans (b3.mono (Nat.le_trans b1.size b2.size))))
  clear b1 b2 b3
  go_wp2_with fail
  refine (new_any w3 T M C HBT.out HBM.out HBC.out).mono ?_
  rintro e w4 ⟨g, rfl, s4, b4⟩
  have S4 := Lib.hid s4
  have B4 := Lib.hid b4
  clear s4 b4
  go_wp2_with fail
  refine (HT.out w4).mono ?_
  rintro e w5 ⟨rfl, b5⟩
  go_wp2_with fail
  refine (HM.out w5).mono ?_
  rintro e w6 ⟨rfl, b6⟩
  go_wp2_with fail
  refine (HC.out w6).mono ?_
  rintro e w7 ⟨rfl, b7⟩
  have B7 := Lib.hid (b5.trans ((b6.mono b5.size).trans (b7.mono (Nat.le_trans b5.size b6.size))))
  clear b5 b6 b7
  go_wp2_with fail
  refine (rnew_any w7 T M C HBT.out HBM.out HBC.out).mono ?_
  rintro e w8 ⟨h, rfl, r8, b8⟩
  have h8 := two_new S4.out B4.out B7.out r8 b8
  have hb8 : Below w.heap.size w w8 := B3.out.trans ((B4.out.mono B3.out.size).trans ((B7.out.mono (Nat.le_trans B3.out.size B4.out.size)).trans (b8.mono (Nat.le_trans B3.out.size (Nat.le_trans B4.out.size B7.out.size)))))
  have H8 := Lib.hid (h8.less (fun k (hk : k < w.heap.size) => Nat.lt_of_lt_of_le hk B3.out.size))
  have B8 := Lib.hid hb8
  clear r8 b8 h8 hb8 S4 B4 B7 B3 HT HM HC HBT HBM HBC
  obtain ⟨BB, hBB⟩ : ∃ k, k = w3.heap.size := ⟨_, rfl⟩
  obtain ⟨DD, hDD⟩ : ∃ k, k = w7.heap.size := ⟨_, rfl⟩
  obtain ⟨S0, hS0⟩ : ∃ S, S = newS T M C := ⟨_, rfl⟩
  rw [← hBB, ← hDD, ← hS0] at H8
  rw [← hS0] at HF
  clear hBB hDD hS0
  go_upto_region 6 with fail
  go_loopw [13] (fun v13 wr => ∃ i : Nat, v13 = .int .i64 (i : Int) ∧ i ≤ 30 ∧ i ≤ l.length ∧ Two (fun k => k < w.heap.size) wr BB DD g h (deeds S0 l i) (deeds S0 l i) ∧ Below w.heap.size w wr) (fun v13 _ => 30 - (intOf v13).toNat)
  case atStart => exact ⟨0, rfl, by omega, by omega, H8.out, B8.out⟩
  case round =>
    clear H8 B8
    obtain ⟨i, rfl, h1, h2, hs, hb⟩ := hrel
    by_cases hgo : i < l.length ∧ i < 30
    · obtain ⟨hlt, h60⟩ := hgo
      have g1 := eq_true (show ((i : Nat) : Int) < (l.length : Int) by omega)
      have g2 := eq_true (show ((i : Nat) : Int) < 30 by omega)
      obtain ⟨b, o, rfl, hcells⟩ := (HD.out.below hb).2 (by omega)
      obtain ⟨c0, c1, c2, c3, c4⟩ := hcells i hlt
      have hbo := HD.out.1 _ (List.getElem_mem hlt)
      have hstep := deeds_step S0 l i hlt
      obtain ⟨d, hd⟩ : ∃ d, d = l[i] := ⟨_, rfl⟩
      rw [← hd] at c0 c1 c2 c3 c4 hbo hstep
      have hdo := does_any hs (HF.out.deeds l i) d hbo.1 hbo.2
      rw [← hstep] at hdo
      have HDO := Lib.hid hdo
      have HB := Lib.hid hb
      clear hdo hstep hcells hs hb hbo hd
      go_wp2_with fail
      refine HDO.out.mono ?_
      rintro e w10 ⟨rfl, hs, hm⟩
      have HS := Lib.hid hs
      have HB10 := Lib.hid (HB.out.trans (moves_below (w2 := w) hm (fun k hk => hk) HB.out.size))
      clear hs hm HDO HB
      go_wp2_with fail
      go_roundw
      case rel => exact ⟨i + 1, by go_num, by omega, by omega, HS.out, HB10.out⟩
      case measure => simp only [intOf]; omega
    · obtain ⟨S, hS⟩ : ∃ S, S = deeds S0 l i := ⟨_, rfl⟩
      have hfS := HF.out.deeds l i
      rw [← hS] at hs hfS
      have HFS := Lib.hid hfS
      have HS := Lib.hid hs
      have HB := Lib.hid hb
      have hlen : (i < l.length) = True ∨ (i < l.length) = False := by by_cases q : i < l.length <;> simp [q]
      have c0 := cell_stay (Nat.le_refl _) (hb.mono (Nat.le_refl _)) C0.out
      have c1 := cell_stay (Nat.le_refl _) hb C1.out
      have c2 := cell_stay (Nat.le_refl _) hb C2.out
      have c3 := cell_stay (Nat.le_refl _) hb C3.out
      clear hs hb hS hfS C0 C1 C2 C3 HF HD hlen
      have hexit : (¬ i < l.length ∧ decide (((i : Nat) : Int) < (l.length : Int)) = false) ∨ ((((i : Nat) : Int) < (l.length : Int)) = True ∧ decide (((i : Nat) : Int) < 30) = false) := by
        by_cases q : i < l.length
        · exact .inr ⟨eq_true (by omega), decide_eq_false (by omega)⟩
        · exact .inl ⟨q, decide_eq_false (by omega)⟩
      -- the end: an answer, and what lies behind it
      rcases hexit with ⟨g1, g2⟩ | ⟨g1, g2⟩
      all_goals
        go_upto_region 10 with fail
        clear g2 g1 h1 h2 hgo
        by_cases k0 : dk = 0
        · subst k0
          obtain ⟨a, ha⟩ : ∃ a, a = (lock S dt dm).2.2 := ⟨_, rfl⟩
          have hsame := lock_same S dt dm
          rw [← ha] at hsame
          have hcall := two_lock HS.out HFS.out dt dm
          rw [← ha] at hcall
          have HCA := Lib.hid hcall
          have HSA := Lib.hid hsame
          clear hcall hsame ha
          go_wp2_with fail
          refine HCA.out.mono ?_
          rintro e w10 ⟨rfl, hs, hm⟩
          have HS10 := Lib.hid hs
          have HB10 := Lib.hid (HB.out.trans (moves_below (w2 := w) hm (fun k hk => hk) HB.out.size))
          clear hs hm HCA HB HS c0 c1 c2 c3
          by_cases h0 : a = 0
          · subst h0
            go_wp2_with fail
            refine (lives_any w10).mono ?_
            rintro e wz ⟨rfl, bz⟩
            have HBZ := Lib.hid (HBA.out.trans ((HB10.out.trans (bz.mono HB10.out.size)).mono HBA.out.size))
            clear bz
            go_wp2_with fail
            go_ret
            exact ⟨rfl, HBZ.out⟩
          · have hs2 := HS10.out
            rw [(HSA.out h0).1] at hs2
            have HS2 := Lib.hid hs2
            have hor := (HSA.out h0).2
            clear hs2 HS10 h0 HSA
            rcases hor with rfl | rfl
            all_goals
              go_wp2_with fail
              refine (like_any HS2.out HFS.out).mono ?_
              rintro e w11 ⟨rfl, b11⟩
              have HB11 := Lib.hid (HB10.out.trans (b11.mono HB10.out.size))
              clear b11
              go_wp2_with fail
              refine (lives_any w11).mono ?_
              rintro e wz ⟨rfl, bz⟩
              have HBZ := Lib.hid (HBA.out.trans ((HB11.out.trans (bz.mono HB11.out.size)).mono HBA.out.size))
              clear bz
              go_wp2_with fail
              go_ret
              exact ⟨rfl, HBZ.out⟩
        replace k0 : (dk == 0) = false := by rw [beq_eq_false_iff_ne]; exact k0
        by_cases k1 : dk = 1
        · subst k1
          obtain ⟨a, ha⟩ : ∃ a, a = (unlock S dt dm).2 := ⟨_, rfl⟩
          have hsame := unlock_same S dt dm
          rw [← ha] at hsame
          have hcall := two_unlock HS.out HFS.out dt dm
          rw [← ha] at hcall
          have HCA := Lib.hid hcall
          have HSA := Lib.hid hsame
          clear hcall hsame ha
          go_wp2_with fail
          refine HCA.out.mono ?_
          rintro e w10 ⟨rfl, hs, hm⟩
          have HS10 := Lib.hid hs
          have HB10 := Lib.hid (HB.out.trans (moves_below (w2 := w) hm (fun k hk => hk) HB.out.size))
          clear hs hm HCA HB HS c0 c1 c2 c3
          by_cases h0 : a = 0
          · subst h0
            go_wp2_with fail
            refine (lives_any w10).mono ?_
            rintro e wz ⟨rfl, bz⟩
            have HBZ := Lib.hid (HBA.out.trans ((HB10.out.trans (bz.mono HB10.out.size)).mono HBA.out.size))
            clear bz
            go_wp2_with fail
            go_ret
            exact ⟨rfl, HBZ.out⟩
          · have hs2 := HS10.out
            rw [(HSA.out h0).1] at hs2
            have HS2 := Lib.hid hs2
            have hor := (HSA.out h0).2
            clear hs2 HS10 h0 HSA
            rcases hor with rfl | rfl
            all_goals
              go_wp2_with fail
              refine (like_any HS2.out HFS.out).mono ?_
              rintro e w11 ⟨rfl, b11⟩
              have HB11 := Lib.hid (HB10.out.trans (b11.mono HB10.out.size))
              clear b11
              go_wp2_with fail
              refine (lives_any w11).mono ?_
              rintro e wz ⟨rfl, bz⟩
              have HBZ := Lib.hid (HBA.out.trans ((HB11.out.trans (bz.mono HB11.out.size)).mono HBA.out.size))
              clear bz
              go_wp2_with fail
              go_ret
              exact ⟨rfl, HBZ.out⟩
        replace k1 : (dk == 1) = false := by rw [beq_eq_false_iff_ne]; exact k1
        by_cases k2 : dk = 2
        · subst k2
          obtain ⟨a, ha⟩ : ∃ a, a = (wait S dt dc dm).2 := ⟨_, rfl⟩
          have hsame := wait_same S dt dc dm
          rw [← ha] at hsame
          have hcall := two_wait HS.out HFS.out dt dc dm
          rw [← ha] at hcall
          have HCA := Lib.hid hcall
          have HSA := Lib.hid hsame
          clear hcall hsame ha
          go_wp2_with fail
          refine HCA.out.mono ?_
          rintro e w10 ⟨rfl, hs, hm⟩
          have HS10 := Lib.hid hs
          have HB10 := Lib.hid (HB.out.trans (moves_below (w2 := w) hm (fun k hk => hk) HB.out.size))
          clear hs hm HCA HB HS c0 c1 c2 c3
          by_cases h0 : a = 0
          · subst h0
            go_wp2_with fail
            refine (lives_any w10).mono ?_
            rintro e wz ⟨rfl, bz⟩
            have HBZ := Lib.hid (HBA.out.trans ((HB10.out.trans (bz.mono HB10.out.size)).mono HBA.out.size))
            clear bz
            go_wp2_with fail
            go_ret
            exact ⟨rfl, HBZ.out⟩
          · have hs2 := HS10.out
            rw [(HSA.out h0).1] at hs2
            have HS2 := Lib.hid hs2
            have hor := (HSA.out h0).2
            clear hs2 HS10 h0 HSA
            rcases hor with rfl | rfl
            all_goals
              go_wp2_with fail
              refine (like_any HS2.out HFS.out).mono ?_
              rintro e w11 ⟨rfl, b11⟩
              have HB11 := Lib.hid (HB10.out.trans (b11.mono HB10.out.size))
              clear b11
              go_wp2_with fail
              refine (lives_any w11).mono ?_
              rintro e wz ⟨rfl, bz⟩
              have HBZ := Lib.hid (HBA.out.trans ((HB11.out.trans (bz.mono HB11.out.size)).mono HBA.out.size))
              clear bz
              go_wp2_with fail
              go_ret
              exact ⟨rfl, HBZ.out⟩
        replace k2 : (dk == 2) = false := by rw [beq_eq_false_iff_ne]; exact k2
        by_cases k3 : dk = 3
        · subst k3
          obtain ⟨a, ha⟩ : ∃ a, a = (Sc.rest S dt dc).2 := ⟨_, rfl⟩
          have hsame := rest_same S dt dc
          rw [← ha] at hsame
          have hcall := two_rest HS.out HFS.out dt dc
          rw [← ha] at hcall
          have HCA := Lib.hid hcall
          have HSA := Lib.hid hsame
          clear hcall hsame ha
          go_wp2_with fail
          refine HCA.out.mono ?_
          rintro e w10 ⟨rfl, hs, hm⟩
          have HS10 := Lib.hid hs
          have HB10 := Lib.hid (HB.out.trans (moves_below (w2 := w) hm (fun k hk => hk) HB.out.size))
          clear hs hm HCA HB HS c0 c1 c2 c3
          by_cases h0 : a = 0
          · subst h0
            go_wp2_with fail
            refine (lives_any w10).mono ?_
            rintro e wz ⟨rfl, bz⟩
            have HBZ := Lib.hid (HBA.out.trans ((HB10.out.trans (bz.mono HB10.out.size)).mono HBA.out.size))
            clear bz
            go_wp2_with fail
            go_ret
            exact ⟨rfl, HBZ.out⟩
          · have hs2 := HS10.out
            rw [(HSA.out h0).1] at hs2
            have HS2 := Lib.hid hs2
            have hor := (HSA.out h0).2
            clear hs2 HS10 h0 HSA
            rcases hor with rfl | rfl
            all_goals
              go_wp2_with fail
              refine (like_any HS2.out HFS.out).mono ?_
              rintro e w11 ⟨rfl, b11⟩
              have HB11 := Lib.hid (HB10.out.trans (b11.mono HB10.out.size))
              clear b11
              go_wp2_with fail
              refine (lives_any w11).mono ?_
              rintro e wz ⟨rfl, bz⟩
              have HBZ := Lib.hid (HBA.out.trans ((HB11.out.trans (bz.mono HB11.out.size)).mono HBA.out.size))
              clear bz
              go_wp2_with fail
              go_ret
              exact ⟨rfl, HBZ.out⟩
        replace k3 : (dk == 3) = false := by rw [beq_eq_false_iff_ne]; exact k3
        by_cases k5 : dk = 5
        · subst k5
          obtain ⟨a, ha⟩ : ∃ a, a = (endT S dt).2 := ⟨_, rfl⟩
          have hsame := end_same S dt
          rw [← ha] at hsame
          have hcall := two_end HS.out HFS.out dt
          rw [← ha] at hcall
          have HCA := Lib.hid hcall
          have HSA := Lib.hid hsame
          clear hcall hsame ha
          go_wp2_with fail
          refine HCA.out.mono ?_
          rintro e w10 ⟨rfl, hs, hm⟩
          have HS10 := Lib.hid hs
          have HB10 := Lib.hid (HB.out.trans (moves_below (w2 := w) hm (fun k hk => hk) HB.out.size))
          clear hs hm HCA HB HS c0 c1 c2 c3
          by_cases h0 : a = 0
          · subst h0
            go_wp2_with fail
            refine (lives_any w10).mono ?_
            rintro e wz ⟨rfl, bz⟩
            have HBZ := Lib.hid (HBA.out.trans ((HB10.out.trans (bz.mono HB10.out.size)).mono HBA.out.size))
            clear bz
            go_wp2_with fail
            go_ret
            exact ⟨rfl, HBZ.out⟩
          · have hs2 := HS10.out
            rw [(HSA.out h0).1] at hs2
            have HS2 := Lib.hid hs2
            have hor := (HSA.out h0).2
            clear hs2 HS10 h0 HSA
            rcases hor with rfl | rfl
            all_goals
              go_wp2_with fail
              refine (like_any HS2.out HFS.out).mono ?_
              rintro e w11 ⟨rfl, b11⟩
              have HB11 := Lib.hid (HB10.out.trans (b11.mono HB10.out.size))
              clear b11
              go_wp2_with fail
              refine (lives_any w11).mono ?_
              rintro e wz ⟨rfl, bz⟩
              have HBZ := Lib.hid (HBA.out.trans ((HB11.out.trans (bz.mono HB11.out.size)).mono HBA.out.size))
              clear bz
              go_wp2_with fail
              go_ret
              exact ⟨rfl, HBZ.out⟩
        replace k5 : (dk == 5) = false := by rw [beq_eq_false_iff_ne]; exact k5
        go_wp2_with fail
        refine (lives_any _).mono ?_
        rintro e wz ⟨rfl, bz⟩
        have HBZ := Lib.hid (HBA.out.trans ((HB.out.trans (bz.mono HB.out.size)).mono HBA.out.size))
        clear bz
        go_wp2_with fail
        go_ret
        exact ⟨rfl, HBZ.out⟩
end Go.Proofs.Ytcfkmhmgappckaa
