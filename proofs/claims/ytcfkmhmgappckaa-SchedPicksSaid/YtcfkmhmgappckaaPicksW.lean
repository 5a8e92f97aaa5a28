/- SchedPicks, walked: true for every input. -/
import Derived.Test.YtcfkmhmgappckaaBnd5
set_option linter.unusedVariables false
set_option linter.unusedSimpArgs false
namespace Go.Proofs.Ytcfkmhmgappckaa
open Go.RowKit Go.Proofs.Ytcfkmhmgappckaa.Sc Go.Proofs.Ytcfkmhmgappckaa.PAll Go.Proofs.YtcfkmhmgappckaaW.PrintWords Go.Proofs.YtcfkmhmgappckaaW.PrintLast Go.Proofs.YtcfkmhmgappckaaW.PrintMore

theorem ready_st (S : Sd) (k : Nat) (hk : k < (ready S).length) : stT S ((ready S).getD k 0) = 0 := by
  have hm : ∀ (l : List Int) (i : Nat) (x : Int), x ∈ readyF l i → ∃ j : Nat, x = ((i + j : Nat) : Int) ∧ l[j]? = some 0 := by
    intro l
    induction l with
    | nil => intro i x h; simp [readyF] at h
    | cons y l ih =>
      intro i x h
      unfold readyF at h
      split at h
      · rcases List.mem_cons.1 h with rfl | h
        · rename_i hy
          exact ⟨0, rfl, by simp [hy]⟩
        · obtain ⟨j, e, h2⟩ := ih (i + 1) x h
          exact ⟨j + 1, by rw [e]; push_cast; omega, by simpa using h2⟩
      · obtain ⟨j, e, h2⟩ := ih (i + 1) x h
        exact ⟨j + 1, by rw [e]; push_cast; omega, by simpa using h2⟩
  have hg : (ready S).getD k 0 = (ready S)[k] := by rw [List.getD_eq_getElem?_getD, List.getElem?_eq_getElem hk]; rfl
  obtain ⟨j, e, h2⟩ := hm S.T 0 _ (List.getElem_mem hk)
  rw [hg, e, Nat.zero_add]
  obtain ⟨hj, hj2⟩ := List.getElem?_eq_some_iff.1 h2
  rw [stT_in _ _ hj, hj2]
theorem pick_at (S : Sd) (k : Nat) (hk : k < (ready S).length) : pick S (k : Int) = ((ready S).getD k 0, true) ∧ pick S ((k : Int) + 3 * ((ready S).length : Int)) = ((ready S).getD k 0, true) ∧ pick S (-((k : Int) + 1)) = ((ready S).getD k 0, true) := by
  unfold pick
  rw [if_neg (by omega), if_neg (by omega), if_neg (by omega), if_neg (by omega), if_neg (by omega), if_pos (by omega)]
  have h1 : ((k : Int) % ((ready S).length : Int)) = (k : Int) := Int.emod_eq_of_lt (by omega) (by omega)
  have h2 : ((k : Int) + 3 * ((ready S).length : Int)) % ((ready S).length : Int) = (k : Int) := by rw [Int.add_mul_emod_self_right, h1]
  have h3 : -(-((k : Int) + 1) + 1) = (k : Int) := by omega
  rw [h1, h2, h3, h1]
  exact ⟨rfl, rfl, rfl⟩
theorem pick_some (S : Sd) (n : Int) : (pick S n).2 = decide (0 < (ready S).length) := by
  unfold pick
  split
  · simp_all
  · rw [decide_eq_true (by omega)]
set_option maxHeartbeats 4000000 in
set_option maxRecDepth 100000 in
theorem schedPicks_walk (t : Int) (A : Option Addr) (cap : Nat) (l : List Dd) (w : World) (ht : (Lit.int .i64 t).wf = true) (hD : DeedsAt w A l) :
    Calls Try.prog 5 #[.int .i64 t, .slice A l.length cap] w fun e w' => e = .returned (.bool true) ∧ Below w.heap.size w w' := by
  have hst := fun W => size_any t W ht
  have bt := sizeI_in t
  obtain ⟨T, hT⟩ : ∃ T, T = sizeI t := ⟨_, rfl⟩
  simp only [← hT] at hst bt
  have HT := Lib.hid hst
  have HD := Lib.hid hD
  have HF := Lib.hid (fits_new T 2 2 (by omega) (by omega) (by omega))
  have HBT := Lib.hid (show T ≤ 1000 by omega)
  clear hst bt hT ht hD
  go_enter Try.func5, Try.ntmps5
  go_wp2_with fail
  refine (HT.out w).mono ?_
  rintro e w3 ⟨rfl, b1⟩
  have B3 := Lib.hid b1
  clear b1
  go_wp2_with fail
  refine (new_any w3 T 2 2 HBT.out (by decide) (by decide)).mono ?_
  rintro e w4 ⟨g, rfl, s4, b4⟩
  have S4 := Lib.hid s4
  have B4 := Lib.hid b4
  clear s4 b4
  go_wp2_with fail
  refine (rnew_any w4 T 2 2 HBT.out (by decide) (by decide)).mono ?_
  rintro e w8 ⟨h, rfl, r8, b8⟩
  have h8 := two_new S4.out B4.out (Below.refl _ _) r8 b8
  have hb8 : Below w.heap.size w w8 := B3.out.trans ((B4.out.mono B3.out.size).trans (b8.mono (Nat.le_trans B3.out.size B4.out.size)))
  have H8 := Lib.hid (h8.less (fun k (hk : k < w.heap.size) => Nat.lt_of_lt_of_le hk B3.out.size))
  have B8 := Lib.hid hb8
  clear r8 b8 h8 hb8 S4 B4 B3 HT HBT
  obtain ⟨BB, hBB⟩ : ∃ k, k = w3.heap.size := ⟨_, rfl⟩
  obtain ⟨DD, hDD⟩ : ∃ k, k = w4.heap.size := ⟨_, rfl⟩
  obtain ⟨S0, hS0⟩ : ∃ S, S = newS T 2 2 := ⟨_, rfl⟩
  rw [← hBB, ← hDD, ← hS0] at H8
  rw [← hS0] at HF
  clear hBB hDD hS0
  go_upto_region 7 with fail
  go_loopw [8] (fun v8 wr => ∃ i : Nat, v8 = .int .i64 (i : Int) ∧ i ≤ 30 ∧ i ≤ l.length ∧ Two (fun k => k < w.heap.size) wr BB DD g h (deeds S0 l i) (deeds S0 l i) ∧ Below w.heap.size w wr) (fun v8 _ => 30 - (intOf v8).toNat)
  case atStart => exact ⟨0, rfl, by omega, by omega, H8.out, B8.out⟩
  case round =>
    clear H8 B8
    obtain ⟨i, rfl, h1, h2, hs, hb⟩ := hrel
    by_cases hgo : i < l.length ∧ i < 30
    · obtain ⟨hlt, h60⟩ := hgo
      have g1 := eq_true (show ((i : Nat) : Int) < (l.length : Int) by omega)
      have g2 := eq_true (show ((i : Nat) : Int) < 30 by omega)
      obtain ⟨b, o, rfl, hcells⟩ := (HD.out.below hb).2 (by omega)
      obtain ⟨c0, c1, c2, c3, c4⟩ := hcells i hlt
      have hbo := HD.out.1 _ (List.getElem_mem hlt)
      have hstep := deeds_step S0 l i hlt
      obtain ⟨d, hd⟩ : ∃ d, d = l[i] := ⟨_, rfl⟩
      rw [← hd] at c0 c1 c2 c3 c4 hbo hstep
      have hdo := does_any hs (HF.out.deeds l i) d hbo.1 hbo.2
      rw [← hstep] at hdo
      have HDO := Lib.hid hdo
      have HB := Lib.hid hb
      clear hdo hstep hcells hs hb hbo hd
      go_wp2_with fail
      refine HDO.out.mono ?_
      rintro e w10 ⟨rfl, hs, hm⟩
      have HS := Lib.hid hs
      have HB10 := Lib.hid (HB.out.trans (moves_below (w2 := w) hm (fun k hk => hk) HB.out.size))
      clear hs hm HDO HB
      go_wp2_with fail
      go_roundw
      case rel => exact ⟨i + 1, by go_num, by omega, by omega, HS.out, HB10.out⟩
      case measure => simp only [intOf]; omega
    · obtain ⟨S, hS⟩ : ∃ S, S = deeds S0 l i := ⟨_, rfl⟩
      have hfS := HF.out.deeds l i
      rw [← hS] at hs hfS
      have HFS := Lib.hid hfS
      have HS := Lib.hid hs
      have HB := Lib.hid hb
      have hexit : (¬ i < l.length ∧ decide (((i : Nat) : Int) < (l.length : Int)) = false) ∨ ((((i : Nat) : Int) < (l.length : Int)) = True ∧ decide (((i : Nat) : Int) < 30) = false) := by
        by_cases q : i < l.length
        · exact .inr ⟨eq_true (by omega), decide_eq_false (by omega)⟩
        · exact .inl ⟨q, decide_eq_false (by omega)⟩
      clear hs hb hS hfS HF HD
      rcases hexit with ⟨g1, g2⟩ | ⟨g1, g2⟩
      all_goals
        go_upto_region 10 with fail
        clear g2 g1 h1 h2 hgo
        obtain ⟨F, hF⟩ := HS.out.left
        have HSF := Lib.hid hF
        have hll : (ready S).length ≤ 1000 := by unfold ready; rw [readyF_len]; exact Nat.le_trans List.countP_le_length HFS.out.t
        clear hF
        go_wp2_with fail
        refine (ready_reads HSF.out HFS.out.t).mono ?_
        rintro e w9 ⟨u9, rfl, hr9, b9⟩
        obtain ⟨RA, rc, rfl, _, hC9⟩ := hr9
        have HC9 := Lib.hid hC9
        have HB9 := Lib.hid (HB.out.trans (b9.mono HB.out.size))
        have HSF9 := Lib.hid (HSF.out.below b9)
        obtain ⟨n, hn⟩ : ∃ n, n = (ready S).length := ⟨_, rfl⟩
        have HN := Lib.hid hn
        rw [← hn] at hll ⊢
        clear hC9 b9 hn HSF HB HS
        go_upto_region 12 with fail
        go_loopw [10] (fun v10 wr => ∃ k : Nat, v10 = .int .i64 (k : Int) ∧ k ≤ n ∧ Below w9.heap.size w9 wr) (fun v10 _ => n - (intOf v10).toNat)
        case atStart => exact ⟨0, rfl, by omega, Below.refl _ _⟩
        case round =>
          obtain ⟨k, rfl, h1, hb⟩ := hrel
          by_cases hk : k < n
          · have g1 := eq_true (show ((k : Nat) : Int) < (n : Int) by omega)
            have hk2 : k < (ready S).length := by rw [← HN.out]; exact hk
            obtain ⟨p1, p2, p3⟩ := pick_at S k hk2
            have p4 := ready_st S k hk2
            obtain ⟨ad, rfl, hcell⟩ := Reads.cell HC9.out k hk2
            rw [← HN.out] at p2
            obtain ⟨x, hx⟩ : ∃ x, x = (ready S).getD k 0 := ⟨_, rfl⟩
            rw [← hx] at p1 p2 p3 p4 hcell
            have q1 := fun (W : World) (hb : Below w9.heap.size w9 W) => pick_sch (HSF9.out.below hb) HFS.out.t (k : Int) (by omega) (by omega)
            have q2 := fun (W : World) (hb : Below w9.heap.size w9 W) => pick_sch (HSF9.out.below hb) HFS.out.t ((k : Int) + 3 * (n : Int)) (by omega) (by omega)
            have q3 := fun (W : World) (hb : Below w9.heap.size w9 W) => pick_sch (HSF9.out.below hb) HFS.out.t (-((k : Int) + 1)) (by omega) (by omega)
            have q4 := fun (W : World) (hb : Below w9.heap.size w9 W) => state_sch (HSF9.out.below hb) HFS.out.t x
            rw [p1] at q1
            rw [p2] at q2
            rw [p3] at q3
            rw [p4] at q4
            have i1 : IntKind.i64.wrap ((k : Int) + IntKind.i64.wrap (3 * (n : Int))) = (k : Int) + 3 * (n : Int) := by rw [IntWalk.i64_in (3 * (n : Int)) (by omega), IntWalk.i64_in _ (by omega)]
            have i2 : IntKind.i64.wrap (-IntKind.i64.wrap ((k : Int) + 1)) = -((k : Int) + 1) := by rw [IntWalk.i64_in ((k : Int) + 1) (by omega), IntWalk.i64_in _ (by omega)]
            have Q1 := Lib.hid q1
            have Q2 := Lib.hid q2
            have Q3 := Lib.hid q3
            have Q4 := Lib.hid q4
            have HCE := Lib.hid hcell
            have HB := Lib.hid hb
            have I1 := Lib.hid i1
            have I2 := Lib.hid i2
            clear q1 q2 q3 q4 p1 p2 p3 p4 hcell hb hx hk2 i1 i2
            go_wp2_with fail
            refine (Q1.out _ HB.out).mono ?_
            rintro e w10 ⟨rfl, b10⟩
            have HB10 := Lib.hid (HB.out.trans (b10.mono HB.out.size))
            clear b10 HB
            go_wp2_with fail
            try rw [I1.out]
            refine (Q2.out _ HB10.out).mono ?_
            rintro e w11 ⟨rfl, b11⟩
            have HB11 := Lib.hid (HB10.out.trans (b11.mono HB10.out.size))
            clear b11 HB10
            go_wp2_with fail
            try rw [I2.out]
            refine (Q3.out _ HB11.out).mono ?_
            rintro e w12 ⟨rfl, b12⟩
            have HB12 := Lib.hid (HB11.out.trans (b12.mono HB11.out.size))
            have hce := cell_stay (Nat.le_refl _) HB12.out HCE.out
            clear b12 HB11
            go_wp2_with fail
            refine (Q4.out _ HB12.out).mono ?_
            rintro e w13 ⟨rfl, hw'⟩
            rw [hw']
            clear hw' w13
            go_wp2_with fail
            go_roundw
            case rel => exact ⟨k + 1, by go_num, by omega, HB12.out⟩
            case measure => simp only [intOf]; omega
          · have g1 : decide (((k : Nat) : Int) < (n : Int)) = false := decide_eq_false (by omega)
            have hp := pick_sch (HSF9.out.below hb) HFS.out.t 7 (by decide) (by decide)
            have hps := pick_some S 7
            rw [← HN.out] at hps
            have g3 : decide ((n : Int) > 0) = decide (0 < n) := by rw [decide_eq_decide]; omega
            rw [hps] at hp
            obtain ⟨z, hz⟩ : ∃ z, z = (pick S 7).1 := ⟨_, rfl⟩
            rw [← hz] at hp
            have HP := Lib.hid hp
            have HB := Lib.hid hb
            have G3 := Lib.hid g3
            clear hp hps hz hb g3
            by_cases hn0 : 0 < n
            · have g4 := eq_true (show (0 : Int) < (n : Int) by omega)
              rw [decide_eq_true hn0] at HP
              go_wp2_with fail
              refine HP.out.mono ?_
              rintro e w10 ⟨rfl, b10⟩
              have HB10 := Lib.hid (HB9.out.trans ((HB.out.trans (b10.mono HB.out.size)).mono HB9.out.size))
              clear b10
              go_wp2_with fail
              refine (lives_any w10).mono ?_
              rintro e wz ⟨rfl, bz⟩
              have HBZ := Lib.hid (HB10.out.trans (bz.mono HB10.out.size))
              clear bz
              go_wp2_with fail
              go_ret
              exact ⟨rfl, HBZ.out⟩
            · obtain rfl : n = 0 := by omega
              rw [decide_eq_false hn0] at HP
              go_wp2_with fail
              refine HP.out.mono ?_
              rintro e w10 ⟨rfl, b10⟩
              have HB10 := Lib.hid (HB9.out.trans ((HB.out.trans (b10.mono HB.out.size)).mono HB9.out.size))
              clear b10
              go_wp2_with fail
              refine (lives_any w10).mono ?_
              rintro e wz ⟨rfl, bz⟩
              have HBZ := Lib.hid (HB10.out.trans (bz.mono HB10.out.size))
              clear bz
              go_wp2_with fail
              go_ret
              exact ⟨rfl, HBZ.out⟩
end Go.Proofs.Ytcfkmhmgappckaa
