/- SchedHolds, walked: true for every input. -/
import Derived.Test.YtcfkmhmgappckaaHoldsP
set_option linter.unusedVariables false
set_option linter.unusedSimpArgs false
namespace Go.Proofs.Ytcfkmhmgappckaa
open Go.RowKit Go.Proofs.Ytcfkmhmgappckaa.Sc Go.Proofs.Ytcfkmhmgappckaa.PAll Go.Proofs.YtcfkmhmgappckaaW.PrintWords Go.Proofs.YtcfkmhmgappckaaW.PrintLast Go.Proofs.YtcfkmhmgappckaaW.PrintMore

set_option maxHeartbeats 8000000 in
set_option maxRecDepth 100000 in
theorem schedHolds_walk (t m c : Int) (A : Option Addr) (cap : Nat) (l : List Dd) (w : World) (ht : (Lit.int .i64 t).wf = true) (hm : (Lit.int .i64 m).wf = true) (hc : (Lit.int .i64 c).wf = true) (hD : DeedsAt w A l) :
    Calls Try.prog 6 #[.int .i64 t, .int .i64 m, .int .i64 c, .slice A l.length cap] w fun e w' => e = .returned (.bool true) ∧ Below w.heap.size w w' := by
  have hst := fun W => size_any t W ht
  have hsm := fun W => size_any m W hm
  have hsc := fun W => size_any c W hc
  have bt := sizeI_in t
  have bm := sizeI_in m
  have bc := sizeI_in c
  obtain ⟨T, hT⟩ : ∃ T, T = sizeI t := ⟨_, rfl⟩
  obtain ⟨M, hM⟩ : ∃ M, M = sizeI m := ⟨_, rfl⟩
  obtain ⟨C, hC⟩ : ∃ C, C = sizeI c := ⟨_, rfl⟩
  simp only [← hT, ← hM, ← hC] at hst hsm hsc bt bm bc
  have HT := Lib.hid hst
  have HM := Lib.hid hsm
  have HC := Lib.hid hsc
  have HD := Lib.hid hD
  have HF := Lib.hid (fits_new T M C (by omega) (by omega) (by omega))
  have HBT := Lib.hid (show T ≤ 1000 by omega)
  have HBM := Lib.hid (show M ≤ 1000 by omega)
  have HBC := Lib.hid (show C ≤ 1000 by omega)
  obtain ⟨nT, hnT⟩ : ∃ n : Nat, n = T.toNat := ⟨_, rfl⟩
  obtain ⟨kM, hkM⟩ : ∃ n : Nat, n = M.toNat := ⟨_, rfl⟩
  have HTT := Lib.hid (show (T = -1 ∧ nT = 0) ∨ T = (nT : Int) by omega)
  have HMM := Lib.hid (show (M = -1 ∧ kM = 0) ∨ M = (kM : Int) by omega)
  have hnT5 : nT ≤ 5 := by omega
  have hkM5 : kM ≤ 5 := by omega
  have HZT := Lib.hid (show (newS T M C).T.length = nT by rw [hnT]; simp [newS])
  have HZM := Lib.hid (show (newS T M C).M.length = kM by rw [hkM]; simp [newS])
  clear hst hsm hsc bt bm bc hT hM hC ht hm hc hD hnT hkM
  go_enter Try.func6, Try.ntmps6
  go_wp2_with fail
  refine (HT.out w).mono ?_
  rintro e w1 ⟨rfl, b1⟩
  go_wp2_with fail
  refine (HM.out w1).mono ?_
  rintro e w2 ⟨rfl, b2⟩
  go_wp2_with fail
  refine (HC.out w2).mono ?_
  rintro e w3 ⟨rfl, b3⟩
  have B3 := Lib.hid (b1.trans ((b2.mono b1.size).trans (b3.mono (Nat.le_trans b1.size b2.size))))
  clear b1 b2 b3
  go_wp2_with fail
  refine (new_any w3 T M C HBT.out HBM.out HBC.out).mono ?_
  rintro e w4 ⟨g, rfl, s4, b4⟩
  have S4 := Lib.hid s4
  have B4 := Lib.hid b4
  clear s4 b4
  go_wp2_with fail
  refine (HC.out w4).mono ?_
  rintro e w7 ⟨rfl, b7⟩
  have B7 := Lib.hid b7
  clear b7
  go_wp2_with fail
  refine (rnew_any w7 T M C HBT.out HBM.out HBC.out).mono ?_
  rintro e w8 ⟨h, rfl, r8, b8⟩
  have h8 := two_new S4.out B4.out B7.out r8 b8
  have hb8 : Below w.heap.size w w8 := B3.out.trans ((B4.out.mono B3.out.size).trans ((B7.out.mono (Nat.le_trans B3.out.size B4.out.size)).trans (b8.mono (Nat.le_trans B3.out.size (Nat.le_trans B4.out.size B7.out.size)))))
  have H8 := Lib.hid (h8.less (fun k (hk : k < w.heap.size) => Nat.lt_of_lt_of_le hk B3.out.size))
  have B8 := Lib.hid hb8
  clear r8 b8 h8 hb8 S4 B4 B7 B3 HT HM HC HBT HBM HBC
  obtain ⟨BB, hBB⟩ : ∃ k, k = w3.heap.size := ⟨_, rfl⟩
  obtain ⟨DD, hDD⟩ : ∃ k, k = w7.heap.size := ⟨_, rfl⟩
  obtain ⟨S0, hS0⟩ : ∃ S, S = newS T M C := ⟨_, rfl⟩
  rw [← hBB, ← hDD, ← hS0] at H8
  rw [← hS0] at HF HZT HZM
  clear hBB hDD hS0
  go_upto_region 8 with fail
  go_loopw [13] (fun v13 wr => ∃ i : Nat, v13 = .int .i64 (i : Int) ∧ i ≤ 60 ∧ i ≤ l.length ∧ Two (fun k => k < w.heap.size) wr BB DD g h (deeds S0 l i) (deeds S0 l i) ∧ Below w.heap.size w wr) (fun v13 _ => 60 - (intOf v13).toNat)
  case atStart => exact ⟨0, rfl, by omega, by omega, H8.out, B8.out⟩
  case round =>
    clear H8 B8
    obtain ⟨i, rfl, h1, h2, hs, hb⟩ := hrel
    by_cases hgo : i < l.length ∧ i < 60
    · obtain ⟨hlt, h60⟩ := hgo
      have g1 := eq_true (show ((i : Nat) : Int) < (l.length : Int) by omega)
      have g2 := eq_true (show ((i : Nat) : Int) < 60 by omega)
      obtain ⟨b0, o0, rfl, hcells⟩ := (HD.out.below hb).2 (by omega)
      obtain ⟨c0, c1, c2, c3, c4⟩ := hcells i hlt
      have hbo := HD.out.1 _ (List.getElem_mem hlt)
      have hstep := deeds_step S0 l i hlt
      obtain ⟨d, hd⟩ : ∃ d, d = l[i] := ⟨_, rfl⟩
      rw [← hd] at c0 c1 c2 c3 c4 hbo hstep
      have hdo := does_any hs (HF.out.deeds l i) d hbo.1 hbo.2
      rw [← hstep] at hdo
      have hsz := size_deeds S0 l (i + 1)
      have hff := HF.out.deeds l (i + 1)
      obtain ⟨S, hS⟩ : ∃ S, S = deeds S0 l (i + 1) := ⟨_, rfl⟩
      rw [← hS] at hdo hsz hff
      have HSS := Lib.hid hS
      have HZT1 := Lib.hid (hsz.1.trans HZT.out)
      have HZM1 := Lib.hid (hsz.2.1.trans HZM.out)
      have HFF := Lib.hid hff
      have HDO := Lib.hid hdo
      have HB := Lib.hid hb
      clear hdo hstep hcells hs hb hbo hd hS hsz hff
      go_wp2_with fail
      refine HDO.out.mono ?_
      rintro e w10 ⟨rfl, hs, hm⟩
      have HS := Lib.hid hs
      have HB10 := Lib.hid (HB.out.trans (moves_below (w2 := wr) hm (fun k hk => hk) HB.out.size))
      clear hs hm HDO HB c0 c1 c2 c3 c4
      go_upto_region 11 with fail
      go_cut [14] (fun v14 wx => v14 = .slice (some ⟨w10.heap.size, 0, none⟩) nT nT ∧ wx = w10.alloc (.cells (Array.replicate nT (.int .i64 0)) 3 (0, 0)))
      case first =>
        have hmx : max T 0 = (nT : Int) := by rcases HTT.out with ⟨h1, h2⟩ | h <;> omega
        have hmk : ∀ w : World, (Instr.makeSlice 22 (.int .i64 (max T 0)) (.int .i64 (max T 0))).run Try.prog w = .ok (.slice (some ⟨w.heap.size, 0, none⟩) nT nT) (w.alloc (.cells (Array.replicate nT (.int .i64 0)) 3 (0, 0))) := by
          intro w
          rw [hmx]
          exact make_ints nT (by omega) w
        clear HD HF HS HB10 HFF HSS HTT hmx
        go_wp2_with fail
        go_meet
        exact ⟨rfl, rfl⟩
      case rest =>
        obtain ⟨rfl, hwx⟩ := hcut
        obtain ⟨b, hb⟩ : ∃ b, b = w10.heap.size := ⟨_, rfl⟩
        rw [← hb]
        have hb11 : Below w10.heap.size w10 wc := by rw [hwx]; exact below_alloc (Below.refl _ _) _
        have hcn : CntIs wc b nT (fun t => cntAt S 0 0 t) := by
          rw [hwx, hb]
          exact (CntIs.new w10 nT).congr (fun t _ => (cnt_zero S t).symm)
        have hbs : b < wc.heap.size := by rw [hwx, hb]; simp
        have hbw : w.heap.size ≤ b := by rw [hb]; exact HB10.out.size
        have HS1 := Lib.hid ((HS.out.also hb11).less (K' := fun k => k < w.heap.size ∨ k = b) (fun k hk => by
          rcases hk with hk | hk
          · exact .inl hk
          · exact .inr ⟨by omega, by omega⟩))
        have HB11 := Lib.hid (HB10.out.trans (hb11.mono HB10.out.size))
        have HCN := Lib.hid hcn
        have HBS := Lib.hid hbs
        have HBW := Lib.hid hbw
        clear hb11 hcn hbs hbw hwx hb HS HB10
        go_upto_region 13 with fail
        go_loopw [15] (fun v15 wq => ∃ m : Nat, v15 = .int .i64 (m : Int) ∧ m ≤ kM ∧ CntIs wq b nT (fun t => cntAt S m 0 t) ∧ Two (fun k => k < w.heap.size ∨ k = b) wq BB DD g h S S ∧ Below w.heap.size w wq ∧ b < wq.heap.size) (fun v15 _ => kM - (intOf v15).toNat)
        case atStart => exact ⟨0, rfl, by omega, HCN.out, HS1.out, HB11.out, HBS.out⟩
        case round =>
          clear HCN HS1 HB11 HBS
          obtain ⟨m, rfl, hmk, hcn, hs, hbq, hbs⟩ := hrel
          have HCN := Lib.hid hcn
          have HS := Lib.hid hs
          have HBQ := Lib.hid hbq
          have HBS := Lib.hid hbs
          clear hcn hs hbq hbs
          obtain ⟨W, hW⟩ : ∃ W, W = wr := ⟨_, rfl⟩
          rw [← hW] at HCN HS HBQ HBS ⊢
          clear hW wr
          by_cases hmlt : m < kM
          · have g3 : (m : Int) < M := by rcases HMM.out with ⟨_, h⟩ | h <;> omega
            have hmS : m < S.M.length := by rw [HZM1.out]; exact hmlt
            have hrow := (fun F (q : Sch W BB g F S) => row_new q HFF.out.m (fun x hx => Nat.le_trans (HFF.out.ok.rowFew x hx) HFF.out.t) (m : Int))
            obtain ⟨L, hL⟩ : ∃ L, L = rowM S (m : Int) := ⟨_, rfl⟩
            have hLk : L.length ≤ 1000 := by rw [hL, (ow_in S m hmS).2]; exact Nat.le_trans (HFF.out.ok.rowFew _ (List.getElem_mem _)) HFF.out.t
            have hin : ∀ j, (hj : j < L.length) → 0 ≤ L[j] ∧ L[j] < (nT : Int) := by
              intro j hj
              subst hL
              have := row_in HFF.out.ok m j hmS hj
              rw [HZT1.out] at this
              exact this
            have hcs : ∀ j t, (hj : j < L.length) → cntAt S m (j + 1) t = if L[j] = (t : Int) then cntAt S m j t + 1 else cntAt S m j t := by
              intro j t hj
              subst hL
              exact cnt_step S m j t hj
            have hcr : ∀ t, cntAt S m L.length t = cntAt S (m + 1) 0 t := by
              intro t
              rw [hL]
              exact cnt_row S m t hmS
            have hcl : ∀ j t, cntAt S m j t ≤ 1 := fun j t => cnt_le S m j t hmS HFF.out.ok
            have hown := own_in HFF.out.ok m hmS
            rw [← hL] at hrow hown
            have HIN := Lib.hid hin
            have HCS := Lib.hid hcs
            have HCR := Lib.hid hcr
            have HCL := Lib.hid hcl
            have HOW := Lib.hid hown
            obtain ⟨FF, hFF⟩ := HS.out.left
            have HRW := Lib.hid (hrow FF hFF)
            have HSF := Lib.hid hFF
            clear hrow hin hcs hcr hcl hown hL hFF
            go_wp2_with fail
            refine HRW.out.mono ?_
            rintro e w12 ⟨v, rfl, ⟨RA, rc, rfl, _, hC⟩, hfr, b12⟩
            have hsf := HSF.out.below b12
            have hno := owner_sch hsf HFF.out.m (m : Int)
            have hnt := state_sch hsf HFF.out.t (owner S (m : Int))
            have HC := Lib.hid hC
            have HFR := Lib.hid hfr
            have HCN1 := Lib.hid (HCN.out.below b12 HBS.out)
            have HS2 := Lib.hid (HS.out.below b12)
            have HB12 := Lib.hid (HBQ.out.trans (b12.mono HBQ.out.size))
            have HBS2 := Lib.hid (Nat.lt_of_lt_of_le HBS.out b12.size)
            obtain ⟨o, ho⟩ : ∃ o, o = owner S (m : Int) := ⟨_, rfl⟩
            obtain ⟨z, hz⟩ : ∃ z, z = stT S o := ⟨_, rfl⟩
            rw [← ho] at hno hnt HOW
            rw [← hz] at hnt HOW
            have HNO := Lib.hid hno
            have HNT := Lib.hid hnt
            clear hC hfr b12 hno hnt ho hz hsf HRW HSF
            go_upto_region 16 with fail
            go_cut [72] (fun v72 wx => v72 = .bool false ∧ wx = w12)
            case first =>
              rcases HOW.out with ⟨rfl, rfl⟩ | ⟨q1, q2⟩
              · go_wp2_with fail
                go_meet
                exact ⟨rfl, rfl⟩
              · have g6 : ¬ o < 0 := by omega
                have g7 : decide (o < 0) = false := decide_eq_false g6
                by_cases hL0 : 0 < L.length
                · have g4 : (0 : Int) < (L.length : Int) := by omega
                  go_wp2_with fail
                  refine HNO.out.mono ?_
                  rintro e w3 ⟨rfl, hw'⟩
                  rw [hw']
                  clear hw' w3
                  go_wp2_with fail
                  go_meet
                  exact ⟨rfl, rfl⟩
                · have g4 : ¬ (0 : Int) < (L.length : Int) := by omega
                  go_wp2_with fail
                  go_meet
                  exact ⟨rfl, rfl⟩
            case rest =>
              obtain ⟨rfl, rfl⟩ := hcut
              rename World => w12
              go_upto_region 18 with fail
              go_cut [84] (fun v84 wx => v84 = .bool false ∧ wx = w12)
              case first =>
                rcases HOW.out with ⟨rfl, rfl⟩ | ⟨q1, q2⟩
                · go_wp2_with fail
                  refine HNO.out.mono ?_
                  rintro e w3 ⟨rfl, hw'⟩
                  rw [hw']
                  clear hw' w3
                  go_wp2_with fail
                  go_meet
                  exact ⟨rfl, rfl⟩
                · have g5 : (z == 3) = false := by simpa using q2
                  have g6 : (0 : Int) ≤ o := q1
                  go_wp2_with fail
                  refine HNO.out.mono ?_
                  rintro e w3 ⟨rfl, hw'⟩
                  rw [hw']
                  clear hw' w3
                  go_wp2_with fail
                  refine HNO.out.mono ?_
                  rintro e w3 ⟨rfl, hw'⟩
                  rw [hw']
                  clear hw' w3
                  go_wp2_with fail
                  refine HNT.out.mono ?_
                  rintro e w3 ⟨rfl, hw'⟩
                  rw [hw']
                  clear hw' w3
                  go_wp2_with fail
                  go_meet
                  exact ⟨rfl, rfl⟩
              case rest =>
               obtain ⟨rfl, rfl⟩ := hcut
               rename World => V
               clear HNO HNT HOW
               go_upto_region 21 with fail
               go_loopw [17] (fun v17 wq => ∃ j : Nat, v17 = .int .i64 (j : Int) ∧ j ≤ L.length ∧ CntIs wq b nT (fun t => cntAt S m j t) ∧ Moves (fun k => k = b) V wq) (fun v17 _ => L.length - (intOf v17).toNat)
               case atStart => exact ⟨0, rfl, by omega, HCN1.out, Moves.refl _ _⟩
               case round =>
                 clear HCN1
                 obtain ⟨j, rfl, hj, hcn, hmv⟩ := hrel
                 by_cases hjl : j < L.length
                 · have g4 : (j : Int) < (L.length : Int) := by omega
                   obtain ⟨x0, x1⟩ := HIN.out j hjl
                   obtain ⟨u, hu⟩ := Int.eq_ofNat_of_zero_le x0
                   obtain ⟨ad, rfl, hcell⟩ := Reads.cell HC.out j hjl
                   rw [List.getD_eq_getElem?_getD, List.getElem?_eq_getElem hjl, Option.getD_some, hu] at hcell
                   have hul : u < nT := by omega
                   have hadb := HFR.out ad _ _ rfl
                   have hne : ad.block ≠ b := by have := HBS.out; omega
                   have hcell2 := Moves.kept (K := fun k => k ≠ b) (a := ad.add j) (hmv.less (fun k hk => by simpa using hk)) (show (ad.add j).block ≠ b from (show (ad.add j).block = ad.block by unfold Addr.add; split <;> rfl) ▸ hne) hcell
                   obtain ⟨k1, k2⟩ := hcn.cell u hul
                   have hst := hcn.store u hul
                   obtain ⟨q, hq⟩ : ∃ q, q = cntAt S m j u := ⟨_, rfl⟩
                   have hq1 : q ≤ 1 := by rw [hq]; exact HCL.out j u
                   have hst2 : ∀ W', W' = wr.setCell ⟨b, u, none⟩ (.int .i64 ((q : Int) + 1)) → CntIs W' b nT (fun t => cntAt S m (j + 1) t) := by
                     intro W' e
                     rw [e]
                     have := hst.congr (f' := fun t => cntAt S m (j + 1) t) (fun t _ => by
                       rw [HCS.out j t hjl, hu]
                       by_cases e : t = u
                       · subst e; simp
                       · rw [if_neg e, if_neg (by omega)])
                     rw [← hq] at this
                     exact this
                   have hmv2 := hmv.store ⟨b, u, none⟩ (.int .i64 ((q : Int) + 1)) rfl
                   simp only [← hq] at k1
                   have g8 : (u : Int) < T := by rcases HTT.out with ⟨_, h⟩ | h <;> omega
                   have g9 : decide ((u : Int) < T) = true := decide_eq_true g8
                   have HST := Lib.hid hst2
                   have HMV := Lib.hid hmv2
                   clear hcell hst hst2 hmv2 hmv hcn hq hu hadb hne x0 x1 HIN HCS HCL HCR HC
                   go_wp2_with fail
                   go_roundw
                   case rel => exact ⟨j + 1, by go_num, by omega, HST.out _ rfl, HMV.out⟩
                   case measure => simp only [intOf]; omega
                 · obtain rfl : j = L.length := by omega
                   have HCN2 := Lib.hid (hcn.congr (fun t _ => HCR.out t))
                   have HS3 := Lib.hid (HS2.out.moved (.inr rfl) hmv)
                   have HB13 := Lib.hid (HB12.out.trans (moves_below (w2 := wr) (K := fun k => k ≠ b) (hmv.less (fun k hk => by simpa using hk)) (fun k hk => by have := HBW.out; omega) HB12.out.size))
                   have HBS3 := Lib.hid (Nat.lt_of_lt_of_le HBS2.out hmv.size)
                   clear hcn hmv HIN HCS HCL HCR HC
                   go_wp2_with fail
                   go_roundw
                   case rel => exact ⟨m + 1, by go_num, by omega, HCN2.out, HS3.out, HB13.out, HBS3.out⟩
                   case measure => simp only [intOf]; omega
          · obtain rfl : m = kM := by omega
            have g3 : ¬ (m : Int) < M := by rcases HMM.out with ⟨_, h⟩ | h <;> omega
            have hcn2 := HCN.out.congr (f' := fun t => if stT S (t : Int) = 1 then 1 else 0) (fun t _ => by rw [← HZM1.out]; exact cnt_all S t HFF.out.ok)
            have HCN2 := Lib.hid hcn2
            obtain ⟨FF, hFF⟩ := HS.out.left
            have HSF := Lib.hid hFF
            clear hcn2 hFF HCN
            go_upto_region 27 with fail
            go_loopw [18] (fun v18 wq => ∃ u : Nat, v18 = .int .i64 (u : Int) ∧ u ≤ nT ∧ wq = W) (fun v18 _ => nT - (intOf v18).toNat)
            case atStart => exact ⟨0, rfl, by omega, rfl⟩
            case round =>
              obtain ⟨u, rfl, hu, rfl⟩ := hrel
              by_cases hul : u < nT
              · have g8 : (u : Int) < T := by rcases HTT.out with ⟨_, h⟩ | h <;> omega
                obtain ⟨k1, k2⟩ := HCN2.out.cell u hul
                have hss := state_sch HSF.out HFF.out.t (u : Int)
                obtain ⟨z, hz⟩ : ∃ z, z = stT S (u : Int) := ⟨_, rfl⟩
                rw [← hz] at hss
                simp only [← hz] at k1
                have HSS := Lib.hid hss
                clear hss hz
                by_cases hz1 : z = 1
                · subst hz1
                  rw [if_pos rfl] at k1
                  go_wp2_with fail
                  refine HSS.out.mono ?_
                  rintro e w3 ⟨rfl, hw'⟩
                  rw [hw']
                  clear hw' w3
                  go_wp2_with fail
                  go_roundw
                  case rel => exact ⟨u + 1, by go_num, by omega, trivial⟩
                  case measure => simp only [intOf]; omega
                · rw [if_neg hz1] at k1
                  have g5 : (z == 1) = false := by simpa using hz1
                  clear hz1
                  go_wp2_with fail
                  refine HSS.out.mono ?_
                  rintro e w3 ⟨rfl, hw'⟩
                  rw [hw']
                  clear hw' w3
                  go_wp2_with fail
                  go_roundw
                  case rel => exact ⟨u + 1, by go_num, by omega, trivial⟩
                  case measure => simp only [intOf]; omega
              · obtain rfl : u = nT := by omega
                have g8 : ¬ (u : Int) < T := by rcases HTT.out with ⟨_, h⟩ | h <;> omega
                have HS4 := Lib.hid (HS.out.less (K' := fun k => k < w.heap.size) (fun k hk => .inl hk))
                go_wp2_with fail
                go_roundw
                case rel => exact ⟨i + 1, by go_num, by omega, by omega, by rw [← HSS.out]; exact HS4.out, HBQ.out⟩
                case measure => simp only [intOf]; omega
    · have HB := Lib.hid hb
      have hexit : (¬ i < l.length ∧ decide (((i : Nat) : Int) < (l.length : Int)) = false) ∨ ((((i : Nat) : Int) < (l.length : Int)) = True ∧ decide (((i : Nat) : Int) < 60) = false) := by
        by_cases q : i < l.length
        · exact .inr ⟨eq_true (by omega), decide_eq_false (by omega)⟩
        · exact .inl ⟨q, decide_eq_false (by omega)⟩
      clear hs hb
      rcases hexit with ⟨g1, g2⟩ | ⟨g1, g2⟩
      all_goals
        go_wp2_with fail
        refine (lives_any wr).mono ?_
        rintro e wz ⟨rfl, bz⟩
        have HBZ := Lib.hid (HB.out.trans (bz.mono HB.out.size))
        clear bz
        go_wp2_with fail
        go_ret
        exact ⟨rfl, HBZ.out⟩
end Go.Proofs.Ytcfkmhmgappckaa
