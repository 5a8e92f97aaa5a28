/- SchedRows, walked. Condition: the slice reads as numbers. -/
import Derived.Test.YtcfkmhmgappckaaRowsS
import Derived.Deep.RegionHeld3
import Derived.Deep.DrawnRows
namespace Go.Proofs.Ytcfkmhmgappckaa
open Go.RowKit Go.Proofs.Ytcfkmhmgappckaa.Sc Go.Proofs.Ytcfkmhmgappckaa.PAll Go.Proofs.YtcfkmhmgappckaaW.PrintWords Go.Proofs.YtcfkmhmgappckaaW.PrintLast Go.Proofs.YtcfkmhmgappckaaW.PrintMore

attribute [local go_sem ↓] Go.wp_at_zero Go.wp_at_succ
set_option maxHeartbeats 4000000 in
set_option maxRecDepth 100000 in
theorem rows_body (T : Int) (a : Option Addr) (len cap : Nat) (z : List Int) (w : World) (hT1 : -9223372036854775808 ≤ T) (hT2 : T ≤ 9223372036854775807) (hz : IsRow .i64 w a len cap z) (hreach : len ≤ 140737488355327) :
    Calls Try.prog 3 #[.int .i64 T, .slice a len cap] w fun e w' => e = .returned (.bool true) ∧ Below w.heap.size w w' := by
  have hlen : len ≤ 140737488355327 := hreach
  obtain ⟨i0, hii, hii0, hii1, hii2⟩ := info_parts infoInt
  go_enter Try.func3, Try.ntmps3
  go_upto_if 15 with fail
  go_cut [0] (fun v0 wx => ∃ N : Nat, v0 = .int .i64 (N : Int) ∧ (N : Int) ≤ 9223372036854775807 ∧ wx = w)
  case first =>
    by_cases h0 : T < 0
    · obtain ⟨N, hN⟩ : ∃ N : Nat, -(T + 1) = (N : Int) := ⟨(-(T + 1)).toNat, by omega⟩
      have hN2 : (N : Int) ≤ 9223372036854775807 := by omega
      have hd : decide (T < 0) = true := decide_eq_true h0
      go_wp2_with fail
      go_meet
      exact ⟨N, rfl, hN2, rfl⟩
    · obtain ⟨N, hN⟩ : ∃ N : Nat, T = (N : Int) := ⟨T.toNat, by omega⟩
      subst hN
      have hd : decide ((N : Int) < 0) = false := decide_eq_false (by omega)
      clear h0
      go_wp2_with fail
      go_meet
      exact ⟨N, rfl, hT2, rfl⟩
  case rest =>
    obtain ⟨N, rfl, hN, rfl⟩ := hcut
    rename World => W
    clear hT1 hT2
    obtain ⟨n, hn⟩ : ∃ n : Nat, n = 1 + N % 8 := ⟨_, rfl⟩
    have hn1 : 1 ≤ n := by omega
    have hn2 : n ≤ 8 := by omega
    have hsum : (1 : Int) + (N : Int) % 8 = (n : Int) := by omega
    have hmk := make_bools n (by omega)
    have HSUM := Lib.hid hsum
    clear hsum
    have HN := Lib.hid (new_any W (1 + (N : Int) % 8) 1 1 (by omega) (by omega) (by omega))
    go_wp2_with fail
    refine HN.out.mono ?_
    rintro e w1 ⟨g, rfl, s1, b1⟩
    rw [HSUM.out] at s1 ⊢
    clear HSUM hn
    have H1 := Lib.hid s1
    have B1 := Lib.hid b1
    clear s1 b1 HN
    go_wp2_with fail
    have hst : RowsSt W (w1.alloc (.cells (Array.replicate n (.bool false)) 4 (0, 0))) g w1.heap.size n [] (.slice none 0 0) := by
      refine ⟨fun k => W.heap.size ≤ k ∧ k < w1.heap.size, none, (?_ : Sch _ _ _ _ (stR n [] 0)), (by rw [← stR_new]; exact Ok.new _ _ _), ⟨fun c hc => (List.not_mem_nil hc).elim, .inl ⟨rfl, rfl, rfl⟩⟩, ?_, (fun h => Nat.lt_irrefl _ h.2), (fun b hb => by cases hb), B1.out.size, below_alloc B1.out _⟩
      · rw [← stR_new]
        exact H1.out.below (below_alloc (Below.refl _ _) _)
      · unfold ComeIs
        rw [heap_alloc_new w1 _]
        congr 2
        apply Array.ext
        · simp
        · intro i h1 h2; simp
    obtain ⟨bc, hbc⟩ : ∃ bc, bc = w1.heap.size := ⟨_, rfl⟩
    obtain ⟨w2, hw2⟩ : ∃ w2, w2 = w1.alloc (.cells (Array.replicate n (.bool false)) 4 (0, 0)) := ⟨_, rfl⟩
    rw [← hbc, ← hw2] at hst ⊢
    clear hbc hw2 H1 B1
    go_loopw [7, 9] (fun v7 v9 wr => ∃ i : Nat, v9 = .int .i64 (i : Int) ∧ i ≤ len + n ∧ RowsSt W wr g bc n (Sc.rowAt z len n i) v7) (fun _ v9 _ => len + n - (intOf v9).toNat)
    case atStart => exact ⟨0, rfl, by omega, hst⟩
    case round =>
      clear hst
      obtain ⟨i, rfl, hi, hrs⟩ := hrel
      by_cases hlt : i < len + n
      · have i1 : ((i : Nat) : Int) < ((len : Nat) : Int) + ((n : Nat) : Int) := by omega
        have i2 : (0 : Int) < (n : Int) := by omega
        have htl := tOf_lt z len n i (by omega)
        have htv : (tOf z len n i : Int) = if i < len then (if z.getD i 0 < 0 then (-(z.getD i 0 + 1)) % (n : Int) else z.getD i 0 % (n : Int)) else (i : Int) % (n : Int) := by
          unfold tOf
          split
          · split <;> (rw [Int.natCast_emod]; congr 1; omega)
          · rw [Int.natCast_emod]
        have HTV := Lib.hid htv
        clear htv
        obtain ⟨t, ht⟩ : ∃ t, t = tOf z len n i := ⟨_, rfl⟩
        have HT := Lib.hid ht
        rw [← ht] at htl HTV
        clear ht
        go_upto_if 42 with fail
        go_cut [10] (fun v10 wx => v10 = .int .i64 (t : Int) ∧ wx = wr)
        case first =>
          by_cases h1 : i < len
          · have i3 : ((i : Nat) : Int) < (len : Int) := by omega
            have hd : decide (((i : Nat) : Int) < (len : Int)) = true := decide_eq_true i3
            obtain ⟨ad, rfl, hc, y1, y2⟩ : ∃ ad, a = some ad ∧ wr.cell? (ad.add i) = some (.int .i64 (z.getD i 0)) ∧ -9223372036854775808 ≤ z.getD i 0 ∧ z.getD i 0 ≤ 9223372036854775807 := by
              rcases hz with ⟨_, h, _⟩ | ⟨x, rfl, l1, l2, l3, l4, l5⟩
              · omega
              · obtain ⟨F, ob, q⟩ := hrs
                have hm : z.getD i 0 ∈ z := by rw [List.getD_eq_getElem?_getD, List.getElem?_eq_getElem (by omega)]; exact List.getElem_mem _
                have h5 : -9223372036854775808 ≤ z.getD i 0 ∧ z.getD i 0 ≤ 9223372036854775807 := by simpa only [Lit.wf, show IntKind.i64.min = -9223372036854775808 by decide, show IntKind.i64.max = 9223372036854775807 by decide, Bool.and_eq_true, decide_eq_true_eq] using l5 _ hm
                exact ⟨x, rfl, cell_keep (Nat.le_refl _) q.B (l4 i (by omega)), h5.1, h5.2⟩
            have hv := HTV.out
            rw [if_pos h1] at hv
            obtain ⟨x, hx⟩ : ∃ x, x = z.getD i 0 := ⟨_, rfl⟩
            rw [← hx] at hc y1 y2 hv
            clear hrs hz HTV HT
            by_cases h2 : x < 0
            · rw [if_pos h2] at hv
              obtain ⟨X, hX⟩ : ∃ X : Nat, -(x + 1) = (X : Int) := ⟨(-(x + 1)).toNat, by omega⟩
              have hd2 : decide (x < 0) = true := decide_eq_true h2
              rw [hX] at hv
              have HV := Lib.hid hv
              clear hv hx
              go_wp2_with fail
              go_meet
              exact ⟨by rw [HV.out], rfl⟩
            · rw [if_neg h2] at hv
              obtain ⟨X, hX⟩ : ∃ X : Nat, x = (X : Int) := ⟨x.toNat, by omega⟩
              have hd2 : decide (x < 0) = false := decide_eq_false h2
              rw [hX] at hd2 hc hv
              have HV := Lib.hid hv
              clear hv hx h2
              subst hX
              clear y1 y2
              go_wp2_with fail
              go_meet
              exact ⟨by rw [HV.out], rfl⟩
          · have hd : decide (((i : Nat) : Int) < (len : Int)) = false := decide_eq_false (by omega)
            have hv := HTV.out
            rw [if_neg h1] at hv
            have HV := Lib.hid hv
            clear hrs hz HTV HT hv
            go_wp2_with fail
            go_meet
            exact ⟨by rw [HV.out], rfl⟩
        case rest =>
          obtain ⟨rfl, rfl⟩ := hcut
          rename World => V
          obtain ⟨F, ob, hrs⟩ := hrs
          have hnext : Sc.rowAt z len n (i + 1) = if t ∈ Sc.rowAt z len n i then Sc.rowAt z len n i else Sc.rowAt z len n i ++ [t] := by
            conv => lhs; unfold Sc.rowAt
            rw [← HT.out]
          obtain ⟨r, hr⟩ : ∃ r, r = Sc.rowAt z len n i := ⟨_, rfl⟩
          have hrl : r.length ≤ n := by rw [hr]; exact rows_len n _ (rowAt_ok z len n (by omega) i).1 (rowAt_ok z len n (by omega) i).2.1
          rw [← hr] at hrs hnext
          have HNX := Lib.hid hnext
          clear hnext hr
          obtain ⟨A7, c7, hv7, hc7⟩ := hrs.R.val
          have hl7 : (ints (Sc.nums r)).length = r.length := by simp [ints, Sc.nums]
          rw [hl7] at hv7
          subst hv7
          obtain ⟨k1, k2⟩ := hrs.come t htl
          have g1 : ((t : Nat) : Int) < ((n : Nat) : Int) := by omega
          by_cases htr : t ∈ r
          · rw [decide_eq_true htr] at k1
            have hn := HNX.out
            rw [if_pos htr] at hn
            have hst : RowsSt W V g bc n (Sc.rowAt z len n (i + 1)) (.slice A7 r.length c7) := by rw [hn]; exact ⟨F, ob, hrs⟩
            have HST := Lib.hid hst
            clear hrs hst hn HNX hc7 hl7 hz HT HTV htr
            go_wp2_with fail
            go_roundw
            case rel => exact ⟨i + 1, by go_num, by omega, HST.out⟩
            case measure => simp [intOf]; omega
          · rw [decide_eq_false htr] at k1
            have hn := HNX.out
            rw [if_neg htr] at hn
            have hB1 : W.heap.size ≤ (V.setCell ⟨bc, t, none⟩ (.bool true)).heap.size := by have := hrs.B.size; simpa [World.setCell] using this
            have hL := lock_any (hrs.S1 t) hB1 hrs.ok (by simp [stR]; omega) (by simp [stR]) (t : Int) 0
            rw [lock_stR n r t htl htr] at hL
            obtain ⟨b, e1, e2⟩ : ∃ b, decide (r.length = 0) = b ∧ (((r.length : Nat) : Int) == 0) = b := ⟨_, rfl, by rw [Bool.eq_iff_iff]; simp⟩
            rw [e1] at hL
            have HL := Lib.hid hL
            have HR := Lib.hid hrs
            clear hL hrs
            have hone : ∀ u ∈ [Value.int .i64 (t : Int)], u.oneCell' = true := by simp [Value.oneCell']
            have hb1 : (ints (Sc.nums r)).length + 1 ≤ maxLen := by unfold maxLen; omega
            have hb2 : ((ints (Sc.nums r)).length + 1) * 8 ≤ 140737488355328 := by omega
            have HN0 := Lib.hid hn
            clear e1 hc7 hn hl7
            cases b
            all_goals
              go_wp2_with fail
              refine HL.out.mono ?_
              rintro e w2 ⟨rfl, hN⟩
              have hrow := HR.out.row t hN (Obj.cells #[Value.int IntKind.i64 ↑t] 3 (0, 0))
              have hc0 : ∀ j u, [Value.int .i64 (t : Int)][j]? = some u → (w2.alloc (Obj.cells #[Value.int IntKind.i64 ↑t] 3 (0, 0))).cell? ((⟨w2.heap.size, 0, none⟩ : Addr).add j) = some u := by
                intro j u hj
                cases j with
                | zero => simp at hj; subst hj; rw [Addr.add_lit]; exact cell_at_new _ _ _ 0 _ rfl
                | succ j => simp at hj
              have hba : W.heap.size ≤ (w2.alloc (Obj.cells #[Value.int IntKind.i64 ↑t] 3 (0, 0))).heap.size := Nat.le_trans (Nat.le_trans hB1 hN.2.size) (by simp)
              have HNX2 := Lib.hid hN
              have HROW := Lib.hid hrow
              have HC0 := Lib.hid hc0
              clear hN hrow hc0
              go_wp2_with (at_builtin; refine wpList_push _ rfl (.tmp 77) (.tmp 79) 22 rfl 3 i0 (.int .i64 0) 1 8 Try.underlying22 hii hii0 hii1 hii2 rfl (by decide) HROW.out rfl ⟨w2.heap.size, 0, none⟩ 1 [.int .i64 (t : Int)] rfl rfl HC0.out hone hb1 hb2 hba ?_)
              intro ob' A' n' c' w3 hR3 hg hob
              have hst := HR.out.step t htl htr HNX2.out _ hR3 hg (hob.imp id (fun ⟨k, e1, e2⟩ => ⟨k, e1, by omega⟩))
              rw [← HN0.out] at hst
              have HST := Lib.hid hst
              clear hst hR3 hg hob
              go_wp2_with fail
              go_roundw
              case rel => exact ⟨i + 1, by go_num, by omega, HST.out⟩
              case measure => simp [intOf]; omega
      · have hin : i = len + n := by omega
        have hp := rowAt_all z len n (by omega)
        have hk := rowAt_ok z len n (by omega) (len + n)
        rw [hin] at hrs
        obtain ⟨r, hr⟩ : ∃ r, r = Sc.rowAt z len n (len + n) := ⟨_, rfl⟩
        rw [← hr] at hp hk hrs
        have hrl : r.length = n := by rw [hp.length_eq, List.length_range]
        obtain ⟨F, ob, hrs⟩ := hrs
        obtain ⟨A7, c7, hv7, hc7⟩ := hrs.R.val
        have hl7 : (ints (Sc.nums r)).length = r.length := by simp [ints, Sc.nums]
        rw [hl7] at hv7
        subst hv7
        have h2 := hrs.two
        have hdec : decide (((i : Nat) : Int) < ((len : Nat) : Int) + ((n : Nat) : Int)) = false := decide_eq_false (by omega)
        have HK := Lib.hid hk
        have HP := Lib.hid hp
        have H2 := Lib.hid h2
        obtain ⟨wA, hwA⟩ : ∃ wA, wA = wr := ⟨_, rfl⟩
        subst hwA
        clear hrs h2 hr hk hp hc7 hl7 hin hz
        go_wp2_with fail
        clear hdec
        go_loopw [13] (fun v13 wr => ∃ j : Nat, v13 = .int .i64 (j : Int) ∧ j ≤ n ∧ Rows2St W wr g n r j (.slice A7 r.length c7)) (fun v13 _ => n - (intOf v13).toNat)
        case atStart => exact ⟨0, rfl, by omega, H2.out⟩
        case round =>
          clear H2
          obtain ⟨j, rfl, hj, F, ob, hrs⟩ := hrel
          subst hrl
          have hlr : (ints (Sc.nums r)).length = r.length := by simp [ints, Sc.nums]
          have hTl : (stR r.length r j).T.length ≤ 1000 := by simp [stR]; omega
          by_cases hlt2 : j < r.length
          · have hx : (ints (Sc.nums r))[j]? = some [.int .i64 ((r[j] : Nat) : Int)] := by simp [ints, Sc.nums, hlt2]
            obtain ⟨ad, c, hv, hc⟩ := hrs.R.at1 j (by rw [hlr]; exact hlt2) _ hx
            rw [hlr] at hv
            obtain rfl : A7 = some ad := by simpa using (Value.slice.inj hv).1
            obtain rfl : c7 = c := (Value.slice.inj hv).2.2
            have how := owner_sch (hrs.S.below (Below.refl _ wr).drew) (by simp [stR]) 0
            have hown : owner (stR r.length r j) 0 = ((r[j] : Nat) : Int) := by rw [stR_owner, dif_pos hlt2]
            rw [hown] at how
            have hrd := ready_len (hrs.S.below (Below.refl _ wr).drew) hTl
            have hrdl : (ready (stR r.length r j)).length = j + 1 := by rw [ready_stR r.length r HK.out.1 HP.out j]; omega
            rw [hrdl] at hrd
            have hun := fun (w5 : World) (hb : Below wr.heap.size wr w5) => unlock_any (hrs.S.below hb) (Nat.le_trans hrs.B.size hb.size) hrs.ok hTl (by simp [stR]) (by simp [stR]) ((r[j] : Nat) : Int) 0
            have hun2 : ∀ (w5 : World) (hb : Below wr.heap.size wr w5), Calls Try.prog 13 #[.pointer (some ⟨g, 0, none⟩), .int .i64 ((r[j] : Nat) : Int), .int .i64 0] w5 fun e w' => e = .returned (.int .i64 0) ∧ Next w5 W.heap.size g F (stR r.length r (j + 1)) w' := by
              intro w5 hb
              have := hun w5 hb
              rw [unlock_stR r.length r HK.out.1 HK.out.2.1 j hlt2] at this
              exact this
            have g3 : ((j : Nat) : Int) < ((r.length : Nat) : Int) := by omega
            have g4 : (((j : Int) + 1) != IntKind.i64.wrap (1 + (j : Int))) = false := by rw [IntWalk.i64_in _ (by omega), Int.add_comm]; exact bne_self_eq_false _
            obtain ⟨x, hxx⟩ : ∃ x : Nat, x = r[j] := ⟨_, rfl⟩
            rw [← hxx] at hc how hun2
            have g5 : ((x : Int) != (x : Int)) = false := bne_self_eq_false _
            have HOW := Lib.hid how
            have HRD := Lib.hid hrd
            have HUN := Lib.hid hun2
            have HR := Lib.hid hrs
            have hcb := World.block_lt_of_cell? wr _ hc
            have hy5 : ∀ w5, Below wr.heap.size wr w5 → w5.cell? (ad.add j) = some (.int .i64 (x : Int)) := fun w5 hb => (hb.cell hcb).trans hc
            have hy6 : ∀ w5 w6, Below wr.heap.size wr w5 → Next w5 W.heap.size g F (stR r.length r (j + 1)) w6 → w6.cell? (ad.add j) = some (.int .i64 (x : Int)) := fun w5 w6 hb hN => (World.cell?_of_block (hN.2.block _ (Nat.lt_of_lt_of_le hcb hb.size) (by rw [show (ad.add j).block = ad.block by unfold Addr.add; split <;> rfl]; exact hrs.notF (ad := ad) rfl hv))).trans (hy5 w5 hb)
            have HY5 := Lib.hid hy5
            have HY6 := Lib.hid hy6
            clear hy5 hy6
            clear how hrd hun hun2 hrs hown hrdl hx hv hxx hTl hlr
            go_upto_region 27 with fail
            go_region_held3 (fun W' => W'.cell? (ad.add j) = some (.int .i64 (x : Int))) (first | assumption | go_keep) (first
              | (go_at_call 11; (with_reducible refine Calls.mono HOW.out ?_); rintro e w5 ⟨rfl, rfl⟩)
              | (go_at_call 12; (with_reducible refine Calls.mono HRD.out ?_); rintro e w5 ⟨A5, c5, rfl, hb5⟩; have hq5 : Below wr.heap.size wr w5 := ((Below.refl _ wr).drew).trans hb5; have HB5 := Lib.hid hq5; clear hb5 hq5; have y5 := HY5.out w5 HB5.out)
              | (go_at_call 13; (with_reducible refine Calls.mono (HUN.out _ HB5.out) ?_); rintro e w6 ⟨rfl, hN6⟩; have HN6 := Lib.hid hN6; clear hN6; have y6 := HY6.out _ w6 HB5.out HN6.out))
            all_goals
              have h2 := HR.out.step HK.out.1 HK.out.2.1 hlt2 HB5.out HN6.out
              have H2 := Lib.hid h2
              clear h2
              go_wp2_with fail
              go_roundw
              case rel => exact ⟨j + 1, by go_num, by omega, H2.out⟩
              case measure => simp [intOf]; omega
          · obtain rfl : j = r.length := by omega
            have how := owner_sch hrs.S (by simp [stR]) 0
            have hown : owner (stR r.length r r.length) 0 = -1 := by rw [stR_owner, dif_neg (by omega)]
            rw [hown] at how
            have hrd := ready_len hrs.S hTl
            have hrdl : (ready (stR r.length r r.length)).length = r.length := by rw [ready_stR r.length r HK.out.1 HP.out r.length]; omega
            rw [hrdl] at hrd
            have HOW := Lib.hid how
            have HRD := Lib.hid hrd
            have HB := Lib.hid hrs.B
            clear how hrd hown hrdl hrs hTl hlr hj
            go_wp2_with fail
            refine HOW.out.mono ?_
            rintro e w5 ⟨rfl, rfl⟩
            go_wp2_with fail
            refine HRD.out.mono ?_
            rintro e w6 ⟨A5, c5, rfl, hb5⟩
            have HB5 := Lib.hid hb5
            clear hb5
            go_wp2_with fail
            refine (lives_any w6).mono ?_
            rintro e w7 ⟨rfl, hb7⟩
            have HB7 := Lib.hid hb7
            clear hb7
            go_wp2_with fail
            go_ret
            exact ⟨rfl, HB.out.trans ((Below.up HB5.out HB7.out).mono HB.out.size)⟩
theorem schedRows_walk (T : Int) (a : Option Addr) (len cap : Nat) (z : List Int) (w : World) (hT : (Lit.int .i64 T).wf = true) (hz : IsRow .i64 w a len cap z) (hy : len * 8 ≤ 140737488351232) :
    Calls Try.prog 3 #[.int .i64 T, .slice a len cap] w fun e w' => e = .returned (.bool true) ∧ Below w.heap.size w w' := by
  have h5 : -9223372036854775808 ≤ T ∧ T ≤ 9223372036854775807 := by simpa only [Lit.wf, show IntKind.i64.min = -9223372036854775808 by decide, show IntKind.i64.max = 9223372036854775807 by decide, Bool.and_eq_true, decide_eq_true_eq] using hT
  exact rows_body T a len cap z w h5.1 h5.2 hz (by omega)
end Go.Proofs.Ytcfkmhmgappckaa
