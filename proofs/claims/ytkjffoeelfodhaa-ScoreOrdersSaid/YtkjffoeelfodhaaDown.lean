/- Piles of ranks: down. No condition but on size. -/
import Derived.Test.YtkjffoeelfodhaaPile
namespace Go.Proofs.Ytkjffoeelfodhaa
open Go.RowKit Go.Shelf Go.Sort Go.Proofs.Ytkjffoeelfodhaa.Sc Go.Proofs.Ytkjffoeelfodhaa.PAll Go.Proofs.YtkjffoeelfodhaaW.PrintWords Go.Proofs.YtkjffoeelfodhaaW.PrintLast Go.Proofs.YtkjffoeelfodhaaW.PrintMore

theorem idx0 (a b : Int) (w : World) : (Instr.index 66 (.agg #[.int .i64 a, .int .i64 b]) (.int .i64 0)).run Try.prog w = .ok (.int .i64 a) w := by
  simp [Instr.index, run_underlying Try.underlying66, asIntOf, go_sem, Try.sizeOf3, Try.isAgg3]
theorem idx1 (a b : Int) (w : World) : (Instr.index 66 (.agg #[.int .i64 a, .int .i64 b]) (.int .i64 1)).run Try.prog w = .ok (.int .i64 b) w := by
  simp [Instr.index, run_underlying Try.underlying66, asIntOf, go_sem, Try.sizeOf3, Try.isAgg3]
attribute [local go_sem] idx0 idx1
/-- The place behind so many looks. -/
def lowc (L : List Rk) (j : Nat) : Nat → Nat
  | 0 => j
  | c + 1 => if decide (2 * j + 1 + c < L.length) && wrs (at' L (2 * j + 1 + c)) (at' L (lowc L j c)) then 2 * j + 1 + c else lowc L j c
theorem lowc_two (L : List Rk) (j : Nat) : lowc L j 2 = low2 L j := rfl
theorem lowc_lt (L : List Rk) (j : Nat) (h : j < L.length) : ∀ c, lowc L j c < L.length
  | 0 => h
  | c + 1 => by
    unfold lowc
    split
    · rename_i hc
      rw [Bool.and_eq_true, decide_eq_true_iff] at hc
      exact hc.1
    · exact lowc_lt L j h c
theorem down_stop (m : Nat) (L : List Rk) (j : Nat) (h : low2 L j = j) : Sc.down (m + 1) L j = L := by rw [Sc.down, if_pos h]
theorem down_go (m : Nat) (L : List Rk) (j : Nat) (h : ¬ low2 L j = j) : Sc.down (m + 1) L j = Sc.down m (Sc.swp L j (low2 L j)) (low2 L j) := by rw [Sc.down, if_neg h]

set_option maxHeartbeats 4000000 in
set_option maxRecDepth 100000 in
theorem down_any (base g : Nat) (v : Value) (k tot : Int) (K : List Rk) (i : Nat) (w : World) (hT : IsTop w base g v k tot K) (hi : i < K.length) (hl : K.length ≤ 100000) :
    Calls Try.prog 32 #[.pointer (some ⟨g, 2, none⟩), .int .i64 i] w fun e w' => e = .returned (.tuple #[]) ∧ IsTop w' base g v k tot (Sc.down K.length K i) ∧ w.grownBy w' v.ownBlock := by
  obtain ⟨gb, cap, rfl, hge, hgl, hne⟩ := hT.form (by omega)
  obtain ⟨n, hn⟩ : ∃ n, K.length = n := ⟨_, rfl⟩
  rw [hn] at hT hi hl ⊢
  have HN := Lib.hid hn
  clear hn
  go_enter Try.func32, Try.ntmps32
  go_wp2_with fail
  go_loopw [1] (fun vk wr => ∃ (j m : Nat) (L : List Rk), vk = .int .i64 j ∧ j < n ∧ L.length = n ∧ n - j ≤ m ∧ IsTop wr base g (.slice (some ⟨gb, 0, none⟩) n cap) k tot L ∧ Sc.down m L j = Sc.down n K i ∧ w.grownBy wr (some gb)) (fun vk _ => n - (intOf vk).toNat)
  case atStart => exact ⟨i, n, K, rfl, hi, HN.out, by omega, hT, rfl, grown_refl w _⟩
  case round =>
    clear hT
    obtain ⟨j, m, L, rfl, hj, hL, hm, hT, hdn, hgr⟩ := hrel
    have HGR := Lib.hid hgr
    have HDN := Lib.hid hdn
    have HLn := Lib.hid hL
    clear hgr hdn hL
    obtain ⟨k1, hk1⟩ : ∃ k1, 2 * j + 1 = k1 := ⟨_, rfl⟩
    obtain ⟨k2, hk2⟩ : ∃ k2, 2 * j + 2 = k2 := ⟨_, rfl⟩
    have e1 : (2 : Int) * (j : Int) + 1 = (k1 : Int) := by omega
    have e2 : (2 : Int) * (j : Int) + 2 = (k2 : Int) := by omega
    have HK := Lib.hid (And.intro hk1 hk2)
    clear hk1 hk2
    go_wp2_with fail
    clear e1 e2
    go_loopw [4, 15] (fun v4 v15 ws => ∃ (c : Nat) (q : Value), v15 = q ∧ ((c = 0 ∧ q = .int .i64 0) ∨ (c = 1 ∧ q = .int .i64 1) ∨ (c = 2 ∧ q = .int .i64 2)) ∧ v4 = .int .i64 (lowc L j c) ∧ IsTop ws base g (.slice (some ⟨gb, 0, none⟩) n cap) k tot L ∧ w.grownBy ws (some gb)) (fun _ v15 _ => 2 - (intOf v15).toNat)
    case atStart => exact ⟨0, _, rfl, .inl ⟨rfl, rfl⟩, rfl, hT, HGR.out⟩
    case round =>
      clear hT HGR
      obtain ⟨c, q, hq, hc, rfl, hT, hgr⟩ := hrel
      have hq2 := hq.symm
      clear hq
      subst hq2
      have HGR := Lib.hid hgr
      clear hgr
      by_cases hlt : c < 2
      · have hcl := lowc_lt L j (by rw [HLn.out]; exact hj) c
        obtain ⟨kk, hkk⟩ : ∃ kk, 2 * j + 1 + c = kk := ⟨_, rfl⟩
        obtain ⟨b, hb⟩ : ∃ b, lowc L j c = b := ⟨_, rfl⟩
        have hstep : lowc L j (c + 1) = if decide (kk < n) && wrs (at' L kk) (at' L b) then kk else b := by
          rw [lowc, hkk, HLn.out, hb]
        rw [hb] at hcl ⊢
        rw [HLn.out] at hcl
        have HST := Lib.hid hstep
        clear hstep hb
        have hKK := HK.out
        have hw : (c = 0 ∧ q = .int .i64 0 ∧ kk = k1) ∨ (c = 1 ∧ q = .int .i64 1 ∧ kk = k2) := by
          rcases hc with ⟨h, h2⟩ | ⟨h, h2⟩ | ⟨h, h2⟩
          · exact .inl ⟨h, h2, by omega⟩
          · exact .inr ⟨h, h2, by omega⟩
          · omega
        clear hkk hc hKK
        by_cases hkn : kk < n
        · have h8 := hT.eight kk b (by rw [HLn.out]; exact hkn) (by rw [HLn.out]; exact hcl)
          have hA := fun W => ahead_any (at' L kk) (at' L b) W
          have hst : lowc L j (c + 1) = if wrs (at' L kk) (at' L b) then kk else b := by rw [HST.out, decide_eq_true hkn, Bool.true_and]
          generalize at' L kk = x at *
          generalize at' L b = y at *
          generalize wrs x y = r at *
          have HST2 := Lib.hid hst
          have p0 := eq_true (show (0 : Int) ≤ (kk : Int) by omega)
          have p1 := eq_true (show (kk : Int) < (n : Int) by omega)
          have p2 := eq_true (show (0 : Int) ≤ (b : Int) by omega)
          have p3 := eq_true (show (b : Int) < (n : Int) by omega)
          have HT := Lib.hid hT
          have HA := Lib.hid hA
          obtain ⟨⟨d1, d2⟩, ⟨d3, d4, d5⟩, ⟨d6, d7, d8⟩⟩ := h8
          clear hT hA hst HST
          have hB0 := Lib.hid ((Below.refl wr.heap.size wr).drew)
          obtain ⟨x0, x1, x2⟩ := x
          obtain ⟨y0, y1, y2⟩ := y
          dsimp only at d3 d4 d5 d6 d7 d8
          rcases hw with ⟨rfl, rfl, rfl⟩ | ⟨rfl, rfl, rfl⟩
          all_goals
            go_wp2_with fail
            go_region_held3 (fun w' => ((w'.cell? ⟨g, 3, none⟩ = some (.func (.func 25) #[] #[]) ∧ w'.cell? ⟨g, 2, none⟩ = some (.slice (some ⟨gb, 0, none⟩) n cap)) ∧
              (w'.cell? ⟨gb, kk * 3, none⟩ = some (.int .i64 x0) ∧ w'.cell? ⟨gb, kk * 3 + 1, none⟩ = some (.int .i64 x1) ∧ w'.cell? ⟨gb, kk * 3 + 2, none⟩ = some (.int .i64 x2)) ∧
              (w'.cell? ⟨gb, b * 3, none⟩ = some (.int .i64 y0) ∧ w'.cell? ⟨gb, b * 3 + 1, none⟩ = some (.int .i64 y1) ∧ w'.cell? ⟨gb, b * 3 + 2, none⟩ = some (.int .i64 y2))) ∧ Below wr.heap.size wr w')
              (first | assumption | exact ⟨⟨⟨d1, d2⟩, ⟨d3, d4, d5⟩, ⟨d6, d7, d8⟩⟩, hB0.out⟩ | go_keep)
              (first | (go_at_call 25; (with_reducible refine Calls.mono (HA.out _) ?_); rintro e w5 ⟨rfl, hb6⟩; have ht := Eight.below (x := (x0, x1, x2)) (y := (y0, y1, y2)) (And.left (by assumption)) hb6; unfold Eight at ht; have hbb := below_two (And.right (by assumption)) hb6))
            all_goals
              have hT5 := HT.out.below hbb
              have hg5 := HGR.out.trans (grown_of_below hbb (some gb))
              clear ht hbb hb6
              cases r
              all_goals
                go_wp2_with fail
                go_roundw
                case rel => first | exact ⟨1, _, rfl, .inr (.inl ⟨rfl, rfl⟩), (by rw [show (1 : Nat) = 0 + 1 from rfl, HST2.out]; rfl), hT5, hg5⟩ | exact ⟨2, _, rfl, .inr (.inr ⟨rfl, rfl⟩), (by rw [show (2 : Nat) = 1 + 1 from rfl, HST2.out]; rfl), hT5, hg5⟩
                case measure => simp [intOf]
        · have hst : lowc L j (c + 1) = b := by rw [HST.out, decide_eq_false hkn, Bool.false_and, if_neg (by simp)]
          have HST2 := Lib.hid hst
          have d2 := hT.c2
          have hk2 : decide ((kk : Int) < (n : Int)) = false := decide_eq_false (by omega)
          have hk4 : decide (kk < n) = false := decide_eq_false hkn
          have hk5 : ¬ kk < n := hkn
          have hk3 : ¬ (kk : Int) < (n : Int) := by omega
          have HT := Lib.hid hT
          clear HST hst hT hkn
          rcases hw with ⟨rfl, rfl, rfl⟩ | ⟨rfl, rfl, rfl⟩
          all_goals
            go_wp2_with fail
            go_quiet (fail)
            go_wp2_with fail
            go_roundw
            case rel => first | exact ⟨1, _, rfl, .inr (.inl ⟨rfl, rfl⟩), (by rw [show (1 : Nat) = 0 + 1 from rfl, HST2.out]), HT.out.drewN _, HGR.out.trans (grown_of_below (pw_below_drewN (Below.refl _ _) _) _)⟩ | exact ⟨2, _, rfl, .inr (.inr ⟨rfl, rfl⟩), (by rw [show (2 : Nat) = 1 + 1 from rfl, HST2.out]), HT.out.drewN _, HGR.out.trans (grown_of_below (pw_below_drewN (Below.refl _ _) _) _)⟩
            case measure => simp [intOf]
      · obtain ⟨rfl, rfl⟩ : c = 2 ∧ q = .int .i64 2 := by
          rcases hc with ⟨h, h2⟩ | ⟨h, h2⟩ | ⟨h, h2⟩
          · omega
          · omega
          · exact ⟨h, h2⟩
        clear hc hlt
        have hcl := lowc_lt L j (by rw [HLn.out]; exact hj) 2
        obtain ⟨b, hb⟩ : ∃ b, lowc L j 2 = b := ⟨_, rfl⟩
        rw [hb] at hcl ⊢
        rw [HLn.out] at hcl
        have hb2 : low2 L j = b := hb
        obtain ⟨m, rfl⟩ : ∃ m', m = m' + 1 := ⟨m - 1, by omega⟩
        have HDN2 := HDN
        by_cases he : b = j
        · have hdn := HDN.out
          rw [down_stop m L j (by rw [hb2, he])] at hdn
          have HD := Lib.hid hdn
          have hbe : ((b : Int) == (j : Int)) = true := by simp [he]
          clear hb hb2 hdn HDN HDN2 he
          go_wp2_with fail
          refine bodyPost_ret (v := .tuple #[]) (by simp [results, Try.results32, go_sem]) rfl ⟨rfl, ?_, HGR.out⟩
          rw [← HD.out]
          exact hT
        · have hbe : ((b : Int) == (j : Int)) = false := by rw [beq_eq_false_iff_ne]; omega
          have hgt : j < b := by
            rcases (low2_spec L j (by rw [HLn.out]; exact hj)).2.1 with h | ⟨h, _⟩
            · omega
            · omega
          have hdn := HDN.out
          rw [down_go m L j (by rw [hb2]; exact he), hb2] at hdn
          have HD := Lib.hid hdn
          have h8 := hT.eight j b (by rw [HLn.out]; exact hj) (by rw [HLn.out]; exact hcl)
          have hf := hT.thaw (by rw [HLn.out]; omega)
          have f0 := hf (j * 3)
          have f1 := hf (j * 3 + 1)
          have f2 := hf (j * 3 + 2)
          have f3 := hf (b * 3)
          have f4 := hf (b * 3 + 1)
          have f5 := hf (b * 3 + 2)
          have n0 : ¬ (j * 3 = b * 3) := by omega
          have m0 : ¬ (b * 3 = j * 3) := by omega
          have n1 : ¬ (j * 3 = b * 3 + 1) := by omega
          have m1 : ¬ (b * 3 + 1 = j * 3) := by omega
          have n2 : ¬ (j * 3 = b * 3 + 2) := by omega
          have m2 : ¬ (b * 3 + 2 = j * 3) := by omega
          have n3 : ¬ (j * 3 + 1 = b * 3) := by omega
          have m3 : ¬ (b * 3 = j * 3 + 1) := by omega
          have n4 : ¬ (j * 3 + 1 = b * 3 + 1) := by omega
          have m4 : ¬ (b * 3 + 1 = j * 3 + 1) := by omega
          have n5 : ¬ (j * 3 + 1 = b * 3 + 2) := by omega
          have m5 : ¬ (b * 3 + 2 = j * 3 + 1) := by omega
          have n6 : ¬ (j * 3 + 2 = b * 3) := by omega
          have m6 : ¬ (b * 3 = j * 3 + 2) := by omega
          have n7 : ¬ (j * 3 + 2 = b * 3 + 1) := by omega
          have m7 : ¬ (b * 3 + 1 = j * 3 + 2) := by omega
          have n8 : ¬ (j * 3 + 2 = b * 3 + 2) := by omega
          have m8 : ¬ (b * 3 + 2 = j * 3 + 2) := by omega
          have p0 := eq_true (show (0 : Int) ≤ (j : Int) by omega)
          have p1 := eq_true (show (j : Int) < (n : Int) by omega)
          have p2 := eq_true (show (0 : Int) ≤ (b : Int) by omega)
          have p3 := eq_true (show (b : Int) < (n : Int) by omega)
          obtain ⟨x, hx⟩ : ∃ x, at' L j = x := ⟨_, rfl⟩
          obtain ⟨y, hy⟩ : ∃ y, at' L b = y := ⟨_, rfl⟩
          rw [hx, hy] at h8
          have HXY := Lib.hid (And.intro hx hy)
          have HT := Lib.hid hT
          have HE := Lib.hid (And.intro he hgt)
          clear hx hy hT hf hb hb2 hdn HDN HDN2 he hgt
          obtain ⟨x0, x1, x2⟩ := x
          obtain ⟨y0, y1, y2⟩ := y
          obtain ⟨⟨d1, d2⟩, ⟨d3, d4, d5⟩, ⟨d6, d7, d8⟩⟩ := h8
          dsimp only at d3 d4 d5 d6 d7 d8
          go_wp2_with fail
          go_region
          all_goals
            have hgt := HE.out.2
            obtain ⟨s1, g1⟩ := HT.out.store hne j (by rw [HLn.out]; exact hj) y0 y1 y2
            obtain ⟨s2, g2⟩ := s1.store hne b (by rw [List.length_set, HLn.out]; exact hcl) x0 x1 x2
            have hsw : (L.set j (y0, y1, y2)).set b (x0, x1, x2) = Sc.swp L j b := by
              unfold Sc.swp
              rw [HXY.out.1, HXY.out.2]
            rw [hsw] at s2
            have hg3 := HGR.out.trans (g1.trans g2)
            have HS := Lib.hid (And.intro s2.drew (And.intro HD.out (grown_drew hg3)))
            clear s1 s2 g1 g2 hsw hg3
            go_wp2_with fail
            go_roundw
            case rel => exact ⟨b, m, _, rfl, hcl, by rw [Sc.swp_len]; exact HLn.out, by omega, HS.out.1, HS.out.2.1, HS.out.2.2⟩
            case measure => simp [intOf]; omega
end Go.Proofs.Ytkjffoeelfodhaa
