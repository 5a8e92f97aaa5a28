/- BufferTells, walked. Condition: none but what every input has. -/
import Derived.Test.YteidebllianiiaaGreatDoorSealsW
import Derived.Test.YteidebllianiiaaGreatDoorTellsP
set_option linter.unusedVariables false
set_option linter.unusedSimpArgs false
namespace Go.Proofs.YteidebllianiiaaGreatDoor
open Go.RowKit Go.Proofs.YteidebllianiiaaGreatDoor.PAll Go.Proofs.YteidebllianiiaaGreatDoorW.PrintWords Go.Proofs.YteidebllianiiaaGreatDoorW.PrintLast Go.Proofs.YteidebllianiiaaGreatDoorW.PrintMore

def cnt (L : List Ent) (x : ByteArray) : Nat := ((posts L x).map (fun p => p.f1.length)).sum
theorem sum_take_le {α : Type} (f : α → Nat) (X : List α) (i : Nat) : ((X.take i).map f).sum ≤ (X.map f).sum := by
  have h : X = X.take i ++ X.drop i := (List.take_append_drop i X).symm
  have h2 : (X.map f).sum = ((X.take i).map f).sum + ((X.drop i).map f).sum := by
    rw [← List.sum_append, ← List.map_append, List.take_append_drop]
  omega
theorem sum_take_succ {α : Type} (f : α → Nat) (X : List α) (i : Nat) (h : i < X.length) : ((X.take (i + 1)).map f).sum = ((X.take i).map f).sum + f X[i] := by
  rw [List.take_succ_eq_append_getElem h, List.map_append, List.sum_append]
  simp
theorem mem_le_sum : ∀ (l : List Nat) (x : Nat), x ∈ l → x ≤ l.sum := by
  intro l
  induction l with
  | nil => intro x h; cases h
  | cons y l ih =>
    intro x h
    rw [List.sum_cons]
    rcases List.mem_cons.1 h with rfl | h
    · omega
    · have := ih x h; omega
theorem key_small {L : List Ent} (h : ∀ e ∈ L, Fit9 e) {s : ByteArray} (hs : posts L s ≠ []) : s.size ≤ 1000000000 := by
  obtain ⟨p, hp⟩ := List.exists_mem_of_ne_nil _ hs
  unfold posts at hp
  obtain ⟨x, hx, hp⟩ := List.mem_flatMap.1 hp
  obtain ⟨hi, ex⟩ := zip_mem hx
  unfold docPosts at hp
  obtain ⟨t, ht, rfl⟩ := List.mem_map.1 hp
  have hc := ((fit_clean (h x.1 (ex ▸ List.getElem_mem hi))).1 t (List.mem_filter.1 ht).1).1
  have e1 : keyS t = s := by simpa using (List.mem_filter.1 ht).2
  rw [← e1]
  have h1 := congrArg List.length (keyS_data t)
  unfold keyB at h1
  simp only [List.length_append, List.length_cons, List.length_nil, Array.length_toList] at h1
  have := hc.1
  have := hc.2
  have e2 : ∀ q : ByteArray, q.data.size = q.size := fun _ => rfl
  rw [e2, e2, e2] at h1
  omega

set_option maxHeartbeats 2000000 in
set_option maxRecDepth 100000 in
theorem tells_any (A0 : Option Addr) (c0 : Nat) (src : List S31) (w : World) (hr0 : Kd.C k31 w A0 src.length src) (hc0 : src.length ≤ c0) (hl : src.length ≤ 9223372036854775807) (hd : ∀ q ∈ src, q.f1.length ≤ 9223372036854775807 ∧ ∀ f ∈ q.f1, f.f0.size ≤ 9223372036854775807) :
    Calls Tryz.prog 3 #[.slice A0 src.length c0] w fun e w' => e = .returned (.bool true) ∧ Below w.heap.size w w' := by
  obtain ⟨g, hg, hM⟩ := good9_ev src 3 2 8 (by omega) (by omega) hl hd
  obtain ⟨kg, hkg⟩ := hg
  have hgood := fun w1 : World => fun h1 : Kd.C k31 w1 A0 src.length src => concordanceref09_Good.calls kg A0 c0 src 8 3 2 g w1 h1 hc0 (hkg kg (Nat.le_refl _))
  have HGOOD := Lib.hid hgood
  have HM := Lib.hid hM
  have HR0 := Lib.hid hr0
  clear hgood hM hr0 hkg hl hd hc0
  go_enter Tryz.func3, Tryz.ntmps3
  go_upto_region 2 with (go_at_call 7; refine (bnew_any _).mono ?_; rintro e w1 ⟨b, rfl, hB, hb1⟩)
  have HB1 := Lib.hid hb1
  have BB := Lib.hid hB
  clear hB hb1
  go_upto_region 6 with (go_at_call 8; refine (HGOOD.out w1 (Kd.C_below HR0.out HB1.out)).mono ?_; rintro e w2 ⟨gv, rfl, hgv, hb2⟩; obtain ⟨Ag, cg, rfl⟩ := Kd.R_slice (Kd.S_R hgv))
  obtain ⟨K1, hK1⟩ : ∃ K1, K1 = Also (fun k => k < w.heap.size) w1 w2 := ⟨_, rfl⟩
  have hG0 : Kd.R k33 33 w2 0 K1 (.slice Ag g.length cg) g := Kd.R_lower (Kd.R_mono (Kd.R_bound (Kd.S_R hgv)) (fun k hk => by rw [hK1]; exact .inr ⟨hk.2.1, hk.2.2.1⟩)) (Nat.zero_le _)
  have hB2 : Buf K1 b [] (-1) w2 := by rw [hK1]; exact BB.out.also hb2
  have hKw : ∀ k, k < w.heap.size → K1 k := fun k hk => by rw [hK1]; exact .inl hk
  have G2 := Lib.hid hG0
  have B2 := Lib.hid hB2
  have KW := Lib.hid hKw
  have HB2 := Lib.hid (HB1.out.trans (hb2.mono HB1.out.size))
  have hgl : g.length ≤ 8 := by rw [HM.out.len]; omega
  clear hK1 hG0 hB2 hKw hgv hb2 BB HB1 HGOOD HR0
  go_loopw [5] (fun v5 wr => ∃ i : Nat, v5 = .int .i64 (i : Int) ∧ i ≤ g.length ∧ Buf K1 b (g.take i) (lastA 3 2 i) wr ∧ Moves (fun k => ¬ K1 k) w2 wr) (fun v5 _ => g.length - (intOf v5).toNat)
  case atStart => exact ⟨0, rfl, by omega, B2.out, Moves.refl _ _⟩
  case round =>
    obtain ⟨i, rfl, hi, hBr, hmr⟩ := hrel
    obtain ⟨W0, hW0⟩ : ∃ W, W = wr := ⟨_, rfl⟩
    rw [← hW0] at hBr hmr ⊢
    clear hW0 wr
    by_cases hlt : i < g.length
    · have d1 : decide ((i : Int) < (g.length : Int)) = true := decide_eq_true (by omega)
      have g0 : decide ((0 : Int) ≤ (i : Int)) = true := decide_eq_true (by omega)
      have hsq := made_seq HM.out (by omega) (by omega) i (by omega)
      have htl : (g.take i).length < 1000 := by rw [List.length_take]; omega
      obtain ⟨ad, A1, c1, rfl, k0, k1, k2, hadd⟩ := add_ok hBr (hmr.row G2.out) HM.out.fit i (by omega) htl hsq.2 (by rw [hsq.1]; exact lastA_lt (by omega) i)
      have htk : g.take (i + 1) = g.take i ++ [g[i]] := List.take_succ_eq_append_getElem (by omega)
      obtain ⟨p, hp⟩ : ∃ p, p = g[i] := ⟨_, rfl⟩
      rw [← hp] at k0 k1 k2 htk hadd hsq
      obtain ⟨⟨pd, pp⟩, ps⟩ := p
      have HADD := Lib.hid hadd
      have HMR := Lib.hid hmr
      have HLT := Lib.hid hlt
      have HTK := Lib.hid htk
      have HSQ := Lib.hid hsq.1
      have wj : wrap64 ((i : Int) + 1) = ((i + 1 : Nat) : Int) := wrap_nat i (by omega)
      have wk : IntKind.i64.wrap ((i : Int) + 1) = ((i + 1 : Nat) : Int) := by rw [i64_w]; exact wj
      clear hadd hmr hlt htk hsq hp hBr
      go_wp2_with (go_at_call 9; refine HADD.out.mono ?_; rintro e w5 ⟨rfl, hB5, hm5⟩)
      go_roundw
      case rel =>
        have h7 := HLT.out
        refine ⟨i + 1, by first | rfl | rw [wj] | rw [wk], by omega, ?_, HMR.out.trans' hm5⟩
        rw [HTK.out, lastA_succ, ← HSQ.out]
        exact hB5
      case measure =>
        have h7 := HLT.out
        simp only [intOf]
        omega
    · obtain rfl : i = g.length := by omega
      have d1 : decide ((g.length : Int) < (g.length : Int)) = false := decide_eq_false (by omega)
      rw [List.take_length] at hBr
      have BR := Lib.hid hBr
      have MR := Lib.hid hmr
      have GR := Lib.hid (hmr.row G2.out)
      clear hBr hmr B2 G2
      go_upto_region 13 with (go_at_call 10; refine (bkeys_any BR.out).mono ?_; rintro e w3 ⟨kv, X, rfl, hkv, hX, hb3⟩; obtain ⟨Ak, ck, rfl⟩ := Kd.R_slice hkv)
      clear d1
      have B3 := Lib.hid (BR.out.below hb3)
      have G3 := Lib.hid (Kd.R_below GR.out hb3)
      have M3 := Lib.hid (MR.out.trans' (Moves.of_below hb3))
      have K3 := Lib.hid hkv
      have HX := Lib.hid hX
      have hsum := tells_sum HM.out.fit hX
      have hwl := weigh_le (L := g) (fun e he => (HM.out.fit e he).okE)
      have HSUM := Lib.hid (show (X.map (cnt g)).sum = weigh g from hsum)
      have HWL := Lib.hid hwl
      clear hb3 hkv hX BR GR MR hsum hwl
      have hxl : X.length ≤ 9223372036854775806 := by
        have h1 := (Kd.R_reads' K3.out).2.2.2.1
        rcases Nat.lt_or_ge X.length 9223372036854775807 with h | h
        · omega
        · exfalso
          have hpos : ∀ x ∈ X, 1 ≤ cnt g x := by
            intro x hx
            have hne := (HX.out.2 x).1 hx
            obtain ⟨p, hp⟩ := List.exists_mem_of_ne_nil _ hne
            have h2 := (posts_may HM.out.fit (by omega) x).each p hp
            have h3 : 0 < p.f1.length := List.length_pos_iff.2 h2.2.2.1
            unfold cnt
            exact Nat.le_trans h3 (mem_le_sum _ _ (List.mem_map.2 ⟨p, hp, rfl⟩))
          have h4 : ∀ Z : List ByteArray, (∀ x ∈ Z, 1 ≤ cnt g x) → Z.length ≤ (Z.map (cnt g)).sum := by
            intro Z
            induction Z with
            | nil => intro _; simp
            | cons z Z ih =>
              intro hz
              have := ih (fun q hq => hz q (List.mem_cons_of_mem _ hq))
              have := hz z List.mem_cons_self
              simp only [List.length_cons, List.map_cons, List.sum_cons]
              omega
          have h5 := h4 X hpos
          rw [HSUM.out] at h5
          have h6 := HWL.out
          omega
      go_loopw [6, 8] (fun v6 v8 wr => ∃ j : Nat, v8 = .int .i64 (j : Int) ∧ j ≤ X.length ∧ v6 = .int .i64 (((X.take j).map (cnt g)).sum : Nat) ∧ Below w3.heap.size w3 wr) (fun _ v8 _ => X.length - (intOf v8).toNat)
      case atStart => exact ⟨0, rfl, by omega, rfl, Below.refl _ _⟩
      case round =>
        obtain ⟨j, rfl, hj, rfl, hbr⟩ := hrel
        obtain ⟨W4, hW4⟩ : ∃ W, W = wr := ⟨_, rfl⟩
        rw [← hW4] at hbr ⊢
        clear hW4 wr
        by_cases hlt : j < X.length
        · have d1 : decide ((j : Int) < (X.length : Int)) = true := decide_eq_true (by omega)
          have g0 : decide ((0 : Int) ≤ (j : Int)) = true := decide_eq_true (by omega)
          obtain ⟨ak, hak, k0⟩ := Kd.at_string (Kd.R_reads' (Kd.R_below K3.out hbr)).2.2 (j : Int) (by omega) (by omega)
          subst hak
          rw [rdS_nat X j hlt, Int.toNat_natCast] at k0
          have hxm : X[j] ∈ X := List.getElem_mem hlt
          have hne := (HX.out.2 _).1 hxm
          have hxs := key_small HM.out.fit hne
          have hmp := posts_may HM.out.fit (by omega) X[j]
          have hsc := sum_take_succ (cnt g) X j hlt
          have hsl := sum_take_le (cnt g) X (j + 1)
          rw [HSUM.out] at hsl
          have hpost := bpostings_any (B3.out.below hbr) X[j] hxs (fun p hp => (hmp.each p hp).2.2.2.2.2)
          obtain ⟨x, hx⟩ : ∃ x, x = X[j] := ⟨_, rfl⟩
          have hcn : cnt g X[j] = ((posts g X[j]).map (fun p => p.f1.length)).sum := rfl
          rw [hcn] at hsc
          rw [← hx] at k0 hne hmp hpost hsc
          clear hxm hcn hx
          obtain ⟨P, hP⟩ : ∃ P, P = posts g x := ⟨_, rfl⟩
          rw [← hP] at hne hmp hpost hsc
          clear hP
          obtain ⟨S, hS⟩ : ∃ S, S = ((X.take j).map (cnt g)).sum := ⟨_, rfl⟩
          rw [← hS] at hsc ⊢
          clear hS
          obtain ⟨km, hkm⟩ := mayp_ev P hmp
          have hpl : 0 < P.length := List.length_pos_iff.2 hne
          have HPOST := Lib.hid hpost
          have HSC := Lib.hid hsc
          have HSL := Lib.hid hsl
          have HMP := Lib.hid hmp
          have HKM := Lib.hid (hkm km (Nat.le_refl _))
          have HLT := Lib.hid hlt
          have HBR := Lib.hid hbr
          have e1 : ((P.length : Int) == 0) = false := by rw [beq_eq_false_iff_ne]; omega
          clear hpost hsc hsl hmp hkm hlt hbr hxs hne
          go_upto_region 16 with (go_at_call 11; refine HPOST.out.mono ?_; rintro e w5 ⟨pv, rfl, hpv, hb5⟩; obtain ⟨Ap, cp, rfl⟩ := Kd.R_slice hpv)
          have HMAY := Lib.hid (concordanceref05_May.calls km Ap cp P true w5 (Kd.R_reads' hpv).2.2 (Kd.R_reads' hpv).2.1 HKM.out)
          have P5 := Lib.hid hpv
          have B5 := Lib.hid (HBR.out.trans (hb5.mono HBR.out.size))
          clear hpv hb5 HKM HPOST HBR
          go_upto_region 19 with (go_at_call 12; refine HMAY.out.mono ?_; rintro e w6 ⟨rfl, hd6⟩)
          have P6 := Lib.hid (Kd.R_below P5.out hd6.below)
          have B6 := Lib.hid (B5.out.trans (hd6.below.mono B5.out.size))
          clear hd6 P5 B5 HMAY k0
          go_loopw [6, 10] (fun v6 v10 wr => ∃ q : Nat, v10 = .int .i64 (q : Int) ∧ q ≤ P.length ∧ v6 = .int .i64 ((S + ((P.take q).map (fun p => p.f1.length)).sum : Nat) : Int) ∧ wr = w6) (fun _ v10 _ => P.length - (intOf v10).toNat)
          case atStart => exact ⟨0, rfl, by omega, by simp, rfl⟩
          case round =>
            obtain ⟨q, rfl, hq, rfl, rfl⟩ := hrel
            by_cases hlt : q < P.length
            · have d1 : decide ((q : Int) < (P.length : Int)) = true := decide_eq_true (by omega)
              have g0 : decide ((0 : Int) ≤ (q : Int)) = true := decide_eq_true (by omega)
              obtain ⟨ad, A1, c1, hap, k0, k1, k2⟩ := post_at P6.out q hlt
              subst hap
              have hst := sum_take_succ (fun p : Pst => p.f1.length) P q hlt
              have hstl := sum_take_le (fun p : Pst => p.f1.length) P (q + 1)
              have hlen := HMP.out.len
              obtain ⟨p, hp⟩ : ∃ p, p = P[q] := ⟨_, rfl⟩
              rw [← hp] at k0 k1 hst
              clear hp k2
              obtain ⟨pd, pp⟩ := p
              change _ = _ + pp.length at hst
              have e2 : wrap64 (((S + ((P.take q).map (fun p => p.f1.length)).sum : Nat) : Int) + (pp.length : Int)) = ((S + ((P.take (q + 1)).map (fun p => p.f1.length)).sum : Nat) : Int) := by
                have h1 := HSC.out
                have h2 := HSL.out
                have h3 := HWL.out
                rw [wrap_small _ (by omega), hst]
                push_cast
                omega
              have wj : wrap64 ((q : Int) + 1) = ((q + 1 : Nat) : Int) := wrap_nat q (by omega)
              have wk : IntKind.i64.wrap ((q : Int) + 1) = ((q + 1 : Nat) : Int) := by rw [i64_w]; exact wj
              have HE2 := Lib.hid e2
              have HLT2 := Lib.hid hlt
              obtain ⟨Z, hZ⟩ : ∃ Z : Nat, Z = S + ((P.take q).map (fun p => p.f1.length)).sum := ⟨_, rfl⟩
              rw [← hZ] at HE2 ⊢
              have HZ := Lib.hid hZ
              clear e2 hst hstl hlt hZ
              go_wp2_with fail
              go_roundw
              case rel =>
                have h7 := HLT2.out
                exact ⟨q + 1, by first | rfl | rw [wj] | rw [wk], by omega, by rw [HE2.out], by first | trivial | rfl⟩
              case measure =>
                have h7 := HLT2.out
                simp only [intOf]
                omega
            · obtain rfl : q = P.length := by omega
              have d1 : decide ((P.length : Int) < (P.length : Int)) = false := decide_eq_false (by omega)
              have hend : S + ((P.take P.length).map (fun p => p.f1.length)).sum = ((X.take (j + 1)).map (cnt g)).sum := by rw [List.take_length, HSC.out]
              rw [hend]
              have HE := Lib.hid hend
              have wj : wrap64 ((j : Int) + 1) = ((j + 1 : Nat) : Int) := wrap_nat j (by have := HLT.out; omega)
              have wk : IntKind.i64.wrap ((j : Int) + 1) = ((j + 1 : Nat) : Int) := by rw [i64_w]; exact wj
              clear hend
              go_wp2_with fail
              go_roundw
              case rel =>
                have h7 := HLT.out
                exact ⟨j + 1, by first | rfl | rw [wj] | rw [wk], by omega, rfl, B6.out⟩
              case measure =>
                have h7 := HLT.out
                simp only [intOf]
                omega
        · obtain rfl : j = X.length := by omega
          have d1 : decide ((X.length : Int) < (X.length : Int)) = false := decide_eq_false (by omega)
          rw [List.take_length, HSUM.out]
          obtain ⟨kw, hkw⟩ := words9_ev g (by omega) HM.out.fit
          have hww := concordanceref09_Words.calls kw Ag cg g (weigh g : Int) W4 (Kd.R_reads' (Kd.R_below G3.out hbr)).2.2 (Kd.R_reads' G3.out).2.1 (hkw kw (Nat.le_refl _))
          have HWW := Lib.hid hww
          have hbw := bwords_any (B3.out.below hbr)
          have HBW := Lib.hid hbw
          have HEND := Lib.hid (fun (w8 w9 : World) (h8 : Below W4.heap.size W4 w8) (h9 : Below w8.heap.size w8 w9) => HB2.out.trans ((((M3.out.trans' (Moves.of_below hbr)).trans' (Moves.of_below h8)).trans' (Moves.of_below h9)).toBelow (fun k hk => KW.out k hk) HB2.out.size))
          clear hkw hww hbw hbr
          go_wp2_with (first
            | (go_at_call 13; refine HBW.out.mono ?_; rintro e w7 ⟨rfl, rfl⟩)
            | (go_at_call 14; refine HWW.out.mono ?_; rintro e w8 ⟨rfl, hb8⟩)
            | (go_at_call 15; refine (lives_any _).mono ?_; rintro e w9 ⟨rfl, hb9⟩))
          go_ret
          exact ⟨rfl, HEND.out _ _ hb8 hb9⟩
end Go.Proofs.YteidebllianiiaaGreatDoor
