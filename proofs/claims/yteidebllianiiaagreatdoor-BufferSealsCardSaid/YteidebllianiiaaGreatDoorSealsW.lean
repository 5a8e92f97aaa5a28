/- BufferSeals, walked. Condition: none but what every input has. -/
import Derived.Test.YteidebllianiiaaGreatDoorBun1
set_option linter.unusedVariables false
set_option linter.unusedSimpArgs false
namespace Go.Proofs.YteidebllianiiaaGreatDoor
open Go.RowKit Go.Proofs.YteidebllianiiaaGreatDoor.PAll Go.Proofs.YteidebllianiiaaGreatDoorW.PrintWords Go.Proofs.YteidebllianiiaaGreatDoorW.PrintLast Go.Proofs.YteidebllianiiaaGreatDoorW.PrintMore

theorem add_made {K : Nat → Prop} {b : Nat} {X : List Ent} {last : Int} {W : World} {n : Nat} {c : Nat} {A : Option Addr} {g : List Ent} (hB : Buf K b X last W) (hG : Kd.R k33 33 W 0 K (.slice A n c) g) (hf : ∀ e ∈ g, Fit9 e) (i : Nat) (hi : i < g.length) (hX : X.length < 1000)
    (hq : -9223372036854775808 ≤ g[i].f1 ∧ g[i].f1 ≤ 9223372036854775807) :
    ∃ (ad : Addr) (A1 : Option Addr) (c1 : Nat), A = some ad ∧ W.cell? (ad.add (i * 3)) = some (.int .i64 g[i].f0.f0) ∧ W.cell? ⟨(ad.add (i * 3)).block, (ad.add (i * 3)).off + 1, none⟩ = some (.slice A1 g[i].f0.f1.length c1) ∧ W.cell? ⟨(ad.add (i * 3)).block, (ad.add (i * 3)).off + 2, none⟩ = some (.int .i64 g[i].f1) ∧
      ∀ R, addB X last g[i] 0 = R → Calls Tryz.prog 9 #[.pointer (some ⟨b, 0, none⟩), .agg #[.int .i64 g[i].f0.f0, .slice A1 g[i].f0.f1.length c1, .int .i64 g[i].f1]] W fun e w' => e = .returned (.int .i64 R.1) ∧ Buf K b R.2.1 R.2.2 w' ∧ Moves (fun k => ¬ K k) W w' := by
  obtain ⟨ad, A1, c1, e, k0, k1, k2, k3⟩ := ent_at hG i hi
  refine ⟨ad, A1, c1, e, k0, k1, k2, fun R hR => ?_⟩
  have hfi := hf _ (List.getElem_mem hi)
  have hF := Kd.R_F k3
  exact add_any K b X last g[i].f0.f0 g[i].f1 A1 c1 g[i].f0.f1 W hB hF (Kd.R_reads' k3).2.1 hfi.short.docOk (fun f hf => by have := (hfi.short.2 f hf).1; omega) (fun _ => hfi.okE) hX hq R (by rw [hfi.may]; exact hR)
/-- A row in kept blocks, over what moves none of these. -/
theorem Moves.row {K : Nat → Prop} {W W' : World} (h : Moves (fun k => ¬ K k) W W') {α : Type} {d : Kd α} {e base : Nat} {v : Value} {xs : List α} (hR : Kd.R d e W base K v xs) : Kd.R d e W' base K v xs :=
  Kd.R_step hR (fun k hk hlt => h.block k hlt (fun z => z hk))
theorem keys_nil {X : List ByteArray} (h : IsKeys (posts []) X) : X = [] := by
  cases X with
  | nil => rfl
  | cons x X => exact ((h.2 x).1 List.mem_cons_self rfl).elim
theorem made_seq {src : List S31} {start step : Int} {most : Nat} {g : List Ent} (hM : Made src start step most g) (h0 : 0 ≤ start ∧ start ≤ 100 ∧ 0 ≤ step ∧ step ≤ 100) (hl : g.length ≤ 100) (i : Nat) (hi : i < g.length) : g[i].f1 = start + step * (i : Int) ∧ 0 ≤ g[i].f1 ∧ g[i].f1 ≤ 10200 := by
  have h := hM.seq i hi
  have hb : 0 ≤ step * (i : Int) ∧ step * (i : Int) ≤ 100 * 100 := ⟨Int.mul_nonneg h0.2.2.1 (by omega), Int.mul_le_mul h0.2.2.2 (by omega) (by omega) (by omega)⟩
  exact ⟨h, by omega, by omega⟩
/-- An entry that is taken. -/
theorem add_ok {K : Nat → Prop} {b : Nat} {X : List Ent} {last : Int} {W : World} {n : Nat} {c : Nat} {A : Option Addr} {g : List Ent} (hB : Buf K b X last W) (hG : Kd.R k33 33 W 0 K (.slice A n c) g) (hf : ∀ e ∈ g, Fit9 e) (i : Nat) (hi : i < g.length) (hX : X.length < 1000)
    (hq : 0 ≤ g[i].f1 ∧ g[i].f1 ≤ 10200) (hlt : last < g[i].f1) :
    ∃ (ad : Addr) (A1 : Option Addr) (c1 : Nat), A = some ad ∧ W.cell? (ad.add (i * 3)) = some (.int .i64 g[i].f0.f0) ∧ W.cell? ⟨(ad.add (i * 3)).block, (ad.add (i * 3)).off + 1, none⟩ = some (.slice A1 g[i].f0.f1.length c1) ∧ W.cell? ⟨(ad.add (i * 3)).block, (ad.add (i * 3)).off + 2, none⟩ = some (.int .i64 g[i].f1) ∧
      Calls Tryz.prog 9 #[.pointer (some ⟨b, 0, none⟩), .agg #[.int .i64 g[i].f0.f0, .slice A1 g[i].f0.f1.length c1, .int .i64 g[i].f1]] W fun e w' => e = .returned (.int .i64 0) ∧ Buf K b (X ++ [g[i]]) g[i].f1 w' ∧ Moves (fun k => ¬ K k) W w' := by
  obtain ⟨ad, A1, c1, e, k0, k1, k2, h⟩ := add_made hB hG hf i hi hX (by omega)
  exact ⟨ad, A1, c1, e, k0, k1, k2, h (0, X ++ [g[i]], g[i].f1) (by unfold addB; rw [if_pos rfl, if_neg (by omega)])⟩
/-- An entry that comes too late. -/
theorem add_no {K : Nat → Prop} {b : Nat} {X : List Ent} {last : Int} {W : World} {n : Nat} {c : Nat} {A : Option Addr} {g : List Ent} (hB : Buf K b X last W) (hG : Kd.R k33 33 W 0 K (.slice A n c) g) (hf : ∀ e ∈ g, Fit9 e) (i : Nat) (hi : i < g.length) (hX : X.length < 1000)
    (hq : 0 ≤ g[i].f1 ∧ g[i].f1 ≤ 10200) (hle : g[i].f1 ≤ last) :
    ∃ (ad : Addr) (A1 : Option Addr) (c1 : Nat), A = some ad ∧ W.cell? (ad.add (i * 3)) = some (.int .i64 g[i].f0.f0) ∧ W.cell? ⟨(ad.add (i * 3)).block, (ad.add (i * 3)).off + 1, none⟩ = some (.slice A1 g[i].f0.f1.length c1) ∧ W.cell? ⟨(ad.add (i * 3)).block, (ad.add (i * 3)).off + 2, none⟩ = some (.int .i64 g[i].f1) ∧
      Calls Tryz.prog 9 #[.pointer (some ⟨b, 0, none⟩), .agg #[.int .i64 g[i].f0.f0, .slice A1 g[i].f0.f1.length c1, .int .i64 g[i].f1]] W fun e w' => e = .returned (.int .i64 12) ∧ Buf K b X last w' ∧ Moves (fun k => ¬ K k) W w' := by
  obtain ⟨ad, A1, c1, e, k0, k1, k2, h⟩ := add_made hB hG hf i hi hX (by omega)
  exact ⟨ad, A1, c1, e, k0, k1, k2, h (12, X, last) (by unfold addB; rw [if_pos rfl, if_pos hle])⟩
/-- The last number behind some entries, each with its number, from a number on. -/
def lastA (start step : Int) (i : Nat) : Int := if i = 0 then -1 else start + step * ((i : Int) - 1)
theorem lastA_lt {start step : Int} (h0 : 0 ≤ start ∧ 1 ≤ step) (i : Nat) : lastA start step i < start + step * (i : Int) := by
  unfold lastA
  split
  · rename_i h; subst h; simp; omega
  · have : step * (i : Int) = step * ((i : Int) - 1) + step := by rw [Int.mul_sub]; omega
    omega
theorem lastA_succ (start step : Int) (i : Nat) : lastA start step (i + 1) = start + step * (i : Int) := by
  unfold lastA
  rw [if_neg (by omega)]
  have : (((i + 1 : Nat) : Int) - 1) = (i : Int) := by omega
  rw [this]
def SealR26.T : Bool × List (List Nat × List Nat) := (true, [([], []), ([], []), ([], []), ([1, 2], [1, 2]), ([0, 3], [0, 3]), ([4, 4], [4]), ([5], [5]), ([6, 5, 5], [5, 6]), ([5], [5]), ([5], [5]), ([8, 9, 5], [5, 8, 9]), ([7, 10, 7, 5], [5, 7, 10]), ([5, 11], [5, 11]), ([12, 11], [12]), ([13, 13], [13]), ([13, 14], [13, 14]), ([15, 14, 0, 1, 2, 3, 4, 5, 6, 7, 8, 9, 10, 11, 12, 13, 14, 15], [15])])
def SealR26.B : List Nat := [0, 0, 0, 6, 15, 31, 63, 127, 63, 63, 831, 2047, 4095, 8191, 16383, 32767, 65535]
theorem SealR26.tab : rtab .any (opsOf Tryz.f4 26) = SealR26.T := by kernel_rfl
theorem SealR26.bits : waitsOk SealR26.T.2 SealR26.B = true := by kernel_rfl
set_option maxHeartbeats 2000000 in
set_option maxRecDepth 100000 in
theorem seals_any (A0 : Option Addr) (c0 : Nat) (src : List S31) (at_ : Int) (w : World) (hr0 : Kd.C k31 w A0 src.length src) (hc0 : src.length ≤ c0) (hl : src.length ≤ 9223372036854775807) (hd : ∀ q ∈ src, q.f1.length ≤ 9223372036854775807 ∧ ∀ f ∈ q.f1, f.f0.size ≤ 9223372036854775807) (hat : -9223372036854775808 ≤ at_ ∧ at_ ≤ 9223372036854775807) :
    Calls Tryz.prog 4 #[.slice A0 src.length c0, .int .i64 at_] w fun e w' => e = .returned (.bool true) ∧ Below w.heap.size w w' := by
  obtain ⟨g, hg, hM⟩ := good9_ev src 1 2 8 (by omega) (by omega) hl hd
  obtain ⟨kg, hkg⟩ := hg
  have hgood := fun w1 : World => fun h1 : Kd.C k31 w1 A0 src.length src => concordanceref09_Good.calls kg A0 c0 src 8 1 2 g w1 h1 hc0 (hkg kg (Nat.le_refl _))
  have HGOOD := Lib.hid hgood
  have HM := Lib.hid hM
  have HR0 := Lib.hid hr0
  have HAT := Lib.hid hat
  clear hgood hM hr0 hkg hl hd hc0 hat
  go_enter Tryz.func4, Tryz.ntmps4
  go_upto_region 2 with (go_at_call 7; refine (bnew_any _).mono ?_; rintro e w1 ⟨b, rfl, hB, hb1⟩)
  have HB1 := Lib.hid hb1
  have BB := Lib.hid hB
  clear hB hb1
  go_upto_region 5 with (go_at_call 8; refine (HGOOD.out w1 (Kd.C_below HR0.out HB1.out)).mono ?_; rintro e w2 ⟨gv, rfl, hgv, hb2⟩; obtain ⟨Ag, cg, rfl⟩ := Kd.R_slice (Kd.S_R hgv))
  obtain ⟨K1, hK1⟩ : ∃ K1, K1 = Also (fun k => k < w.heap.size) w1 w2 := ⟨_, rfl⟩
  have hG0 : Kd.R k33 33 w2 0 K1 (.slice Ag g.length cg) g := Kd.R_lower (Kd.R_mono (Kd.R_bound (Kd.S_R hgv)) (fun k hk => by rw [hK1]; exact .inr ⟨hk.2.1, hk.2.2.1⟩)) (Nat.zero_le _)
  have hB2 : Buf K1 b [] (-1) w2 := by rw [hK1]; exact BB.out.also hb2
  have hKw : ∀ k, k < w.heap.size → K1 k := fun k hk => by rw [hK1]; exact .inl hk
  have G2 := Lib.hid hG0
  have B2 := Lib.hid hB2
  have KW := Lib.hid hKw
  have HB2 := Lib.hid (HB1.out.trans (hb2.mono HB1.out.size))
  have hgl : g.length ≤ 8 := by rw [HM.out.len]; omega
  clear hK1 hG0 hB2 hKw hgv hb2 BB HB1 HGOOD HR0
  obtain ⟨a0, ha0⟩ : ∃ a0 : Nat, (a0 : Int) = if at_ < 0 then -(at_ + 1) else at_ := ⟨(if at_ < 0 then -(at_ + 1) else at_).toNat, by split <;> omega⟩
  have hab : (a0 : Int) ≤ 9223372036854775807 := by have := HAT.out; rw [ha0]; split <;> omega
  have HA0 := Lib.hid ha0
  have HAB := Lib.hid hab
  clear ha0 hab
  go_upto_if 17 with fail
  go_cut [1] (fun v1 wx => v1 = .int .i64 (a0 : Int) ∧ wx = w2)
  case first =>
    have hv := HA0.out
    have hr := HAT.out
    by_cases h1 : at_ < 0
    · rw [if_pos h1] at hv
      have hd2 : decide (at_ < 0) = true := decide_eq_true h1
      have e1 : wrap64 (at_ + 1) = at_ + 1 := wrap_small _ (by omega)
      have e2 : wrap64 (-(at_ + 1)) = (a0 : Int) := by rw [wrap_small _ (by omega), hv]
      have HV := Lib.hid hv
      clear hv
      go_wp2_with fail
      go_meet
      exact ⟨by first | rfl | rw [e2] | (rw [e1, e2]) | (rw [HV.out]), rfl⟩
    · rw [if_neg h1] at hv
      have hd2 : decide (at_ < 0) = false := decide_eq_false h1
      have HV := Lib.hid hv
      clear hv
      go_wp2_with fail
      go_meet
      exact ⟨by rw [HV.out], rfl⟩
  case rest =>
    obtain ⟨rfl, rfl⟩ := hcut
    rename World => w2
    have wl : wrap64 ((g.length : Int) + 1) = ((g.length + 1 : Nat) : Int) := wrap_nat _ (by omega)
    go_upto_region 9 with fail
    obtain ⟨T, hT⟩ : ∃ T : Nat, T = a0 % (g.length + 1) := ⟨_, rfl⟩
    have eT : (a0 : Int) % ((g.length : Int) + 1) = (T : Int) := by rw [hT]; push_cast; rfl
    have hTl : T ≤ g.length := by rw [hT]; have := Nat.mod_lt a0 (show 0 < g.length + 1 by omega); omega
    rw [eT]
    clear eT hT wl HA0 HAB
    go_loopw [7] (fun v7 wr => ∃ i : Nat, v7 = .int .i64 (i : Int) ∧ i ≤ T ∧ Buf K1 b (g.take i) (lastA 1 2 i) wr ∧ Moves (fun k => ¬ K1 k) w2 wr) (fun v7 _ => T - (intOf v7).toNat)
    case atStart => exact ⟨0, rfl, by omega, B2.out, Moves.refl _ _⟩
    case round =>
      obtain ⟨i, rfl, hi, hBr, hmr⟩ := hrel
      obtain ⟨W0, hW0⟩ : ∃ W, W = wr := ⟨_, rfl⟩
      rw [← hW0] at hBr hmr ⊢
      clear hW0 wr
      by_cases hlt : i < T
      · have d1 : decide ((i : Int) < (T : Int)) = true := decide_eq_true (by omega)
        have g0 : decide ((0 : Int) ≤ (i : Int)) = true := decide_eq_true (by omega)
        have g1 : decide ((i : Int) < (g.length : Int)) = true := decide_eq_true (by omega)
        have hsq := made_seq HM.out (by omega) (by omega) i (by omega)
        have htl : (g.take i).length < 1000 := by rw [List.length_take]; omega
        obtain ⟨ad, A1, c1, rfl, k0, k1, k2, hadd⟩ := add_ok hBr (hmr.row G2.out) HM.out.fit i (by omega) htl hsq.2 (by rw [hsq.1]; exact lastA_lt (by omega) i)
        have htk : g.take (i + 1) = g.take i ++ [g[i]] := List.take_succ_eq_append_getElem (by omega)
        obtain ⟨p, hp⟩ : ∃ p, p = g[i] := ⟨_, rfl⟩
        rw [← hp] at k0 k1 k2 htk hadd hsq
        obtain ⟨⟨pd, pp⟩, ps⟩ := p
        have HADD := Lib.hid hadd
        have HMR := Lib.hid hmr
        have HLT := Lib.hid hlt
        have HTK := Lib.hid htk
        have HSQ := Lib.hid hsq.1
        have wj : wrap64 ((i : Int) + 1) = ((i + 1 : Nat) : Int) := wrap_nat i (by omega)
        have wk : IntKind.i64.wrap ((i : Int) + 1) = ((i + 1 : Nat) : Int) := by rw [i64_w]; exact wj
        clear hadd hmr hlt htk hsq hp hBr
        go_wp2_with (go_at_call 9; refine HADD.out.mono ?_; rintro e w5 ⟨rfl, hB5, hm5⟩)
        go_roundw
        case rel =>
          have h7 := HLT.out
          refine ⟨i + 1, by first | rfl | rw [wj] | rw [wk], by omega, ?_, HMR.out.trans' hm5⟩
          rw [HTK.out, lastA_succ, ← HSQ.out]
          exact hB5
        case measure =>
          have h7 := HLT.out
          simp only [intOf]
          omega
      · obtain rfl : i = T := by omega
        have d1 : decide ((i : Int) < (i : Int)) = false := decide_eq_false (by omega)
        have BR := Lib.hid hBr
        have MR := Lib.hid hmr
        clear hBr hmr B2
        go_upto_region 14 with (go_at_call 16; refine (bseal_any BR.out).mono ?_; rintro e w5 ⟨ov, K2, rfl, hk2, hB5, hov, hm5⟩; obtain ⟨Ao, co, rfl⟩ := Kd.R_slice hov)
        clear d1
        have B5 := Lib.hid hB5
        have O5 := Lib.hid hov
        have HK2 := Lib.hid hk2
        have M5 := Lib.hid (MR.out.trans' hm5)
        have G5 := Lib.hid (Kd.R_mono ((MR.out.trans' hm5).row G2.out) hk2)
        clear hB5 hov hk2 hm5 BR MR G2
        go_upto_region 17 with (first
          | (go_at_call 17; refine (blen_any B5.out).mono ?_; rintro e w6 ⟨rfl, rfl⟩)
          | (go_at_call 18; refine (blast_any B5.out).mono ?_; rintro e w6 ⟨rfl, rfl⟩)
          | (go_at_call 13; refine (bwords_any B5.out).mono ?_; rintro e w6 ⟨rfl, rfl⟩)
          | (go_at_call 10; refine (bkeys_any B5.out).mono ?_; rintro e w6 ⟨kv, X, rfl, hkv, hX, hb6⟩; obtain rfl := keys_nil hX; obtain ⟨Ak, ck, rfl⟩ := Kd.R_slice hkv))
        have B6 := Lib.hid (B5.out.below hb6)
        have O6 := Lib.hid (Kd.R_below O5.out hb6)
        have M6 := Lib.hid (M5.out.trans' (Moves.of_below hb6))
        have G6 := Lib.hid (Kd.R_below G5.out hb6)
        clear hb6 hkv hX B5 O5 M5 G5
        go_loopw [9] (fun v9 wr => ∃ j : Nat, v9 = .int .i64 (j : Int) ∧ j ≤ i ∧ Buf K2 b [] (lastA 1 2 i) wr ∧ Moves (fun k => ¬ K2 k) w6 wr) (fun v9 _ => i - (intOf v9).toNat)
        case atStart => exact ⟨0, rfl, by omega, B6.out, Moves.refl _ _⟩
        case round =>
          obtain ⟨j, rfl, hj, hBr, hmr⟩ := hrel
          obtain ⟨W0, hW0⟩ : ∃ W, W = wr := ⟨_, rfl⟩
          rw [← hW0] at hBr hmr ⊢
          clear hW0 wr
          by_cases hlt : j < i
          · have d1 : decide ((j : Int) < (i : Int)) = true := decide_eq_true (by omega)
            have g0 : decide ((0 : Int) ≤ (j : Int)) = true := decide_eq_true (by omega)
            have g1 : decide ((j : Int) < (g.length : Int)) = true := decide_eq_true (by omega)
            have hsq := made_seq HM.out (by omega) (by omega) j (by omega)
            obtain ⟨ad, A1, c1, rfl, k0, k1, k2, hadd⟩ := add_no hBr (hmr.row G6.out) HM.out.fit j (by omega) (by simp) hsq.2 (by rw [hsq.1]; unfold lastA; rw [if_neg (by omega)]; omega)
            obtain ⟨p, hp⟩ : ∃ p, p = g[j] := ⟨_, rfl⟩
            rw [← hp] at k0 k1 k2 hadd
            obtain ⟨⟨pd, pp⟩, ps⟩ := p
            have HADD := Lib.hid hadd
            have HMR := Lib.hid hmr
            have HLT := Lib.hid hlt
            have wj : wrap64 ((j : Int) + 1) = ((j + 1 : Nat) : Int) := wrap_nat j (by omega)
            have wk : IntKind.i64.wrap ((j : Int) + 1) = ((j + 1 : Nat) : Int) := by rw [i64_w]; exact wj
            clear hadd hmr hlt hsq hp hBr
            go_wp2_with (go_at_call 9; refine HADD.out.mono ?_; rintro e w7 ⟨rfl, hB7, hm7⟩)
            go_roundw
            case rel =>
              have h7 := HLT.out
              exact ⟨j + 1, by first | rfl | rw [wj] | rw [wk], by omega, hB7, HMR.out.trans' hm7⟩
            case measure =>
              have h7 := HLT.out
              simp only [intOf]
              omega
          · obtain rfl : j = i := by omega
            have d1 : decide ((j : Int) < (j : Int)) = false := decide_eq_false (by omega)
            have B8 := Lib.hid hBr
            have O8 := Lib.hid (hmr.row O6.out)
            have M8 := Lib.hid (M6.out.trans' (hmr.less (fun k q z => q (HK2.out k z))))
            have G8 := Lib.hid (hmr.row G6.out)
            clear hBr hmr B6 O6 M6 G6
            go_upto_region 22 with fail
            clear d1
            go_loopw [10] (fun v10 wr => ∃ q : Nat, v10 = .int .i64 (q : Int) ∧ j ≤ q ∧ q ≤ g.length ∧ Buf K2 b ((g.drop j).take (q - j)) (lastA 1 2 q) wr ∧ Moves (fun k => ¬ K2 k) W0 wr) (fun v10 _ => g.length - (intOf v10).toNat)
            case atStart => exact ⟨j, rfl, by omega, by omega, by rw [Nat.sub_self]; exact B8.out, Moves.refl _ _⟩
            case round =>
              obtain ⟨q, rfl, hjq, hq, hBr, hmr⟩ := hrel
              obtain ⟨W3, hW3⟩ : ∃ W, W = wr := ⟨_, rfl⟩
              rw [← hW3] at hBr hmr ⊢
              clear hW3 wr
              by_cases hlt : q < g.length
              · have d1 : decide ((q : Int) < (g.length : Int)) = true := decide_eq_true (by omega)
                have g0 : decide ((0 : Int) ≤ (q : Int)) = true := decide_eq_true (by omega)
                have hsq := made_seq HM.out (by omega) (by omega) q (by omega)
                have htl : ((g.drop j).take (q - j)).length < 1000 := by rw [List.length_take, List.length_drop]; omega
                obtain ⟨ad, A1, c1, rfl, k0, k1, k2, hadd⟩ := add_ok hBr (hmr.row G8.out) HM.out.fit q (by omega) htl hsq.2 (by rw [hsq.1]; exact lastA_lt (by omega) q)
                have htk : (g.drop j).take (q + 1 - j) = (g.drop j).take (q - j) ++ [g[q]] := by
                  have e1 : q + 1 - j = (q - j) + 1 := by omega
                  have h0 : q - j < (g.drop j).length := by rw [List.length_drop]; omega
                  rw [e1, List.take_succ_eq_append_getElem h0, List.getElem_drop]
                  congr 2
                  congr 1
                  omega
                obtain ⟨p, hp⟩ : ∃ p, p = g[q] := ⟨_, rfl⟩
                rw [← hp] at k0 k1 k2 htk hadd hsq
                obtain ⟨⟨pd, pp⟩, ps⟩ := p
                have HADD := Lib.hid hadd
                have HMR := Lib.hid hmr
                have HLT := Lib.hid hlt
                have HTK := Lib.hid htk
                have HSQ := Lib.hid hsq.1
                have wj : wrap64 ((q : Int) + 1) = ((q + 1 : Nat) : Int) := wrap_nat q (by omega)
                have wk : IntKind.i64.wrap ((q : Int) + 1) = ((q + 1 : Nat) : Int) := by rw [i64_w]; exact wj
                clear hadd hmr hlt htk hsq hp hBr htl
                go_wp2_with (go_at_call 9; refine HADD.out.mono ?_; rintro e w7 ⟨rfl, hB7, hm7⟩)
                go_roundw
                case rel =>
                  have h7 := HLT.out
                  refine ⟨q + 1, by first | rfl | rw [wj] | rw [wk], by omega, by omega, ?_, HMR.out.trans' hm7⟩
                  rw [HTK.out, lastA_succ, ← HSQ.out]
                  exact hB7
                case measure =>
                  have h7 := HLT.out
                  simp only [intOf]
                  omega
              · obtain rfl : q = g.length := by omega
                have d1 : decide ((g.length : Int) < (g.length : Int)) = false := decide_eq_false (by omega)
                have htk : (g.drop j).take (g.length - j) = g.drop j := List.take_of_length_le (by rw [List.length_drop]; omega)
                rw [htk] at hBr
                have B9 := Lib.hid hBr
                have O9 := Lib.hid (hmr.row O8.out)
                have M9 := Lib.hid (M8.out.trans' (hmr.less (fun k q z => q (HK2.out k z))))
                have G9 := Lib.hid (hmr.row G8.out)
                clear hBr hmr B8 O8 M8 G8 htk
                go_upto_region 26 with fail
                have hlen : (g.take j).length = j := by rw [List.length_take]; omega
                have hld : (g.drop j).length = g.length - j := List.length_drop
                obtain ⟨k1, hk1⟩ := same9_ev (g.take j) (by omega) (fun e he => by have := (HM.out.fit e (List.mem_of_mem_take he)).short.1; omega)
                obtain ⟨k2, hk2⟩ := same9_ev (g.drop j) (by omega) (fun e he => by have := (HM.out.fit e (List.mem_of_mem_drop he)).short.1; omega)
                have hcg := (Kd.R_reads' G9.out).2.1
                have hs1 := concordanceref09_Same.calls k1 Ao co (g.take j) Ag cg (g.take j) true W3.drew (Kd.C_drew (Kd.R_reads' O9.out).2.2) (Kd.R_reads' O9.out).2.1 (Kd.C_drew (Kd.C_take (Kd.R_reads' G9.out).2.2 (by omega))) (by omega) (hk1 k1 (Nat.le_refl _))
                rw [hlen] at hs1
                have HS1 := Lib.hid hs1
                have HK := Lib.hid (hk2 k2 (Nat.le_refl _))
                have hcast : ((g.length : Int) - (j : Int)).toNat = g.length - j := by omega
                clear hs1 hk1 hk2
                have B10 := Lib.hid (B9.out.step (W' := W3.drew) (Nat.le_refl _) (fun _ _ _ => rfl))
                have G10 := Lib.hid (show Kd.R k33 33 W3.drew 0 K2 (.slice Ag g.length cg) g from G9.out)
                have M10 := Lib.hid (M9.out.trans' (Moves.of_below (below_drew1 (Below.refl _ _))))
                have HS2 := Lib.hid (fun (w6 : World) (A6 : Option Addr) (q6 : Nat) (K3 : Nat → Prop) (h6 : Kd.R k33 33 w6 0 K3 (.slice A6 (g.drop j).length q6) (g.drop j)) (h7 : Kd.R k33 33 w6 0 K2 (.slice Ag g.length cg) g) => concordanceref09_Same.calls k2 A6 q6 (g.drop j) (if cg = j then Ag else Ag.map (·.add (j * 3))) (cg - j) (g.drop j) true w6 (Kd.R_reads' h6).2.2 (Kd.R_reads' h6).2.1 (Kd.C_drop (Kd.R_reads' h7).2.2 (by omega) hcg) (by rw [hld]; omega) HK.out)
                have gj : decide ((j : Int) ≤ (g.length : Int)) = true := decide_eq_true (by omega)
                have gj2 : decide ((0 : Int) ≤ (j : Int)) = true := decide_eq_true (by omega)
                have gj3 : decide ((j : Int) ≤ (cg : Int)) = true := decide_eq_true (by omega)
                have gj4 : (j : Int) ≤ (cg : Int) := by omega
                have gj5 : ¬ ((cg : Int) < (j : Int)) := by omega
                have gj6 : (j : Int) ≤ (g.length : Int) := by omega
                have gj7 : j ≤ g.length := by omega
                have gj8 : j ≤ cg := by omega
                have ends : ∀ (w5 w6 w7 w8 : World), Below W3.drew.heap.size W3.drew w5 → Moves (fun k => ¬ K2 k) w5 w6 → Below w6.heap.size w6 w7 → Below w7.heap.size w7 w8 → Below w.heap.size w w8 := by
                  intro w5 w6 w7 w8 h5 h6 h7 h8
                  have m1 : Moves (fun k => ¬ K1 k) w2 w8 := (((M10.out.trans' (Moves.of_below h5)).trans' (h6.less (fun k q z => q (HK2.out k z)))).trans' (Moves.of_below h7)).trans' (Moves.of_below h8)
                  exact HB2.out.trans (m1.toBelow (fun k hk => KW.out k hk) HB2.out.size)
                have ENDS := Lib.hid ends
                clear ends B9 G9 M9 O9 HK
                by_cases hcj : cg = j
                · subst hcj
                  refine start_ (n := 17) (S := fun w' => (True)) (ds := []) #[false, false, false, false, false, false, false, false, false, false, false, false, false, false, false, false, false] (by kernel_rfl) rfl rfl trivial (fun hHeld => ?_); refine with_tabW SealR26.tab SealR26.bits (fun HT_ HW_ => ?_)
                  refine pure_ (i := 0) (N := some 85) (v := ?_) (a' := ?_) #[true, false, false, false, false, false, false, false, false, false, false, false, false, false, false, false, false] rfl rfl (any_of HT_.out (by kernel_rfl)) (fun _ _ _ h => h) (Or.inl ⟨by rfl, ?_⟩) ?_ ?_
                  rotate_left
                  · intro w'
                    go_simp
                    with_reducible rfl
                  rotate_left
                  · simp only [Act.put, List.setIfInBounds_toArray, List.set_cons_zero, List.set_cons_succ, i64_w, i32_w]
                    rfl
                  refine pure_ (i := 1) (N := some 86) (v := ?_) (a' := ?_) #[true, true, false, false, false, false, false, false, false, false, false, false, false, false, false, false, false] rfl rfl (any_of HT_.out (by kernel_rfl)) (fun _ _ _ h => h) (Or.inl ⟨by rfl, ?_⟩) ?_ ?_
                  rotate_left
                  · intro w'
                    go_simp
                    with_reducible rfl
                  rotate_left
                  · simp only [Act.put, List.setIfInBounds_toArray, List.set_cons_zero, List.set_cons_succ, i64_w, i32_w]
                    rfl
                  refine pure_ (i := 2) (N := some 87) (v := ?_) (a' := ?_) #[true, true, true, false, false, false, false, false, false, false, false, false, false, false, false, false, false] rfl rfl (any_of HT_.out (by kernel_rfl)) (fun _ _ _ h => h) (Or.inl ⟨by rfl, ?_⟩) ?_ ?_
                  rotate_left
                  · intro w'
                    go_simp
                    with_reducible rfl
                  rotate_left
                  · simp only [Act.put, List.setIfInBounds_toArray, List.set_cons_zero, List.set_cons_succ, i64_w, i32_w]
                    rfl
                  refine pure_ (i := 3) (N := some 88) (v := ?_) (a' := ?_) #[true, true, true, true, false, false, false, false, false, false, false, false, false, false, false, false, false] rfl rfl (any_of HT_.out (by kernel_rfl)) (fun _ _ _ h => h) (Or.inl ⟨by rfl, ?_⟩) ?_ ?_
                  rotate_left
                  · intro w'
                    go_simp
                    with_reducible rfl
                  rotate_left
                  · simp only [Act.put, List.setIfInBounds_toArray, List.set_cons_zero, List.set_cons_succ, i64_w, i32_w]
                    rfl
                  refine one_ (i := 4) (N := some 89) #[true, true, true, true, true, false, false, false, false, false, false, false, false, false, false, false, false] rfl rfl (one_of HT_.out (by kernel_rfl)) (by decide) (fun KK hKK => ?_)
                  refine goes_ Tryz.func19 (by kernel_rfl) rfl #[.slice Ao cg co, .slice Ag cg cg] (by rfl) rfl rfl (by (try simp only [List.map_toArray, List.map_cons, List.map_nil]); first | done | rfl) ?_
                  with_reducible refine HS1.out.mono ?_
                  rintro e w5 ⟨rfl, hb5⟩
                  refine ⟨_, rfl, ?_⟩
                  refine hKK.out _ _ trivial (fun hHeld => ?_)
                  clear hKK KK
                  refine norm_ (a' := ?_) ?_ ?_
                  rotate_left
                  · show Act.put _ (some 89) _ = _
                    simp only [Act.put, List.setIfInBounds_toArray, List.set_cons_zero, List.set_cons_succ, i64_w, i32_w]
                    rfl
                  refine pure_ (i := 5) (N := some 90) (v := ?_) (a' := ?_) #[true, true, true, true, true, true, false, false, false, false, false, false, false, false, false, false, false] rfl rfl (any_of HT_.out (by kernel_rfl)) (fun _ _ _ h => h) (Or.inl ⟨by rfl, ?_⟩) ?_ ?_
                  rotate_left
                  · intro w'
                    go_simp
                    with_reducible rfl
                  rotate_left
                  · simp only [Act.put, List.setIfInBounds_toArray, List.set_cons_zero, List.set_cons_succ, i64_w, i32_w]
                    rfl
                  refine pure_ (i := 6) (N := some 91) (v := ?_) (a' := ?_) #[true, true, true, true, true, true, true, false, false, false, false, false, false, false, false, false, false] rfl rfl (any_of HT_.out (by kernel_rfl)) (fun _ _ _ h => h) (Or.inl ⟨by rfl, ?_⟩) ?_ ?_
                  rotate_left
                  · intro w'
                    go_simp
                    with_reducible rfl
                  rotate_left
                  · simp only [Act.put, List.setIfInBounds_toArray, List.set_cons_zero, List.set_cons_succ, i64_w, i32_w]
                    rfl
                  refine pure_ (i := 8) (N := some 93) (v := ?_) (a' := ?_) #[true, true, true, true, true, true, true, false, true, false, false, false, false, false, false, false, false] rfl rfl (any_of HT_.out (by kernel_rfl)) (fun _ _ _ h => h) (Or.inl ⟨by rfl, ?_⟩) ?_ ?_
                  rotate_left
                  · intro w'
                    go_simp
                    with_reducible rfl
                  rotate_left
                  · simp only [Act.put, List.setIfInBounds_toArray, List.set_cons_zero, List.set_cons_succ, i64_w, i32_w]
                    rfl
                  refine pure_ (i := 9) (N := some 94) (v := ?_) (a' := ?_) #[true, true, true, true, true, true, true, false, true, true, false, false, false, false, false, false, false] rfl rfl (any_of HT_.out (by kernel_rfl)) (fun _ _ _ h => h) (Or.inl ⟨by rfl, ?_⟩) ?_ ?_
                  rotate_left
                  · intro w'
                    go_simp
                    with_reducible rfl
                  rotate_left
                  · simp only [Act.put, List.setIfInBounds_toArray, List.set_cons_zero, List.set_cons_succ, i64_w, i32_w]
                    rfl
                  refine pure_ (i := 10) (N := some 95) (v := ?_) (a' := ?_) #[true, true, true, true, true, true, true, false, true, true, true, false, false, false, false, false, false] rfl rfl (any_of HT_.out (by kernel_rfl)) (fun _ _ _ h => h) (Or.inl ⟨by rfl, ?_⟩) ?_ ?_
                  rotate_left
                  · intro w'
                    go_simp
                    with_reducible rfl
                  rotate_left
                  · simp only [Act.put, List.setIfInBounds_toArray, List.set_cons_zero, List.set_cons_succ, i64_w, i32_w]
                    rfl
                  refine one_ (i := 7) (N := some 92) #[true, true, true, true, true, true, true, true, true, true, true, false, false, false, false, false, false] rfl rfl (one_of HT_.out (by kernel_rfl)) (by decide) (fun KK hKK => ?_)
                  refine goes_ Tryz.func16 (by kernel_rfl) rfl #[.pointer (some ⟨b, 0, none⟩)] (by rfl) rfl rfl (by (try simp only [List.map_toArray, List.map_cons, List.map_nil]); first | done | rfl) ?_
                  with_reducible refine (bseal_any (B10.out.below hb5)).mono ?_
                  rintro e w6 ⟨v6, K3, rfl, hk6, hB6, hov6, hm6⟩
                  refine ⟨_, rfl, ?_⟩
                  obtain ⟨A6, q6, rfl⟩ := Kd.R_slice hov6
                  have hs2 := HS2.out w6 A6 q6 K3 hov6 (hm6.row (Kd.R_below G10.out hb5))
                  have h00 : g.length - cg = 0 := by omega
                  rw [if_pos rfl, hld, Nat.sub_self, h00] at hs2
                  rw [hld, h00]
                  refine hKK.out _ _ trivial (fun hHeld => ?_)
                  clear hKK KK
                  refine norm_ (a' := ?_) ?_ ?_
                  rotate_left
                  · show Act.put _ (some 92) _ = _
                    simp only [Act.put, List.setIfInBounds_toArray, List.set_cons_zero, List.set_cons_succ, i64_w, i32_w]
                    rfl
                  refine one_ (i := 11) (N := some 96) #[true, true, true, true, true, true, true, true, true, true, true, true, false, false, false, false, false] rfl rfl (one_of HT_.out (by kernel_rfl)) (by decide) (fun KK hKK => ?_)
                  refine goes_ Tryz.func19 (by kernel_rfl) rfl #[.slice A6 0 q6, .slice Ag 0 0] (by rfl) rfl rfl (by (try simp only [List.map_toArray, List.map_cons, List.map_nil]); first | done | rfl) ?_
                  with_reducible refine hs2.mono ?_
                  rintro e w7 ⟨rfl, hb7⟩
                  refine ⟨_, rfl, ?_⟩
                  refine hKK.out _ _ trivial (fun hHeld => ?_)
                  clear hKK KK
                  refine norm_ (a' := ?_) ?_ ?_
                  rotate_left
                  · show Act.put _ (some 96) _ = _
                    simp only [Act.put, List.setIfInBounds_toArray, List.set_cons_zero, List.set_cons_succ, i64_w, i32_w]
                    rfl
                  refine pure_ (i := 12) (N := some 97) (v := ?_) (a' := ?_) #[true, true, true, true, true, true, true, true, true, true, true, true, true, false, false, false, false] rfl rfl (any_of HT_.out (by kernel_rfl)) (fun _ _ _ h => h) (Or.inl ⟨by rfl, ?_⟩) ?_ ?_
                  rotate_left
                  · intro w'
                    go_simp
                    with_reducible rfl
                  rotate_left
                  · simp only [Act.put, List.setIfInBounds_toArray, List.set_cons_zero, List.set_cons_succ, i64_w, i32_w]
                    rfl
                  refine pure_ (i := 13) (N := some 98) (v := ?_) (a' := ?_) #[true, true, true, true, true, true, true, true, true, true, true, true, true, true, false, false, false] rfl rfl (any_of HT_.out (by kernel_rfl)) (fun _ _ _ h => h) (Or.inl ⟨by rfl, ?_⟩) ?_ ?_
                  rotate_left
                  · intro w'
                    go_simp
                    with_reducible rfl
                  rotate_left
                  · simp only [Act.put, List.setIfInBounds_toArray, List.set_cons_zero, List.set_cons_succ, i64_w, i32_w]
                    rfl
                  refine one_ (i := 14) (N := some 99) #[true, true, true, true, true, true, true, true, true, true, true, true, true, true, true, false, false] rfl rfl (one_of HT_.out (by kernel_rfl)) (by decide) (fun KK hKK => ?_)
                  refine goes_ Tryz.func15 (by kernel_rfl) rfl #[] (by rfl) rfl rfl (by (try simp only [List.map_toArray, List.map_cons, List.map_nil]); first | done | rfl) ?_
                  with_reducible refine (lives_any _).mono ?_
                  rintro e w8 ⟨rfl, hb8⟩
                  refine ⟨_, rfl, ?_⟩
                  refine hKK.out _ _ trivial (fun hHeld => ?_)
                  clear hKK KK
                  refine norm_ (a' := ?_) ?_ ?_
                  rotate_left
                  · show Act.put _ (some 99) _ = _
                    simp only [Act.put, List.setIfInBounds_toArray, List.set_cons_zero, List.set_cons_succ, i64_w, i32_w]
                    rfl
                  refine pure_ (i := 15) (N := some 100) (v := ?_) (a' := ?_) #[true, true, true, true, true, true, true, true, true, true, true, true, true, true, true, true, false] rfl rfl (any_of HT_.out (by kernel_rfl)) (fun _ _ _ h => h) (Or.inl ⟨by rfl, ?_⟩) ?_ ?_
                  rotate_left
                  · intro w'
                    go_simp
                    with_reducible rfl
                  rotate_left
                  · simp only [Act.put, List.setIfInBounds_toArray, List.set_cons_zero, List.set_cons_succ, i64_w, i32_w]
                    rfl
                  refine pure_ (i := 16) (N := some 4) (v := ?_) (a' := ?_) #[true, true, true, true, true, true, true, true, true, true, true, true, true, true, true, true, true] rfl rfl (any_of HT_.out (by kernel_rfl)) (fun _ _ _ h => h) (Or.inl ⟨by rfl, ?_⟩) ?_ ?_
                  rotate_left
                  · intro w'
                    go_simp
                    with_reducible rfl
                  rotate_left
                  · simp only [Act.put, List.setIfInBounds_toArray, List.set_cons_zero, List.set_cons_succ, i64_w, i32_w]
                    rfl
                  refine done_ (done_of HT_.out (by kernel_rfl)) ?_
                  go_wp2_with fail
                  go_ret
                  exact ⟨rfl, ENDS.out _ _ _ _ hb5 hm6 hb7 hb8⟩
                · have hcj2 : ((cg : Int) = (j : Int)) = False := eq_false (by omega)
                  refine start_ (n := 17) (S := fun w' => (True)) (ds := []) #[false, false, false, false, false, false, false, false, false, false, false, false, false, false, false, false, false] (by kernel_rfl) rfl rfl trivial (fun hHeld => ?_); refine with_tabW SealR26.tab SealR26.bits (fun HT_ HW_ => ?_)
                  refine pure_ (i := 0) (N := some 85) (v := ?_) (a' := ?_) #[true, false, false, false, false, false, false, false, false, false, false, false, false, false, false, false, false] rfl rfl (any_of HT_.out (by kernel_rfl)) (fun _ _ _ h => h) (Or.inl ⟨by rfl, ?_⟩) ?_ ?_
                  rotate_left
                  · intro w'
                    go_simp
                    with_reducible rfl
                  rotate_left
                  · simp only [Act.put, List.setIfInBounds_toArray, List.set_cons_zero, List.set_cons_succ, i64_w, i32_w]
                    rfl
                  refine pure_ (i := 1) (N := some 86) (v := ?_) (a' := ?_) #[true, true, false, false, false, false, false, false, false, false, false, false, false, false, false, false, false] rfl rfl (any_of HT_.out (by kernel_rfl)) (fun _ _ _ h => h) (Or.inl ⟨by rfl, ?_⟩) ?_ ?_
                  rotate_left
                  · intro w'
                    go_simp
                    with_reducible rfl
                  rotate_left
                  · simp only [Act.put, List.setIfInBounds_toArray, List.set_cons_zero, List.set_cons_succ, i64_w, i32_w]
                    rfl
                  refine pure_ (i := 2) (N := some 87) (v := ?_) (a' := ?_) #[true, true, true, false, false, false, false, false, false, false, false, false, false, false, false, false, false] rfl rfl (any_of HT_.out (by kernel_rfl)) (fun _ _ _ h => h) (Or.inl ⟨by rfl, ?_⟩) ?_ ?_
                  rotate_left
                  · intro w'
                    go_simp
                    with_reducible rfl
                  rotate_left
                  · simp only [Act.put, List.setIfInBounds_toArray, List.set_cons_zero, List.set_cons_succ, i64_w, i32_w]
                    rfl
                  refine pure_ (i := 3) (N := some 88) (v := ?_) (a' := ?_) #[true, true, true, true, false, false, false, false, false, false, false, false, false, false, false, false, false] rfl rfl (any_of HT_.out (by kernel_rfl)) (fun _ _ _ h => h) (Or.inl ⟨by rfl, ?_⟩) ?_ ?_
                  rotate_left
                  · intro w'
                    go_simp
                    with_reducible rfl
                  rotate_left
                  · simp only [Act.put, List.setIfInBounds_toArray, List.set_cons_zero, List.set_cons_succ, i64_w, i32_w]
                    rfl
                  refine one_ (i := 4) (N := some 89) #[true, true, true, true, true, false, false, false, false, false, false, false, false, false, false, false, false] rfl rfl (one_of HT_.out (by kernel_rfl)) (by decide) (fun KK hKK => ?_)
                  refine goes_ Tryz.func19 (by kernel_rfl) rfl #[.slice Ao j co, .slice Ag j cg] (by rfl) rfl rfl (by (try simp only [List.map_toArray, List.map_cons, List.map_nil]); first | done | rfl) ?_
                  with_reducible refine HS1.out.mono ?_
                  rintro e w5 ⟨rfl, hb5⟩
                  refine ⟨_, rfl, ?_⟩
                  refine hKK.out _ _ trivial (fun hHeld => ?_)
                  clear hKK KK
                  refine norm_ (a' := ?_) ?_ ?_
                  rotate_left
                  · show Act.put _ (some 89) _ = _
                    simp only [Act.put, List.setIfInBounds_toArray, List.set_cons_zero, List.set_cons_succ, i64_w, i32_w]
                    rfl
                  refine pure_ (i := 5) (N := some 90) (v := ?_) (a' := ?_) #[true, true, true, true, true, true, false, false, false, false, false, false, false, false, false, false, false] rfl rfl (any_of HT_.out (by kernel_rfl)) (fun _ _ _ h => h) (Or.inl ⟨by rfl, ?_⟩) ?_ ?_
                  rotate_left
                  · intro w'
                    go_simp
                    with_reducible rfl
                  rotate_left
                  · simp only [Act.put, List.setIfInBounds_toArray, List.set_cons_zero, List.set_cons_succ, i64_w, i32_w]
                    rfl
                  refine pure_ (i := 6) (N := some 91) (v := ?_) (a' := ?_) #[true, true, true, true, true, true, true, false, false, false, false, false, false, false, false, false, false] rfl rfl (any_of HT_.out (by kernel_rfl)) (fun _ _ _ h => h) (Or.inl ⟨by rfl, ?_⟩) ?_ ?_
                  rotate_left
                  · intro w'
                    go_simp
                    with_reducible rfl
                  rotate_left
                  · simp only [Act.put, List.setIfInBounds_toArray, List.set_cons_zero, List.set_cons_succ, i64_w, i32_w]
                    rfl
                  refine pure_ (i := 8) (N := some 93) (v := ?_) (a' := ?_) #[true, true, true, true, true, true, true, false, true, false, false, false, false, false, false, false, false] rfl rfl (any_of HT_.out (by kernel_rfl)) (fun _ _ _ h => h) (Or.inl ⟨by rfl, ?_⟩) ?_ ?_
                  rotate_left
                  · intro w'
                    go_simp
                    with_reducible rfl
                  rotate_left
                  · simp only [Act.put, List.setIfInBounds_toArray, List.set_cons_zero, List.set_cons_succ, i64_w, i32_w]
                    rfl
                  refine pure_ (i := 9) (N := some 94) (v := ?_) (a' := ?_) #[true, true, true, true, true, true, true, false, true, true, false, false, false, false, false, false, false] rfl rfl (any_of HT_.out (by kernel_rfl)) (fun _ _ _ h => h) (Or.inl ⟨by rfl, ?_⟩) ?_ ?_
                  rotate_left
                  · intro w'
                    go_simp
                    with_reducible rfl
                  rotate_left
                  · simp only [Act.put, List.setIfInBounds_toArray, List.set_cons_zero, List.set_cons_succ, i64_w, i32_w]
                    rfl
                  refine pure_ (i := 10) (N := some 95) (v := ?_) (a' := ?_) #[true, true, true, true, true, true, true, false, true, true, true, false, false, false, false, false, false] rfl rfl (any_of HT_.out (by kernel_rfl)) (fun _ _ _ h => h) (Or.inl ⟨by rfl, ?_⟩) ?_ ?_
                  rotate_left
                  · intro w'
                    go_simp
                    with_reducible rfl
                  rotate_left
                  · simp only [Act.put, List.setIfInBounds_toArray, List.set_cons_zero, List.set_cons_succ, i64_w, i32_w]
                    rfl
                  refine one_ (i := 7) (N := some 92) #[true, true, true, true, true, true, true, true, true, true, true, false, false, false, false, false, false] rfl rfl (one_of HT_.out (by kernel_rfl)) (by decide) (fun KK hKK => ?_)
                  refine goes_ Tryz.func16 (by kernel_rfl) rfl #[.pointer (some ⟨b, 0, none⟩)] (by rfl) rfl rfl (by (try simp only [List.map_toArray, List.map_cons, List.map_nil]); first | done | rfl) ?_
                  with_reducible refine (bseal_any (B10.out.below hb5)).mono ?_
                  rintro e w6 ⟨v6, K3, rfl, hk6, hB6, hov6, hm6⟩
                  refine ⟨_, rfl, ?_⟩
                  obtain ⟨A6, q6, rfl⟩ := Kd.R_slice hov6
                  have hs2 := HS2.out w6 A6 q6 K3 hov6 (hm6.row (Kd.R_below G10.out hb5))
                  rw [if_neg hcj, hld] at hs2
                  rw [hld]
                  refine hKK.out _ _ trivial (fun hHeld => ?_)
                  clear hKK KK
                  refine norm_ (a' := ?_) ?_ ?_
                  rotate_left
                  · show Act.put _ (some 92) _ = _
                    simp only [Act.put, List.setIfInBounds_toArray, List.set_cons_zero, List.set_cons_succ, i64_w, i32_w]
                    rfl
                  refine one_ (i := 11) (N := some 96) #[true, true, true, true, true, true, true, true, true, true, true, true, false, false, false, false, false] rfl rfl (one_of HT_.out (by kernel_rfl)) (by decide) (fun KK hKK => ?_)
                  refine goes_ Tryz.func19 (by kernel_rfl) rfl #[.slice A6 (g.length - j) q6, .slice (Ag.map (·.add (j * 3))) (g.length - j) (cg - j)] (by rfl) rfl rfl (by (try simp only [List.map_toArray, List.map_cons, List.map_nil]); first | done | rfl) ?_
                  with_reducible refine hs2.mono ?_
                  rintro e w7 ⟨rfl, hb7⟩
                  refine ⟨_, rfl, ?_⟩
                  refine hKK.out _ _ trivial (fun hHeld => ?_)
                  clear hKK KK
                  refine norm_ (a' := ?_) ?_ ?_
                  rotate_left
                  · show Act.put _ (some 96) _ = _
                    simp only [Act.put, List.setIfInBounds_toArray, List.set_cons_zero, List.set_cons_succ, i64_w, i32_w]
                    rfl
                  refine pure_ (i := 12) (N := some 97) (v := ?_) (a' := ?_) #[true, true, true, true, true, true, true, true, true, true, true, true, true, false, false, false, false] rfl rfl (any_of HT_.out (by kernel_rfl)) (fun _ _ _ h => h) (Or.inl ⟨by rfl, ?_⟩) ?_ ?_
                  rotate_left
                  · intro w'
                    go_simp
                    with_reducible rfl
                  rotate_left
                  · simp only [Act.put, List.setIfInBounds_toArray, List.set_cons_zero, List.set_cons_succ, i64_w, i32_w]
                    rfl
                  refine pure_ (i := 13) (N := some 98) (v := ?_) (a' := ?_) #[true, true, true, true, true, true, true, true, true, true, true, true, true, true, false, false, false] rfl rfl (any_of HT_.out (by kernel_rfl)) (fun _ _ _ h => h) (Or.inl ⟨by rfl, ?_⟩) ?_ ?_
                  rotate_left
                  · intro w'
                    go_simp
                    with_reducible rfl
                  rotate_left
                  · simp only [Act.put, List.setIfInBounds_toArray, List.set_cons_zero, List.set_cons_succ, i64_w, i32_w]
                    rfl
                  refine one_ (i := 14) (N := some 99) #[true, true, true, true, true, true, true, true, true, true, true, true, true, true, true, false, false] rfl rfl (one_of HT_.out (by kernel_rfl)) (by decide) (fun KK hKK => ?_)
                  refine goes_ Tryz.func15 (by kernel_rfl) rfl #[] (by rfl) rfl rfl (by (try simp only [List.map_toArray, List.map_cons, List.map_nil]); first | done | rfl) ?_
                  with_reducible refine (lives_any _).mono ?_
                  rintro e w8 ⟨rfl, hb8⟩
                  refine ⟨_, rfl, ?_⟩
                  refine hKK.out _ _ trivial (fun hHeld => ?_)
                  clear hKK KK
                  refine norm_ (a' := ?_) ?_ ?_
                  rotate_left
                  · show Act.put _ (some 99) _ = _
                    simp only [Act.put, List.setIfInBounds_toArray, List.set_cons_zero, List.set_cons_succ, i64_w, i32_w]
                    rfl
                  refine pure_ (i := 15) (N := some 100) (v := ?_) (a' := ?_) #[true, true, true, true, true, true, true, true, true, true, true, true, true, true, true, true, false] rfl rfl (any_of HT_.out (by kernel_rfl)) (fun _ _ _ h => h) (Or.inl ⟨by rfl, ?_⟩) ?_ ?_
                  rotate_left
                  · intro w'
                    go_simp
                    with_reducible rfl
                  rotate_left
                  · simp only [Act.put, List.setIfInBounds_toArray, List.set_cons_zero, List.set_cons_succ, i64_w, i32_w]
                    rfl
                  refine pure_ (i := 16) (N := some 4) (v := ?_) (a' := ?_) #[true, true, true, true, true, true, true, true, true, true, true, true, true, true, true, true, true] rfl rfl (any_of HT_.out (by kernel_rfl)) (fun _ _ _ h => h) (Or.inl ⟨by rfl, ?_⟩) ?_ ?_
                  rotate_left
                  · intro w'
                    go_simp
                    with_reducible rfl
                  rotate_left
                  · simp only [Act.put, List.setIfInBounds_toArray, List.set_cons_zero, List.set_cons_succ, i64_w, i32_w]
                    rfl
                  refine done_ (done_of HT_.out (by kernel_rfl)) ?_
                  go_wp2_with fail
                  go_ret
                  exact ⟨rfl, ENDS.out _ _ _ _ hb5 hm6 hb7 hb8⟩
end Go.Proofs.YteidebllianiiaaGreatDoor
