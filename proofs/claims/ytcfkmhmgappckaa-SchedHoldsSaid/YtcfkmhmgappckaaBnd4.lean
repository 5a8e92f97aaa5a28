/- Joined: RefX, RefE, RefK, RefN, RefNW, Two, Does, LikeP. -/
import Derived.Test.YtcfkmhmgappckaaBnd3
import Derived.Test.YtcfkmhmgappckaaBnd2
import Derived.Deep.RegionWith
import Derived.Test.YtcfkmhmgappckaaBnd0
set_option linter.unusedVariables false
set_option linter.unusedSimpArgs false
/- The document's Wait and Lie at large; Ready, Pick, Stuck. No condition but on size. -/
namespace Go.Proofs.Ytcfkmhmgappckaa
open Go.RowKit Go.Proofs.Ytcfkmhmgappckaa.Sc Go.Proofs.Ytcfkmhmgappckaa.PAll Go.Proofs.YtcfkmhmgappckaaW.PrintWords Go.Proofs.YtcfkmhmgappckaaW.PrintLast Go.Proofs.YtcfkmhmgappckaaW.PrintMore

set_option maxHeartbeats 1000000 in
set_option maxRecDepth 100000 in
theorem rwait_any {w : World} {base h : Nat} {F : Nat → Prop} {S : Sd} (H : Rch w base h F S) (hb : base ≤ w.heap.size) (hk : Ok S []) (lT : S.T.length ≤ 1000) (lM : S.M.length ≤ 1000) (lR : S.R.length ≤ 1000) (t c m : Int) :
    Calls Try.prog 43 #[.pointer (some ⟨h, 0, none⟩), .int .i64 t, .int .i64 c, .int .i64 m] w fun e w' => e = .returned (.int .i64 (wait S t c m).2) ∧ NextR w base h F (wait S t c m).1 w' := by
  by_cases hE : waitE S t c m = 0
  · have hx := (first_eq _ _).1 hE
    simp only [Bool.and_eq_true] at hx
    obtain ⟨t, rfl⟩ := Int.eq_ofNat_of_zero_le ((there_iff _ _).1 hx.1.1.1).1
    obtain ⟨c, rfl⟩ := Int.eq_ofNat_of_zero_le ((there_iff _ _).1 hx.1.2).1
    refine (rwait_nat H hb hk lT lM lR t c m hE).mono (fun e w' ⟨h1, h2⟩ => ⟨?_, h2⟩)
    rw [h1]; show _ = Ending.returned (.int .i64 (waitE S t c m)); rw [hE]
  · have hmay := fun (w1 : World) (hb1 : Below w.heap.size w w1) => may_any (H.below hb1) lT lM lR t (some2 m) true (some2 c)
    rw [may_wait] at hmay
    have HMAY := Lib.hid hmay
    have HH := Lib.hid H
    have hl : wait S t c m = (S, waitE S t c m) := by unfold Sc.wait; rw [if_neg hE]
    rw [hl]
    have hne : (waitE S t c m == 0) = false := by simpa using hE
    clear hl hE hk H hmay
    go_enter Try.func43, Try.ntmps43
    go_wp2_with fail
    refine (some_any m w).mono ?_
    rintro e w0 ⟨rfl, hb0⟩
    have HB0 := Lib.hid hb0
    clear hb0
    go_wp2_with fail
    refine (some_any c w0).mono ?_
    rintro e w1 ⟨rfl, hb1⟩
    have HB1 := Lib.hid (Below.up HB0.out hb1)
    clear hb1
    go_wp2_with fail
    refine (HMAY.out w1 HB1.out).mono ?_
    rintro e w2 ⟨rfl, rfl⟩
    go_wp2_with fail
    go_ret
    exact ⟨rfl, NextR.of_below HH.out hb HB1.out⟩
set_option maxHeartbeats 1000000 in
set_option maxRecDepth 100000 in
theorem rlie_any {w : World} {base h : Nat} {F : Nat → Prop} {S : Sd} (H : Rch w base h F S) (hb : base ≤ w.heap.size) (hk : Ok S []) (lT : S.T.length ≤ 1000) (lM : S.M.length ≤ 1000) (lR : S.R.length ≤ 1000) (t c : Int) :
    Calls Try.prog 44 #[.pointer (some ⟨h, 0, none⟩), .int .i64 t, .int .i64 c] w fun e w' => e = .returned (.int .i64 (Sc.rest S t c).2) ∧ NextR w base h F (Sc.rest S t c).1 w' := by
  by_cases hE : restE S t c = 0
  · have hx := (first_eq _ _).1 hE
    simp only [Bool.and_eq_true] at hx
    obtain ⟨t, rfl⟩ := Int.eq_ofNat_of_zero_le ((there_iff _ _).1 hx.1.1).1
    obtain ⟨c, rfl⟩ := Int.eq_ofNat_of_zero_le ((there_iff _ _).1 hx.1.2).1
    refine (rrest_nat H hb hk lT lM lR t c hE).mono (fun e w' ⟨h1, h2⟩ => ⟨?_, h2⟩)
    rw [h1]; show _ = Ending.returned (.int .i64 (restE S t c)); rw [hE]
  · have hmay := fun (w1 : World) (hb1 : Below w.heap.size w w1) => may_any (H.below hb1) lT lM lR t (-2) false (some2 c)
    rw [may_rest] at hmay
    have HMAY := Lib.hid hmay
    have HH := Lib.hid H
    have hl : Sc.rest S t c = (S, restE S t c) := by unfold Sc.rest; rw [if_neg hE]
    rw [hl]
    have hne : (restE S t c == 0) = false := by simpa using hE
    clear hl hE hk H hmay
    go_enter Try.func44, Try.ntmps44
    go_wp2_with fail
    refine (some_any c w).mono ?_
    rintro e w1 ⟨rfl, hb1⟩
    have HB1 := Lib.hid hb1
    clear hb1
    go_wp2_with fail
    refine (HMAY.out w1 HB1.out).mono ?_
    rintro e w2 ⟨rfl, rfl⟩
    go_wp2_with fail
    go_ret
    exact ⟨rfl, NextR.of_below HH.out hb HB1.out⟩
/-- The states, in memory. -/
theorem Rch.states {w : World} {base h : Nat} {F : Nat → Prop} {S : Sd} (H : Rch w base h F S) : ∃ A c, w.cell? ⟨h, 0, none⟩ = some (.slice A S.T.length c) ∧ ∀ i, (hi : i < S.T.length) → ∃ b o, A = some ⟨b, o, none⟩ ∧ w.cell? ⟨b, o + i, none⟩ = some (.int .i64 S.T[i]) := by
  obtain ⟨T, O, W, R, vs, us, hI, _, _⟩ := H.2
  obtain ⟨⟨A, c, e⟩, _⟩ := hI.vals
  refine ⟨A, c, by rw [← e]; exact hI.header.1, fun i hi => ?_⟩
  obtain ⟨b, o, c', e', k, _⟩ := hI.accT i hi
  rw [e] at e'
  exact ⟨b, o, (Value.slice.inj e').1, k⟩
set_option maxHeartbeats 1000000 in
set_option maxRecDepth 100000 in
theorem rready_any {w : World} {base h : Nat} {F : Nat → Prop} {S : Sd} (H : Rch w base h F S) (hn : S.T.length ≤ 1000) :
    Calls Try.prog 48 #[.pointer (some ⟨h, 0, none⟩)] w fun e w' => ∃ v, e = .returned v ∧ Reads w' v (ready S) ∧ Below w.heap.size w w' := by
  obtain ⟨i0, hi, hz0, hz1, hz2⟩ := info_parts infoInt
  obtain ⟨A, cT, d0, hcell⟩ := H.states
  have HC := Lib.hid hcell
  have hh0 := World.block_lt_of_cell? w _ d0
  clear H hcell
  go_enter Try.func48, Try.ntmps48
  go_wp2
  go_loopw [3, 4] (fun v vi wr => ∃ i : Nat, vi = .int .i64 i ∧ i ≤ S.T.length ∧ IntsR w.heap.size wr v (readyF (S.T.take i) 0) ∧ Below w.heap.size w wr) (fun _ vi _ => S.T.length - (intOf vi).toNat)
  case atStart => exact ⟨0, rfl, Nat.zero_le _, World.ownsRow_nil _ _ _ _, Below.refl _ w⟩
  case round =>
    obtain ⟨i, rfl, hi2, hrow, hbw⟩ := hrel
    have hlen : (readyF (S.T.take i) 0).length ≤ 1000 := by
      rw [readyF_len]
      have := List.countP_le_length (p := fun x : Int => decide (x = 0)) (l := S.T.take i)
      rw [List.length_take] at this
      omega
    have d1 := (hbw.cell hh0).trans d0
    by_cases hlt : i < S.T.length
    · have hst := readyF_snoc (S.T.take i) S.T[i] 0
      rw [← List.take_succ_eq_append_getElem hlt, List.length_take, Nat.min_eq_left (by omega), Nat.zero_add] at hst
      obtain ⟨b, o, rfl, k0⟩ := HC.out i hlt
      have k1 := (hbw.cell (World.block_lt_of_cell? w _ k0)).trans k0
      obtain ⟨x, hx⟩ : ∃ x, S.T[i] = x := ⟨_, rfl⟩
      rw [hx] at hst k1
      have g1 : ((i : Nat) : Int) < (S.T.length : Int) := by omega
      have HST := Lib.hid hst
      clear hst hx k0
      by_cases h0 : x = 0
      · subst h0
        go_wp2_with (at_builtin; refine wpList_append_own _ rfl _ _ 22 rfl w.heap.size 3 i0 (.int .i64 0) 1 8 Try.underlying22 hi hz0 hz1 hz2 rfl (by decide) _ _ _ rfl (World.ownsRow.alloc hrow _) ⟨wr.heap.size, 0, none⟩ 1 1 [.int .i64 (i : Int)] rfl rfl ?c1 ?c2 ?c3 ?c4 ?c5 ?_)
        case c2 => simp [Value.oneCell']
        case c3 => unfold maxLen; omega
        case c4 => omega
        case c5 => have := hbw.size; omega
        intro v' w1 hown' hgrow _
        have hbw3 : Below w.heap.size w w1 := (hbw.alloc (by have := hbw.size; omega) _).grown hgrow (by simp; have := hbw.size; omega) (fun k hk => (hrow.lt k hk).1)
        clear hrow hbw hgrow d1 k1
        go_wp2
        go_roundw
        case rel =>
          refine ⟨i + 1, by simp, by omega, ?_, hbw3⟩
          rw [HST.out]
          unfold IntsR
          simpa using hown'
        case measure => simp [intOf]; omega
      · have hne : (x == 0) = false := by simpa using h0
        go_wp2
        go_roundw
        case rel =>
          refine ⟨i + 1, by simp, by omega, ?_, hbw⟩
          rw [HST.out, if_neg h0, List.append_nil]
          exact hrow
        case measure => simp [intOf]; omega
    · have e : S.T.take i = S.T := List.take_of_length_le (by omega)
      rw [e] at hrow hlen
      go_wp2
      go_ret
      exact ⟨_, rfl, Reads.of_row hlen hrow, hbw⟩
set_option maxHeartbeats 1000000 in
set_option maxRecDepth 100000 in
theorem rstuck_any {w : World} {base h : Nat} {F : Nat → Prop} {S : Sd} (H : Rch w base h F S) (hn : S.T.length ≤ 1000) :
    Calls Try.prog 49 #[.pointer (some ⟨h, 0, none⟩)] w fun e w' => e = .returned (.bool (Sc.stuck S)) ∧ w = w' := by
  obtain ⟨A, cT, d0, hcell⟩ := H.states
  have HC := Lib.hid hcell
  clear H hcell
  have he : Sc.stuck S = (!(S.T.any fun x => x == 0) && !(S.T.all fun x => x == 3)) := by
    unfold Sc.stuck
    congr 1
    rw [Bool.eq_iff_iff]; simp
  rw [he]
  clear he
  go_enter Try.func49, Try.ntmps49
  go_wp2
  go_loop [3, 4] (fun v vi => ∃ i : Nat, vi = .int .i64 i ∧ i ≤ S.T.length ∧ (S.T.take i).any (fun x => x == 0) = false ∧ v = .bool ((S.T.take i).all fun x => x == 3)) (fun _ vi => S.T.length - (intOf vi).toNat)
  case atStart => exact ⟨0, rfl, Nat.zero_le _, rfl, rfl⟩
  case round =>
    obtain ⟨i, rfl, hi2, hno, rfl⟩ := hrel
    have HNO := Lib.hid hno
    clear hno
    by_cases hlt : i < S.T.length
    · obtain ⟨b, o, rfl, k0⟩ := HC.out i hlt
      have hs1 : (S.T.take (i + 1)).any (fun x => x == 0) = (S.T[i] == 0) := by rw [List.take_succ_eq_append_getElem hlt, List.any_append, HNO.out]; simp
      have hs2 : (S.T.take (i + 1)).all (fun x => x == 3) = ((S.T.take i).all (fun x => x == 3) && (S.T[i] == 3)) := by rw [List.take_succ_eq_append_getElem hlt, List.all_append]; simp
      obtain ⟨x, hx⟩ : ∃ x, S.T[i] = x := ⟨_, rfl⟩
      have hmem : x ∈ S.T := by rw [← hx]; exact List.getElem_mem _
      rw [hx] at hs1 hs2 k0
      have g1 : ((i : Nat) : Int) < (S.T.length : Int) := by omega
      have HS1 := Lib.hid hs1
      have HS2 := Lib.hid hs2
      obtain ⟨al, hal⟩ : ∃ al, al = (S.T.take i).all fun x => x == 3 := ⟨_, rfl⟩
      rw [← hal] at HS2 ⊢
      clear hs1 hs2 hx hal
      by_cases h0 : x = 0
      · have b0 : (x == 0) = true := by simp [h0]
        have hfin : (S.T.any fun x => x == 0) = true := List.any_eq_true.2 ⟨x, hmem, b0⟩
        have HF := Lib.hid hfin
        clear hfin h0
        go_wp2
        go_ret
        exact ⟨by rw [HF.out]; rfl, rfl⟩
      · have b0 : (x == 0) = false := by simp [h0]
        have HS1' := Lib.hid (HS1.out.trans b0)
        clear h0
        cases al
        all_goals
          go_wp2
          go_round
          case rel => exact ⟨i + 1, by go_num, by omega, HS1'.out, by rw [HS2.out]; simp⟩
          case measure => simp [intOf]; omega
    · have e : S.T.take i = S.T := List.take_of_length_le (by omega)
      have hno := HNO.out
      rw [e] at hno ⊢
      have HN := Lib.hid hno
      clear hno e HNO
      go_wp2
      go_ret
      exact ⟨by rw [HN.out]; simp, rfl⟩
end Go.Proofs.Ytcfkmhmgappckaa

/- The document's Pick and End. No condition but on size. -/
namespace Go.Proofs.Ytcfkmhmgappckaa
open Go.RowKit Go.Proofs.Ytcfkmhmgappckaa.Sc Go.Proofs.Ytcfkmhmgappckaa.PAll Go.Proofs.YtcfkmhmgappckaaW.PrintWords Go.Proofs.YtcfkmhmgappckaaW.PrintLast Go.Proofs.YtcfkmhmgappckaaW.PrintMore

set_option maxHeartbeats 1000000 in
set_option maxRecDepth 100000 in
theorem rpick_any {w : World} {base h : Nat} {F : Nat → Prop} {S : Sd} (H : Rch w base h F S) (hn : S.T.length ≤ 1000) (n : Int) (n1 : -9223372036854775808 ≤ n) (n2 : n ≤ 9223372036854775807) :
    Calls Try.prog 40 #[.pointer (some ⟨h, 0, none⟩), .int .i64 n] w fun e w' => e = .returned (.tuple #[.int .i64 (pick S n).1, .bool (pick S n).2]) ∧ Below w.heap.size w w' := by
  have HR := Lib.hid (rready_any H hn)
  have hl : (ready S).length ≤ 1000 := by unfold ready; rw [readyF_len]; exact Nat.le_trans List.countP_le_length hn
  clear H hn
  obtain ⟨L, hL⟩ : ∃ L, L = ready S := ⟨_, rfl⟩
  have hp : pick S n = if L.length = 0 then (0, false) else (L.getD ((if n < 0 then -(n + 1) else n) % (L.length : Int)).toNat 0, true) := by rw [hL]; rfl
  rw [← hL] at HR hl
  rw [hp]
  clear hL hp
  obtain ⟨N, hN, hN2⟩ : ∃ N : Nat, (if n < 0 then -(n + 1) else n) = (N : Int) ∧ (N : Int) ≤ 9223372036854775807 := ⟨(if n < 0 then -(n + 1) else n).toNat, by split <;> omega, by split <;> omega⟩
  rw [hN]
  by_cases h0 : L.length = 0
  · rw [if_pos h0]
    have hnil : L = [] := List.eq_nil_of_length_eq_zero h0
    subst hnil
    clear h0
    by_cases hneg : n < 0
    · rw [if_pos hneg] at hN
      have hd : decide (n < 0) = true := decide_eq_true hneg
      have HN := Lib.hid hN
      clear hN
      go_enter Try.func40, Try.ntmps40
      go_wp2_with fail
      refine HR.out.mono ?_
      rintro e w1 ⟨v, rfl, ⟨A, c, rfl, hc, _⟩, hb⟩
      have HB := Lib.hid hb
      clear hb
      go_wp2_with fail
      go_ret2
      exact ⟨rfl, HB.out⟩
    · have hd : decide (n < 0) = false := decide_eq_false hneg
      clear hN
      go_enter Try.func40, Try.ntmps40
      go_wp2_with fail
      refine HR.out.mono ?_
      rintro e w1 ⟨v, rfl, ⟨A, c, rfl, hc, _⟩, hb⟩
      have HB := Lib.hid hb
      clear hb
      go_wp2_with fail
      go_ret2
      exact ⟨rfl, HB.out⟩
  · rw [if_neg h0]
    have hbe : ((L.length : Int) == 0) = false := by rw [beq_eq_false_iff_ne]; omega
    have hm := Nat.mod_lt N (show 0 < L.length by omega)
    have e1 : ((N : Int) % (L.length : Int)).toNat = N % L.length := by rw [← Int.natCast_emod, Int.toNat_natCast]
    have i1 : (0 : Int) ≤ (N : Int) % (L.length : Int) := by rw [← Int.natCast_emod]; omega
    have i2 : (N : Int) % (L.length : Int) < (L.length : Int) := by rw [← Int.natCast_emod]; omega
    have i3 : (0 : Int) < (L.length : Int) := by omega
    by_cases hneg : n < 0
    · rw [if_pos hneg] at hN
      have hd : decide (n < 0) = true := decide_eq_true hneg
      have HN := Lib.hid hN
      clear hN h0
      go_enter Try.func40, Try.ntmps40
      go_wp2_with fail
      refine HR.out.mono ?_
      rintro e w1 ⟨v, rfl, ⟨A, c, rfl, hc, hC⟩, hb⟩
      have HB := Lib.hid hb
      obtain ⟨ad, rfl, hce⟩ := Reads.cell hC (N % L.length) hm
      obtain ⟨x, hx⟩ : ∃ x, x = L.getD (N % L.length) 0 := ⟨_, rfl⟩
      rw [← hx] at hce
      have HX := Lib.hid hx
      clear hx hb hC
      have hN := HN.out
      go_wp2_with fail
      go_ret2
      exact ⟨by rw [e1, ← HX.out]; rfl, HB.out⟩
    · rw [if_neg hneg] at hN
      subst hN
      have hd : decide ((N : Int) < 0) = false := decide_eq_false hneg
      clear h0 n1 n2
      go_enter Try.func40, Try.ntmps40
      go_wp2_with fail
      refine HR.out.mono ?_
      rintro e w1 ⟨v, rfl, ⟨A, c, rfl, hc, hC⟩, hb⟩
      have HB := Lib.hid hb
      obtain ⟨ad, rfl, hce⟩ := Reads.cell hC (N % L.length) hm
      obtain ⟨x, hx⟩ : ∃ x, x = L.getD (N % L.length) 0 := ⟨_, rfl⟩
      rw [← hx] at hce
      have HX := Lib.hid hx
      clear hx hb hC
      go_wp2_with fail
      go_ret2
      exact ⟨by rw [e1, ← HX.out]; rfl, HB.out⟩
/-- The owners, in memory. -/
theorem Rch.owners {w : World} {base h : Nat} {F : Nat → Prop} {S : Sd} (H : Rch w base h F S) : ∃ A c, w.cell? ⟨h, 1, none⟩ = some (.slice A S.M.length c) ∧ ∀ i, (hi : i < S.M.length) → ∃ b o, A = some ⟨b, o, none⟩ ∧ w.cell? ⟨b, o + i, none⟩ = some (.int .i64 (S.M[i]).1) := by
  obtain ⟨T, O, W, R, vs, us, hI, _, _⟩ := H.2
  obtain ⟨_, ⟨A, c, e⟩, _⟩ := hI.vals
  refine ⟨A, c, by rw [← e]; exact hI.header.2.1, fun i hi => ?_⟩
  obtain ⟨b, o, c', e', k, _⟩ := hI.accO i hi
  rw [e] at e'
  exact ⟨b, o, (Value.slice.inj e').1, k⟩
theorem may_end (S : Sd) (t : Int) : mayE S t (-2) false (-2) = first (there S.T t) (decide (stT S t = 0)) := by
  unfold mayE first
  cases there S.T t <;> simp
theorem Rch.stateStore {w : World} {base h : Nat} {F : Nat → Prop} {S : Sd} (H : Rch w base h F S) (hb : base ≤ w.heap.size) (t : Nat) (ht : t < S.T.length) : ∃ bT oT c, w.cell? ⟨h, 0, none⟩ = some (.slice (some ⟨bT, oT, none⟩) S.T.length c) ∧ w.cell? ⟨bT, oT + t, none⟩ = some (.int .i64 S.T[t]) ∧ w.frozen? ⟨bT, oT + t, none⟩ = false ∧ bT ≠ h ∧ F bT ∧
    ∀ v : Int, NextR w base h F (setT S t v) (w.setCell ⟨bT, oT + t, none⟩ (.int .i64 v)) := by
  obtain ⟨T, O, W, R, vs, us, hI, fh, fx⟩ := H.2
  obtain ⟨b, o, c, e, k, z, n, ob, s⟩ := hI.accT t ht
  have hF := fx T obs_T.1 b ob
  exact ⟨b, o, c, by rw [← e]; exact hI.header.1, k, z, n, hF, fun v => H.next hb (s v) ((Moves.refl F w).store _ _ hF) fh (fun x hx k hk => .inl (fx x hx k hk))⟩
set_option maxHeartbeats 1000000 in
set_option maxRecDepth 100000 in
theorem rend_any {w : World} {base h : Nat} {F : Nat → Prop} {S : Sd} (H : Rch w base h F S) (hb : base ≤ w.heap.size) (lT : S.T.length ≤ 1000) (lM : S.M.length ≤ 1000) (lR : S.R.length ≤ 1000) (t : Int) :
    Calls Try.prog 46 #[.pointer (some ⟨h, 0, none⟩), .int .i64 t] w fun e w' => e = .returned (.int .i64 (endT S t).2) ∧ NextR w base h F (endT S t).1 w' := by
  have hmay := may_any H lT lM lR t (-2) false (-2)
  rw [may_end] at hmay
  have HMAY := Lib.hid hmay
  have HH := Lib.hid H
  obtain ⟨A, cO, d1, hcell⟩ := H.owners
  have HC := Lib.hid hcell
  clear hmay hcell
  by_cases h0 : first (there S.T t) (decide (stT S t = 0)) = 0
  · rw [h0] at HMAY
    have hx := (first_eq _ _).1 h0
    have htI := (there_iff _ _).1 hx.1
    obtain ⟨t, rfl⟩ := Int.eq_ofNat_of_zero_le htI.1
    have ht1 : t < S.T.length := by omega
    have g1 : ((t : Nat) : Int) < (S.T.length : Int) := by omega
    obtain ⟨bT, oT, cT, e0, e1, e2, n1, fT, hset⟩ := H.stateStore hb t ht1
    have HSET := Lib.hid (hset 3)
    have hE : endE S (t : Int) = if S.M.any (fun x => x.1 == (t : Int)) then 12 else 0 := by
      unfold endE first
      have e : (S.M.any fun x => decide (x.1 = (t : Int))) = S.M.any (fun x => x.1 == (t : Int)) := by congr 1
      rw [hx.1, hx.2, e]
      cases S.M.any (fun x => x.1 == (t : Int)) <;> rfl
    have HE := Lib.hid hE
    clear hE hx htI h0 hset H
    go_enter Try.func46, Try.ntmps46
    go_wp2_with fail
    refine HMAY.out.mono ?_
    rintro e w1 ⟨rfl, rfl⟩
    go_wp2_with fail
    go_loop [6] (fun v => ∃ i : Nat, v = .int .i64 i ∧ i ≤ S.M.length ∧ (S.M.take i).any (fun x => x.1 == (t : Int)) = false) (fun v => S.M.length - (intOf v).toNat)
    case atStart => exact ⟨0, rfl, Nat.zero_le _, rfl⟩
    case round =>
      obtain ⟨i, rfl, hi2, hno⟩ := hrel
      have HNO := Lib.hid hno
      clear hno
      by_cases hlt : i < S.M.length
      · obtain ⟨b, o, rfl, k0⟩ := HC.out i hlt
        have hs1 : (S.M.take (i + 1)).any (fun x => x.1 == (t : Int)) = ((S.M[i]).1 == (t : Int)) := by rw [List.take_succ_eq_append_getElem hlt, List.any_append, HNO.out]; simp
        obtain ⟨x, hx⟩ : ∃ x, (S.M[i]).1 = x := ⟨_, rfl⟩
        have hmem : ∃ y ∈ S.M, y.1 = x := ⟨_, List.getElem_mem hlt, hx⟩
        rw [hx] at hs1 k0
        have g2 : ((i : Nat) : Int) < (S.M.length : Int) := by omega
        have HS1 := Lib.hid hs1
        clear hs1 hx
        by_cases h3 : x = (t : Int)
        · have b0 : (x == (t : Int)) = true := by simp [h3]
          have hfin : endT S (t : Int) = (S, 12) := by
            have ha : S.M.any (fun x => x.1 == (t : Int)) = true := by
              obtain ⟨y, hy, he⟩ := hmem
              exact List.any_eq_true.2 ⟨y, hy, by simp [he, h3]⟩
            have hE := HE.out
            rw [ha] at hE
            unfold endT
            rw [hE]; rfl
          have HF := Lib.hid hfin
          clear hfin h3 hmem
          go_wp2
          go_ret
          rw [HF.out]
          exact ⟨rfl, NextR.of_below HH.out hb (Below.refl _ _)⟩
        · have b0 : (x == (t : Int)) = false := by simp [h3]
          have HS1' := Lib.hid (HS1.out.trans b0)
          clear h3 hmem
          go_wp2
          go_round
          case rel => exact ⟨i + 1, by go_num, by omega, HS1'.out⟩
          case measure => simp [intOf]; omega
      · have hno := HNO.out
        rw [List.take_of_length_le (by omega)] at hno
        have hfin : endT S (t : Int) = (setT S t 3, 0) := by
          have hE := HE.out
          rw [hno] at hE
          unfold endT
          rw [hE]; rfl
        have HF := Lib.hid hfin
        clear hfin hno
        go_wp2
        go_ret
        rw [HF.out]
        exact ⟨rfl, HSET.out⟩
  · have hE : endE S t = first (there S.T t) (decide (stT S t = 0)) := by
      have hg : ∀ a b c : Bool, ¬ first a b = 0 → first a (b && c) = first a b := by decide
      exact hg _ _ _ h0
    have hfin : endT S t = (S, first (there S.T t) (decide (stT S t = 0))) := by unfold endT; rw [hE, if_neg h0]
    obtain ⟨E, hEE⟩ : ∃ E, E = first (there S.T t) (decide (stT S t = 0)) := ⟨_, rfl⟩
    rw [← hEE] at hfin HMAY h0
    have hne : (E == 0) = false := by simpa using h0
    have HF := Lib.hid hfin
    clear hE hfin hEE h0 H
    go_enter Try.func46, Try.ntmps46
    go_wp2_with fail
    refine HMAY.out.mono ?_
    rintro e w1 ⟨rfl, rfl⟩
    go_wp2_with fail
    go_loop [6] (fun v => v = .int .i64 0) (fun v => 0)
    case atStart => rfl
    case round =>
      obtain rfl := hrel
      by_cases hl0 : 0 < S.M.length
      · have b3 : decide ((0 : Int) < (S.M.length : Int)) = true := decide_eq_true (by omega)
        go_wp2
        go_ret
        rw [HF.out]
        exact ⟨rfl, NextR.of_below HH.out hb (Below.refl _ _)⟩
      · have b3 : decide ((0 : Int) < (S.M.length : Int)) = false := decide_eq_false (by omega)
        go_wp2
        go_ret
        rw [HF.out]
        exact ⟨rfl, NextR.of_below HH.out hb (Below.refl _ _)⟩
end Go.Proofs.Ytcfkmhmgappckaa

/- The document's Wake. No condition but on size. -/
namespace Go.Proofs.Ytcfkmhmgappckaa
open Go.RowKit Go.Proofs.Ytcfkmhmgappckaa.Sc Go.Proofs.Ytcfkmhmgappckaa.PAll Go.Proofs.YtcfkmhmgappckaaW.PrintWords Go.Proofs.YtcfkmhmgappckaaW.PrintLast Go.Proofs.YtcfkmhmgappckaaW.PrintMore

theorem IsR.idxV {w : World} {base h : Nat} {T O W R : Option Nat × Value} {vs us : List (Option Nat × Value)} {S : Sd} (H : IsR w base h T O W R vs us S) (i : Nat) (hi : i < vs.length) : ∃ d, (DD h T O W R vs us S)[5 + i]? = some d ∧ d.ob = (vs[i]).1 := by
  have hv := H.lenV
  unfold DD
  rw [List.getElem?_append_right (by simp), List.getElem?_append_left (by simp; omega)]
  simp only [List.length_cons, List.length_nil, Nat.add_sub_cancel_left]
  exact ⟨_, List.getElem?_eq_getElem (by simp; omega), by simp⟩
theorem IsR.idxU {w : World} {base h : Nat} {T O W R : Option Nat × Value} {vs us : List (Option Nat × Value)} {S : Sd} (H : IsR w base h T O W R vs us S) (i : Nat) (hi : i < us.length) : ∃ d, (DD h T O W R vs us S)[5 + (vs.length + i)]? = some d ∧ d.ob = (us[i]).1 := by
  have hv := H.lenV
  have hu := H.lenU
  have hzl : (List.zipWith (fun (x : Int × List Int) (v : Option Nat × Value) => (⟨v.1, v.2, 3, 1, ints x.2⟩ : Ds)) S.M vs).length = vs.length := by rw [List.length_zipWith, hv, Nat.min_self]
  unfold DD
  rw [List.getElem?_append_right (by simp), List.getElem?_append_right (by rw [hzl]; simp), hzl]
  simp only [List.length_cons, List.length_nil, Nat.add_sub_cancel_left]
  exact ⟨_, List.getElem?_eq_getElem (by simp; omega), by simp⟩
theorem Rch.taken {w : World} {base h : Nat} {F : Nat → Prop} {S : Sd} (H : Rch w base h F S) (c : Nat) (hc : c < S.R.length) : ∃ bR oR cR ob u0, w.cell? ⟨h, 3, none⟩ = some (.slice (some ⟨bR, oR, none⟩) S.R.length cR) ∧ w.cell? ⟨bR, oR + c, none⟩ = some u0 ∧ w.frozen? ⟨bR, oR + c, none⟩ = false ∧ bR ≠ h ∧
    RowIn w base 88 2 ob u0 (pairs (S.R[c])) ∧ Rch (w.setCell ⟨bR, oR + c, none⟩ (.slice none 0 0)) base h (fun k => F k ∧ some k ≠ ob) (setR S c []) ∧ F bR ∧ some bR ≠ ob := by
  obtain ⟨h0, T, O, W, R, vs, us, hI, fh, fx⟩ := H
  obtain ⟨bR, oR, cR, ob, u0, eR, hu, k, z, n, obR, nob, nobh, hR, sR⟩ := hI.accR c hc
  have hul : c < us.length := by rw [hI.lenU]; exact hc
  have h2 := (sR w none (.slice none 0 0) [] (grown_refl w ob) ⟨fun d hd => by simp [pairs] at hd, .inl ⟨rfl, rfl, rfl⟩⟩ (.inl rfl)).2.2.2
  obtain ⟨dc, hdc, edc⟩ := hI.idxU c hul
  have huc : (us[c]).1 = ob := by rw [List.getElem?_eq_getElem hul] at hu; rw [Option.some.inj hu]
  have hne : ∀ (j : Nat) (d : Ds), (DD h T O W R vs us S)[j]? = some d → j ≠ 5 + (vs.length + c) → ∀ b, d.ob = some b → some b ≠ ob := by
    intro j d hd hj b hb e
    have := hI.fam.ne hd hdc hj hb
    rw [edc, huc] at this
    exact this e.symm
  refine ⟨bR, oR, cR, ob, u0, by rw [← eR]; exact hI.header.2.2.2, k, z, n, hR, ⟨fun k hk => ⟨(h0 k hk.1).1, by simpa [World.setCell] using (h0 k hk.1).2⟩, T, O, W, R, vs, us.set c (none, .slice none 0 0), h2, ⟨fh, fun e => nobh e.symm⟩, fun x hx k hk => ?_⟩, fx R obs_T.2.2.2 bR obR, fun e => nob e.symm⟩
  rcases List.mem_append.1 hx with hx | hx
  · have hF := fx x (List.mem_append.2 (.inl hx)) k hk
    simp only [List.mem_cons, List.not_mem_nil, or_false] at hx
    rcases hx with rfl | rfl | rfl | rfl
    · exact ⟨hF, hne 1 _ rfl (by omega) k hk⟩
    · exact ⟨hF, hne 2 _ rfl (by omega) k hk⟩
    · exact ⟨hF, hne 3 _ rfl (by omega) k hk⟩
    · exact ⟨hF, hne 4 _ rfl (by omega) k hk⟩
  · rcases List.mem_append.1 hx with hx | hx
    · obtain ⟨i, hi, rfl⟩ := List.getElem_of_mem hx
      obtain ⟨d, hd, ed⟩ := hI.idxV i hi
      exact ⟨fx _ (List.mem_append.2 (.inr (List.mem_append.2 (.inl hx)))) k hk, hne _ d hd (by omega) k (by rw [ed]; exact hk)⟩
    · obtain ⟨i, hi, rfl⟩ := List.getElem_of_mem hx
      rw [List.length_set] at hi
      by_cases e : c = i
      · subst e; simp at hk
      · simp only [List.getElem_set, if_neg e] at hk
        obtain ⟨d, hd, ed⟩ := hI.idxU i hi
        exact ⟨fx _ (List.mem_append.2 (.inr (List.mem_append.2 (.inr (List.getElem_mem hi))))) k hk, hne _ d hd (by omega) k (by rw [ed]; exact hk)⟩
/-- What holds in each round. -/
structure RWakeSt (w1 wr : World) (base h : Nat) (F2 : Nat → Prop) (S1 : Sd) (L : List (Int × Int)) (ob : Option Nat) (u0 : Value) (i : Nat) : Prop where
  N : NextR w1 base h F2 ((L.take i).foldl wakeOne S1) wr
  ok : Ok ((L.take i).foldl wakeOne S1) ((L.drop i).map (·.1))
  mid : ∀ x ∈ L, x.2 = -1 ∨ there ((L.take i).foldl wakeOne S1).M x.2 = true
  R : RowIn wr base 88 2 ob u0 (pairs L)
  len : ((L.take i).foldl wakeOne S1).T.length ≤ 1000
theorem RWakeSt.step {w1 wr w3 : World} {base h : Nat} {F2 : Nat → Prop} {S1 : Sd} {L : List (Int × Int)} {ob : Option Nat} {u0 : Value} {i : Nat} (hs : RWakeSt w1 wr base h F2 S1 L ob u0 i) (hi : i < L.length) (hob : ∀ b, ob = some b → ¬ F2 b ∧ b < w1.heap.size)
    (hN : NextR wr base h (Plus F2 w1 wr) (wakeOne ((L.take i).foldl wakeOne S1) L[i]) w3) : RWakeSt w1 w3 base h F2 S1 L ob u0 (i + 1) := by
  have e : (L.take (i + 1)).foldl wakeOne S1 = wakeOne ((L.take i).foldl wakeOne S1) L[i] := by rw [List.take_succ_eq_append_getElem hi, List.foldl_append]; rfl
  have hok := hs.ok
  rw [List.drop_eq_getElem_cons hi, List.map_cons] at hok
  refine ⟨by rw [e]; exact hs.N.trans hN, by rw [e]; exact hok.wakeOne (hs.mid _ (List.getElem_mem hi)), fun x hx => ?_, hs.R.same (fun b hb => ?_), ?_⟩
  · rw [e, there_size (size_wakeOne _ _)]; exact hs.mid x hx
  · exact hN.2.block b (hs.R.lt b hb).2 (fun q => q.elim (hob b hb).1 (fun q => by have := (hob b hb).2; omega))
  · rw [e]; have := (size_wakeOne ((L.take i).foldl wakeOne S1) L[i]).1; have := hs.len; omega
attribute [local go_sem ↓] Go.wp_at_zero Go.wp_at_succ
set_option maxHeartbeats 4000000 in
set_option maxRecDepth 100000 in
theorem rwake_yes {w : World} {base h : Nat} {F : Nat → Prop} {S : Sd} (H : Rch w base h F S) (hb : base ≤ w.heap.size) (hk : Ok S []) (hT : S.T.length ≤ 1000) (lR : S.R.length ≤ 1000) (c : Nat) (hc : c < S.R.length) :
    Calls Try.prog 45 #[.pointer (some ⟨h, 0, none⟩), .int .i64 (c : Int)] w fun e w' => e = .returned (.tuple #[.int .i64 ((S.R[c]).length : Int), .int .i64 0]) ∧ NextR w base h F ((S.R[c]).foldl wakeOne (setR S c [])) w' := by
  obtain ⟨bR, oR, cR, ob, u0, d3, kR, zR, nR, hR, hS1, fR, nobR⟩ := H.taken c hc
  have hcT : there S.R (c : Int) = true := (there_iff _ _).2 ⟨by omega, by omega⟩
  have hre : S.R.getD (c : Int).toNat [] = S.R[c] := by rw [Int.toNat_natCast, List.getD_eq_getElem?_getD, List.getElem?_eq_getElem hc]; rfl
  have hok := hk.taken (c : Int) hcT
  have hmid := hk.midAt (c : Int) hcT
  rw [hre] at hok hmid
  have hLl : (S.R[c]).length ≤ 1000 := Nat.le_trans (hk.restFew _ (List.getElem_mem _)) hT
  obtain ⟨L, hL⟩ : ∃ L, L = S.R[c] := ⟨_, rfl⟩
  rw [← hL] at hok hmid hLl hR ⊢
  obtain ⟨A, cap, hv⟩ := hR.valD
  have hpl : (pairs L).length = L.length := by simp [pairs]
  rw [hpl] at hv
  subst hv
  obtain ⟨w1, hw1⟩ : ∃ w1, w1 = w.setCell ⟨bR, oR + c, none⟩ (.slice none 0 0) := ⟨_, rfl⟩
  rw [← hw1] at hS1
  have hM1 : Moves F w w1 := by rw [hw1]; exact (Moves.refl F w).store _ _ fR
  have hsz1 : w1.heap.size = w.heap.size := by rw [hw1]; simp [World.setCell]
  have hst : RWakeSt w1 w1 base h (fun k => F k ∧ some k ≠ ob) (setR S c []) L ob (.slice A L.length cap) 0 :=
    ⟨NextR.of_below hS1 (by omega) (Below.refl _ _), by simpa using hok, hmid, hR.same (fun b hb2 => by rw [hw1]; exact Below.heap_setCell w ⟨bR, oR + c, none⟩ _ b (fun e => nobR (by rw [hb2, e]))), hT⟩
  have hobN : ∀ b, ob = some b → ¬ (F b ∧ some b ≠ ob) ∧ b < w1.heap.size := fun b hb2 => ⟨fun q => q.2 hb2.symm, by rw [hsz1]; exact (hR.lt b hb2).2⟩
  have g1 : ((c : Nat) : Int) < (S.R.length : Int) := by omega
  have b1 : decide ((c : Int) < 0) = false := decide_eq_false (by omega)
  have b2 : decide ((S.R.length : Int) ≤ (c : Int)) = false := decide_eq_false (by omega)
  have b3 : decide (S.R.length ≤ c) = false := decide_eq_false (by omega)
  have HST := Lib.hid hst
  have HON := Lib.hid hobN
  have HM1 := Lib.hid hM1
  have HF0 := Lib.hid H.1
  have hb1 : base ≤ w1.heap.size := by omega
  clear hst hobN hM1 hR hok hmid hre hpl H hk hS1 hL hsz1
  go_enter Try.func45, Try.ntmps45
  go_upto_region 5 with fail
  rw [← hw1]
  clear hw1
  go_wp2_with fail
  clear b1 b2 b3
  go_loopw [7] (fun v wr => ∃ i : Nat, v = .int .i64 (i : Int) ∧ i ≤ L.length ∧ RWakeSt w1 wr base h (fun k => F k ∧ some k ≠ ob) (setR S c []) L ob (.slice A L.length cap) i) (fun v _ => L.length - (intOf v).toNat)
  case atStart => exact ⟨0, rfl, by omega, HST.out⟩
  case round =>
    clear HST d3 kR zR
    obtain ⟨i, rfl, hi, hs⟩ := hrel
    by_cases hlt : i < L.length
    · have g2 : ((i : Nat) : Int) < (L.length : Int) := by omega
      rcases hs.R.pairAt with ⟨_, e⟩ | ⟨b, o, cp, hobb, hv, hcell⟩
      · rw [e] at hlt; simp at hlt
      obtain rfl : A = some ⟨b, o, none⟩ := (Value.slice.inj hv).1
      obtain rfl : cap = cp := (Value.slice.inj hv).2.2
      obtain ⟨k1, k2⟩ := hcell i hlt
      clear hcell hv
      have hsz := hs.N.2.size
      have hbr : base ≤ wr.heap.size := by omega
      obtain ⟨t, mm, hx⟩ : ∃ t mm, L[i] = (t, mm) := ⟨_, _, rfl⟩
      rw [hx] at k1 k2
      obtain ⟨S2, hS2⟩ : ∃ S2, S2 = (L.take i).foldl wakeOne (setR S c []) := ⟨_, rfl⟩
      have hok2 := hs.ok
      have hmid2 := hs.mid _ (List.getElem_mem hlt)
      have hlen2 := hs.len
      rw [← hS2] at hok2 hmid2 hlen2
      rw [List.drop_eq_getElem_cons hlt, List.map_cons, hx] at hok2
      rw [hx] at hmid2
      have htt : there S2.T t = true := stT_there S2 t (by
        have := hok2.rest t
        rw [List.count_cons_self] at this
        by_cases e : stT S2 t = 2
        · omega
        · rw [if_neg e] at this; omega)
      have hNx := hs.N
      rw [← hS2] at hNx
      obtain ⟨t, rfl⟩ := Int.eq_ofNat_of_zero_le ((there_iff _ _).1 htt).1
      have ht2 : t < S2.T.length := by have := ((there_iff _ _).1 htt).2; omega
      by_cases hm1 : mm = -1
      · subst hm1
        obtain ⟨bT, oT, cT, e0, e1, e2, n2, fT, hset⟩ := hNx.1.stateStore hbr t ht2
        have hbT : ¬ bT = b := fun e => by
          rcases fT with f | f
          · exact f.2 (by rw [e]; exact hobb.symm)
          · have := (HON.out b hobb).2; omega
        have hdr : NextR wr base h (Plus (fun k => F k ∧ some k ≠ ob) w1 wr) (setT S2 t 0) ((wr.setCell ⟨bT, oT + t, none⟩ (.int .i64 0)).drew) :=
          (hset 0).trans (NextR.of_below (hset 0).1 (Nat.le_trans hbr (hset 0).2.size) (Below.refl _ _).drew)
        have hwk : wakeOne S2 ((t : Int), (-1 : Int)) = setT S2 t 0 := by unfold wakeOne; rw [if_pos rfl]
        have hstep : RWakeSt w1 ((wr.setCell ⟨bT, oT + t, none⟩ (.int .i64 0)).drew) base h (fun k => F k ∧ some k ≠ ob) (setR S c []) L ob (.slice (some ⟨b, o, none⟩) L.length cap) (i + 1) :=
          hs.step hlt HON.out (by rw [hx, ← hS2, hwk]; exact hdr)
        have HSTEP := Lib.hid hstep
        have g4 : ((t : Nat) : Int) < (S2.T.length : Int) := by omega
        clear hstep hdr hset hs hok2 hmid2 hNx hwk hx hS2
        go_upto_region 9 with fail
        go_region
        all_goals
          go_wp2_with fail
          go_roundw
          case rel => exact ⟨i + 1, by go_num, by omega, HSTEP.out⟩
          case measure => simp [intOf]; omega
      · have hmt := hmid2.resolve_left hm1
        have hmb : decide (mm < 0) = false := decide_eq_false (by have := ((there_iff _ _).1 hmt).1; omega)
        have hco := rcome_any (hNx.1.below (Below.refl _ wr).drew) (show base ≤ wr.drew.heap.size from hbr) (t : Int) mm htt hmt (Nat.le_trans (hok2.rowFew _ (mu_mem S2 mm hmt)) hlen2) (ok_owner hok2 mm hmt)
        have hwk : wakeOne S2 ((t : Int), mm) = (come S2 t mm).1 := by unfold wakeOne; rw [if_neg hm1]
        have hstep : ∀ w3, NextR wr.drew base h (Plus (fun k => F k ∧ some k ≠ ob) w1 wr) (come S2 t mm).1 w3 → RWakeSt w1 w3 base h (fun k => F k ∧ some k ≠ ob) (setR S c []) L ob (.slice (some ⟨b, o, none⟩) L.length cap) (i + 1) := fun w3 hN =>
          hs.step hlt HON.out (by rw [hx, ← hS2, hwk]; exact NextR.pre (Below.refl _ wr).drew hNx.1.1 hbr hN)
        have HSTEP := Lib.hid hstep
        have HCO := Lib.hid hco
        clear hstep hco hs hok2 hmid2 hNx hwk hx hS2
        go_upto_region 10 with fail
        go_region_with ((go_at_call 57; (with_reducible refine Calls.mono HCO.out ?_); rintro e w3 ⟨rfl, hN3⟩; have H3 := Lib.hid (HSTEP.out w3 hN3); clear hN3))
        all_goals
          go_wp2_with fail
          go_roundw
          case rel => exact ⟨i + 1, by go_num, by omega, H3.out⟩
          case measure => simp [intOf]; omega
    · obtain rfl : i = L.length := by omega
      have hn := hs.N
      rw [List.take_length] at hn
      have hfin : NextR w base h F (L.foldl wakeOne (setR S c [])) wr := NextR.wider HM1.out HF0.out hb (fun k q => q.1) hn
      have HN := Lib.hid hfin
      clear hfin hn hs
      go_wp2_with fail
      go_ret2
      exact ⟨rfl, HN.out⟩
theorem rwake_any {w : World} {base h : Nat} {F : Nat → Prop} {S : Sd} (H : Rch w base h F S) (hb : base ≤ w.heap.size) (hk : Ok S []) (hT : S.T.length ≤ 1000) (lR : S.R.length ≤ 1000) (c : Int) :
    Calls Try.prog 45 #[.pointer (some ⟨h, 0, none⟩), .int .i64 c] w fun e w' => e = .returned (.tuple #[.int .i64 (wake S c).2.1, .int .i64 (wake S c).2.2]) ∧ NextR w base h F (wake S c).1 w' := by
  by_cases hc : there S.R c = true
  · obtain ⟨c, rfl⟩ := Int.eq_ofNat_of_zero_le ((there_iff _ _).1 hc).1
    have hc1 : c < S.R.length := by have := ((there_iff _ _).1 hc).2; omega
    have hre : S.R.getD (c : Int).toNat [] = S.R[c] := by rw [Int.toNat_natCast, List.getD_eq_getElem?_getD, List.getElem?_eq_getElem hc1]; rfl
    have e : wake S (c : Int) = ((S.R[c]).foldl wakeOne (setR S c []), ((S.R[c]).length : Int), 0) := by unfold wake; rw [if_pos hc, hre]
    rw [e]
    exact rwake_yes H hb hk hT lR c hc1
  · have hc2 : there S.R c = false := by simpa using hc
    have e : wake S c = (S, 0, 1) := by unfold wake; rw [if_neg hc]
    rw [e]
    obtain ⟨T, O, W, R, vs, us, hI, _, _⟩ := H.2
    obtain ⟨_, _, _, ⟨A, c4, e4⟩⟩ := hI.vals
    have d3 := hI.header.2.2.2
    rw [e4] at d3
    have HN := Lib.hid (NextR.of_below H hb (Below.refl _ _))
    have hlt : c < 0 ∨ (0 ≤ c ∧ (S.R.length : Int) ≤ c) := by
      rcases Int.lt_or_le c 0 with h | h
      · exact .inl h
      · exact .inr ⟨h, by rcases Int.lt_or_le c S.R.length with h2 | h2; exact absurd ((there_iff _ _).2 ⟨h, h2⟩) hc; exact h2⟩
    clear H e hc hI e4
    rcases hlt with hlt | hlt
    · have b1 : decide (c < 0) = true := decide_eq_true hlt
      go_enter Try.func45, Try.ntmps45
      go_wp2_with fail
      go_ret2
      exact ⟨rfl, HN.out⟩
    · have b1 : decide (c < 0) = false := decide_eq_false (by omega)
      have b2 : decide ((S.R.length : Int) ≤ c) = true := decide_eq_true hlt.2
      go_enter Try.func45, Try.ntmps45
      go_wp2_with fail
      go_ret2
      exact ⟨rfl, HN.out⟩
end Go.Proofs.Ytcfkmhmgappckaa

/- The document's New. Condition: so many at most. -/
namespace Go.Proofs.Ytcfkmhmgappckaa
open Go.RowKit Go.Proofs.Ytcfkmhmgappckaa.Sc Go.Proofs.Ytcfkmhmgappckaa.PAll Go.Proofs.YtcfkmhmgappckaaW.PrintWords Go.Proofs.YtcfkmhmgappckaaW.PrintLast Go.Proofs.YtcfkmhmgappckaaW.PrintMore

/-- The rows, by their lists. -/
def DG (h : Nat) (T O W R : Option Nat × Value) (lT lO : List Int) (vs us : List (Option Nat × Value)) (Z : List Ds) : List Ds :=
  [⟨some h, .slice (some ⟨h, 0, none⟩) 1 1, 75, 4, [[T.2, O.2, W.2, R.2]]⟩, ⟨T.1, T.2, 3, 1, ints lT⟩, ⟨O.1, O.2, 3, 1, ints lO⟩, ⟨W.1, W.2, 22, 1, vs.map fun v => [v.2]⟩, ⟨R.1, R.2, 86, 1, us.map fun u => [u.2]⟩] ++ Z
theorem RowIn.hdr {w : World} {base t h : Nat} {a b c d : Value} (H : RowIn w base t 4 (some h) (.slice (some ⟨h, 0, none⟩) 1 1) [[a, b, c, d]]) : ∀ j, j < 4 → w.cell? ⟨h, j, none⟩ = [a, b, c, d][j]? ∧ w.frozen? ⟨h, j, none⟩ = false ∧ ∀ y, RowIn (w.setCell ⟨h, j, none⟩ y) base t 4 (some h) (.slice (some ⟨h, 0, none⟩) 1 1) [[a, b, c, d].set j y] := by
  intro j hj
  rcases H.2 with ⟨e, _⟩ | ⟨b', off, cap, cs, e0, e, hb, hc, h1, h2, h3⟩
  · cases e
  · have hb' : h = b' := Option.some.inj e0
    subst hb'
    have ho : off * 4 = 0 := by have := congrArg Addr.off (Option.some.inj (Value.slice.inj e).1); simpa using this.symm
    have hcap : cap = 1 := (Value.slice.inj e).2.2.symm
    have hsz : 4 ≤ cs.size := by rw [hcap, Nat.add_mul] at h2; omega
    have h3' : ∀ i, i < 4 → cs[i]? = [a, b, c, d][i]? := by
      intro i hi
      have := h3 i (by simpa using hi)
      rw [ho, Nat.zero_add] at this
      rw [this]; simp
    refine ⟨?_, by simp [World.frozen?, hc], fun y => ⟨fun x hx => by obtain rfl := List.mem_singleton.1 hx; simp, .inr ⟨h, off, cap, cs.setIfInBounds j y, rfl, e, hb, ?_, by simpa using h1, by simpa using h2, fun i hi => ?_⟩⟩⟩
    · unfold World.cell?
      simp only [hc]
      exact h3' j hj
    · simp [World.setCell, hc, Array.getElem?_modify]
    · have hi4 : i < 4 := by simpa using hi
      rw [ho, Nat.zero_add, Array.getElem?_setIfInBounds]
      simp only [List.flatten_cons, List.flatten_nil, List.append_nil, List.getElem?_set]
      by_cases e3 : j = i
      · subst e3
        have hjc : j < cs.size := by omega
        have hj4' : j < [a, b, c, d].length := hj
        simp [hjc, hj4']
        exact hj
      · rw [if_neg e3, if_neg e3, h3' i hi4]
section
variable {w w1 : World} {base h : Nat} {T O W R : Option Nat × Value} {lT lO : List Int} {vs us : List (Option Nat × Value)} {Z : List Ds}
theorem Fam.push {D : List Ds} (H : Fam w base D) {j : Nat} {d : Ds} {a b c e : Value} (h0 : D[0]? = some ⟨some h, .slice (some ⟨h, 0, none⟩) 1 1, 75, 4, [[a, b, c, e]]⟩) (hj : D[j + 1]? = some d) (hj4 : j < 4) {ob' : Option Nat} {v' : Value} {l' : List (List Value)}
    (hg : w.grownBy w1 d.ob) (hR : RowIn w1 base d.t d.sz ob' v' l') (hob : ob' = d.ob ∨ ∃ k, ob' = some k ∧ w.heap.size ≤ k) :
    w1.cell? ⟨h, j, none⟩ = [a, b, c, e][j]? ∧ w1.frozen? ⟨h, j, none⟩ = false ∧ Fam (w1.setCell ⟨h, j, none⟩ v') base ((D.set (j + 1) ⟨ob', v', d.t, d.sz, l'⟩).set 0 ⟨some h, .slice (some ⟨h, 0, none⟩) 1 1, 75, 4, [[a, b, c, e].set j v']⟩) := by
  have hf1 := H.set hj (w1 := w1) (d' := ⟨ob', v', d.t, d.sz, l'⟩) hg hR (.inr hob)
  have hat0 : (D.set (j + 1) ⟨ob', v', d.t, d.sz, l'⟩)[0]? = some ⟨some h, .slice (some ⟨h, 0, none⟩) 1 1, 75, 4, [[a, b, c, e]]⟩ := by rw [List.getElem?_set_ne (by omega)]; exact h0
  obtain ⟨q1, q2, q3⟩ := (hf1.at hat0).hdr j hj4
  exact ⟨q1, q2, hf1.set hat0 (w1 := w1.setCell ⟨h, j, none⟩ v') (d' := ⟨some h, .slice (some ⟨h, 0, none⟩) 1 1, 75, 4, [[a, b, c, e].set j v']⟩) (grown_store w1 h j v') (q3 v') (.inr (.inl rfl))⟩
theorem Fam.ins {A B : List Ds} (H : Fam w base (A ++ B)) (d : Ds) (hd : d.ob = none) (hR : RowIn w base d.t d.sz d.ob d.v d.l) : Fam w base (A ++ d :: B) := by
  constructor
  · intro x hx
    rcases List.mem_append.1 hx with hx | hx
    · exact H.1 x (List.mem_append.2 (.inl hx))
    · rcases List.mem_cons.1 hx with rfl | hx
      · exact hR
      · exact H.1 x (List.mem_append.2 (.inr hx))
  · have hp := H.2
    rw [List.map_append, List.pairwise_append] at hp
    rw [List.map_append, List.map_cons, List.pairwise_append, List.pairwise_cons]
    exact ⟨hp.1, ⟨fun _ _ => .inl hd, hp.2.1⟩, fun a ha b hb => by
      rcases List.mem_cons.1 hb with rfl | hb
      · exact .inr (.inl hd)
      · exact hp.2.2 a ha b hb⟩
end
def nilV : Option Nat × Value := (none, .slice none 0 0)
def zn : Ds := ⟨none, .slice none 0 0, 3, 1, []⟩
def rn : Ds := ⟨none, .slice none 0 0, 88, 2, []⟩
theorem row_nil (w : World) (base t sz : Nat) : RowIn w base t sz none (.slice none 0 0) [] := ⟨fun c hc => (List.not_mem_nil hc).elim, .inl ⟨rfl, rfl, rfl⟩⟩
def St1 (w wr : World) (h i : Nat) : Prop := ∃ T, Fam wr w.heap.size (DG h T nilV nilV nilV (List.replicate i 0) [] [] [] []) ∧ Below w.heap.size w wr
def St2 (w wr : World) (h t i : Nat) : Prop := ∃ T O W, Fam wr w.heap.size (DG h T O W nilV (List.replicate t 0) (List.replicate i (-1)) (List.replicate i nilV) [] (List.replicate i zn)) ∧ Below w.heap.size w wr
def St3 (w wr : World) (h t m i : Nat) : Prop := ∃ T O W R, Fam wr w.heap.size (DG h T O W R (List.replicate t 0) (List.replicate m (-1)) (List.replicate m nilV) (List.replicate i nilV) (List.replicate m zn ++ List.replicate i rn)) ∧ Below w.heap.size w wr
theorem rep_snoc {α : Type} (n : Nat) (x : α) : List.replicate n x ++ [x] = List.replicate (n + 1) x := by rw [List.replicate_succ']
theorem grown_below {w w1 w2 : World} {ob : Option Nat} (hb : Below w.heap.size w w1) (hg : w1.grownBy w2 ob) (hob : ∀ k, ob = some k → w.heap.size ≤ k) : Below w.heap.size w w2 :=
  ⟨hg.os.trans hb.os, hg.tape.trans hb.tape, hg.output.trans hb.output, Nat.le_trans hb.size hg.size, fun k hk => (hg.block k (Nat.lt_of_lt_of_le hk hb.size) (fun e => by have := hob k e.symm; omega)).trans (hb.block k hk)⟩
theorem St3.done {w wr : World} {h t m c : Nat} (H : St3 w wr h t m c) : Rch wr w.heap.size h (fun k => w.heap.size ≤ k ∧ k < wr.heap.size) (newS t m c) ∧ Below w.heap.size w wr := by
  obtain ⟨T, O, W, R, hF, hb⟩ := H
  have e : DG h T O W R (List.replicate t 0) (List.replicate m (-1)) (List.replicate m nilV) (List.replicate c nilV) (List.replicate m zn ++ List.replicate c rn) = DD h T O W R (List.replicate m nilV) (List.replicate c nilV) (newS t m c) := by
    unfold DG DD
    have e1 : List.zipWith (fun (x : Int × List Int) (v : Option Nat × Value) => (⟨v.1, v.2, 3, 1, ints x.2⟩ : Ds)) (newS t m c).M (List.replicate m nilV) = List.replicate m zn := by
      apply List.ext_getElem
      · simp [newS]
      · intro i h1 h2; simp [newS, nilV, zn, ints]
    have e2 : List.zipWith (fun (x : List (Int × Int)) (u : Option Nat × Value) => (⟨u.1, u.2, 88, 2, pairs x⟩ : Ds)) (newS t m c).R (List.replicate c nilV) = List.replicate c rn := by
      apply List.ext_getElem
      · simp [newS]
      · intro i h1 h2; simp [newS, nilV, rn, pairs]
    rw [e1, e2]
    simp [newS]
  rw [e] at hF
  have hI : IsR wr w.heap.size h T O W R (List.replicate m nilV) (List.replicate c nilV) (newS t m c) := ⟨hF, by simp [newS], by simp [newS]⟩
  have h0 := (hI.fam.at (i := 0) rfl).lt h rfl
  exact ⟨⟨fun k hk => hk, T, O, W, R, _, _, hI, h0, fun x hx k hk => hI.ltO x hx k hk⟩, hb⟩
end Go.Proofs.Ytcfkmhmgappckaa

/- The document's New, walked. Condition: so many at most. -/
namespace Go.Proofs.Ytcfkmhmgappckaa
open Go.RowKit Go.Proofs.Ytcfkmhmgappckaa.Sc Go.Proofs.Ytcfkmhmgappckaa.PAll Go.Proofs.YtcfkmhmgappckaaW.PrintWords Go.Proofs.YtcfkmhmgappckaaW.PrintLast Go.Proofs.YtcfkmhmgappckaaW.PrintMore

theorem infoRowN : (Try.prog.info? 22).map (fun i => (i.zero, i.size, i.bytes)) = some (some (.slice none 0 0), 1, 24) := by kernel_rfl
theorem infoRestsN : (Try.prog.info? 86).map (fun i => (i.zero, i.size, i.bytes)) = some (some (.slice none 0 0), 1, 24) := by kernel_rfl
theorem one_new (w : World) (v : Value) (t : Nat) : ∀ j u, [v][j]? = some u → (w.alloc (Obj.cells #[v] t (0, 0))).cell? ((⟨w.heap.size, 0, none⟩ : Addr).add j) = some u := by
  intro j u hj
  cases j with
  | zero => obtain rfl : v = u := by simpa using hj
            rw [Addr.add_lit]; exact cell_at_new _ _ _ 0 _ rfl
  | succ j => simp at hj
set_option maxHeartbeats 4000000 in
set_option maxRecDepth 100000 in
theorem rnew_nat (w : World) (t m c : Nat) (lT : t ≤ 1000) (lM : m ≤ 1000) (lC : c ≤ 1000) (ti mi ci : Int) (et : ti.toNat = t) (em : mi.toNat = m) (ec : ci.toNat = c) :
    Calls Try.prog 22 #[.int .i64 ti, .int .i64 mi, .int .i64 ci] w fun e w' => e = .returned (.pointer (some ⟨w.heap.size, 0, none⟩)) ∧ St3 w w' w.heap.size t m c := by
  obtain ⟨i0, hi, hz0, hz1, hz2⟩ := info_parts infoInt
  obtain ⟨i1, hi1, hy0, hy1, hy2⟩ := info_parts infoRowN
  obtain ⟨i2, hi2, hx0, hx1, hx2⟩ := info_parts infoRestsN
  have ET := Lib.hid et
  have EM := Lib.hid em
  have EC := Lib.hid ec
  clear et em ec
  go_enter Try.func22, Try.ntmps22
  go_wp2_with fail
  have hs : St1 w (w.alloc (.cells #[.slice none 0 0, .slice none 0 0, .slice none 0 0, .slice none 0 0] 75 (0, 0))) w.heap.size 0 := by
    refine ⟨nilV, ⟨?_, ?_⟩, below_alloc (Below.refl _ _) _⟩
    · intro d hd
      simp only [DG, List.append_nil, List.mem_cons, List.not_mem_nil, or_false] at hd
      rcases hd with rfl | rfl | rfl | rfl | rfl
      · exact ⟨fun c hc => by obtain rfl := List.mem_singleton.1 hc; rfl, .inr ⟨w.heap.size, 0, 1, _, rfl, rfl, Nat.le_refl _, heap_alloc_new w _, by simp, by simp, fun i hi => by
          have hi4 : i < 4 := by simpa using hi
          match i, hi4 with
          | 0, _ => rfl
          | 1, _ => rfl
          | 2, _ => rfl
          | 3, _ => rfl⟩⟩
      all_goals exact row_nil _ _ _ _
    · simp [DG, nilV]
  have HS := Lib.hid hs
  clear hs
  go_loopw [8] (fun v wr => ∃ i : Nat, v = .int .i64 (i : Int) ∧ i ≤ t ∧ St1 w wr w.heap.size i) (fun v _ => t - (intOf v).toNat)
  case atStart => exact ⟨0, rfl, by omega, HS.out⟩
  case round =>
    clear HS
    obtain ⟨i, rfl, hit, T, hF, hb⟩ := hrel
    by_cases hlt : i < t
    · have et := ET.out
      have g1 : ((i : Nat) : Int) < ti := by omega
      have d1 : decide (((i : Nat) : Int) < ti) = true := decide_eq_true g1
      clear et
      have hFa1 := hF.below (below_alloc (Below.refl _ _) (Obj.cells #[Value.int .i64 0] 3 (0, 0)))
      have hRa1 := hFa1.at (i := 1) rfl
      have hh1 := (hF.at (i := 0) rfl).hdr 0 (by omega)
      have k1 : wr.cell? ⟨w.heap.size, 0, none⟩ = some T.2 := hh1.1
      have hba1 : w.heap.size ≤ (wr.alloc (Obj.cells #[Value.int .i64 0] 3 (0, 0))).heap.size := Nat.le_trans hb.size (by simp)
      have hob1 : ∀ q, T.1 = some q → w.heap.size ≤ q := fun q hq => (hRa1.lt q hq).1
      have HFA1 := Lib.hid hFa1
      have HRA1 := Lib.hid hRa1
      have HB1 := Lib.hid hb
      have hn1 : (ints (List.replicate i 0)).length + 1 ≤ maxLen := by unfold maxLen; simp [ints]; omega
      have hm1 : ((ints (List.replicate i 0)).length + 1) * 8 ≤ 140737488355328 := by simp [ints]; omega
      clear hFa1 hRa1 hh1 hF hb
      go_wp2_with (at_builtin; refine wpList_push _ rfl (.tmp 22) (.tmp 23) 22 rfl 3 i0 (.int .i64 0) 1 8 Try.underlying22 hi hz0 hz1 hz2 rfl (by decide) HRA1.out rfl ⟨wr.heap.size, 0, none⟩ 1 [Value.int .i64 0] rfl rfl (one_new wr (Value.int .i64 0) 3) (by simp [Value.oneCell']) hn1 hm1 hba1 ?_)
      intro ob1 A1 n1 c1 v1 hR1 hg1 hq1
      obtain ⟨p1, z1, hN1⟩ := HFA1.out.push (j := 0) rfl rfl (by omega) hg1 hR1 (hq1.imp id (fun ⟨q, e1, e2⟩ => ⟨q, e1, by simpa using e2⟩))
      have p1 : v1.cell? ⟨w.heap.size, 0, none⟩ = some T.2 := p1
      obtain ⟨w1, hw1⟩ : ∃ w1, w1 = v1.setCell ⟨w.heap.size, 0, none⟩ (.slice A1 n1 c1) := ⟨_, rfl⟩
      have hbn1 : Below w.heap.size w w1 := by rw [hw1]; exact (grown_below (Below.trans HB1.out ((below_alloc (Below.refl _ _) _).mono HB1.out.size)) hg1 hob1).setCell (Nat.le_refl _) _
      rw [← hw1] at hN1
      have hN1 : Fam w1 w.heap.size (DG w.heap.size (ob1, .slice A1 n1 c1) nilV nilV nilV (List.replicate (i + 1) 0) [] [] [] []) := by
        refine cast ?_ hN1
        congr 1
        simp [DG, ints, nilV, List.map_replicate, ← rep_snoc]
      have HN1 := Lib.hid hN1
      have HBN1 := Lib.hid hbn1
      clear hN1 hbn1 hR1 hg1 hq1 hob1 k1
      go_wp2_with fail
      rw [← hw1]
      go_roundw
      case rel => exact ⟨i + 1, by go_num, by omega, _, HN1.out, HBN1.out⟩
      case measure => simp [intOf]; omega
    · obtain rfl : i = t := by omega
      have et := ET.out
      have d1 : decide (((i : Nat) : Int) < ti) = false := decide_eq_false (by omega)
      have hs2 : St2 w wr w.heap.size i 0 := ⟨T, nilV, nilV, hF, hb⟩
      have HS2 := Lib.hid hs2
      obtain ⟨wA, hwA⟩ : ∃ wA, wA = wr := ⟨_, rfl⟩
      subst hwA
      clear hs2 hF hb et
      go_wp2_with fail
      clear d1
      go_loopw [9] (fun v wr => ∃ j : Nat, v = .int .i64 (j : Int) ∧ j ≤ m ∧ St2 w wr w.heap.size i j) (fun v _ => m - (intOf v).toNat)
      case atStart => exact ⟨0, rfl, by omega, HS2.out⟩
      case round =>
        clear HS2
        obtain ⟨j, rfl, hjm, T, O, W, hF, hb⟩ := hrel
        by_cases hlt2 : j < m
        · have em := EM.out
          have g2 : ((j : Nat) : Int) < mi := by omega
          have d2 : decide (((j : Nat) : Int) < mi) = true := decide_eq_true g2
          clear em
          have hFa2 := hF.below (below_alloc (Below.refl _ _) (Obj.cells #[Value.int .i64 (-1)] 3 (0, 0)))
          have hRa2 := hFa2.at (i := 2) rfl
          have hh2 := (hF.at (i := 0) rfl).hdr 1 (by omega)
          have k2 : wr.cell? ⟨w.heap.size, 1, none⟩ = some O.2 := hh2.1
          have hba2 : w.heap.size ≤ (wr.alloc (Obj.cells #[Value.int .i64 (-1)] 3 (0, 0))).heap.size := Nat.le_trans hb.size (by simp)
          have hob2 : ∀ q, O.1 = some q → w.heap.size ≤ q := fun q hq => (hRa2.lt q hq).1
          have HFA2 := Lib.hid hFa2
          have HRA2 := Lib.hid hRa2
          have HB2 := Lib.hid hb
          have hn2 : (ints (List.replicate j (-1))).length + 1 ≤ maxLen := by unfold maxLen; simp [ints]; omega
          have hm2 : ((ints (List.replicate j (-1))).length + 1) * 8 ≤ 140737488355328 := by simp [ints]; omega
          clear hFa2 hRa2 hh2 hF hb
          go_wp2_with (at_builtin; refine wpList_push _ rfl (.tmp 36) (.tmp 37) 22 rfl 3 i0 (.int .i64 0) 1 8 Try.underlying22 hi hz0 hz1 hz2 rfl (by decide) HRA2.out rfl ⟨wr.heap.size, 0, none⟩ 1 [Value.int .i64 (-1)] rfl rfl (one_new wr (Value.int .i64 (-1)) 3) (by simp [Value.oneCell']) hn2 hm2 hba2 ?_)
          intro ob2 A2 n2 c2 v2 hR2 hg2 hq2
          obtain ⟨p2, z2, hN2⟩ := HFA2.out.push (j := 1) rfl rfl (by omega) hg2 hR2 (hq2.imp id (fun ⟨q, e1, e2⟩ => ⟨q, e1, by simpa using e2⟩))
          have p2 : v2.cell? ⟨w.heap.size, 1, none⟩ = some O.2 := p2
          obtain ⟨w2, hw2⟩ : ∃ w2, w2 = v2.setCell ⟨w.heap.size, 1, none⟩ (.slice A2 n2 c2) := ⟨_, rfl⟩
          have hbn2 : Below w.heap.size w w2 := by rw [hw2]; exact (grown_below (Below.trans HB2.out ((below_alloc (Below.refl _ _) _).mono HB2.out.size)) hg2 hob2).setCell (Nat.le_refl _) _
          rw [← hw2] at hN2
          have hN2 : Fam w2 w.heap.size (DG w.heap.size T (ob2, .slice A2 n2 c2) W nilV (List.replicate i 0) (List.replicate (j + 1) (-1)) (List.replicate j nilV) [] (List.replicate j zn)) := by
            refine cast ?_ hN2
            congr 1
            simp [DG, ints, nilV, List.map_replicate, ← rep_snoc]
          have HN2 := Lib.hid hN2
          have HBN2 := Lib.hid hbn2
          clear hN2 hbn2 hR2 hg2 hq2 hob2 k2
          go_upto_region 10 with fail
          rw [← hw2]
          have hF2 := HN2.out
          have hb2 := HBN2.out
          clear hw2 HN2 HBN2
          have hFa3 := hF2.below (below_alloc (Below.refl _ _) (Obj.cells #[Value.slice none 0 0] 22 (0, 0)))
          have hRa3 := hFa3.at (i := 3) rfl
          have hh3 := (hF2.at (i := 0) rfl).hdr 2 (by omega)
          have k3 : w2.cell? ⟨w.heap.size, 2, none⟩ = some W.2 := hh3.1
          have hba3 : w.heap.size ≤ (w2.alloc (Obj.cells #[Value.slice none 0 0] 22 (0, 0))).heap.size := Nat.le_trans hb2.size (by simp)
          have hob3 : ∀ q, W.1 = some q → w.heap.size ≤ q := fun q hq => (hRa3.lt q hq).1
          have HFA3 := Lib.hid hFa3
          have HRA3 := Lib.hid hRa3
          have HB3 := Lib.hid hb2
          have hn3 : ((List.replicate j nilV).map fun v => [v.2]).length + 1 ≤ maxLen := by unfold maxLen; simp; omega
          have hm3 : (((List.replicate j nilV).map fun v => [v.2]).length + 1) * 24 ≤ 140737488355328 := by simp; omega
          clear hFa3 hRa3 hh3 hF2 hb2
          go_wp2_with (at_builtin; refine wpList_push _ rfl (.tmp 45) (.tmp 46) 72 rfl 22 i1 (.slice none 0 0) 1 24 Try.underlying72 hi1 hy0 hy1 hy2 rfl (by decide) HRA3.out rfl ⟨w2.heap.size, 0, none⟩ 1 [Value.slice none 0 0] rfl rfl (one_new w2 (Value.slice none 0 0) 22) (by simp [Value.oneCell']) hn3 hm3 hba3 ?_)
          intro ob3 A3 n3 c3 v3 hR3 hg3 hq3
          obtain ⟨p3, z3, hN3⟩ := HFA3.out.push (j := 2) rfl rfl (by omega) hg3 hR3 (hq3.imp id (fun ⟨q, e1, e2⟩ => ⟨q, e1, by simpa using e2⟩))
          have p3 : v3.cell? ⟨w.heap.size, 2, none⟩ = some W.2 := p3
          obtain ⟨w3, hw3⟩ : ∃ w3, w3 = v3.setCell ⟨w.heap.size, 2, none⟩ (.slice A3 n3 c3) := ⟨_, rfl⟩
          have hbn3 : Below w.heap.size w w3 := by rw [hw3]; exact (grown_below (Below.trans HB3.out ((below_alloc (Below.refl _ _) _).mono HB3.out.size)) hg3 hob3).setCell (Nat.le_refl _) _
          rw [← hw3] at hN3
          have hN3 : Fam w3 w.heap.size (DG w.heap.size T (ob2, .slice A2 n2 c2) (ob3, .slice A3 n3 c3) nilV (List.replicate i 0) (List.replicate (j + 1) (-1)) (List.replicate (j + 1) nilV) [] (List.replicate j zn)) := by
            refine cast ?_ hN3
            congr 1
            simp [DG, ints, nilV, List.map_replicate, ← rep_snoc]
          have HN3 := Lib.hid hN3
          have HBN3 := Lib.hid hbn3
          clear hN3 hbn3 hR3 hg3 hq3 hob3 k3
          have hins : Fam w3 w.heap.size (DG w.heap.size T (ob2, .slice A2 n2 c2) (ob3, .slice A3 n3 c3) nilV (List.replicate i 0) (List.replicate (j + 1) (-1)) (List.replicate (j + 1) nilV) [] (List.replicate (j + 1) zn)) := by
            have h9 := HN3.out
            rw [← List.append_nil (DG _ _ _ _ _ _ _ _ _ _)] at h9
            have h8 := h9.ins zn rfl (row_nil _ _ _ _)
            refine cast ?_ h8
            congr 1
            simp [DG, ← rep_snoc]
          have HINS := Lib.hid hins
          clear hins
          go_wp2_with fail
          rw [← hw3]
          go_roundw
          case rel => exact ⟨j + 1, by go_num, by omega, _, _, _, HINS.out, HBN3.out⟩
          case measure => simp [intOf]; omega
        · obtain rfl : j = m := by omega
          have em := EM.out
          have d2 : decide (((j : Nat) : Int) < mi) = false := decide_eq_false (by omega)
          have hs3 : St3 w wr w.heap.size i j 0 := ⟨T, O, W, nilV, by simpa using hF, hb⟩
          have HS3 := Lib.hid hs3
          obtain ⟨wB, hwB⟩ : ∃ wB, wB = wr := ⟨_, rfl⟩
          subst hwB
          clear hs3 hF hb em
          go_wp2_with fail
          clear d2
          go_loopw [10] (fun v wr => ∃ q : Nat, v = .int .i64 (q : Int) ∧ q ≤ c ∧ St3 w wr w.heap.size i j q) (fun v _ => c - (intOf v).toNat)
          case atStart => exact ⟨0, rfl, by omega, HS3.out⟩
          case round =>
            clear HS3
            obtain ⟨q, rfl, hqc, T, O, W, R, hF, hb⟩ := hrel
            by_cases hlt3 : q < c
            · have ec := EC.out
              have g3 : ((q : Nat) : Int) < ci := by omega
              have d3 : decide (((q : Nat) : Int) < ci) = true := decide_eq_true g3
              clear ec
              have hFa4 := hF.below (below_alloc (Below.refl _ _) (Obj.cells #[Value.slice none 0 0] 86 (0, 0)))
              have hRa4 := hFa4.at (i := 4) rfl
              have hh4 := (hF.at (i := 0) rfl).hdr 3 (by omega)
              have k4 : wr.cell? ⟨w.heap.size, 3, none⟩ = some R.2 := hh4.1
              have hba4 : w.heap.size ≤ (wr.alloc (Obj.cells #[Value.slice none 0 0] 86 (0, 0))).heap.size := Nat.le_trans hb.size (by simp)
              have hob4 : ∀ q, R.1 = some q → w.heap.size ≤ q := fun q hq => (hRa4.lt q hq).1
              have HFA4 := Lib.hid hFa4
              have HRA4 := Lib.hid hRa4
              have HB4 := Lib.hid hb
              have hn4 : ((List.replicate q nilV).map fun v => [v.2]).length + 1 ≤ maxLen := by unfold maxLen; simp; omega
              have hm4 : (((List.replicate q nilV).map fun v => [v.2]).length + 1) * 24 ≤ 140737488355328 := by simp; omega
              clear hFa4 hRa4 hh4 hF hb
              go_wp2_with (at_builtin; refine wpList_push _ rfl (.tmp 59) (.tmp 60) 73 rfl 86 i2 (.slice none 0 0) 1 24 Try.underlying73 hi2 hx0 hx1 hx2 rfl (by decide) HRA4.out rfl ⟨wr.heap.size, 0, none⟩ 1 [Value.slice none 0 0] rfl rfl (one_new wr (Value.slice none 0 0) 86) (by simp [Value.oneCell']) hn4 hm4 hba4 ?_)
              intro ob4 A4 n4 c4 v4 hR4 hg4 hq4
              obtain ⟨p4, z4, hN4⟩ := HFA4.out.push (j := 3) rfl rfl (by omega) hg4 hR4 (hq4.imp id (fun ⟨q, e1, e2⟩ => ⟨q, e1, by simpa using e2⟩))
              have p4 : v4.cell? ⟨w.heap.size, 3, none⟩ = some R.2 := p4
              obtain ⟨w4, hw4⟩ : ∃ w4, w4 = v4.setCell ⟨w.heap.size, 3, none⟩ (.slice A4 n4 c4) := ⟨_, rfl⟩
              have hbn4 : Below w.heap.size w w4 := by rw [hw4]; exact (grown_below (Below.trans HB4.out ((below_alloc (Below.refl _ _) _).mono HB4.out.size)) hg4 hob4).setCell (Nat.le_refl _) _
              rw [← hw4] at hN4
              have hN4 : Fam w4 w.heap.size (DG w.heap.size T O W (ob4, .slice A4 n4 c4) (List.replicate i 0) (List.replicate j (-1)) (List.replicate j nilV) (List.replicate (q + 1) nilV) (List.replicate j zn ++ List.replicate q rn)) := by
                refine cast ?_ hN4
                congr 1
                simp [DG, ints, nilV, List.map_replicate, ← rep_snoc]
              have HN4 := Lib.hid hN4
              have HBN4 := Lib.hid hbn4
              clear hN4 hbn4 hR4 hg4 hq4 hob4 k4
              have hins : Fam w4 w.heap.size (DG w.heap.size T O W (ob4, .slice A4 n4 c4) (List.replicate i 0) (List.replicate j (-1)) (List.replicate j nilV) (List.replicate (q + 1) nilV) (List.replicate j zn ++ List.replicate (q + 1) rn)) := by
                have h9 := HN4.out
                rw [← List.append_nil (DG _ _ _ _ _ _ _ _ _ _)] at h9
                have h8 := h9.ins rn rfl (row_nil _ _ _ _)
                refine cast ?_ h8
                congr 1
                simp [DG, ← rep_snoc]
              have HINS := Lib.hid hins
              clear hins
              go_wp2_with fail
              rw [← hw4]
              go_roundw
              case rel => exact ⟨q + 1, by go_num, by omega, _, _, _, _, HINS.out, HBN4.out⟩
              case measure => simp [intOf]; omega
            · obtain rfl : q = c := by omega
              have ec := EC.out
              have d3 : decide (((q : Nat) : Int) < ci) = false := decide_eq_false (by omega)
              have HS4 := Lib.hid (show St3 w wr w.heap.size i j q from ⟨T, O, W, R, hF, hb⟩)
              clear hF hb ec
              go_wp2_with fail
              go_ret
              exact ⟨rfl, HS4.out⟩
theorem rnew_any (w : World) (t m c : Int) (ht : t ≤ 1000) (hm : m ≤ 1000) (hc : c ≤ 1000) :
    Calls Try.prog 22 #[.int .i64 t, .int .i64 m, .int .i64 c] w fun e w' => ∃ h, e = .returned (.pointer (some ⟨h, 0, none⟩)) ∧ Rch w' w.heap.size h (fun k => w.heap.size ≤ k ∧ k < w'.heap.size) (newS t m c) ∧ Below w.heap.size w w' := by
  have e : newS (t.toNat : Int) (m.toNat : Int) (c.toNat : Int) = newS t m c := by simp [newS]; omega
  refine (rnew_nat w t.toNat m.toNat c.toNat (by omega) (by omega) (by omega) t m c rfl rfl rfl).mono ?_
  rintro e' w' ⟨rfl, hs⟩
  obtain ⟨h1, h2⟩ := hs.done
  rw [e] at h1
  exact ⟨_, rfl, h1, h2⟩
end Go.Proofs.Ytcfkmhmgappckaa

/- A schedule and the document's, side by side. No condition. -/
namespace Go.Proofs.Ytcfkmhmgappckaa
open Go.RowKit Go.Proofs.Ytcfkmhmgappckaa.Sc Go.Proofs.Ytcfkmhmgappckaa.PAll Go.Proofs.YtcfkmhmgappckaaW.PrintWords Go.Proofs.YtcfkmhmgappckaaW.PrintLast Go.Proofs.YtcfkmhmgappckaaW.PrintMore

structure TwoF (K : Nat → Prop) (w : World) (B D g h : Nat) (S1 S2 : Sd) (F G : Nat → Prop) : Prop where
  s : Sch w B g F S1
  r : Rch w D h G S2
  fg : ∀ k, F k → ¬ G k
  kf : ∀ k, K k → ¬ F k ∧ ¬ G k ∧ k < w.heap.size
  b : B ≤ w.heap.size
  d : D ≤ w.heap.size
/-- Both lie apart, and K apart from both. -/
def Two (K : Nat → Prop) (w : World) (B D g h : Nat) (S1 S2 : Sd) : Prop := ∃ F G, TwoF K w B D g h S1 S2 F G
section
variable {K : Nat → Prop} {w w1 : World} {B D g h : Nat} {S1 S2 S' : Sd}
theorem Two.below (H : Two K w B D g h S1 S2) (hb : Below w.heap.size w w1) : Two K w1 B D g h S1 S2 := by
  obtain ⟨F, G, H⟩ := H
  exact ⟨F, G, H.s.below hb, H.r.below hb, H.fg, fun k hk => ⟨(H.kf k hk).1, (H.kf k hk).2.1, Nat.lt_of_lt_of_le (H.kf k hk).2.2 hb.size⟩, Nat.le_trans H.b hb.size, Nat.le_trans H.d hb.size⟩
theorem Two.less {K' : Nat → Prop} (H : Two K w B D g h S1 S2) (hk : ∀ k, K' k → K k) : Two K' w B D g h S1 S2 := by
  obtain ⟨F, G, H⟩ := H
  exact ⟨F, G, H.s, H.r, H.fg, fun k h => H.kf k (hk k h), H.b, H.d⟩
/-- What came anew is kept too. -/
theorem Two.also (H : Two K w B D g h S1 S2) (hb : Below w.heap.size w w1) : Two (fun k => K k ∨ (w.heap.size ≤ k ∧ k < w1.heap.size)) w1 B D g h S1 S2 := by
  obtain ⟨F, G, H⟩ := H.below hb |> fun _ => H
  refine ⟨F, G, H.s.below hb, H.r.below hb, H.fg, fun k hk => ?_, Nat.le_trans H.b hb.size, Nat.le_trans H.d hb.size⟩
  rcases hk with hk | hk
  · exact ⟨(H.kf k hk).1, (H.kf k hk).2.1, Nat.lt_of_lt_of_le (H.kf k hk).2.2 hb.size⟩
  · exact ⟨fun hF => by have := (H.s.1 k hF).2; omega, fun hG => by have := (H.r.1 k hG).2; omega, hk.2⟩
theorem TwoF.prog {F G : Nat → Prop} (H : TwoF K w B D g h S1 S2 F G) (hN : Next w B g F S' w1) : Two K w1 B D g h S' S2 ∧ Moves (fun k => ¬ K k) w w1 := by
  refine ⟨⟨Plus F w w1, G, hN.1, H.r.apart hN.2 (fun k hG hF => H.fg k hF hG), fun k hF hG => ?_, fun k hk => ⟨fun hF => ?_, (H.kf k hk).2.1, Nat.lt_of_lt_of_le (H.kf k hk).2.2 hN.2.size⟩, Nat.le_trans H.b hN.2.size, Nat.le_trans H.d hN.2.size⟩, hN.2.os, hN.2.tape, hN.2.output, hN.2.size, fun k hk hn => hN.2.block k hk (fun hF => hn (fun hK => (H.kf k hK).1 hF))⟩
  · rcases hF with hF | hF
    · exact H.fg k hF hG
    · have := (H.r.1 k hG).2; omega
  · rcases hF with hF | hF
    · exact (H.kf k hk).1 hF
    · have := (H.kf k hk).2.2; omega
theorem TwoF.doc {F G : Nat → Prop} (H : TwoF K w B D g h S1 S2 F G) (hN : NextR w D h G S' w1) : Two K w1 B D g h S1 S' ∧ Moves (fun k => ¬ K k) w w1 := by
  refine ⟨⟨F, Plus G w w1, H.s.apart hN.2 (fun k hF hG => H.fg k hF hG), hN.1, fun k hF hG => ?_, fun k hk => ⟨(H.kf k hk).1, fun hF => ?_, Nat.lt_of_lt_of_le (H.kf k hk).2.2 hN.2.size⟩, Nat.le_trans H.b hN.2.size, Nat.le_trans H.d hN.2.size⟩, hN.2.os, hN.2.tape, hN.2.output, hN.2.size, fun k hk hn => hN.2.block k hk (fun hF => hn (fun hK => (H.kf k hK).2.1 hF))⟩
  · rcases hG with hG | hG
    · exact H.fg k hF hG
    · have := (H.s.1 k hF).2; omega
  · rcases hF with hF | hF
    · exact (H.kf k hk).2.1 hF
    · have := (H.kf k hk).2.2; omega
theorem two_prog {f : FuncId} {args : Array Value} {r : Value} (H : Two K w B D g h S1 S2) (hc : ∀ F, Sch w B g F S1 → Calls Try.prog f args w fun e w' => e = .returned r ∧ Next w B g F S' w') :
    Calls Try.prog f args w fun e w' => e = .returned r ∧ Two K w' B D g h S' S2 ∧ Moves (fun k => ¬ K k) w w' := by
  obtain ⟨F, G, H⟩ := H
  exact (hc F H.s).mono (fun e w' ⟨h1, h2⟩ => ⟨h1, H.prog h2⟩)
theorem two_doc {f : FuncId} {args : Array Value} {r : Value} (H : Two K w B D g h S1 S2) (hc : ∀ F, Rch w D h F S2 → Calls Try.prog f args w fun e w' => e = .returned r ∧ NextR w D h F S' w') :
    Calls Try.prog f args w fun e w' => e = .returned r ∧ Two K w' B D g h S1 S' ∧ Moves (fun k => ¬ K k) w w' := by
  obtain ⟨F, G, H⟩ := H
  exact (hc G H.r).mono (fun e w' ⟨h1, h2⟩ => ⟨h1, H.doc h2⟩)
theorem Two.base (H : Two K w B D g h S1 S2) : B ≤ w.heap.size ∧ D ≤ w.heap.size := by
  obtain ⟨F, G, H⟩ := H
  exact ⟨H.b, H.d⟩
theorem Moves.kept {u : Value} {a : Addr} (hm : Moves (fun k => ¬ K k) w w1) (hk : K a.block) (hc : w.cell? a = some u) : w1.cell? a = some u :=
  (World.cell?_of_block (hm.block _ (World.block_lt_of_cell? w _ hc) (fun h => h hk))).trans hc
end

/-- A deed: what, whose, at which mutex, at which condition, by number or by pick. -/
structure Dd where
  k : Int
  t : Int
  m : Int
  c : Int
  p : Bool
def Dd.val (d : Dd) : Value := .agg #[.int .i64 d.k, .int .i64 d.t, .int .i64 d.m, .int .i64 d.c, .bool d.p]
def whose (S : Sd) (d : Dd) : Int := if d.p then (pick S d.t).1 else d.t
def doesS (S : Sd) (d : Dd) : Sd :=
  if d.k = 0 then (lock S (whose S d) d.m).1
  else if d.k = 1 then (unlock S (whose S d) d.m).1
  else if d.k = 2 then (wait S (whose S d) d.c d.m).1
  else if d.k = 3 then (Sc.rest S (whose S d) d.c).1
  else if d.k = 4 then (wake S d.c).1
  else if d.k = 5 then (endT S (whose S d)).1
  else S
/-- Few of each; and as it must be. -/
structure Fits (S : Sd) : Prop where
  ok : Ok S []
  t : S.T.length ≤ 1000
  m : S.M.length ≤ 1000
  c : S.R.length ≤ 1000
theorem Fits.size {S S' : Sd} (h : Fits S) (hk : Ok S' []) (hs : Size S S') : Fits S' := ⟨hk, by rw [hs.1]; exact h.t, by rw [hs.2.1]; exact h.m, by rw [hs.2.2]; exact h.c⟩
theorem size_does (S : Sd) (d : Dd) : Size S (doesS S d) := by
  unfold doesS
  split
  · exact size_lock _ _ _
  split
  · exact size_unlock _ _ _
  split
  · exact size_wait _ _ _ _
  split
  · exact size_rest _ _ _
  split
  · exact size_wake _ _
  split
  · exact size_end _ _
  · exact Size.refl _
theorem Fits.does {S : Sd} (h : Fits S) (d : Dd) : Fits (doesS S d) := by
  refine h.size ?_ (size_does S d)
  unfold doesS
  split
  · exact h.ok.lock _ _
  split
  · exact h.ok.unlock _ _
  split
  · exact h.ok.wait _ _ _
  split
  · exact h.ok.restS _ _
  split
  · exact h.ok.wake _
  split
  · exact h.ok.endT _
  · exact h.ok
section
variable {K : Nat → Prop} {w : World} {B D g h : Nat} {S1 S2 : Sd}
theorem two_lock (H : Two K w B D g h S1 S2) (k : Fits S1) (t m : Int) :
    Calls Try.prog 10 #[.pointer (some ⟨g, 0, none⟩), .int .i64 t, .int .i64 m] w fun e w' => e = .returned (.tuple #[.bool (lock S1 t m).2.1, .int .i64 (lock S1 t m).2.2]) ∧ Two K w' B D g h (lock S1 t m).1 S2 ∧ Moves (fun k => ¬ K k) w w' :=
  two_prog H (fun _ q => lock_any q H.base.1 k.ok k.t k.m t m)
theorem two_rlock (H : Two K w B D g h S1 S2) (k : Fits S2) (t m : Int) :
    Calls Try.prog 41 #[.pointer (some ⟨h, 0, none⟩), .int .i64 t, .int .i64 m] w fun e w' => e = .returned (.tuple #[.bool (lock S2 t m).2.1, .int .i64 (lock S2 t m).2.2]) ∧ Two K w' B D g h S1 (lock S2 t m).1 ∧ Moves (fun k => ¬ K k) w w' :=
  two_doc H (fun _ q => rlock_any q H.base.2 k.ok k.t k.m k.c t m)
theorem two_unlock (H : Two K w B D g h S1 S2) (k : Fits S1) (t m : Int) :
    Calls Try.prog 13 #[.pointer (some ⟨g, 0, none⟩), .int .i64 t, .int .i64 m] w fun e w' => e = .returned (.int .i64 (unlock S1 t m).2) ∧ Two K w' B D g h (unlock S1 t m).1 S2 ∧ Moves (fun k => ¬ K k) w w' :=
  two_prog H (fun _ q => unlock_any q H.base.1 k.ok k.t k.m k.c t m)
theorem two_runlock (H : Two K w B D g h S1 S2) (k : Fits S2) (t m : Int) :
    Calls Try.prog 42 #[.pointer (some ⟨h, 0, none⟩), .int .i64 t, .int .i64 m] w fun e w' => e = .returned (.int .i64 (unlock S2 t m).2) ∧ Two K w' B D g h S1 (unlock S2 t m).1 ∧ Moves (fun k => ¬ K k) w w' :=
  two_doc H (fun _ q => runlock_any q H.base.2 k.ok k.t k.m k.c t m)
theorem two_wait (H : Two K w B D g h S1 S2) (k : Fits S1) (t c m : Int) :
    Calls Try.prog 15 #[.pointer (some ⟨g, 0, none⟩), .int .i64 t, .int .i64 c, .int .i64 m] w fun e w' => e = .returned (.int .i64 (wait S1 t c m).2) ∧ Two K w' B D g h (wait S1 t c m).1 S2 ∧ Moves (fun k => ¬ K k) w w' :=
  two_prog H (fun _ q => wait_any q H.base.1 k.ok k.t k.m k.c t c m)
theorem two_rwait (H : Two K w B D g h S1 S2) (k : Fits S2) (t c m : Int) :
    Calls Try.prog 43 #[.pointer (some ⟨h, 0, none⟩), .int .i64 t, .int .i64 c, .int .i64 m] w fun e w' => e = .returned (.int .i64 (wait S2 t c m).2) ∧ Two K w' B D g h S1 (wait S2 t c m).1 ∧ Moves (fun k => ¬ K k) w w' :=
  two_doc H (fun _ q => rwait_any q H.base.2 k.ok k.t k.m k.c t c m)
theorem two_rest (H : Two K w B D g h S1 S2) (k : Fits S1) (t c : Int) :
    Calls Try.prog 26 #[.pointer (some ⟨g, 0, none⟩), .int .i64 t, .int .i64 c] w fun e w' => e = .returned (.int .i64 (Sc.rest S1 t c).2) ∧ Two K w' B D g h (Sc.rest S1 t c).1 S2 ∧ Moves (fun k => ¬ K k) w w' :=
  two_prog H (fun _ q => rest_any q H.base.1 k.ok k.t k.m k.c t c)
theorem two_rlie (H : Two K w B D g h S1 S2) (k : Fits S2) (t c : Int) :
    Calls Try.prog 44 #[.pointer (some ⟨h, 0, none⟩), .int .i64 t, .int .i64 c] w fun e w' => e = .returned (.int .i64 (Sc.rest S2 t c).2) ∧ Two K w' B D g h S1 (Sc.rest S2 t c).1 ∧ Moves (fun k => ¬ K k) w w' :=
  two_doc H (fun _ q => rlie_any q H.base.2 k.ok k.t k.m k.c t c)
theorem two_wake (H : Two K w B D g h S1 S2) (k : Fits S1) (c : Int) :
    Calls Try.prog 17 #[.pointer (some ⟨g, 0, none⟩), .int .i64 c] w fun e w' => e = .returned (.tuple #[.int .i64 (wake S1 c).2.1, .int .i64 (wake S1 c).2.2]) ∧ Two K w' B D g h (wake S1 c).1 S2 ∧ Moves (fun k => ¬ K k) w w' :=
  two_prog H (fun _ q => wake_any q H.base.1 k.ok k.t k.c c)
theorem two_rwake (H : Two K w B D g h S1 S2) (k : Fits S2) (c : Int) :
    Calls Try.prog 45 #[.pointer (some ⟨h, 0, none⟩), .int .i64 c] w fun e w' => e = .returned (.tuple #[.int .i64 (wake S2 c).2.1, .int .i64 (wake S2 c).2.2]) ∧ Two K w' B D g h S1 (wake S2 c).1 ∧ Moves (fun k => ¬ K k) w w' :=
  two_doc H (fun _ q => rwake_any q H.base.2 k.ok k.t k.c c)
theorem two_end (H : Two K w B D g h S1 S2) (k : Fits S1) (t : Int) :
    Calls Try.prog 20 #[.pointer (some ⟨g, 0, none⟩), .int .i64 t] w fun e w' => e = .returned (.int .i64 (endT S1 t).2) ∧ Two K w' B D g h (endT S1 t).1 S2 ∧ Moves (fun k => ¬ K k) w w' :=
  two_prog H (fun _ q => end_any q H.base.1 k.t k.m t)
theorem two_rend (H : Two K w B D g h S1 S2) (k : Fits S2) (t : Int) :
    Calls Try.prog 46 #[.pointer (some ⟨h, 0, none⟩), .int .i64 t] w fun e w' => e = .returned (.int .i64 (endT S2 t).2) ∧ Two K w' B D g h S1 (endT S2 t).1 ∧ Moves (fun k => ¬ K k) w w' :=
  two_doc H (fun _ q => rend_any q H.base.2 k.t k.m k.c t)
theorem Two.left (H : Two K w B D g h S1 S2) : ∃ F, Sch w B g F S1 := let ⟨F, _, q⟩ := H; ⟨F, q.s⟩
theorem Two.right (H : Two K w B D g h S1 S2) : ∃ F, Rch w D h F S2 := let ⟨_, G, q⟩ := H; ⟨G, q.r⟩
theorem moves_below {B : Nat} {w w1 w2 : World} (hm : Moves (fun k => ¬ K k) w w1) (hK : ∀ k, k < B → K k) (hB : B ≤ w.heap.size) : Below B w w1 :=
  ⟨hm.os, hm.tape, hm.output, hm.size, fun k hk => hm.block k (by omega) (fun h => h (hK k hk))⟩
end
end Go.Proofs.Ytcfkmhmgappckaa

/- A deed, of both. Condition: few of each. -/
namespace Go.Proofs.Ytcfkmhmgappckaa
open Go.RowKit Go.Proofs.Ytcfkmhmgappckaa.Sc Go.Proofs.Ytcfkmhmgappckaa.PAll Go.Proofs.YtcfkmhmgappckaaW.PrintWords Go.Proofs.YtcfkmhmgappckaaW.PrintLast Go.Proofs.YtcfkmhmgappckaaW.PrintMore

theorem Moves.less {F G : Nat → Prop} {w w' : World} (h : Moves F w w') (hG : ∀ k, F k → G k) : Moves G w w' := ⟨h.os, h.tape, h.output, h.size, fun k hk hn => h.block k hk (fun q => hn (hG k q))⟩
set_option maxHeartbeats 4000000 in
set_option maxRecDepth 100000 in
theorem does_any {K : Nat → Prop} {w : World} {B D g h : Nat} {S : Sd} (H : Two K w B D g h S S) (hf : Fits S) (d : Dd) (n1 : -9223372036854775808 ≤ d.t) (n2 : d.t ≤ 9223372036854775807) :
    Calls Try.prog 23 #[.pointer (some ⟨g, 0, none⟩), .pointer (some ⟨h, 0, none⟩), d.val] w fun e w' => e = .returned (.bool true) ∧ Two K w' B D g h (doesS S d) (doesS S d) ∧ Moves (fun k => ¬ K k) w w' := by
  obtain ⟨wa, hwa⟩ : ∃ wa, wa = w.alloc (.cells #[.int .i64 d.k, .int .i64 d.t, .int .i64 d.m, .int .i64 d.c, .bool d.p] 45 (0, 0)) := ⟨_, rfl⟩
  have hba : Below w.heap.size w wa := by rw [hwa]; exact below_alloc (Below.refl _ _) _
  have hlt : w.heap.size < wa.heap.size := by rw [hwa]; simp
  have c0 : wa.cell? ⟨w.heap.size, 0, none⟩ = some (.int .i64 d.k) := by rw [hwa]; exact cell_at_new _ _ _ 0 _ rfl
  have c1 : wa.cell? ⟨w.heap.size, 1, none⟩ = some (.int .i64 d.t) := by rw [hwa]; exact cell_at_new _ _ _ 1 _ rfl
  have c2 : wa.cell? ⟨w.heap.size, 2, none⟩ = some (.int .i64 d.m) := by rw [hwa]; exact cell_at_new _ _ _ 2 _ rfl
  have c3 : wa.cell? ⟨w.heap.size, 3, none⟩ = some (.int .i64 d.c) := by rw [hwa]; exact cell_at_new _ _ _ 3 _ rfl
  have c4 : wa.cell? ⟨w.heap.size, 4, none⟩ = some (.bool d.p) := by rw [hwa]; exact cell_at_new _ _ _ 4 _ rfl
  have HT := Lib.hid (H.also hba)
  obtain ⟨K', hK'⟩ : ∃ K', K' = fun k => K k ∨ (w.heap.size ≤ k ∧ k < wa.heap.size) := ⟨_, rfl⟩
  rw [← hK'] at HT
  have hkb : K' w.heap.size := by rw [hK']; exact .inr ⟨Nat.le_refl _, hlt⟩
  have hkk : ∀ k, K k → K' k := fun k hk => by rw [hK']; exact .inl hk
  have HKB := Lib.hid hkb
  have HKK := Lib.hid hkk
  have HF := Lib.hid hf
  have HBA := Lib.hid hba
  clear H hf hba hkb hkk hK' hlt
  obtain ⟨dk, dt, dm, dc, dp⟩ := d
  dsimp only at c0 c1 c2 c3 c4 hwa n1 n2
  unfold Dd.val
  dsimp only
  have hpk : ∀ T : Int, T = (pick S dt).1 → Calls Try.prog 40 #[.pointer (some ⟨h, 0, none⟩), .int .i64 dt] wa fun e w' => e = .returned (.tuple #[.int .i64 T, .bool (pick S dt).2]) ∧ Below wa.heap.size wa w' := by
    rintro T rfl
    obtain ⟨F, hR⟩ := HT.out.right
    exact rpick_any hR HF.out.t dt n1 n2
  obtain ⟨T, hT⟩ : ∃ T, T = whose S ⟨dk, dt, dm, dc, dp⟩ := ⟨_, rfl⟩
  obtain ⟨S', hS'⟩ : ∃ S', S' = doesS S ⟨dk, dt, dm, dc, dp⟩ := ⟨_, rfl⟩
  rw [← hS']
  have hdo : S' = (if dk = 0 then (lock S T dm).1 else if dk = 1 then (unlock S T dm).1 else if dk = 2 then (wait S T dc dm).1 else if dk = 3 then (Sc.rest S T dc).1 else if dk = 4 then (wake S dc).1 else if dk = 5 then (endT S T).1 else S) := by
    rw [hS', hT]; rfl
  have HDO := Lib.hid hdo
  clear hdo hS'
  go_enter Try.func23, Try.ntmps23
  go_upto_region 1 with fail
  rw [← hwa]
  clear hwa
  cases dp
  case' false =>
    have hT2 : dt = T := hT.symm
    clear hT
    go_upto_region 4 with fail
    rw [hT2]
    obtain ⟨wc, hwc⟩ : ∃ wc, wc = wa := ⟨_, rfl⟩
    have hbc : Below wa.heap.size wa wc := hwc ▸ Below.refl _ _
    rw [← hwc]
    clear hwc hT2 hpk
  case' true =>
    have HPK := Lib.hid (hpk T hT)
    clear hT hpk
    go_upto_region 4 with (go_at_call 40; refine HPK.out.mono ?_; rintro e wc ⟨rfl, hbc⟩)
    clear HPK
  all_goals
    replace c0 := cell_stay (Nat.le_refl _) hbc c0
    replace c1 := cell_stay (Nat.le_refl _) hbc c1
    replace c2 := cell_stay (Nat.le_refl _) hbc c2
    replace c3 := cell_stay (Nat.le_refl _) hbc c3
    clear c4
    have HC := Lib.hid (HT.out.below hbc)
    have hmc : Moves (fun k => ¬ K k) w wc := ((Moves.refl _ w).below HBA.out).trans' ((Moves.refl _ wa).below hbc)
    have HM := Lib.hid hmc
    clear hmc hbc HT
    by_cases k0 : dk = 0
    · subst k0
      go_wp2_with fail
      refine (two_lock HC.out HF.out T dm).mono ?_
      rintro e w1 ⟨rfl, q1, m1⟩
      have Q1 := Lib.hid q1
      have M1 := Lib.hid m1
      replace c2 := m1.kept (a := ⟨w.heap.size, _, none⟩) HKB.out c2
      clear q1 m1 c0 c1 c3 HC
      go_wp2_with fail
      refine (two_rlock Q1.out HF.out T dm).mono ?_
      rintro e w2 ⟨rfl, q2, m2⟩
      have Q2 := Lib.hid q2
      have M2 := Lib.hid m2
      clear q2 m2 c2 Q1
      obtain ⟨a, ha⟩ : ∃ a, a = (lock S T dm).2.1 := ⟨_, rfl⟩
      obtain ⟨b, hb⟩ : ∃ b, b = (lock S T dm).2.2 := ⟨_, rfl⟩
      rw [← ha, ← hb]
      clear ha hb
      have hds := HDO.out
      simp only [if_true, if_false, reduceIte, Int.reduceEq] at hds
      have hfin : Two K w2 B D g h (lock S T dm).1 (lock S T dm).1 ∧ Moves (fun k => ¬ K k) w w2 := ⟨Q2.out.less HKK.out, HM.out.trans' ((M1.out.trans' M2.out).less (fun k hk hq => hk (HKK.out k hq)))⟩
      rw [← hds] at hfin
      have HFIN := Lib.hid hfin
      clear hfin hds HDO Q2 M2 M1
      go_wp2_with fail
      go_ret
      exact ⟨rfl, HFIN.out⟩
    have NE0 := Lib.hid k0
    replace k0 : (dk == 0) = false := by rw [beq_eq_false_iff_ne]; exact k0
    by_cases k1 : dk = 1
    · subst k1
      obtain ⟨a, ha⟩ : ∃ a, a = (unlock S T dm).2 := ⟨_, rfl⟩
      have ha1 := fun (W : World) (Y : Sd) (q : Two K' W B D g h S Y) => two_unlock q HF.out T dm
      have hb1 := fun (W : World) (Y : Sd) (q : Two K' W B D g h Y S) => two_runlock q HF.out T dm
      have HD := Lib.hid (HC.out.below ((Below.refl _ wc).drew))
      rw [← ha] at ha1 hb1
      have HA1 := Lib.hid ha1
      have HB1 := Lib.hid hb1
      have hk : ∀ W W' : World, Moves (fun k => ¬ K' k) W W' → W.cell? ⟨w.heap.size, 2, none⟩ = some (.int .i64 dm) → W'.cell? ⟨w.heap.size, 2, none⟩ = some (.int .i64 dm) := fun W W' m q => m.kept (a := ⟨w.heap.size, 2, none⟩) HKB.out q
      have HK := Lib.hid hk
      clear ha ha1 hb1 hk
      go_upto_region 10 with fail
      go_region_held3 (fun W' => W'.cell? ⟨w.heap.size, 2, none⟩ = some (.int .i64 dm)) (first | assumption | go_keep | fail) (first
        | (go_at_call 13; (with_reducible refine Calls.mono (HA1.out _ _ HD.out) ?_); rintro e w1 ⟨rfl, q1, m1⟩; have Q1 := Lib.hid q1; have M1 := Lib.hid m1; clear q1 m1; have y1 := HK.out _ _ M1.out (show wc.drew.cell? ⟨w.heap.size, 2, none⟩ = some (.int .i64 dm) from c2))
        | (go_at_call 42; (with_reducible refine Calls.mono (HB1.out _ _ Q1.out) ?_); rintro e w2 ⟨rfl, q2, m2⟩; have Q2 := Lib.hid q2; have M2 := Lib.hid m2; clear q2 m2; have y2 := HK.out _ _ M2.out y1)
        | (go_at_call 42; (with_reducible refine Calls.mono (HB1.out _ _ HD.out) ?_); rintro e w1 ⟨rfl, q1, m1⟩; have Q1 := Lib.hid q1; have M1 := Lib.hid m1; clear q1 m1; have y1 := HK.out _ _ M1.out (show wc.drew.cell? ⟨w.heap.size, 2, none⟩ = some (.int .i64 dm) from c2))
        | (go_at_call 13; (with_reducible refine Calls.mono (HA1.out _ _ Q1.out) ?_); rintro e w2 ⟨rfl, q2, m2⟩; have Q2 := Lib.hid q2; have M2 := Lib.hid m2; clear q2 m2; have y2 := HK.out _ _ M2.out y1)
        | fail)
      all_goals
        have hds := HDO.out
        simp only [if_true, if_false, reduceIte, Int.reduceEq] at hds
        have hfin : Two K w2 B D g h (unlock S T dm).1 (unlock S T dm).1 ∧ Moves (fun k => ¬ K k) w w2 := ⟨Q2.out.less HKK.out, HM.out.trans' ((((Moves.refl _ wc).below (Below.refl _ wc).drew).trans' (M1.out.trans' M2.out)).less (fun k hk hq => hk (HKK.out k hq)))⟩
        rw [← hds] at hfin
        have HFIN := Lib.hid hfin
        clear hfin hds HDO Q2 M2 M1
        go_wp2_with fail
        go_ret
        exact ⟨rfl, HFIN.out⟩
    have NE1 := Lib.hid k1
    replace k1 : (dk == 1) = false := by rw [beq_eq_false_iff_ne]; exact k1
    by_cases k2 : dk = 2
    · subst k2
      obtain ⟨a, ha⟩ : ∃ a, a = (wait S T dc dm).2 := ⟨_, rfl⟩
      have ha1 := fun (W : World) (Y : Sd) (q : Two K' W B D g h S Y) => two_wait q HF.out T dc dm
      have hb1 := fun (W : World) (Y : Sd) (q : Two K' W B D g h Y S) => two_rwait q HF.out T dc dm
      have HD := Lib.hid (HC.out.below ((Below.refl _ wc).drew))
      rw [← ha] at ha1 hb1
      have HA1 := Lib.hid ha1
      have HB1 := Lib.hid hb1
      have hk : ∀ W W' : World, Moves (fun k => ¬ K' k) W W' → (W.cell? ⟨w.heap.size, 2, none⟩ = some (.int .i64 dm) ∧ W.cell? ⟨w.heap.size, 3, none⟩ = some (.int .i64 dc)) → W'.cell? ⟨w.heap.size, 2, none⟩ = some (.int .i64 dm) ∧ W'.cell? ⟨w.heap.size, 3, none⟩ = some (.int .i64 dc) := fun W W' m q => ⟨m.kept (a := ⟨w.heap.size, 2, none⟩) HKB.out q.1, m.kept (a := ⟨w.heap.size, 3, none⟩) HKB.out q.2⟩
      have HK := Lib.hid hk
      clear ha ha1 hb1 hk
      go_upto_region 12 with fail
      go_region_held3 (fun W' => W'.cell? ⟨w.heap.size, 2, none⟩ = some (.int .i64 dm) ∧ W'.cell? ⟨w.heap.size, 3, none⟩ = some (.int .i64 dc)) (first | assumption | go_keep | fail) (first
        | (go_at_call 15; (with_reducible refine Calls.mono (HA1.out _ _ HD.out) ?_); rintro e w1 ⟨rfl, q1, m1⟩; have Q1 := Lib.hid q1; have M1 := Lib.hid m1; clear q1 m1; have y1 := HK.out _ _ M1.out (show wc.drew.cell? ⟨w.heap.size, 2, none⟩ = some (.int .i64 dm) ∧ wc.drew.cell? ⟨w.heap.size, 3, none⟩ = some (.int .i64 dc) from ⟨c2, c3⟩))
        | (go_at_call 43; (with_reducible refine Calls.mono (HB1.out _ _ Q1.out) ?_); rintro e w2 ⟨rfl, q2, m2⟩; have Q2 := Lib.hid q2; have M2 := Lib.hid m2; clear q2 m2; have y2 := HK.out _ _ M2.out y1)
        | (go_at_call 43; (with_reducible refine Calls.mono (HB1.out _ _ HD.out) ?_); rintro e w1 ⟨rfl, q1, m1⟩; have Q1 := Lib.hid q1; have M1 := Lib.hid m1; clear q1 m1; have y1 := HK.out _ _ M1.out (show wc.drew.cell? ⟨w.heap.size, 2, none⟩ = some (.int .i64 dm) ∧ wc.drew.cell? ⟨w.heap.size, 3, none⟩ = some (.int .i64 dc) from ⟨c2, c3⟩))
        | (go_at_call 15; (with_reducible refine Calls.mono (HA1.out _ _ Q1.out) ?_); rintro e w2 ⟨rfl, q2, m2⟩; have Q2 := Lib.hid q2; have M2 := Lib.hid m2; clear q2 m2; have y2 := HK.out _ _ M2.out y1)
        | fail)
      all_goals
        have hds := HDO.out
        simp only [if_true, if_false, reduceIte, Int.reduceEq] at hds
        have hfin : Two K w2 B D g h (wait S T dc dm).1 (wait S T dc dm).1 ∧ Moves (fun k => ¬ K k) w w2 := ⟨Q2.out.less HKK.out, HM.out.trans' ((((Moves.refl _ wc).below (Below.refl _ wc).drew).trans' (M1.out.trans' M2.out)).less (fun k hk hq => hk (HKK.out k hq)))⟩
        rw [← hds] at hfin
        have HFIN := Lib.hid hfin
        clear hfin hds HDO Q2 M2 M1
        go_wp2_with fail
        go_ret
        exact ⟨rfl, HFIN.out⟩
    have NE2 := Lib.hid k2
    replace k2 : (dk == 2) = false := by rw [beq_eq_false_iff_ne]; exact k2
    by_cases k3 : dk = 3
    · subst k3
      obtain ⟨a, ha⟩ : ∃ a, a = (Sc.rest S T dc).2 := ⟨_, rfl⟩
      have ha1 := fun (W : World) (Y : Sd) (q : Two K' W B D g h S Y) => two_rest q HF.out T dc
      have hb1 := fun (W : World) (Y : Sd) (q : Two K' W B D g h Y S) => two_rlie q HF.out T dc
      have HD := Lib.hid (HC.out.below ((Below.refl _ wc).drew))
      rw [← ha] at ha1 hb1
      have HA1 := Lib.hid ha1
      have HB1 := Lib.hid hb1
      have hk : ∀ W W' : World, Moves (fun k => ¬ K' k) W W' → W.cell? ⟨w.heap.size, 3, none⟩ = some (.int .i64 dc) → W'.cell? ⟨w.heap.size, 3, none⟩ = some (.int .i64 dc) := fun W W' m q => m.kept (a := ⟨w.heap.size, 3, none⟩) HKB.out q
      have HK := Lib.hid hk
      clear ha ha1 hb1 hk
      go_upto_region 14 with fail
      go_region_held3 (fun W' => W'.cell? ⟨w.heap.size, 3, none⟩ = some (.int .i64 dc)) (first | assumption | go_keep | fail) (first
        | (go_at_call 26; (with_reducible refine Calls.mono (HA1.out _ _ HD.out) ?_); rintro e w1 ⟨rfl, q1, m1⟩; have Q1 := Lib.hid q1; have M1 := Lib.hid m1; clear q1 m1; have y1 := HK.out _ _ M1.out (show wc.drew.cell? ⟨w.heap.size, 3, none⟩ = some (.int .i64 dc) from c3))
        | (go_at_call 44; (with_reducible refine Calls.mono (HB1.out _ _ Q1.out) ?_); rintro e w2 ⟨rfl, q2, m2⟩; have Q2 := Lib.hid q2; have M2 := Lib.hid m2; clear q2 m2; have y2 := HK.out _ _ M2.out y1)
        | (go_at_call 44; (with_reducible refine Calls.mono (HB1.out _ _ HD.out) ?_); rintro e w1 ⟨rfl, q1, m1⟩; have Q1 := Lib.hid q1; have M1 := Lib.hid m1; clear q1 m1; have y1 := HK.out _ _ M1.out (show wc.drew.cell? ⟨w.heap.size, 3, none⟩ = some (.int .i64 dc) from c3))
        | (go_at_call 26; (with_reducible refine Calls.mono (HA1.out _ _ Q1.out) ?_); rintro e w2 ⟨rfl, q2, m2⟩; have Q2 := Lib.hid q2; have M2 := Lib.hid m2; clear q2 m2; have y2 := HK.out _ _ M2.out y1)
        | fail)
      all_goals
        have hds := HDO.out
        simp only [if_true, if_false, reduceIte, Int.reduceEq] at hds
        have hfin : Two K w2 B D g h (Sc.rest S T dc).1 (Sc.rest S T dc).1 ∧ Moves (fun k => ¬ K k) w w2 := ⟨Q2.out.less HKK.out, HM.out.trans' ((((Moves.refl _ wc).below (Below.refl _ wc).drew).trans' (M1.out.trans' M2.out)).less (fun k hk hq => hk (HKK.out k hq)))⟩
        rw [← hds] at hfin
        have HFIN := Lib.hid hfin
        clear hfin hds HDO Q2 M2 M1
        go_wp2_with fail
        go_ret
        exact ⟨rfl, HFIN.out⟩
    have NE3 := Lib.hid k3
    replace k3 : (dk == 3) = false := by rw [beq_eq_false_iff_ne]; exact k3
    by_cases k4 : dk = 4
    · subst k4
      go_wp2_with fail
      refine (two_wake HC.out HF.out dc).mono ?_
      rintro e w1 ⟨rfl, q1, m1⟩
      have Q1 := Lib.hid q1
      have M1 := Lib.hid m1
      replace c3 := m1.kept (a := ⟨w.heap.size, _, none⟩) HKB.out c3
      clear q1 m1 c0 c1 c2 HC
      go_wp2_with fail
      refine (two_rwake Q1.out HF.out dc).mono ?_
      rintro e w2 ⟨rfl, q2, m2⟩
      have Q2 := Lib.hid q2
      have M2 := Lib.hid m2
      clear q2 m2 c3 Q1
      obtain ⟨a, ha⟩ : ∃ a, a = (wake S dc).2.1 := ⟨_, rfl⟩
      obtain ⟨b, hb⟩ : ∃ b, b = (wake S dc).2.2 := ⟨_, rfl⟩
      rw [← ha, ← hb]
      clear ha hb
      have hds := HDO.out
      simp only [if_true, if_false, reduceIte, Int.reduceEq] at hds
      have hfin : Two K w2 B D g h (wake S dc).1 (wake S dc).1 ∧ Moves (fun k => ¬ K k) w w2 := ⟨Q2.out.less HKK.out, HM.out.trans' ((M1.out.trans' M2.out).less (fun k hk hq => hk (HKK.out k hq)))⟩
      rw [← hds] at hfin
      have HFIN := Lib.hid hfin
      clear hfin hds HDO Q2 M2 M1
      go_wp2_with fail
      go_ret
      exact ⟨rfl, HFIN.out⟩
    have NE4 := Lib.hid k4
    replace k4 : (dk == 4) = false := by rw [beq_eq_false_iff_ne]; exact k4
    by_cases k5 : dk = 5
    · subst k5
      go_wp2_with fail
      refine (two_end HC.out HF.out T).mono ?_
      rintro e w1 ⟨rfl, q1, m1⟩
      have Q1 := Lib.hid q1
      have M1 := Lib.hid m1
      clear q1 m1 c0 c1 c2 c3 HC
      go_wp2_with fail
      refine (two_rend Q1.out HF.out T).mono ?_
      rintro e w2 ⟨rfl, q2, m2⟩
      have Q2 := Lib.hid q2
      have M2 := Lib.hid m2
      clear q2 m2 Q1
      obtain ⟨a, ha⟩ : ∃ a, a = (endT S T).2 := ⟨_, rfl⟩
      rw [← ha]
      clear ha
      have hds := HDO.out
      simp only [if_true, if_false, reduceIte, Int.reduceEq] at hds
      have hfin : Two K w2 B D g h (endT S T).1 (endT S T).1 ∧ Moves (fun k => ¬ K k) w w2 := ⟨Q2.out.less HKK.out, HM.out.trans' ((M1.out.trans' M2.out).less (fun k hk hq => hk (HKK.out k hq)))⟩
      rw [← hds] at hfin
      have HFIN := Lib.hid hfin
      clear hfin hds HDO Q2 M2 M1
      go_wp2_with fail
      go_ret
      exact ⟨rfl, HFIN.out⟩
    have NE5 := Lib.hid k5
    replace k5 : (dk == 5) = false := by rw [beq_eq_false_iff_ne]; exact k5
    go_wp2_with fail
    obtain ⟨F1, hS⟩ := HC.out.left
    refine (pick_sch hS HF.out.t dt n1 n2).mono ?_
    rintro e w1 ⟨rfl, b1⟩
    replace c1 := cell_stay (Nat.le_refl _) b1 c1
    have Q1 := Lib.hid (HC.out.below b1)
    have B1 := Lib.hid b1
    clear b1 c0 c2 c3 hS HC
    go_wp2_with fail
    obtain ⟨F2, hR⟩ := Q1.out.right
    refine (rpick_any hR HF.out.t dt n1 n2).mono ?_
    rintro e w2 ⟨rfl, b2⟩
    have Q2 := Lib.hid (Q1.out.below b2)
    have B2 := Lib.hid b2
    clear b2 c1 hR Q1
    obtain ⟨a, ha⟩ : ∃ a, a = (pick S dt).1 := ⟨_, rfl⟩
    obtain ⟨b, hb⟩ : ∃ b, b = (pick S dt).2 := ⟨_, rfl⟩
    rw [← ha, ← hb]
    clear ha hb
    have hds := HDO.out
    rw [if_neg NE0.out, if_neg NE1.out, if_neg NE2.out, if_neg NE3.out, if_neg NE4.out, if_neg NE5.out] at hds
    have hfin : Two K w2 B D g h S S ∧ Moves (fun k => ¬ K k) w w2 := ⟨Q2.out.less HKK.out, HM.out.trans' (((Moves.refl _ wc).below B1.out).trans' ((Moves.refl _ w1).below B2.out))⟩
    rw [← hds] at hfin
    have HFIN := Lib.hid hfin
    clear hfin hds HDO Q2 B1 B2
    go_wp2_with fail
    go_ret
    exact ⟨rfl, HFIN.out⟩
end Go.Proofs.Ytcfkmhmgappckaa

/- What the comparison wants: the same row is the same; a row is read. No condition but on size. -/
namespace Go.Proofs.Ytcfkmhmgappckaa
open Go.RowKit Go.Proofs.Ytcfkmhmgappckaa.Sc Go.Proofs.Ytcfkmhmgappckaa.PAll Go.Proofs.YtcfkmhmgappckaaW.PrintWords Go.Proofs.YtcfkmhmgappckaaW.PrintLast Go.Proofs.YtcfkmhmgappckaaW.PrintMore

theorem wrap64_in' (n : Int) (h1 : -9223372036854775808 ≤ n) (h2 : n ≤ 9223372036854775807) : wrap64 n = n := by unfold wrap64; omega
theorem ref_same_go (l : List Int) (hl : l.length ≤ 1000000) : ∀ (m i k : Nat), i + m = l.length → m < k → concordanceref01_Same.l0 k l l (i : Int) = some true
  | 0, i, k + 1, h, hk => by
    simp only [concordanceref01_Same.l0]
    rw [if_neg (by omega)]
  | m + 1, i, k + 1, h, hk => by
    have hi : wrap64 ((i : Int) + 1) = ((i + 1 : Nat) : Int) := by rw [wrap64_in' _ (by omega) (by omega)]; rfl
    have ih := ref_same_go l hl m (i + 1) k (by omega) (by omega)
    simp only [concordanceref01_Same.l0]
    rw [if_pos (by omega), if_pos (by omega), if_pos (by omega), if_pos trivial, hi, ih]
theorem ref_same (l : List Int) (hl : l.length ≤ 1000000) : concordanceref01_Same.f (l.length + 1) l l = some true := by
  unfold concordanceref01_Same.f
  rw [if_pos rfl]
  exact ref_same_go l hl l.length 0 _ (by omega) (by omega)
theorem Reads.below {w w1 : World} {v : Value} {l : List Int} (h : Reads w v l) (hb : Below w.heap.size w w1) : Reads w1 v l := by
  obtain ⟨A, c, e, hc, hC⟩ := h
  exact ⟨A, c, e, hc, Kd.C_below hC hb⟩
/-- Two rows that hold the same are told the same. -/
theorem same_any {w : World} {u v : Value} {l : List Int} (h1 : Reads w u l) (h2 : Reads w v l) (hl : l.length ≤ 1000000) :
    Calls Try.prog 47 #[u, v] w fun e w' => e = .returned (.bool true) ∧ Below w.heap.size w w' := by
  obtain ⟨A, c, rfl, hc, hC⟩ := h1
  obtain ⟨B, d, rfl, hd, hD⟩ := h2
  exact (concordanceref01_Same.calls (l.length + 1) A c l B d l true w hC hc hD hd (ref_same l hl)).mono (fun e w' ⟨h, hd⟩ => ⟨h, hd.below⟩)
theorem reads_nil (w : World) : Reads w (.slice none 0 0) [] := ⟨none, 0, rfl, Nat.le_refl _, rfl, by simp, fun h => by simp at h⟩
theorem RowIn.reads {w : World} {base t : Nat} {ob : Option Nat} {v : Value} {l : List Int} (h : RowIn w base t 1 ob v (ints l)) (hl : l.length ≤ 1000) : Reads w v l := by
  rcases h.cells with ⟨rfl, rfl⟩ | ⟨b, o, c, rfl, hc⟩
  · exact reads_nil w
  · have hcap : l.length ≤ c := by
      rcases h.2 with ⟨_, e, _⟩ | ⟨_, _, cap, _, _, e, _, _, h1, _, _⟩
      · cases e
      · simp only [Value.slice.injEq] at e
        rw [e.2.2]
        simpa [ints] using h1
    refine ⟨_, c, rfl, hcap, rfl, by omega, fun _ => ⟨_, rfl, fun j x hj => ⟨[.int .i64 x], rfl, rfl, fun i u hu => ?_⟩⟩⟩
    cases i with
    | succ i => simp at hu
    | zero =>
      obtain rfl : Value.int .i64 x = u := by simpa using hu
      have hjl : j < l.length := by
        rcases Nat.lt_or_ge j l.length with h | h
        · exact h
        · rw [List.getElem?_eq_none h] at hj; cases hj
      have := hc j hjl
      rw [List.getD_eq_getElem?_getD, hj] at this
      rw [show (⟨b, o, none⟩ : Addr).add (j * (Kd.int .i64).sz + 0) = ⟨b, o + j, none⟩ from by rw [show j * (Kd.int .i64).sz + 0 = j by show j * 1 + 0 = j; omega, Addr.add_lit]]
      exact this
/-- The rows, as they are read. -/
theorem Rch.rowsAt {w : World} {base h : Nat} {F : Nat → Prop} {S : Sd} (H : Rch w base h F S) (hf : Fits S) : ∃ A c, w.cell? ⟨h, 2, none⟩ = some (.slice A S.M.length c) ∧ ∀ i, (hi : i < S.M.length) → ∃ b o v, A = some ⟨b, o, none⟩ ∧ w.cell? ⟨b, o + i, none⟩ = some v ∧ Reads w v (S.M[i]).2 := by
  obtain ⟨T, O, W, R, vs, us, hI, _, _⟩ := H.2
  obtain ⟨_, _, ⟨A, c, e⟩, _⟩ := hI.vals
  refine ⟨A, c, by rw [← e]; exact hI.header.2.2.1, fun i hi => ?_⟩
  obtain ⟨b, o, c', ob, v, e', _, k, _, _, _, _, _, hR, _⟩ := hI.accW i hi
  rw [e'] at e
  simp only [Value.slice.injEq] at e
  exact ⟨b, o, v, e.1.symm, k, hR.reads (Nat.le_trans (hf.ok.rowFew _ (List.getElem_mem _)) hf.t)⟩
end Go.Proofs.Ytcfkmhmgappckaa
