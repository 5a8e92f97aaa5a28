import Derived.Test.YtoephmnkenlmiaaApartW
/-! WordKeys: the walk. -/
namespace Go.Proofs.Ytoephmnkenlmiaa
open Go.RowKit Go.Proofs.Ytoephmnkenlmiaa.PAll Go.Proofs.YtoephmnkenlmiaaW.PrintWords Go.Proofs.YtoephmnkenlmiaaW.PrintLast Go.Proofs.YtoephmnkenlmiaaW.PrintMore

def Quad (N p1 p2 : Nat) (v1 v2 v3 v4 : Value) (w0 W : World) : Prop :=
  (W.cell? ⟨p1, 0, none⟩ = some v1 ∧ W.cell? ⟨p1, 1, none⟩ = some v2 ∧ W.cell? ⟨p2, 0, none⟩ = some v3 ∧ W.cell? ⟨p2, 1, none⟩ = some v4) ∧ Below N w0 W
theorem quad_below {N p1 p2 : Nat} {v1 v2 v3 v4 : Value} {w0 W W' : World} (h : Quad N p1 p2 v1 v2 v3 v4 w0 W) (hb : Below W.heap.size W W') (hN : N = w0.heap.size) (n1 : p1 < N) (n2 : p2 < N) : Quad N p1 p2 v1 v2 v3 v4 w0 W' := by
  obtain ⟨h, hB⟩ := h
  subst hN
  have hs := hB.size
  exact ⟨⟨(hb.cell (p := ⟨p1, 0, none⟩) (Nat.lt_of_lt_of_le n1 hs)).trans h.1, (hb.cell (p := ⟨p1, 1, none⟩) (Nat.lt_of_lt_of_le n1 hs)).trans h.2.1, (hb.cell (p := ⟨p2, 0, none⟩) (Nat.lt_of_lt_of_le n2 hs)).trans h.2.2.1, (hb.cell (p := ⟨p2, 1, none⟩) (Nat.lt_of_lt_of_le n2 hs)).trans h.2.2.2⟩, hB.trans (hb.mono hs)⟩

theorem zb_at (S : ByteArray) (i : Nat) (h : i < S.size) : (((S[i]'h).toNat : Int) == 0) = (S.data.toList[i]'(by simpa using h) == 0) := by
  rw [Bool.eq_iff_iff, beq_iff_eq, beq_iff_eq, Pure.u8_zero, Array.getElem_toList]
  exact Iff.rfl
set_option maxHeartbeats 2000000 in
set_option maxRecDepth 100000 in
theorem wordKeys_walk (a b c d s : ByteArray) (w : World) (_hs : s.size ≤ maxLen) :
    Calls Try.prog 9 #[.agg #[.string a, .string b], .agg #[.string c, .string d], .string s] w fun e w' => e = .returned (.bool true) ∧ Below w.heap.size w w' := by
  obtain ⟨F, hf, hF⟩ := Pure.few_ok a 30 (by decide)
  obtain ⟨u, hu, hu2⟩ := Pure.few_ok b 30 (by decide)
  obtain ⟨G, hg, hG⟩ := Pure.few_ok c 30 (by decide)
  obtain ⟨v, hv, hv2⟩ := Pure.few_ok d 30 (by decide)
  obtain ⟨S, hS, hS2⟩ := Pure.few_ok s 40 (by decide)
  replace hf : concordancelaw02_few.f a 30 = some F := hf
  replace hu : concordancelaw02_few.f b 30 = some u := hu
  replace hg : concordancelaw02_few.f c 30 = some G := hg
  replace hv : concordancelaw02_few.f d 30 = some v := hv
  replace hS : concordancelaw02_few.f s 40 = some S := hS
  go_enter Try.func9, Try.ntmps9
  go_wp2_with fail
  have hb1 : Below w.heap.size w ((w.alloc (.cells #[.string a, .string b] 39)).alloc (.cells #[.string c, .string d] 39)) := ((Below.refl _ w).alloc (Nat.le_refl _) _).alloc (by simp) _
  have Ta : Two ((w.alloc (.cells #[.string a, .string b] 39)).alloc (.cells #[.string c, .string d] 39)) w.heap.size 39 (.string a) (.string b) := (Two.new w _ _ _).below ((Below.refl _ _).alloc (Nat.le_refl _) _)
  have Tb := Two.new (w.alloc (.cells #[.string a, .string b] 39)) 39 (.string c) (.string d)
  rw [World.size_alloc] at Tb
  generalize (w.alloc (.cells #[.string a, .string b] 39)).alloc (.cells #[.string c, .string d] 39) = w1 at *
  have c1 := Ta.cell0
  have c2 := Ta.cell1
  have f1 := Ta.frozen0
  have f2 := Ta.frozen1
  go_cut [] (fun wx => Two wx w.heap.size 39 (.string F) (.string u) ∧ Two wx (w.heap.size + 1) 39 (.string c) (.string d) ∧ Below w.heap.size w wx)
  case first =>
    go_region_with (first | (go_at_call 10; (with_reducible refine (concordancelaw02_few.calls a 30 F _ hf).mono ?_); rintro e w' ⟨rfl, nd, rfl⟩) | (go_at_call 10; (with_reducible refine (concordancelaw02_few.calls b 30 u _ hu).mono ?_); rintro e w' ⟨rfl, nd, rfl⟩))
    all_goals
      go_wp2_with fail
      go_meet
      first
        | exact fin_facts hb1 (Nat.le_refl _) Ta Tb (by omega) (pw_below_drewN (Below.refl _ w1) _)
        | (trace_state; sorry)
  case rest =>
    obtain ⟨Ta2, Tb2, hb2⟩ := hcut
    clear Ta Tb hb1 c1 c2 f1 f2
    go_wp2_with fail
    have c1 := Tb2.cell0
    have c2 := Tb2.cell1
    have f1 := Tb2.frozen0
    have f2 := Tb2.frozen1
    go_cut [] (fun wx => Two wx w.heap.size 39 (.string F) (.string u) ∧ Two wx (w.heap.size + 1) 39 (.string G) (.string v) ∧ Below w.heap.size w wx)
    case first =>
      go_region_with (first | (go_at_call 10; (with_reducible refine (concordancelaw02_few.calls c 30 G _ hg).mono ?_); rintro e w' ⟨rfl, nd, rfl⟩) | (go_at_call 10; (with_reducible refine (concordancelaw02_few.calls d 30 v _ hv).mono ?_); rintro e w' ⟨rfl, nd, rfl⟩))
      all_goals
        go_wp2_with fail
        go_meet
        first
          | exact and_swap3 (fin_facts hb2 (Nat.le_succ _) Tb2 Ta2 (by omega) (pw_below_drewN (Below.refl _ _) _))
          | (trace_state; sorry)
    case rest =>
      obtain ⟨Ta3, Tb3, hb3⟩ := hcut
      clear Ta2 Tb2 hb2 c1 c2 f1 f2
      have e1 := Ta3.cell0
      have e2 := Ta3.cell1
      go_wp2_with fail
      refine (concordancelaw02_few.calls s 40 S _ hS).mono ?_
      rintro e w4 ⟨rfl, q4, rfl⟩
      have Ta4 : Two (wc.drewN q4) w.heap.size 39 (.string F) (.string u) := Ta3
      have Tb4 : Two (wc.drewN q4) (w.heap.size + 1) 39 (.string G) (.string v) := Tb3
      have hb4 : Below w.heap.size w (wc.drewN q4) := pw_below_drewN hb3 q4
      generalize wc.drewN q4 = w5 at *
      clear e1 e2 Ta3 Tb3 hb3
      have e1 := Ta4.cell0
      have e2 := Ta4.cell1
      go_wp2_with fail
      refine (word_Key.calls F u (Pure.keyOf F u) _ (Pure.key_f F u (by omega) (by omega))).mono ?_
      rintro e w6 ⟨rfl, hb5⟩
      have Ta6 := Ta4.below hb5
      have Tb6 := Tb4.below hb5
      have hb6 := hb4.trans (hb5.mono hb4.size)
      clear e1 e2 Ta4 Tb4 hb4 hb5
      have e1 := Ta6.cell0
      have e2 := Ta6.cell1
      have e3 := Tb6.cell0
      have e4 := Tb6.cell1
      have n1 := Ta6.lt
      have n2 := Tb6.lt
      have hless := Pure.less_f F u G v (by omega) (by omega) (by omega) (by omega)
      have h0 : Quad w6.heap.size w.heap.size (w.heap.size + 1) (.string F) (.string u) (.string G) (.string v) w6 w6.drew := ⟨⟨e1, e2, e3, e4⟩, (Below.refl _ _).drew⟩
      have h0h := Lib.hid h0
      have hb6h := Lib.hid hb6
      clear h0 hb6
      go_wp2_with fail
      go_region_held3 (fun W => (W.cell? ⟨w.heap.size, 0, none⟩ = some (.string F) ∧ W.cell? ⟨w.heap.size, 1, none⟩ = some (.string u) ∧ W.cell? ⟨w.heap.size + 1, 0, none⟩ = some (.string G) ∧ W.cell? ⟨w.heap.size + 1, 1, none⟩ = some (.string v)) ∧ Below w6.heap.size w6 W) (first | assumption | exact h0h.out | go_keep)
        (first | (go_at_call 23; (with_reducible refine Calls.mono (concordanceref02_Key.calls F u (Pure.keyOf F u) _ (Pure.rkey_f F u (by omega) (by omega))) ?_); rintro e w7 ⟨rfl, hb8⟩; have hsix := quad_below (by assumption) hb8 rfl n1 n2; unfold Quad at hsix) | (go_at_call 23; (with_reducible refine Calls.mono (concordanceref02_Key.calls G v (Pure.keyOf G v) _ (Pure.rkey_f G v (by omega) (by omega))) ?_); rintro e w7 ⟨rfl, hb8⟩; have hsix := quad_below (by assumption) hb8 rfl n1 n2; unfold Quad at hsix) | (go_at_call 24; (with_reducible refine Calls.mono (word_Less.calls F u G v _ _ hless) ?_); rintro e w7 ⟨rfl, hb8⟩; have hsix := quad_below (by assumption) hb8 rfl n1 n2; unfold Quad at hsix))
      all_goals
        go_show
        go_wp2_with fail
        have hb9 : Below w.heap.size w w7 := hb6h.out.trans (hsix.2.mono hb6h.out.size)
        clear hsix hb8 h0h hb6h hless e1 e2 e3 e4 n1 n2 Ta6 Tb6
        obtain ⟨t0, t1, z, hT⟩ : ∃ t0 t1 z, termM S = (t0, t1, z) := ⟨_, _, _, rfl⟩
        have hz := Pure.term_zero S
        have hback := Lib.hid (Pure.term_back S)
        have hnot := Lib.hid (Pure.term_not S)
        have hsmall := Pure.term_small S
        rw [hT] at hz hsmall
        have hterm : word_Term.f S = some (t0, t1, z) := by rw [Pure.term_ok S (by omega), hT]
        refine (word_Term.calls S t0 t1 z _ hterm).mono ?_
        rintro e w8 ⟨rfl, hb10⟩
        have hb11 := hb9.trans (hb10.mono hb9.size)
        clear hb10 hb9
        go_wp2_with fail
        have Tc := Two.new w8 39 (.string t0) (.string t1)
        have hb12 := hb11.alloc hb11.size (.cells #[.string t0, .string t1] 39)
        clear hb11
        generalize w8.alloc (.cells #[.string t0, .string t1] 39) = w9 at *
        generalize w8.heap.size = B8 at *
        have hlen : S.data.toList.length = S.size := by simp
        go_loopw [10, 11] (fun va vi wr => ∃ i q : Nat, i ≤ S.size ∧ vi = .int .i64 i ∧ va = .bool (Pure.zB (S.data.toList.take i)) ∧ wr = w9.drewN q) (fun _ vi _ => S.size - (intOf vi).toNat)
        case atStart => exact ⟨0, 0, by omega, rfl, rfl, rfl⟩
        case round =>
          obtain ⟨i, q, hi, rfl, rfl, rfl⟩ := hrel
          by_cases hlt : i < S.size
          · have hbt := Lib.hid (Pure.bt_nat S i (by omega))
            have hsucc := Pure.zB_succ S.data.toList i (by omega)
            have p0 := eq_true (show (0 : Int) ≤ (i : Int) by omega)
            have p1 := eq_true (show (i : Int) < (S.size : Int) by omega)
            cases hzi : Pure.zB (S.data.toList.take i)
            · go_wp2
              repeat (go_quiet (fail); try go_wp2)
              go_roundw
              case rel => exact ⟨i + 1, _, by omega, by go_num, by rw [hsucc, hzi, Bool.false_or, ← zb_at S i hlt], rfl⟩
              case measure => simp [intOf]; omega
            · go_wp2
              repeat (go_quiet (fail); try go_wp2)
              go_roundw
              case rel => exact ⟨i + 1, _, by omega, by go_num, by rw [hsucc, hzi]; rfl, rfl⟩
              case measure => simp [intOf]; omega
          · obtain rfl : i = S.size := by omega
            have htk : S.data.toList.take S.size = S.data.toList := by rw [← hlen, List.take_length]
            rw [htk]
            have hb13 : Below w.heap.size w (w9.drewN q) := pw_below_drewN hb12 q
            have Tc2 : Two (w9.drewN q) B8 39 (.string t0) (.string t1) := Tc
            have d1 := Tc2.cell0
            have d2 := Tc2.cell1
            have hb := hback.out
            have hn := hnot.out
            rw [hT, hz] at hb hn
            clear hback hnot Tc hb12 hterm hz hT
            generalize w9.drewN q = w10 at *
            generalize Pure.zB S.data.toList = Z at *
            cases Z with
            | true =>
              have hk : Pure.keyOf t0 t1 = S := hb rfl
              clear hb hn
              go_wp2_with fail
              refine (concordanceref02_Key.calls t0 t1 S _ (by rw [Pure.rkey_f t0 t1 (by omega) (by omega), hk])).mono ?_
              rintro e w11 ⟨rfl, hb14⟩
              go_wp2_with fail
              refine (concordancelaw02_lives.calls true _ Pure.lives_ok).mono ?_
              rintro e w12 ⟨rfl, hb15⟩
              go_wp2_with fail
              go_ret
              exact ⟨rfl, hb13.trans ((hb14.mono hb13.size).trans (hb15.mono (Nat.le_trans hb13.size hb14.size)))⟩
            | false =>
              have hk := hn rfl
              clear hb hn
              simp only [Prod.mk.injEq] at hk
              obtain ⟨rfl, rfl, _⟩ := hk
              go_wp2_with fail
              refine (concordancelaw02_lives.calls true _ Pure.lives_ok).mono ?_
              rintro e w12 ⟨rfl, hb15⟩
              go_wp2_with fail
              go_ret
              exact ⟨rfl, hb13.trans (hb15.mono hb13.size)⟩
end Go.Proofs.Ytoephmnkenlmiaa
