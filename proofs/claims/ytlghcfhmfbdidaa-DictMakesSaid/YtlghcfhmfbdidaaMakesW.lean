/- DictMakes: the walk. No condition beyond the row's own. -/
import Derived.Test.YtlghcfhmfbdidaaOwnsW
import Derived.Test.YtlghcfhmfbdidaaMakesPlain
import Derived.Deep.Cut
import Derived.Deep.DeepCutAuto
import Derived.Deep.CutBlock
namespace Go.Proofs.Ytlghcfhmfbdidaa
open Go.RowKit Go.Proofs.Ytlghcfhmfbdidaa.PAll Go.Proofs.YtlghcfhmfbdidaaW.PrintWords Go.Proofs.YtlghcfhmfbdidaaW.PrintLast Go.Proofs.YtlghcfhmfbdidaaW.PrintMore

set_option maxHeartbeats 400000 in
set_option maxRecDepth 100000 in
/-- At, within. -/
theorem at_in (g i : Nat) (ns : List ByteArray) (vs : List Int) (w : World) (hD : IsD w g ns vs) (hv : vs.length = ns.length) (hi : i < ns.length) :
    Calls Try.prog 21 #[.pointer (some ⟨g, 0, none⟩), .int .i64 i] w fun e w' => e = .returned (.tuple #[.string (nth ns i), .int .i64 (rd vs (i : Int))]) ∧ Below w.heap.size w w' := by
  obtain ⟨A0, c0, A1, c1, hg0, hg1, hc0, hc1, hC, hV, hlt⟩ := hD.open
  obtain ⟨a0, rfl, hx⟩ := Kd.at_string hC (i : Int) (by omega) (by omega)
  obtain ⟨a1, rfl, hy⟩ := Kd.at_int hV (i : Int) (by omega) (by omega)
  have hx2 : w.cell? (a0.add i) = some (.string (nth ns i)) := hx
  have hy2 : w.cell? (a1.add i) = some (.int .i64 (rd vs (i : Int))) := hy
  have p0 := eq_true (show (0 : Int) ≤ (i : Int) by omega)
  have p1 := eq_true (show (i : Int) < (ns.length : Int) by omega)
  have p2 := eq_true (show (i : Int) < (vs.length : Int) by omega)
  have p3 : ¬ ((ns.length : Int) ≤ (i : Int)) := by omega
  clear hx hy hC hV hc0 hc1
  go_enter Try.func21, Try.ntmps21
  go_wp2
  repeat (go_quiet (fail); try go_wp2)
  go_ret2
  exact ⟨rfl, pw_below_drewN (Below.refl _ _) _⟩
set_option maxHeartbeats 400000 in
set_option maxRecDepth 100000 in
/-- At, elsewhere. -/
theorem at_out (g : Nat) (i : Int) (ns : List ByteArray) (vs : List Int) (w : World) (hD : IsD w g ns vs) (hi : i < 0 ∨ (ns.length : Int) ≤ i) :
    Calls Try.prog 21 #[.pointer (some ⟨g, 0, none⟩), .int .i64 i] w fun e w' => e = .returned (.tuple #[.string ⟨#[]⟩, .int .i64 0]) ∧ Below w.heap.size w w' := by
  obtain ⟨A0, c0, A1, c1, hg0, hg1, hc0, hc1, hC, hV, hlt⟩ := hD.open
  clear hC hV hc0 hc1
  by_cases h0 : i < 0
  · go_enter Try.func21, Try.ntmps21
    go_wp2
    repeat (go_quiet (fail); try go_wp2)
    go_ret2
    exact ⟨rfl, by first | exact pw_below_drewN (Below.refl _ _) _ | exact Below.refl _ _⟩
  · have h1 : (ns.length : Int) ≤ i := by omega
    go_enter Try.func21, Try.ntmps21
    go_wp2
    repeat (go_quiet (fail); try go_wp2)
    go_ret2
    exact ⟨rfl, by first | exact pw_below_drewN (Below.refl _ _) _ | exact Below.refl _ _⟩

def ptrB (ok : Bool) (g : Nat) : Value := .pointer (if ok then some ⟨g, 0, none⟩ else none)
def errB (ok : Bool) : Value := .int .i64 (if ok then 0 else 1)

set_option maxHeartbeats 4000000 in
set_option maxRecDepth 100000 in
theorem dictMakes_walk (A0 : Option Addr) (c0 : Nat) (l : List ByteArray) (n : Int) (w : World) (hr0 : Kd.C Kd.string w A0 l.length l) (hc0 : l.length ≤ c0) (hn : (Lit.int .i64 n).wf = true) :
    Calls Try.prog 6 #[.slice A0 l.length c0, .int .i64 n] w fun e w' => e = .returned (.bool true) ∧ Below w.heap.size w w' := by
  have hnb : IntKind.i64.min ≤ n ∧ n ≤ IntKind.i64.max := by simpa [Lit.wf] using hn
  have hmin : IntKind.i64.min = -9223372036854775808 := rfl
  have hmax : IntKind.i64.max = 9223372036854775807 := rfl
  rw [hmin, hmax] at hnb
  obtain ⟨hn1, hn2⟩ := hnb
  clear hn hmin hmax
  obtain ⟨k0, hk0⟩ := (few_ev l).rounds
  have hFl := fewL_len l
  generalize fewL l = F at *
  obtain ⟨k4, hk4⟩ := (drises_ev F (by omega)).rounds
  obtain ⟨k5, hk5⟩ := (rrises_ev F (by omega)).rounds
  obtain ⟨k1, hk1⟩ := (good_ev F).rounds
  obtain ⟨k2, hk2⟩ := (rises_ev (goodL F) (goodL_up F) (by have := goodL_len F; omega)).rounds
  obtain ⟨k3, hk3⟩ := (same_ev (goodL F) (by have := goodL_len F; omega)).rounds
  have hlen := goodL_len F
  generalize goodL F = G at *
  generalize riseB F F.length 0 = R at *
  go_enter Try.func6, Try.ntmps6
  go_upto_if 18 with (go_at_call 18; refine (concordancelaw07_few.calls k0 A0 c0 l F w hr0 hc0 hk0).mono ?_; rintro e w1 ⟨v, rfl, hR, hb1⟩; obtain ⟨AF, cF, rfl, hcF, hCF⟩ := Kd.R_reads hR; clear hR)
  clear hr0 hc0 hk0
  go_cut [1] (fun v1 wx => ∃ N : Nat, v1 = .int .i64 N ∧ wx = w1)
  case first =>
    by_cases h0 : n < 0
    · obtain ⟨N, hN⟩ : ∃ N : Nat, -(n + 1) = (N : Int) := ⟨(-(n + 1)).toNat, by omega⟩
      have hd : decide (n < 0) = true := decide_eq_true h0
      go_wp2_with fail
      go_meet
      exact ⟨N, rfl, rfl⟩
    · obtain ⟨N, hN⟩ : ∃ N : Nat, n = (N : Int) := ⟨n.toNat, by omega⟩
      subst hN
      have hd : decide ((N : Int) < 0) = false := decide_eq_false (by omega)
      clear h0 hn1
      go_wp2_with fail
      go_meet
      exact ⟨N, rfl, rfl⟩
  case rest =>
    obtain ⟨N, rfl, rfl⟩ := hcut
    clear hn1 hn2
    obtain ⟨m, hm⟩ : ∃ m, N % 25 = m := ⟨_, rfl⟩
    have hml : m < 25 := by omega
    have hm1 : (N : Int).tmod 25 = (m : Int) := by rw [← hm]; rfl
    have hm2 : (N : Int) % 25 = (m : Int) := by rw [← hm]; rfl
    clear hm
    go_upto_region 6 with (go_at_call 19; refine (concordanceref07_Rises.calls k5 AF cF F R wc hCF hcF hk5).mono ?_; rintro e w2 ⟨rfl, q, rfl⟩)
    have hCq : Kd.C Kd.string (wc.drewN q) AF F.length F := Kd.C_drewN hCF q
    have hbq : Below w.heap.size w (wc.drewN q) := pw_below_drewN hb1 q
    generalize wc.drewN q = wd at *
    clear hCF hb1 hm1 hm2
    go_cut [6, 7] (fun v6 v7 wx => ∃ g, v6 = ptrB (R && decide (m = F.length)) g ∧ v7 = errB (R && decide (m = F.length)) ∧ Below w.heap.size w wx ∧ Kd.C Kd.string wx AF F.length F)
    case first =>
      have hbig : ((m : Int)).toNat * 8 ≤ 281474976710656 := by omega
      go_wp2_with (at_make; refine Kd.R_make (Kd.int .i64) (w0 := wd) wd.heap.size 3 rfl rfl 44 (.tmp 28) (.tmp 28) rfl (m : Int) rfl rfl Try.underlying44 (.int .i64 0) 8 infoInt rfl (by decide) (by decide) 0 (ok := fun _ => True) (okp := fun _ => True) rfl (fun _ _ => trivial) trivial (by omega) hbig (Below.refl _ _) (Nat.le_refl _) ?_)
      intro v5 w3 hR5 hb3 hg3 hx3 hx4 hx5
      clear hg3 hx3 hx4 hx5 hbig
      obtain ⟨A5, c5, hv5, hc5, hC5⟩ := Kd.R_reads hR5
      have hZl : (List.replicate m (0 : Int)).length = m := List.length_replicate
      rw [hZl] at hv5 hc5 hC5
      subst hv5
      have hC3 := Kd.C_below hCq hb3
      have hB3 := hbq.trans (hb3.mono hbq.size)
      clear hR5
      by_cases hm : m = F.length
      · subst hm
        cases R with
        | true =>
          have hmk := make_ok AF A5 cF c5 k4 F (List.replicate F.length 0) w3 hC3 (by rw [hZl]; exact hC5) hcF hZl (by omega) hk4
          rw [hZl] at hmk
          clear hZl hC5
          go_wp2_with fail
          refine hmk.mono ?_
          rintro e w4 ⟨g, rfl, hDR, hb4⟩
          go_wp2_with fail
          go_meet
          exact ⟨g, by simp [ptrB], by simp [errB], hB3.trans (hb4.mono hB3.size), Kd.C_below hC3 hb4⟩
        | false =>
          have hmk := make_no AF A5 cF c5 k4 F (List.replicate F.length 0) w3 hC3 hcF hZl hk4
          rw [hZl] at hmk
          clear hZl hC5
          go_wp2_with fail
          refine hmk.mono ?_
          rintro e w4 ⟨rfl, hb4⟩
          go_wp2_with fail
          go_meet
          exact ⟨0, by simp [ptrB], by simp [errB], hB3.trans (hb4.mono hB3.size), Kd.C_below hC3 hb4⟩
      · have hmk := make_ne AF A5 cF c5 F.length m w3 hm
        clear hZl hC5
        go_wp2_with fail
        refine hmk.mono ?_
        rintro e w4 ⟨rfl, hb4⟩
        go_wp2_with fail
        go_meet
        exact ⟨0, by simp [ptrB, hm], by simp [errB, hm], hB3.trans (hb4.mono hB3.size), Kd.C_below hC3 hb4⟩
    case rest =>
      obtain ⟨g0, rfl, rfl, hB4, hC4⟩ := hcut
      clear hCq hbq
      go_upto_region 7 with fail
      go_cut [8] (fun v8 wx => v8 = .bool (R && decide (m = F.length)) ∧ wx = wc)
      case first =>
        cases R with
        | true =>
          by_cases hm : m = F.length
          · subst hm
            go_wp2_with fail
            go_meet
            exact ⟨by simp, rfl⟩
          · have hm2 : ((m : Int) == (F.length : Int)) = false := by rw [beq_eq_false_iff_ne]; omega
            go_wp2_with fail
            go_meet
            exact ⟨by simp [hm], rfl⟩
        | false =>
          go_wp2_with fail
          go_meet
          exact ⟨by simp, rfl⟩
      case rest =>
        obtain ⟨rfl, rfl⟩ := hcut
        generalize (R && decide (m = F.length)) = ok at *
        go_upto_region 8 with fail
        go_cut [57] (fun v57 wx => v57 = .bool false ∧ wx = wc)
        case first =>
          cases ok
          all_goals
            unfold ptrB errB
            simp only [if_true, if_false, Bool.false_eq_true]
            go_wp2_with fail
            go_meet
            exact ⟨rfl, rfl⟩
        case rest =>
          obtain ⟨rfl, rfl⟩ := hcut
          go_wp2_with fail
          refine (concordanceref07_Good.calls k1 AF cF F 20 G _ hC4 hcF hk1).mono ?_
          rintro e w5 ⟨v, rfl, hR5, hb5⟩
          obtain ⟨A1, c1, rfl, hc1, hC1⟩ := Kd.R_reads hR5
          have hB5 := hB4.trans (hb5.mono hB4.size)
          clear hR5 hb5 hB4 hC4
          go_wp2_with fail
          refine (made_any A1 c1 k2 G w5 hC1 hc1 (by omega) hk2).mono ?_
          rintro e w6 ⟨g, rfl, hDR, hb6⟩
          have hD := hDR.isD
          have hB6 := hB5.trans (hb6.mono hB5.size)
          have hC6 := Kd.C_below hC1 hb6
          clear hDR hb6 hB5 hC1
          have hL : Kd.C Kd.string w6 A1 G.length G ∧ IsD w6 g G (vals G.length) ∧ Below w.heap.size w w6 := ⟨hC6, hD, hB6⟩
          clear hC6 hD hB6
          go_wp2_with fail
          go_loopw [11] (fun vi wt => ∃ i : Nat, i ≤ G.length + 2 ∧ vi = .int .i64 ((i : Int) - 1) ∧ Kd.C Kd.string wt A1 G.length G ∧ IsD wt g G (vals G.length) ∧ Below w.heap.size w wt) (fun vi _ => ((G.length : Int) + 2 - intOf vi).toNat)
          case atStart => exact ⟨0, by omega, rfl, hL⟩
          case round =>
            clear hL
            obtain ⟨i, hi, rfl, hCG, hDD, hB⟩ := hrel
            by_cases hlt : i < G.length + 2
            · have hle : ((i : Int) - 1 ≤ (G.length : Int)) := by omega
              by_cases hin : 0 < i ∧ i ≤ G.length
              · obtain ⟨j, rfl⟩ : ∃ j, i = j + 1 := ⟨i - 1, by omega⟩
                have hjl : j < G.length := by omega
                have hj1 : (((j + 1 : Nat) : Int) - 1) = (j : Int) := by omega
                rw [hj1] at hle ⊢
                obtain ⟨ad, rfl, hx⟩ := Kd.at_string hCG (j : Int) (by omega) (by omega)
                have hx0 : wr.cell? (ad.add j) = some (.string (nth G j)) := hx
                have hI0 := Lib.hid (And.intro hCG (And.intro hDD hB))
                have hva := vals_at G.length j hjl
                clear hx hCG hB
                have hatc := at_in g j G (vals G.length) wr hDD (vals_len _) hjl
                rw [hva] at hatc
                generalize nth G j = x at *
                have p0 := eq_true (show (0 : Int) ≤ (j : Int) by omega)
                have p1 := eq_true (show (j : Int) < (G.length : Int) by omega)
                go_wp2_with fail
                refine hatc.mono ?_
                rintro e w7 ⟨rfl, b7⟩
                have hx1 := pw_cell_below b7 hx0
                obtain ⟨q1, q2, q3⟩ := hI0.out
                have hI1 := Lib.hid (And.intro (Kd.C_below q1 b7) (And.intro (q2.below b7) (q3.trans (b7.mono q3.size))))
                clear hI0 hx0 hDD b7 q1 q2 q3 hatc hle hj1 hlt hin
                go_wp2_with fail
                go_roundw
                case rel => exact ⟨j + 2, by omega, by rw [show (((j + 2 : Nat) : Int) - 1) = (j : Int) + 1 by omega], hI1.out⟩
                case measure => simp [intOf]; omega
              · by_cases hz : i = 0
                · subst hz
                  have hz1 : (((0 : Nat) : Int) - 1) = -1 := rfl
                  rw [hz1] at hle ⊢
                  have hatc := at_out g (-1) G (vals G.length) wr hDD (by omega)
                  have hI0 := Lib.hid (And.intro hCG (And.intro hDD hB))
                  clear hCG hB
                  go_wp2_with fail
                  refine hatc.mono ?_
                  rintro e w7 ⟨rfl, b7⟩
                  obtain ⟨q1, q2, q3⟩ := hI0.out
                  have hI1 := Lib.hid (And.intro (Kd.C_below q1 b7) (And.intro (q2.below b7) (q3.trans (b7.mono q3.size))))
                  clear hI0 hDD b7 q1 q2 q3 hatc
                  go_wp2_with fail
                  go_roundw
                  case rel => exact ⟨1, by omega, by rw [show (((1 : Nat) : Int) - 1) = 0 from rfl], hI1.out⟩
                  case measure => simp [intOf]; omega
                · obtain rfl : i = G.length + 1 := by omega
                  have hz1 : (((G.length + 1 : Nat) : Int) - 1) = (G.length : Int) := by omega
                  rw [hz1] at hle ⊢
                  have hatc := at_out g (G.length : Int) G (vals G.length) wr hDD (by omega)
                  have hI0 := Lib.hid (And.intro hCG (And.intro hDD hB))
                  clear hCG hB
                  go_wp2_with fail
                  refine hatc.mono ?_
                  rintro e w7 ⟨rfl, b7⟩
                  obtain ⟨q1, q2, q3⟩ := hI0.out
                  have hI1 := Lib.hid (And.intro (Kd.C_below q1 b7) (And.intro (q2.below b7) (q3.trans (b7.mono q3.size))))
                  clear hI0 hDD b7 q1 q2 q3 hatc
                  go_wp2_with fail
                  go_roundw
                  case rel => exact ⟨G.length + 2, by omega, by rw [show (((G.length + 2 : Nat) : Int) - 1) = (G.length : Int) + 1 by omega], hI1.out⟩
                  case measure => simp [intOf]; omega
            · have hge : ¬ ((i : Int) - 1 ≤ (G.length : Int)) := by omega
              go_wp2_with fail
              refine (len_any g G (vals G.length) wr hDD).mono ?_
              rintro e w7 ⟨rfl, rfl⟩
              go_wp2_with fail
              refine (names_any g G (vals G.length) (vals_len _) (by omega) w7 hDD).mono ?_
              rintro e w8 ⟨v10, rfl, hR10, hb10⟩
              obtain ⟨A10, c10, rfl, hc10, hC10⟩ := Kd.R_reads hR10
              have hCG8 := Kd.C_below hCG hb10
              have hB8 := hB.trans (hb10.mono hB.size)
              clear hR10 hb10 hB hDD hCG
              go_wp2_with fail
              refine (concordanceref02_Same.calls k3 A10 c10 G A1 c1 G true w8 hC10 hc10 hCG8 hc1 hk3).mono ?_
              rintro e w9 ⟨rfl, q, rfl⟩
              go_wp2_with fail
              refine (lives_any (w8.drewN q)).mono ?_
              rintro e w10 ⟨rfl, hb11⟩
              go_wp2_with fail
              go_ret
              have hB9 : Below w.heap.size w (w8.drewN q) := pw_below_drewN hB8 q
              exact ⟨rfl, hB9.trans (hb11.mono hB9.size)⟩
end Go.Proofs.Ytlghcfhmfbdidaa
