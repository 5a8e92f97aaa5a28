/- DictOwns: the walk. No condition beyond the row's own. -/
import Derived.Test.YtlghcfhmfbdidaaNames
import Derived.Test.YtlghcfhmfbdidaaLives
import Derived.Test.YtlghcfhmfbdidaaFindsPlain
import Derived.Test.YtlghcfhmfbdidaaOpenStrs
namespace Go.Proofs.Ytlghcfhmfbdidaa
open Go.RowKit Go.Proofs.Ytlghcfhmfbdidaa.PAll Go.Proofs.YtlghcfhmfbdidaaW.PrintWords Go.Proofs.YtlghcfhmfbdidaaW.PrintLast Go.Proofs.YtlghcfhmfbdidaaW.PrintMore

/-- A store into a row of one's own. -/
theorem row_store {α : Type} {enc : α → Value} {h1 : ∀ x, (enc x).oneCell' = true} (d : α) {e base n c : Nat} {ok : Nat → Prop} {W : World} {A : Option Addr} {ys : List α} (hR : (Kd.scalar enc h1).R e W base ok (.slice A n c) ys) (hl : ys.length = n) {i : Nat} (hi : i < n) :
    ∃ gb u, A = some ⟨gb, 0, none⟩ ∧ base ≤ gb ∧ ok gb ∧ W.cell? ⟨gb, i, none⟩ = some u ∧ W.frozen? ⟨gb, i, none⟩ = false ∧ ∀ x, (Kd.scalar enc h1).R e (W.setCell ⟨gb, i, none⟩ (enc x)) base ok (.slice A n c) (ys.set i x) := by
  obtain ⟨gb, cap, hv, hge, hlt, _⟩ := Kd.R_form hR (by omega)
  injection hv with e1 e2 e3
  subst e1; subst e2; subst e3
  obtain ⟨c1, c2⟩ := Kd.R_cell d hR (i : Int) (by omega) (by omega)
  rw [Int.toNat_natCast] at c1 c2
  refine ⟨gb, _, rfl, hge, hR.1 gb (by simp [Value.ownBlock]), c1, c2, fun x => ?_⟩
  have h := (Kd.R_put hR (i : Int) x).1
  rw [Int.toNat_natCast] at h
  exact h

theorem same_loop (l : List ByteArray) (hl : l.length ≤ 1000000) : ∀ d i : Nat, i + d = l.length → Ev (fun k => concordanceref02_Same.l0 k l l (i : Int)) true
  | 0, i, hi => Ev.step (fun k => by rw [concordanceref02_Same.l0]) (Ev.neg (by omega) (Ev.ret rfl))
  | d + 1, i, hi => by
    have ih := same_loop l hl d (i + 1) (by omega)
    refine Ev.step (fun k => by rw [concordanceref02_Same.l0, wrap_small (i + 1) (by omega)]) ?_
    exact Ev.pos (by omega) (Ev.pos (by omega) (Ev.pos (by omega) (Ev.pos rfl (by exact_mod_cast ih))))
theorem same_ev (l : List ByteArray) (hl : l.length ≤ 1000000) : Ev (fun k => concordanceref02_Same.f k l l) true := by
  unfold concordanceref02_Same.f
  exact Ev.pos rfl (same_loop l hl l.length 0 (by omega))
theorem plN_self {l : List ByteArray} (h : Up l) {i : Nat} (hi : i < l.length) : plN l (nth l i) = i := by
  obtain ⟨h1, h2, h3⟩ := plN_spec l (nth l i)
  rcases Nat.lt_trichotomy (plN l (nth l i)) i with hlt | he | hgt
  · have := h _ i hlt hi
    rw [h3 (by omega)] at this; cases this
  · exact he
  · have := h2 i hgt
    unfold lt at this
    rw [less_irr] at this; cases this
theorem placeB_self {l : List ByteArray} (h : Up l) {i : Nat} (hi : i < l.length) : placeB l (nth l i) = true := by
  unfold placeB
  rw [placeN_eq h, plN_self h hi, decide_eq_true hi, Bool.true_and]
  simp
theorem findV_zero (l : List ByteArray) (m : Nat) (x : ByteArray) : findV l (List.replicate m 0) x = 0 := by
  unfold findV
  split
  · unfold rd
    simp only [Int.toNat_natCast, List.getD_eq_getElem?_getD, List.getElem?_replicate]
    split <;> rfl
  · rfl

/-- What stands still while the rows that were handed in are spoiled. -/
def OInv (w W : World) (b1 b2 b3 g : Nat) (v3 v4 v5 : Value) (G : List ByteArray) : Prop :=
  Kd.R Kd.string 9 W w.heap.size (fun k => k < b1) v3 G ∧ (∃ ys, ys.length = G.length ∧ Kd.R Kd.string 9 W b1 (fun k => k < b2) v4 ys) ∧ (∃ zs, zs.length = G.length ∧ Kd.R (Kd.int .i64) 3 W b2 (fun k => k < b3) v5 zs) ∧
  IsDR W b3 g G (List.replicate G.length 0) ∧ Below w.heap.size w W

set_option maxHeartbeats 4000000 in
set_option maxRecDepth 100000 in
theorem dictOwns_walk (A0 : Option Addr) (c0 : Nat) (l : List ByteArray) (w : World) (hr0 : Kd.C Kd.string w A0 l.length l) (hc0 : l.length ≤ c0) :
    Calls Try.prog 7 #[.slice A0 l.length c0] w fun e w' => e = .returned (.bool true) ∧ Below w.heap.size w w' := by
  obtain ⟨k1, hk1⟩ := (good_ev l).rounds
  obtain ⟨k2, hk2⟩ := (rises_ev (goodL l) (goodL_up l) (by have := goodL_len l; omega)).rounds
  obtain ⟨k3, hk3⟩ := (same_ev (goodL l) (by have := goodL_len l; omega)).rounds
  have hup := Lib.hid (goodL_up l)
  have hlen := goodL_len l
  generalize goodL l = G at *
  have hbig : ((G.length : Int)).toNat * 8 ≤ 281474976710656 := by omega
  go_enter Try.func7, Try.ntmps7
  go_wp2_with fail
  refine (concordanceref07_Good.calls k1 A0 c0 l 20 G w hr0 hc0 hk1).mono ?_
  rintro e w1 ⟨v3, rfl, hR3, hb1⟩
  obtain ⟨A3, c3, rfl, hc3, hC3⟩ := Kd.R_reads hR3
  go_wp2_with fail
  refine (concordanceref07_Good.calls k1 A0 c0 l 20 G w1 (Kd.C_below hr0 hb1) hc0 hk1).mono ?_
  rintro e w2 ⟨v4, rfl, hR4, hb2⟩
  obtain ⟨A4, c4, rfl, hc4, hC4⟩ := Kd.R_reads hR4
  go_wp2_with (at_make; refine Kd.R_make (Kd.int .i64) (w0 := w2) w2.heap.size 3 rfl rfl 44 (.tmp 19) (.tmp 19) rfl (G.length : Int) rfl rfl Try.underlying44 (.int .i64 0) 8 infoInt rfl (by decide) (by decide) 0 (ok := fun _ => True) (okp := fun _ => True) rfl (fun _ _ => trivial) trivial (by omega) hbig (Below.refl _ _) (Nat.le_refl _) ?_)
  intro v5 w3 hR5 hb3 hg3 hx3 hx4 hx5
  clear hg3 hx3 hx4 hx5
  obtain ⟨A5, c5, hv5, hc5, hC5⟩ := Kd.R_reads hR5
  have hZl : (List.replicate G.length (0 : Int)).length = G.length := List.length_replicate
  rw [hZl] at hv5 hc5 hC5
  subst hv5
  have hB3 : Below w.heap.size w w3 := hb1.trans ((hb2.mono hb1.size).trans (hb3.mono (Nat.le_trans hb1.size hb2.size)))
  have hmk := make_ok A4 A5 c4 c5 k2 G (List.replicate G.length 0) w3 (Kd.C_below hC4 hb3) (by rw [hZl]; exact hC5) hc4 hZl (by omega) hk2
  rw [hZl] at hmk
  clear hC3 hC4 hC5 hc4 hc5 hr0 hc0 hbig
  go_wp2_with fail
  refine hmk.mono ?_
  rintro e w4 ⟨g, rfl, hDR, hb4⟩
  have hs1 := hb2.size
  have hs2 := hb3.size
  have hs3 := hb4.size
  have hI : OInv w w4 w1.heap.size w2.heap.size w3.heap.size g (.slice A3 G.length c3) (.slice A4 G.length c4) (.slice A5 G.length c5) G := by
    refine ⟨?_, ⟨G, rfl, ?_⟩, ⟨_, hZl, ?_⟩, hDR, hB3.trans (hb4.mono hB3.size)⟩
    · exact Kd.R_below (Kd.R_below (Kd.R_below (Kd.R_mono (Kd.R_bound hR3) (fun k hk => hk.2.2.1)) hb2) hb3) hb4
    · exact Kd.R_below (Kd.R_below (Kd.R_mono (Kd.R_bound hR4) (fun k hk => hk.2.2.1)) hb3) hb4
    · exact Kd.R_below (Kd.R_mono (Kd.R_bound hR5) (fun k hk => hk.2.2.1)) hb4
  have hs0 := hb1.size
  clear hR3 hR4 hR5 hb1 hb2 hb3 hb4 hB3 hDR hmk hZl
  generalize w1.heap.size = b1 at *
  generalize w2.heap.size = b2 at *
  generalize w3.heap.size = b3 at *
  go_wp2_with fail
  go_loopw [8] (fun vi wr => ∃ i : Nat, i ≤ G.length ∧ vi = .int .i64 i ∧ OInv w wr b1 b2 b3 g (.slice A3 G.length c3) (.slice A4 G.length c4) (.slice A5 G.length c5) G ∧ b3 ≤ wr.heap.size) (fun vi _ => G.length - (intOf vi).toNat)
  case atStart => exact ⟨0, by omega, rfl, hI, hs3⟩
  case round =>
    clear hI hs3
    obtain ⟨i, hi, rfl, ⟨h3, ⟨ys, hyl, h4⟩, ⟨zs, hzl, h5⟩, hDR, hB⟩, hs3⟩ := hrel
    by_cases hlt : i < G.length
    · obtain ⟨g4, u4, rfl, n1, n2, c1, f1, hst4⟩ := row_store ByteArray.empty h4 hyl hlt
      obtain ⟨g5, u5, rfl, n3, n4, c2, f2, hst5⟩ := row_store (0 : Int) h5 hzl hlt
      have hne : g4 ≠ g5 := by omega
      have m1 : Kd.R (Kd.int .i64) 3 (wr.setCell ⟨g4, i, none⟩ (.string ⟨#[115, 112, 111, 105, 108, 101, 100]⟩)) b2 (fun k => k < b3) (.slice (some ⟨g5, 0, none⟩) G.length c5) zs :=
        Kd.R_mono (Kd.R_far (p := ⟨g4, i, none⟩) (Kd.R_bound h5) (fun k hk => by have := hk.2.1; show k ≠ g4; omega) _) (fun k hk => hk.1)
      obtain ⟨g6, u6, e6, _, _, c3', f3, hst6⟩ := row_store (0 : Int) m1 hzl hlt
      injection e6 with e6
      injection e6 with e6
      subst e6
      have hI2 : OInv w ((wr.setCell ⟨g4, i, none⟩ (.string ⟨#[115, 112, 111, 105, 108, 101, 100]⟩)).setCell ⟨g5, i, none⟩ (.int .i64 5)) b1 b2 b3 g (.slice A3 G.length c3) (.slice (some ⟨g4, 0, none⟩) G.length c4) (.slice (some ⟨g5, 0, none⟩) G.length c5) G := by
        refine ⟨?_, ⟨ys.set i ⟨#[115, 112, 111, 105, 108, 101, 100]⟩, by rw [List.length_set]; exact hyl, ?_⟩, ⟨zs.set i 5, by rw [List.length_set]; exact hzl, hst6 5⟩, (hDR.far (p := ⟨g4, i, none⟩) (by show g4 < b3; omega) _).far (p := ⟨g5, i, none⟩) n4 _, (hB.setCell (p := ⟨g4, i, none⟩) (by show _ ≤ g4; omega) _).setCell (p := ⟨g5, i, none⟩) (by show _ ≤ g5; omega) _⟩
        · exact Kd.R_far (p := ⟨g5, i, none⟩) (Kd.R_far (p := ⟨g4, i, none⟩) h3 (fun k hk => by show k ≠ g4; omega) _) (fun k hk => by show k ≠ g5; omega) _
        · exact Kd.R_far (p := ⟨g5, i, none⟩) (hst4 _) (fun k hk => by show k ≠ g5; omega) _
      have p0 := eq_true (show (0 : Int) ≤ (i : Int) by omega)
      have p1 := eq_true (show (i : Int) < (G.length : Int) by omega)
      have hh := Lib.hid hI2
      clear hI2 h3 h4 h5 hDR hB hst4 hst5 hst6 m1 hyl hzl c2 f2
      go_wp2
      go_roundw
      case rel => exact ⟨i + 1, by omega, by go_num, hh.out, by simpa using hs3⟩
      case measure => simp [intOf]; omega
    · have hge : ¬ ((i : Int) < (G.length : Int)) := by omega
      obtain ⟨wA, hwA⟩ : ∃ wA, wA = wr := ⟨_, rfl⟩
      subst hwA
      have hC3 := (Kd.R_reads' h3).2.2
      have hD0 := hDR.isD
      clear h3 h4 h5 hyl hzl hDR hs3
      go_wp2_with fail
      refine (names_any g G (List.replicate G.length 0) List.length_replicate (by omega) wA hD0).mono ?_
      rintro e w5 ⟨v9, rfl, hR9, hb9⟩
      obtain ⟨A9, c9, rfl⟩ := Kd.R_slice hR9
      have hB9 := hB.trans (hb9.mono hB.size)
      have hD9 := hD0.below hb9
      have hC9 := Kd.C_below hC3 hb9
      have hT : ∃ ts, ts.length = G.length ∧ Kd.R Kd.string 9 w5 wA.heap.size (fun _ => True) (.slice A9 G.length c9) ts := ⟨G, rfl, hR9⟩
      have hwA := hB.size
      have hSm : (∀ k, k < wA.heap.size → w5.heap[k]? = wA.heap[k]?) := fun k hk => hb9.block k hk
      clear hR9 hb9 hB
      go_wp2_with fail
      go_loopw [10] (fun vi ws => ∃ i : Nat, i ≤ G.length ∧ vi = .int .i64 i ∧ (∃ ts, ts.length = G.length ∧ Kd.R Kd.string 9 ws wA.heap.size (fun _ => True) (.slice A9 G.length c9) ts) ∧ (∀ k, k < wA.heap.size → ws.heap[k]? = wA.heap[k]?) ∧ Below w.heap.size w ws) (fun vi _ => G.length - (intOf vi).toNat)
      case atStart => exact ⟨0, by omega, rfl, hT, hSm, hB9⟩
      case round =>
        clear hT hSm hB9 hD9 hC9
        obtain ⟨j, hj, rfl, ⟨ts, htl, hRt⟩, hSm, hB9⟩ := hrel
        obtain ⟨ws, hws⟩ : ∃ ws, ws = wr := ⟨_, rfl⟩
        subst hws
        by_cases hlt : j < G.length
        · obtain ⟨g9, u9, rfl, n1, n2, c1, f1, hst9⟩ := row_store ByteArray.empty hRt htl hlt
          have p0 := eq_true (show (0 : Int) ≤ (j : Int) by omega)
          have p1 := eq_true (show (j : Int) < (G.length : Int) by omega)
          have hr := Lib.hid (hst9 ⟨#[115, 112, 111, 105, 108, 101, 100]⟩)
          have hs := Lib.hid hSm
          have hb := Lib.hid (hB9.setCell (p := ⟨g9, j, none⟩) (by show _ ≤ g9; omega) (.string ⟨#[115, 112, 111, 105, 108, 101, 100]⟩))
          clear hRt hst9 hSm hB9
          go_wp2
          go_roundw
          case rel => exact ⟨j + 1, by omega, by go_num, ⟨_, by rw [List.length_set]; exact htl, hr.out⟩, fun k hk => (Below.heap_setCell _ ⟨g9, j, none⟩ _ k (by show k ≠ g9; omega)).trans (hs.out k hk), hb.out⟩
          case measure => simp [intOf]; omega
        · have hge2 : ¬ ((j : Int) < (G.length : Int)) := by omega
          have hDs : IsD ws g G (List.replicate G.length 0) := hD0.same hSm
          have hCs : Kd.C Kd.string ws A3 G.length G := Kd.C_of_reads (reads_same (d := ByteArray.empty) (Kd.reads_of_C hC3) hSm)
          clear hRt hSm hD0 hC3
          have hL : Kd.C Kd.string ws A3 G.length G ∧ IsD ws g G (List.replicate G.length 0) ∧ Below w.heap.size w ws := ⟨hCs, hDs, hB9⟩
          clear hCs hDs hB9
          go_wp2_with fail
          go_loopw [11] (fun vi wt => ∃ i : Nat, i ≤ G.length ∧ vi = .int .i64 i ∧ Kd.C Kd.string wt A3 G.length G ∧ IsD wt g G (List.replicate G.length 0) ∧ Below w.heap.size w wt) (fun vi _ => G.length - (intOf vi).toNat)
          case atStart => exact ⟨0, by omega, rfl, hL⟩
          case round =>
            clear hL
            obtain ⟨m, hm, rfl, hCG, hDD, hB⟩ := hrel
            obtain ⟨wt, hwt⟩ : ∃ wt, wt = wr := ⟨_, rfl⟩
            subst hwt
            by_cases hlt : m < G.length
            · obtain ⟨ad, rfl, hx⟩ := Kd.at_string hCG (m : Int) (by omega) (by omega)
              have hx0 : wt.cell? (ad.add m) = some (.string (nth G m)) := hx
              have hI0 := Lib.hid (And.intro hCG (And.intro hDD hB))
              have hfv := findV_zero G G.length (nth G m)
              have hpb := placeB_self hup.out hlt
              clear hx hCG hB
              generalize nth G m = x at *
              have p0 := eq_true (show (0 : Int) ≤ (m : Int) by omega)
              have p1 := eq_true (show (m : Int) < (G.length : Int) by omega)
              go_wp2_with fail
              with_reducible refine Calls.mono (find_any g G (List.replicate G.length 0) x wt hDD (by omega) List.length_replicate) ?_
              rintro e w7 ⟨rfl, b7⟩
              rw [hfv, hpb]
              obtain ⟨q1, q2, q3⟩ := hI0.out
              have hI1 := Lib.hid (And.intro (Kd.C_below q1 b7) (And.intro (q2.below b7) (q3.trans (b7.mono q3.size))))
              clear hI0 hx0 hDD b7 q1 q2 q3
              go_wp2_with fail
              go_roundw
              case rel => exact ⟨m + 1, by omega, by go_num, hI1.out⟩
              case measure => simp [intOf]; omega
            · have hge3 : ¬ ((m : Int) < (G.length : Int)) := by omega
              go_wp2_with fail
              refine (names_any g G (List.replicate G.length 0) List.length_replicate (by omega) wt hDD).mono ?_
              rintro e w8 ⟨v10, rfl, hR10, hb10⟩
              obtain ⟨A10, c10, rfl, hc10, hC10⟩ := Kd.R_reads hR10
              have hCG8 := Kd.C_below hCG hb10
              have hB8 := hB.trans (hb10.mono hB.size)
              clear hR10 hb10 hB hDD hCG
              go_wp2_with fail
              refine (concordanceref02_Same.calls k3 A10 c10 G A3 c3 G true w8 hC10 hc10 hCG8 hc3 hk3).mono ?_
              rintro e w9 ⟨rfl, q, rfl⟩
              go_wp2_with fail
              refine (lives_any (w8.drewN q)).mono ?_
              rintro e w10 ⟨rfl, hb11⟩
              go_wp2_with fail
              go_ret
              have hB9 : Below w.heap.size w (w8.drewN q) := pw_below_drewN hB8 q
              exact ⟨rfl, hB9.trans (hb11.mono hB9.size)⟩
end Go.Proofs.Ytlghcfhmfbdidaa
