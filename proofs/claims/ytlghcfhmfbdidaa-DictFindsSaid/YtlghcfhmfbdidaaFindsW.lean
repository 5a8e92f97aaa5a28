/- DictFinds: the walk. No condition beyond the row's own. -/
import Derived.Test.YtlghcfhmfbdidaaLives
import Derived.Test.YtlghcfhmfbdidaaFindsPlain
import Derived.Test.YtlghcfhmfbdidaaOpenStrs
namespace Go.Proofs.Ytlghcfhmfbdidaa
open Go.RowKit Go.Proofs.Ytlghcfhmfbdidaa.PAll Go.Proofs.YtlghcfhmfbdidaaW.PrintWords Go.Proofs.YtlghcfhmfbdidaaW.PrintLast Go.Proofs.YtlghcfhmfbdidaaW.PrintMore

theorem infoStr : (Try.prog.info? 9).map (fun i => (i.zero, i.size, i.bytes)) = some (some (.string ⟨#[]⟩), 1, 16) := by kernel_rfl

def FInv (w W : World) (g : Nat) (A1 : Option Addr) (G : List ByteArray) (A2 : Option Addr) (L : List ByteArray) : Prop :=
  Kd.C Kd.string W A1 G.length G ∧ IsD W g G (vals G.length) ∧ Kd.C Kd.string W A2 L.length L ∧ Below w.heap.size w W
theorem FInv.below {w W W' : World} {g : Nat} {A1 A2 : Option Addr} {G L : List ByteArray} (h : FInv w W g A1 G A2 L) (hb : Below W.heap.size W W') : FInv w W' g A1 G A2 L :=
  ⟨Kd.C_below h.1 hb, h.2.1.below hb, Kd.C_below h.2.2.1 hb, h.2.2.2.trans (hb.mono h.2.2.2.size)⟩
theorem FInv.c {w W : World} {g : Nat} {A1 A2 : Option Addr} {G L : List ByteArray} (h : FInv w W g A1 G A2 L) : Kd.C Kd.string W A1 G.length G := h.1
theorem FInv.d {w W : World} {g : Nat} {A1 A2 : Option Addr} {G L : List ByteArray} (h : FInv w W g A1 G A2 L) : IsD W g G (vals G.length) := h.2.1
theorem FInv.b {w W : World} {g : Nat} {A1 A2 : Option Addr} {G L : List ByteArray} (h : FInv w W g A1 G A2 L) : Below w.heap.size w W := h.2.2.2
theorem below_of_drawn {w w' : World} (h : Drawn0 w w') : Below w.heap.size w w' := by
  obtain ⟨q, rfl⟩ := h
  exact pw_below_drewN (Below.refl _ _) q

/-- All that one round asks, told in one place. -/
theorem ask_all (G : List ByteArray) (hu : Up G) (hl : G.length ≤ 1000000) (x : ByteArray) : ∃ k, concordanceref07_Place.f k G x = some ((placeN G x : Int), placeB G x) ∧ concordanceref07_Prefix.f k G x = some ((placeN G x : Int), (prefixN G x : Int)) := by
  obtain ⟨k1, h1⟩ := rplace_ev' hu hl x
  obtain ⟨k2, h2⟩ := rprefix_ev hu hl x
  exact ⟨max k1 k2, h1 _ (Nat.le_max_left _ _), h2 _ (Nat.le_max_right _ _)⟩

set_option maxHeartbeats 4000000 in
set_option maxRecDepth 100000 in
theorem dictFinds_walk (A0 : Option Addr) (c0 : Nat) (l : List ByteArray) (s : ByteArray) (n : Int) (w : World) (hr0 : Kd.C Kd.string w A0 l.length l) (hc0 : l.length ≤ c0) (hs : s.size ≤ maxLen) (hn : (Lit.int .i64 n).wf = true) :
    Calls Try.prog 4 #[.slice A0 l.length c0, .string s, .int .i64 n] w fun e w' => e = .returned (.bool true) ∧ Below w.heap.size w w' := by
  obtain ⟨k1, hk1⟩ := (good_ev l).rounds
  obtain ⟨k2, hk2⟩ := (rises_ev (goodL l) (goodL_up l) (by have := goodL_len l; omega)).rounds
  have hup := Lib.hid (goodL_up l)
  have hshort := Lib.hid (goodL_short l)
  have hlen := goodL_len l
  generalize goodL l = G at *
  go_enter Try.func4, Try.ntmps4
  go_wp2_with fail
  refine (concordanceref07_Good.calls k1 A0 c0 l 20 G w hr0 hc0 hk1).mono ?_
  rintro e w1 ⟨v, rfl, hR, hb1⟩
  obtain ⟨A1, c1, rfl, hc1, hC1⟩ := Kd.R_reads hR
  clear hR
  go_wp2_with fail
  refine (made_any A1 c1 k2 G w1 hC1 hc1 (by omega) hk2).mono ?_
  rintro e w2 ⟨g, rfl, hDR, hb2⟩
  have hD := hDR.isD
  have hb3 := hb1.trans (hb2.mono hb1.size)
  have hC2 := Kd.C_below hC1 hb2
  clear hDR hb1 hb2 hC1 hr0 hc0
  have hnb : IntKind.i64.min ≤ n ∧ n ≤ IntKind.i64.max := by simpa [Lit.wf] using hn
  have hmin : IntKind.i64.min = -9223372036854775808 := rfl
  have hmax : IntKind.i64.max = 9223372036854775807 := rfl
  rw [hmin, hmax] at hnb
  obtain ⟨hn1, hn2⟩ := hnb
  clear hn hmin hmax
  by_cases h0 : n < 0
  · obtain ⟨N, hN⟩ : ∃ N : Nat, -(n + 1) = (N : Int) := ⟨(-(n + 1)).toNat, by omega⟩
    have hd : decide (n < 0) = true := decide_eq_true h0
    by_cases hg : 0 < G.length
    · have hd2 : decide (0 < G.length) = true := decide_eq_true hg
      obtain ⟨j, hj⟩ : ∃ j, N % G.length = j := ⟨_, rfl⟩
      have hjl : j < G.length := by rw [← hj]; exact Nat.mod_lt _ hg
      have hj1 : (N : Int).tmod (G.length : Int) = (j : Int) := by rw [← hj]; rfl
      have hj2 : (N : Int) % (G.length : Int) = (j : Int) := by rw [← hj]; rfl
      obtain ⟨ad0, rfl, hx⟩ := Kd.at_string hC2 (j : Int) (by omega) (by omega)
      have hx2 : (w2.alloc (.cells #[.string (s.extract 0 (min (s.size : Int) 8).toNat), .string ⟨#[]⟩] 9)).cell? (ad0.add j) = some (.string (nth G j)) := pw_cell_below ((Below.refl _ w2).alloc (Nat.le_refl _) _) hx
      have hsz := hshort.out j hjl
      clear hx hj hshort
      generalize nth G j = own at *
      have p0 := eq_true (show (0 : Int) ≤ (j : Int) by omega)
      have p1 := eq_true (show (j : Int) < (G.length : Int) by omega)
      go_wp2_with fail
      clear hx2 p0 p1 hj1 hj2 hjl hd hd2 hg hsz
      generalize s.extract 0 (min (s.size : Int) 8).toNat = b at *
      generalize (Question.appendCap 5 2 9).cut (w2.tape w2.drawn (Question.appendCap 5 2 9)) = cp at *
      generalize Builtin.zeroCells #[Value.string ⟨#[]⟩] (cp - 5) = Z at *
      have hbel : Below w2.heap.size w2 ((((w2.alloc (.cells #[.string b, .string ⟨#[]⟩] 9)).alloc (.cells #[.string own, .string (own ++ ⟨#[0]⟩), .string (own.extract 0 (own.size / 2))] 9)).alloc (.cells (#[.string b, .string ⟨#[]⟩] ++ (#[.string own, .string (own ++ ⟨#[0]⟩), .string (own.extract 0 (own.size / 2))] ++ Z)) 9)).drew) :=
        ((((Below.refl _ w2).alloc (Nat.le_refl _) _).alloc (by simp) _).alloc (by simp; omega) _).drew
      have hInv : FInv w ((((w2.alloc (.cells #[.string b, .string ⟨#[]⟩] 9)).alloc (.cells #[.string own, .string (own ++ ⟨#[0]⟩), .string (own.extract 0 (own.size / 2))] 9)).alloc (.cells (#[.string b, .string ⟨#[]⟩] ++ (#[.string own, .string (own ++ ⟨#[0]⟩), .string (own.extract 0 (own.size / 2))] ++ Z)) 9)).drew) g (some ad0) G (some ⟨w2.heap.size + 1 + 1, 0, none⟩) [b, ⟨#[]⟩, own, own ++ ⟨#[0]⟩, own.extract 0 (own.size / 2)] := by
        refine ⟨Kd.C_below hC2 hbel, hD.below hbel, ?_, hb3.trans (hbel.mono hb3.size)⟩
        refine Kd.C_of_reads (d := ByteArray.empty) ⟨rfl, by simp, fun _ => ⟨_, rfl, fun j hj => ?_⟩⟩
        have hj' : j < 5 := hj
        rw [add_none]
        obtain rfl | rfl | rfl | rfl | rfl : j = 0 ∨ j = 1 ∨ j = 2 ∨ j = 3 ∨ j = 4 := by omega
        all_goals simp [go_sem, Array.getElem?_append]
      have hLn : [b, ⟨#[]⟩, own, own ++ ⟨#[0]⟩, own.extract 0 (own.size / 2)].length = 5 := rfl
      clear hbel hD hC2 hb3
      generalize [b, ⟨#[]⟩, own, own ++ ⟨#[0]⟩, own.extract 0 (own.size / 2)] = L at *
      generalize ((((w2.alloc (.cells #[.string b, .string ⟨#[]⟩] 9)).alloc (.cells #[.string own, .string (own ++ ⟨#[0]⟩), .string (own.extract 0 (own.size / 2))] 9)).alloc (.cells (#[.string b, .string ⟨#[]⟩] ++ (#[.string own, .string (own ++ ⟨#[0]⟩), .string (own.extract 0 (own.size / 2))] ++ Z)) 9)).drew) = w3 at *
      generalize (some ⟨w2.heap.size + 1 + 1, 0, none⟩ : Option Addr) = A2 at *
      generalize (some ad0 : Option Addr) = A1 at *
      go_loopw [11] (fun vi wr => ∃ i : Nat, i ≤ 5 ∧ vi = .int .i64 i ∧ FInv w wr g A1 G A2 L) (fun vi _ => 5 - (intOf vi).toNat)
      case atStart => exact ⟨0, by omega, rfl, hInv⟩
      case round =>
        clear hInv
        obtain ⟨i, hi, rfl, hInv⟩ := hrel
        by_cases hlt : i < 5
        · obtain ⟨hCG, hDD, hCL, hB⟩ := hInv
          obtain ⟨ad, rfl, hx⟩ := Kd.at_string hCL (i : Int) (by omega) (by omega)
          have hx0 : wr.cell? (ad.add i) = some (.string (nth L i)) := hx
          have hI0 := Lib.hid (show FInv w wr g A1 G (some ad) L from ⟨hCG, hDD, hCL, hB⟩)
          clear hx hCL hB
          obtain ⟨kk, hp1, hp2⟩ := ask_all G hup.out (by omega) (nth L i)
          generalize nth L i = x at *
          have hfv := findV_eq G x
          cases hB : placeB G x
          all_goals
            rw [hB] at hfv hp1
            simp only [if_true, if_false, Bool.false_eq_true] at hfv
            have hp1 := Lib.hid hp1
            have hp2 := Lib.hid hp2
            have p0 := eq_true (show (0 : Int) ≤ (i : Int) by omega)
            have p1 := eq_true (show (i : Int) < (5 : Int) by omega)
            go_wp2_with fail
            with_reducible refine Calls.mono (place_any g G (vals G.length) x wr hDD (by omega)) ?_
            rintro e W1 ⟨rfl, b1⟩
            have hI1 := Lib.hid (hI0.out.below b1)
            have hx1 := pw_cell_below b1 hx0
            clear hI0 hx0 hCG hDD b1
            go_wp2_with fail
            with_reducible refine Calls.mono (concordanceref07_Place.calls kk A1 c1 G x _ _ W1 hI1.out.c hc1 hp1.out) ?_
            rintro e W2 ⟨rfl, b2⟩
            replace b2 := below_of_drawn b2
            have hI2 := Lib.hid (hI1.out.below b2)
            have hx2 := pw_cell_below b2 hx1
            clear hI1 hx1 hp1 b2
            go_wp2_with fail
            with_reducible refine Calls.mono (find_any g G (vals G.length) x W2 hI2.out.d (by omega) (vals_len _)) ?_
            rintro e W3 ⟨rfl, b3⟩
            have hI3 := Lib.hid (hI2.out.below b3)
            have hx3 := pw_cell_below b3 hx2
            clear hI2 hx2 b3
            go_wp2_with fail
            with_reducible refine Calls.mono (prefix_any g G (vals G.length) x W3 hI3.out.d (by omega)) ?_
            rintro e W4 ⟨rfl, b4⟩
            have hI4 := Lib.hid (hI3.out.below b4)
            have hx4 := pw_cell_below b4 hx3
            clear hI3 hx3 b4
            go_wp2_with fail
            with_reducible refine Calls.mono (concordanceref07_Prefix.calls kk A1 c1 G x _ _ W4 hI4.out.c hc1 hp2.out) ?_
            rintro e W5 ⟨rfl, b5⟩
            replace b5 := below_of_drawn b5
            have hI5 := Lib.hid (hI4.out.below b5)
            clear hI4 hx4 hp2 b5
            have hKl := placeN_le G x
            generalize placeN G x = K at *
            generalize prefixN G x = T at *
            go_wp2_with fail
            go_roundw
            case rel => exact ⟨i + 1, by omega, by go_num, hI5.out⟩
            case measure => simp [intOf]; omega
        · have hge : ¬ ((i : Int) < (5 : Int)) := by omega
          go_wp2_with fail
          refine (lives_any wr).mono ?_
          rintro e w4 ⟨rfl, hb6⟩
          go_wp2_with fail
          go_ret
          exact ⟨rfl, hInv.b.trans (hb6.mono hInv.b.size)⟩
    · have hd2 : decide (0 < G.length) = false := decide_eq_false hg
      go_wp2_with fail
      clear hg hd hd2
      generalize s.extract 0 (min (s.size : Int) 8).toNat = b at *
      have hInv : FInv w (w2.alloc (.cells #[.string b, .string ⟨#[]⟩] 9)) g A1 G (some ⟨w2.heap.size, 0, none⟩) [b, ⟨#[]⟩] := by
        refine ⟨Kd.C_alloc hC2 _, hD.below ((Below.refl _ w2).alloc (Nat.le_refl _) _), ?_, hb3.alloc hb3.size _⟩
        refine Kd.C_of_reads (d := ByteArray.empty) ⟨rfl, by simp, fun _ => ⟨_, rfl, fun j hj => ?_⟩⟩
        have hj' : j < 2 := hj
        rw [add_none]
        obtain rfl | rfl : j = 0 ∨ j = 1 := by omega
        all_goals simp [go_sem]
      have hLn : [b, ⟨#[]⟩].length = 2 := rfl
      generalize [b, ⟨#[]⟩] = L at *
      generalize w2.alloc (.cells #[.string b, .string ⟨#[]⟩] 9) = w3 at *
      generalize (some ⟨w2.heap.size, 0, none⟩ : Option Addr) = A2 at *
      clear hD hC2 hb3
      go_loopw [11] (fun vi wr => ∃ i : Nat, i ≤ 2 ∧ vi = .int .i64 i ∧ FInv w wr g A1 G A2 L) (fun vi _ => 2 - (intOf vi).toNat)
      case atStart => exact ⟨0, by omega, rfl, hInv⟩
      case round =>
        clear hInv
        obtain ⟨i, hi, rfl, hInv⟩ := hrel
        by_cases hlt : i < 2
        · obtain ⟨hCG, hDD, hCL, hB⟩ := hInv
          obtain ⟨ad, rfl, hx⟩ := Kd.at_string hCL (i : Int) (by omega) (by omega)
          have hx0 : wr.cell? (ad.add i) = some (.string (nth L i)) := hx
          have hI0 := Lib.hid (show FInv w wr g A1 G (some ad) L from ⟨hCG, hDD, hCL, hB⟩)
          clear hx hCL hB
          obtain ⟨kk, hp1, hp2⟩ := ask_all G hup.out (by omega) (nth L i)
          generalize nth L i = x at *
          have hfv := findV_eq G x
          cases hB : placeB G x
          all_goals
            rw [hB] at hfv hp1
            simp only [if_true, if_false, Bool.false_eq_true] at hfv
            have hp1 := Lib.hid hp1
            have hp2 := Lib.hid hp2
            have p0 := eq_true (show (0 : Int) ≤ (i : Int) by omega)
            have p1 := eq_true (show (i : Int) < (2 : Int) by omega)
            go_wp2_with fail
            with_reducible refine Calls.mono (place_any g G (vals G.length) x wr hDD (by omega)) ?_
            rintro e W1 ⟨rfl, b1⟩
            have hI1 := Lib.hid (hI0.out.below b1)
            have hx1 := pw_cell_below b1 hx0
            clear hI0 hx0 hCG hDD b1
            go_wp2_with fail
            with_reducible refine Calls.mono (concordanceref07_Place.calls kk A1 c1 G x _ _ W1 hI1.out.c hc1 hp1.out) ?_
            rintro e W2 ⟨rfl, b2⟩
            replace b2 := below_of_drawn b2
            have hI2 := Lib.hid (hI1.out.below b2)
            have hx2 := pw_cell_below b2 hx1
            clear hI1 hx1 hp1 b2
            go_wp2_with fail
            with_reducible refine Calls.mono (find_any g G (vals G.length) x W2 hI2.out.d (by omega) (vals_len _)) ?_
            rintro e W3 ⟨rfl, b3⟩
            have hI3 := Lib.hid (hI2.out.below b3)
            have hx3 := pw_cell_below b3 hx2
            clear hI2 hx2 b3
            go_wp2_with fail
            with_reducible refine Calls.mono (prefix_any g G (vals G.length) x W3 hI3.out.d (by omega)) ?_
            rintro e W4 ⟨rfl, b4⟩
            have hI4 := Lib.hid (hI3.out.below b4)
            have hx4 := pw_cell_below b4 hx3
            clear hI3 hx3 b4
            go_wp2_with fail
            with_reducible refine Calls.mono (concordanceref07_Prefix.calls kk A1 c1 G x _ _ W4 hI4.out.c hc1 hp2.out) ?_
            rintro e W5 ⟨rfl, b5⟩
            replace b5 := below_of_drawn b5
            have hI5 := Lib.hid (hI4.out.below b5)
            clear hI4 hx4 hp2 b5
            have hKl := placeN_le G x
            generalize placeN G x = K at *
            generalize prefixN G x = T at *
            go_wp2_with fail
            go_roundw
            case rel => exact ⟨i + 1, by omega, by go_num, hI5.out⟩
            case measure => simp [intOf]; omega
        · have hge : ¬ ((i : Int) < (2 : Int)) := by omega
          go_wp2_with fail
          refine (lives_any wr).mono ?_
          rintro e w4 ⟨rfl, hb6⟩
          go_wp2_with fail
          go_ret
          exact ⟨rfl, hInv.b.trans (hb6.mono hInv.b.size)⟩
  · obtain ⟨N, hN⟩ : ∃ N : Nat, n = (N : Int) := ⟨n.toNat, by omega⟩
    subst hN
    have hd : decide ((N : Int) < 0) = false := decide_eq_false (by omega)
    clear h0 hn1
    by_cases hg : 0 < G.length
    · have hd2 : decide (0 < G.length) = true := decide_eq_true hg
      obtain ⟨j, hj⟩ : ∃ j, N % G.length = j := ⟨_, rfl⟩
      have hjl : j < G.length := by rw [← hj]; exact Nat.mod_lt _ hg
      have hj1 : (N : Int).tmod (G.length : Int) = (j : Int) := by rw [← hj]; rfl
      have hj2 : (N : Int) % (G.length : Int) = (j : Int) := by rw [← hj]; rfl
      obtain ⟨ad0, rfl, hx⟩ := Kd.at_string hC2 (j : Int) (by omega) (by omega)
      have hx2 : (w2.alloc (.cells #[.string (s.extract 0 (min (s.size : Int) 8).toNat), .string ⟨#[]⟩] 9)).cell? (ad0.add j) = some (.string (nth G j)) := pw_cell_below ((Below.refl _ w2).alloc (Nat.le_refl _) _) hx
      have hsz := hshort.out j hjl
      clear hx hj hshort
      generalize nth G j = own at *
      have p0 := eq_true (show (0 : Int) ≤ (j : Int) by omega)
      have p1 := eq_true (show (j : Int) < (G.length : Int) by omega)
      go_wp2_with fail
      clear hx2 p0 p1 hj1 hj2 hjl hd hd2 hg hsz
      generalize s.extract 0 (min (s.size : Int) 8).toNat = b at *
      generalize (Question.appendCap 5 2 9).cut (w2.tape w2.drawn (Question.appendCap 5 2 9)) = cp at *
      generalize Builtin.zeroCells #[Value.string ⟨#[]⟩] (cp - 5) = Z at *
      have hbel : Below w2.heap.size w2 ((((w2.alloc (.cells #[.string b, .string ⟨#[]⟩] 9)).alloc (.cells #[.string own, .string (own ++ ⟨#[0]⟩), .string (own.extract 0 (own.size / 2))] 9)).alloc (.cells (#[.string b, .string ⟨#[]⟩] ++ (#[.string own, .string (own ++ ⟨#[0]⟩), .string (own.extract 0 (own.size / 2))] ++ Z)) 9)).drew) :=
        ((((Below.refl _ w2).alloc (Nat.le_refl _) _).alloc (by simp) _).alloc (by simp; omega) _).drew
      have hInv : FInv w ((((w2.alloc (.cells #[.string b, .string ⟨#[]⟩] 9)).alloc (.cells #[.string own, .string (own ++ ⟨#[0]⟩), .string (own.extract 0 (own.size / 2))] 9)).alloc (.cells (#[.string b, .string ⟨#[]⟩] ++ (#[.string own, .string (own ++ ⟨#[0]⟩), .string (own.extract 0 (own.size / 2))] ++ Z)) 9)).drew) g (some ad0) G (some ⟨w2.heap.size + 1 + 1, 0, none⟩) [b, ⟨#[]⟩, own, own ++ ⟨#[0]⟩, own.extract 0 (own.size / 2)] := by
        refine ⟨Kd.C_below hC2 hbel, hD.below hbel, ?_, hb3.trans (hbel.mono hb3.size)⟩
        refine Kd.C_of_reads (d := ByteArray.empty) ⟨rfl, by simp, fun _ => ⟨_, rfl, fun j hj => ?_⟩⟩
        have hj' : j < 5 := hj
        rw [add_none]
        obtain rfl | rfl | rfl | rfl | rfl : j = 0 ∨ j = 1 ∨ j = 2 ∨ j = 3 ∨ j = 4 := by omega
        all_goals simp [go_sem, Array.getElem?_append]
      have hLn : [b, ⟨#[]⟩, own, own ++ ⟨#[0]⟩, own.extract 0 (own.size / 2)].length = 5 := rfl
      clear hbel hD hC2 hb3
      generalize [b, ⟨#[]⟩, own, own ++ ⟨#[0]⟩, own.extract 0 (own.size / 2)] = L at *
      generalize ((((w2.alloc (.cells #[.string b, .string ⟨#[]⟩] 9)).alloc (.cells #[.string own, .string (own ++ ⟨#[0]⟩), .string (own.extract 0 (own.size / 2))] 9)).alloc (.cells (#[.string b, .string ⟨#[]⟩] ++ (#[.string own, .string (own ++ ⟨#[0]⟩), .string (own.extract 0 (own.size / 2))] ++ Z)) 9)).drew) = w3 at *
      generalize (some ⟨w2.heap.size + 1 + 1, 0, none⟩ : Option Addr) = A2 at *
      generalize (some ad0 : Option Addr) = A1 at *
      go_loopw [11] (fun vi wr => ∃ i : Nat, i ≤ 5 ∧ vi = .int .i64 i ∧ FInv w wr g A1 G A2 L) (fun vi _ => 5 - (intOf vi).toNat)
      case atStart => exact ⟨0, by omega, rfl, hInv⟩
      case round =>
        clear hInv
        obtain ⟨i, hi, rfl, hInv⟩ := hrel
        by_cases hlt : i < 5
        · obtain ⟨hCG, hDD, hCL, hB⟩ := hInv
          obtain ⟨ad, rfl, hx⟩ := Kd.at_string hCL (i : Int) (by omega) (by omega)
          have hx0 : wr.cell? (ad.add i) = some (.string (nth L i)) := hx
          have hI0 := Lib.hid (show FInv w wr g A1 G (some ad) L from ⟨hCG, hDD, hCL, hB⟩)
          clear hx hCL hB
          obtain ⟨kk, hp1, hp2⟩ := ask_all G hup.out (by omega) (nth L i)
          generalize nth L i = x at *
          have hfv := findV_eq G x
          cases hB : placeB G x
          all_goals
            rw [hB] at hfv hp1
            simp only [if_true, if_false, Bool.false_eq_true] at hfv
            have hp1 := Lib.hid hp1
            have hp2 := Lib.hid hp2
            have p0 := eq_true (show (0 : Int) ≤ (i : Int) by omega)
            have p1 := eq_true (show (i : Int) < (5 : Int) by omega)
            go_wp2_with fail
            with_reducible refine Calls.mono (place_any g G (vals G.length) x wr hDD (by omega)) ?_
            rintro e W1 ⟨rfl, b1⟩
            have hI1 := Lib.hid (hI0.out.below b1)
            have hx1 := pw_cell_below b1 hx0
            clear hI0 hx0 hCG hDD b1
            go_wp2_with fail
            with_reducible refine Calls.mono (concordanceref07_Place.calls kk A1 c1 G x _ _ W1 hI1.out.c hc1 hp1.out) ?_
            rintro e W2 ⟨rfl, b2⟩
            replace b2 := below_of_drawn b2
            have hI2 := Lib.hid (hI1.out.below b2)
            have hx2 := pw_cell_below b2 hx1
            clear hI1 hx1 hp1 b2
            go_wp2_with fail
            with_reducible refine Calls.mono (find_any g G (vals G.length) x W2 hI2.out.d (by omega) (vals_len _)) ?_
            rintro e W3 ⟨rfl, b3⟩
            have hI3 := Lib.hid (hI2.out.below b3)
            have hx3 := pw_cell_below b3 hx2
            clear hI2 hx2 b3
            go_wp2_with fail
            with_reducible refine Calls.mono (prefix_any g G (vals G.length) x W3 hI3.out.d (by omega)) ?_
            rintro e W4 ⟨rfl, b4⟩
            have hI4 := Lib.hid (hI3.out.below b4)
            have hx4 := pw_cell_below b4 hx3
            clear hI3 hx3 b4
            go_wp2_with fail
            with_reducible refine Calls.mono (concordanceref07_Prefix.calls kk A1 c1 G x _ _ W4 hI4.out.c hc1 hp2.out) ?_
            rintro e W5 ⟨rfl, b5⟩
            replace b5 := below_of_drawn b5
            have hI5 := Lib.hid (hI4.out.below b5)
            clear hI4 hx4 hp2 b5
            have hKl := placeN_le G x
            generalize placeN G x = K at *
            generalize prefixN G x = T at *
            go_wp2_with fail
            go_roundw
            case rel => exact ⟨i + 1, by omega, by go_num, hI5.out⟩
            case measure => simp [intOf]; omega
        · have hge : ¬ ((i : Int) < (5 : Int)) := by omega
          go_wp2_with fail
          refine (lives_any wr).mono ?_
          rintro e w4 ⟨rfl, hb6⟩
          go_wp2_with fail
          go_ret
          exact ⟨rfl, hInv.b.trans (hb6.mono hInv.b.size)⟩
    · have hd2 : decide (0 < G.length) = false := decide_eq_false hg
      go_wp2_with fail
      clear hg hd hd2
      generalize s.extract 0 (min (s.size : Int) 8).toNat = b at *
      have hInv : FInv w (w2.alloc (.cells #[.string b, .string ⟨#[]⟩] 9)) g A1 G (some ⟨w2.heap.size, 0, none⟩) [b, ⟨#[]⟩] := by
        refine ⟨Kd.C_alloc hC2 _, hD.below ((Below.refl _ w2).alloc (Nat.le_refl _) _), ?_, hb3.alloc hb3.size _⟩
        refine Kd.C_of_reads (d := ByteArray.empty) ⟨rfl, by simp, fun _ => ⟨_, rfl, fun j hj => ?_⟩⟩
        have hj' : j < 2 := hj
        rw [add_none]
        obtain rfl | rfl : j = 0 ∨ j = 1 := by omega
        all_goals simp [go_sem]
      have hLn : [b, ⟨#[]⟩].length = 2 := rfl
      generalize [b, ⟨#[]⟩] = L at *
      generalize w2.alloc (.cells #[.string b, .string ⟨#[]⟩] 9) = w3 at *
      generalize (some ⟨w2.heap.size, 0, none⟩ : Option Addr) = A2 at *
      clear hD hC2 hb3
      go_loopw [11] (fun vi wr => ∃ i : Nat, i ≤ 2 ∧ vi = .int .i64 i ∧ FInv w wr g A1 G A2 L) (fun vi _ => 2 - (intOf vi).toNat)
      case atStart => exact ⟨0, by omega, rfl, hInv⟩
      case round =>
        clear hInv
        obtain ⟨i, hi, rfl, hInv⟩ := hrel
        by_cases hlt : i < 2
        · obtain ⟨hCG, hDD, hCL, hB⟩ := hInv
          obtain ⟨ad, rfl, hx⟩ := Kd.at_string hCL (i : Int) (by omega) (by omega)
          have hx0 : wr.cell? (ad.add i) = some (.string (nth L i)) := hx
          have hI0 := Lib.hid (show FInv w wr g A1 G (some ad) L from ⟨hCG, hDD, hCL, hB⟩)
          clear hx hCL hB
          obtain ⟨kk, hp1, hp2⟩ := ask_all G hup.out (by omega) (nth L i)
          generalize nth L i = x at *
          have hfv := findV_eq G x
          cases hB : placeB G x
          all_goals
            rw [hB] at hfv hp1
            simp only [if_true, if_false, Bool.false_eq_true] at hfv
            have hp1 := Lib.hid hp1
            have hp2 := Lib.hid hp2
            have p0 := eq_true (show (0 : Int) ≤ (i : Int) by omega)
            have p1 := eq_true (show (i : Int) < (2 : Int) by omega)
            go_wp2_with fail
            with_reducible refine Calls.mono (place_any g G (vals G.length) x wr hDD (by omega)) ?_
            rintro e W1 ⟨rfl, b1⟩
            have hI1 := Lib.hid (hI0.out.below b1)
            have hx1 := pw_cell_below b1 hx0
            clear hI0 hx0 hCG hDD b1
            go_wp2_with fail
            with_reducible refine Calls.mono (concordanceref07_Place.calls kk A1 c1 G x _ _ W1 hI1.out.c hc1 hp1.out) ?_
            rintro e W2 ⟨rfl, b2⟩
            replace b2 := below_of_drawn b2
            have hI2 := Lib.hid (hI1.out.below b2)
            have hx2 := pw_cell_below b2 hx1
            clear hI1 hx1 hp1 b2
            go_wp2_with fail
            with_reducible refine Calls.mono (find_any g G (vals G.length) x W2 hI2.out.d (by omega) (vals_len _)) ?_
            rintro e W3 ⟨rfl, b3⟩
            have hI3 := Lib.hid (hI2.out.below b3)
            have hx3 := pw_cell_below b3 hx2
            clear hI2 hx2 b3
            go_wp2_with fail
            with_reducible refine Calls.mono (prefix_any g G (vals G.length) x W3 hI3.out.d (by omega)) ?_
            rintro e W4 ⟨rfl, b4⟩
            have hI4 := Lib.hid (hI3.out.below b4)
            have hx4 := pw_cell_below b4 hx3
            clear hI3 hx3 b4
            go_wp2_with fail
            with_reducible refine Calls.mono (concordanceref07_Prefix.calls kk A1 c1 G x _ _ W4 hI4.out.c hc1 hp2.out) ?_
            rintro e W5 ⟨rfl, b5⟩
            replace b5 := below_of_drawn b5
            have hI5 := Lib.hid (hI4.out.below b5)
            clear hI4 hx4 hp2 b5
            have hKl := placeN_le G x
            generalize placeN G x = K at *
            generalize prefixN G x = T at *
            go_wp2_with fail
            go_roundw
            case rel => exact ⟨i + 1, by omega, by go_num, hI5.out⟩
            case measure => simp [intOf]; omega
        · have hge : ¬ ((i : Int) < (2 : Int)) := by omega
          go_wp2_with fail
          refine (lives_any wr).mono ?_
          rintro e w4 ⟨rfl, hb6⟩
          go_wp2_with fail
          go_ret
          exact ⟨rfl, hInv.b.trans (hb6.mono hInv.b.size)⟩
end Go.Proofs.Ytlghcfhmfbdidaa
