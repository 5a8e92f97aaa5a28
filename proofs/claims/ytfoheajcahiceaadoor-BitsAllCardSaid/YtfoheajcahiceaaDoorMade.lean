/- Sets of numbers as bits: a set behind deeds, and the document's. Condition: the library's table is as its initialiser lays it. -/
import Derived.Test.YtfoheajcahiceaaDoorLives
namespace Go.Proofs.YtfoheajcahiceaaDoor
open Go.RowKit Go.Proofs.YtfoheajcahiceaaDoor.PAll Go.Proofs.YtfoheajcahiceaaDoorW.PrintWords Go.Proofs.YtfoheajcahiceaaDoorW.PrintLast Go.Proofs.YtfoheajcahiceaaDoorW.PrintMore

theorem below_of_grown {w w' : World} (h : w.grownBy w' none) : Below w.heap.size w w' := ⟨h.os, h.tape, h.output, h.size, fun k hk => h.block k hk (by simp)⟩
theorem IsSet.move {w w1 : World} {base g : Nat} {v : Value} {r : List Bool} (h : IsSet w base g v r) (hm : ∀ k, k = g ∨ v.ownBlock = some k → k < w.heap.size → w1.heap[k]? = w.heap[k]?) : IsSet w1 base g v r :=
  ⟨(hm g (.inl rfl) h.lt).trans h.cell, h.ge, Kd.R_mono (Kd.R_step (Kd.R_tight rfl h.row) (fun k hk hlt => hm k (.inr hk.symm) hlt)) (fun _ _ => trivial)⟩
/-- The deeds that are handed in. -/
def Deeds (w : World) (A : Option Addr) (n : Nat) (l : Nat → Int × Int) : Prop :=
  n ≤ maxLen ∧ (0 < n → ∃ ad, A = some ad ∧ ∀ i, i < n → w.cell? (ad.add (i * 2)) = some (.int .i64 (l i).1) ∧ w.cell? (ad.add (i * 2 + 1)) = some (.int .i64 (l i).2))
theorem Deeds.below {w w' : World} {A : Option Addr} {n : Nat} {l : Nat → Int × Int} (h : Deeds w A n l) (hb : Below w.heap.size w w') : Deeds w' A n l := by
  refine ⟨h.1, fun h0 => ?_⟩
  obtain ⟨ad, e, hc⟩ := h.2 h0
  refine ⟨ad, e, fun i hi => ?_⟩
  obtain ⟨h1, h2⟩ := hc i hi
  exact ⟨(hb.cell (p := ad.add (i * 2)) (World.block_lt_of_cell? w _ h1)).trans h1, (hb.cell (p := ad.add (i * 2 + 1)) (World.block_lt_of_cell? w _ h2)).trans h2⟩

theorem spot_of_cell {w : World} {ad : Addr} {v : Value} (h : w.cell? ad = some v) : ad = ⟨ad.block, ad.off, none⟩ := by
  obtain ⟨b, o, s⟩ := ad
  cases s with
  | none => rfl
  | some x =>
    unfold World.cell? at h
    simp at h
    split at h <;> simp at h
theorem add_none (b o j : Nat) : (⟨b, o, none⟩ : Addr).add j = ⟨b, o + j, none⟩ := by unfold Addr.add; split <;> simp_all
theorem second {w : World} {ad : Addr} {i : Nat} {u v : Value} (h1 : w.cell? (ad.add (i * 2)) = some u) (h : w.cell? (ad.add (i * 2 + 1)) = some v) : w.cell? ⟨(ad.add (i * 2)).block, (ad.add (i * 2)).off + 1, none⟩ = some v := by
  obtain ⟨b, o, s⟩ := ad
  cases s with
  | none => rw [add_none] at h ⊢; exact h
  | some x =>
    by_cases hi : i * 2 = 0
    · have := spot_of_cell h1
      rw [hi] at this
      simp [Addr.add] at this
    · unfold Addr.add at h ⊢
      rw [if_neg (by omega)] at h
      rw [if_neg hi]
      exact h
/-- A Turn of the document's list, beside a set of ours. -/
theorem turn_beside (g : Nat) (v : Value) (r : List Bool) (A : Option Addr) (c : Nat) (k : Int) (b : Bool) (w0 w : World) (hl : r.length ≤ 100000) (hS : IsSet w w0.heap.size g v r) (hR : Kd.R Kd.bool 4 w w0.heap.size (fun _ => True) (.slice A r.length c) r) (hB : Below w0.heap.size w0 w) :
    Calls Tryd.prog 25 #[.slice A r.length c, .int .i64 k, .bool b] w fun e w' => ∃ vr, e = .returned (.tuple #[vr, .bool (turnB r k (!b)).2]) ∧ IsSet w' w0.heap.size g v r ∧ Kd.R Kd.bool 4 w' w0.heap.size (fun _ => True) vr (turnB r k (!b)).1 ∧ Below w0.heap.size w0 w' := by
  have hR' : Kd.R Kd.bool 4 w w0.heap.size (fun j => ¬ (j = g ∨ v.ownBlock = some j)) (.slice A r.length c) r := by
    refine Kd.R_mono (Kd.R_tight rfl hR) (fun j hj => ?_)
    rintro (rfl | hv)
    · exact Kd.R_ne hR hS.cell (by decide) hj
    · obtain ⟨inner, ho⟩ := Kd.R_own hS.row
      obtain ⟨cells, hc⟩ := own_typed ho j hv
      exact Kd.R_ne hR hc (by decide) hj
  refine (concordanceref03_Turn.calls _ _ r k b _ _ w0 w hB hR' (ref_turn r k b hl)).mono ?_
  rintro e w' ⟨vr, rfl, h1, h2, h3⟩
  exact ⟨vr, rfl, hS.move (fun j hj hlt => h3.2 j hlt (fun hn => hn hj)), Kd.R_mono h1 (fun _ _ => trivial), h2⟩

/-- The document's list stays while words of a set of ours are written. -/
theorem beside_turned {w w1 : World} {base b2 g : Nat} {v u : Value} {r r2 : List Bool} (hR : Kd.R Kd.bool 4 w b2 (fun _ => True) u r2) (hS : IsSet w base g v r) (hg : w.grownBy w1 v.ownBlock) : Kd.R Kd.bool 4 w1 b2 (fun _ => True) u r2 := by
  refine Kd.R_grown2 hR rfl hg (fun k hk => ?_)
  obtain ⟨inner, ho⟩ := Kd.R_own hS.row
  obtain ⟨cells, hc⟩ := own_typed ho k hk
  exact Kd.R_ne hR hc (by decide)
theorem below_drawn {w w' : World} (h : Drawn0 w w') : Below w.heap.size w w' := by
  obtain ⟨q, rfl⟩ := h
  exact pw_below_drewN (Below.refl _ w) q
theorem infoBool : (Tryd.prog.info? 4).map (fun i => (i.zero, i.size, i.bytes)) = some (some (.bool false), 1, 1) := by kernel_rfl
set_option maxHeartbeats 1000000 in
set_option maxRecDepth 100000 in
theorem made_any (n : Int) (A : Option Addr) (nl c : Nat) (l : Nat → Int × Int) (w : World) (hT : Tab w) (hn : n ≤ 1000) (hD : Deeds w A nl l) :
    Calls Tryd.prog 9 #[.int .i64 n, .slice A nl c] w fun e w' => ∃ g v vr r, e = .returned (.tuple #[.pointer (some ⟨g, 0, none⟩), vr, .bool true]) ∧ IsSet w' w.heap.size g v r ∧ Kd.R Kd.bool 4 w' w.heap.size (fun _ => True) vr r ∧ r.length = n.toNat ∧ Below w.heap.size w w' := by
  obtain ⟨N, hN⟩ : ∃ N, n.toNat = N := ⟨_, rfl⟩
  rw [hN]
  have HN := Lib.hid (And.intro hN hn)
  go_enter Tryd.func9, Tryd.ntmps9
  go_wp2_with fail
  refine (new_any n w (by omega)).mono ?_
  rintro e w1 ⟨g, v, rfl, hS, -, hb1⟩
  rw [hN] at hS
  clear hN hn
  go_upto_region 4 with fail
  go_cut [8] (fun v8 wx => ∃ A8 c8, v8 = .slice A8 N c8 ∧ IsSet wx w.heap.size g v (List.replicate N false) ∧ Kd.R Kd.bool 4 wx w.heap.size (fun _ => True) (.slice A8 N c8) (List.replicate N false) ∧ Below w.heap.size w wx)
  case first =>
    by_cases hlt : n < 0
    · obtain rfl : 0 = N := by have := HN.out; omega
      have hbig : (0 : Int).toNat * 1 ≤ 281474976710656 := by decide
      go_wp2_with (at_make; go_loud (refine Kd.R_make Kd.bool (w0 := w) w.heap.size 4 rfl rfl 24 (.tmp 21) (.tmp 21) rfl (0) rfl rfl Tryd.underlying24 (.bool false) 1 infoBool rfl (by decide) (by decide) false (ok := fun _ => True) (okp := fun _ => True) rfl (fun _ _ => trivial) trivial (by decide) hbig hb1 hb1.size ?_))
      intro v1 w2 hR hb2 hg2 kb hk1 hk2
      rw [show ([] : List Bool) = List.replicate 0 false from rfl] at hR
      obtain ⟨A1, c1, rfl⟩ := Kd.R_slice hR
      rw [List.length_replicate] at hR ⊢
      have hS2 := hS.below (below_of_grown hg2)
      clear hk1 hk2 hg2 hbig
      go_wp2_with fail
      go_meet
      exact ⟨A1, c1, rfl, hS2, hR, hb2⟩
    · obtain ⟨hN, hn⟩ := HN.out
      have hbig : n.toNat * 1 ≤ 281474976710656 := by omega
      have hnn : 0 ≤ n := by omega
      go_wp2_with (at_make; go_loud (refine Kd.R_make Kd.bool (w0 := w) w.heap.size 4 rfl rfl 24 (.tmp 21) (.tmp 21) rfl n rfl rfl Tryd.underlying24 (.bool false) 1 infoBool rfl (by decide) (by decide) false (ok := fun _ => True) (okp := fun _ => True) rfl (fun _ _ => trivial) trivial hnn hbig hb1 hb1.size ?_))
      intro v1 w2 hR hb2 hg2 kb hk1 hk2
      obtain rfl : n = (N : Int) := by omega
      try rw [hN] at hR
      obtain ⟨A1, c1, rfl⟩ := Kd.R_slice hR
      rw [List.length_replicate] at hR ⊢
      have hS2 := hS.below (below_of_grown hg2)
      clear hk1 hk2 hg2 hbig hN hnn hlt
      go_wp2_with fail
      go_meet
      exact ⟨A1, c1, rfl, hS2, hR, hb2⟩
  case rest =>
    obtain ⟨A8, c8, rfl, hS2, hR2, hb2⟩ := hcut
    clear hS hb1
    go_wp2_with fail
    go_loopw [8, 9, 10] (fun v8 v9 v10 wr => ∃ (i : Nat) (r : List Bool) (A8 : Option Addr) (c8 : Nat), v8 = .slice A8 r.length c8 ∧ v9 = .bool true ∧ v10 = .int .i64 i ∧ IsSet wr w.heap.size g v r ∧ Kd.R Kd.bool 4 wr w.heap.size (fun _ => True) (.slice A8 r.length c8) r ∧ r.length = N ∧ Below w.heap.size w wr) (fun _ _ v10 _ => 60 - (intOf v10).toNat)
    case atStart => exact ⟨0, List.replicate N false, A8, c8, by rw [List.length_replicate], rfl, rfl, hS2, by rw [List.length_replicate]; exact hR2, List.length_replicate, hb2⟩
    case round =>
      clear hS2 hR2 hb2
      obtain ⟨i, r, A9, c9, rfl, rfl, rfl, hS, hR, hlr, hb⟩ := hrel
      have hl : r.length ≤ 100000 := by have := HN.out; omega
      have HLR := Lib.hid hlr
      clear hlr
      by_cases hlt : i < nl ∧ i < 60
      · obtain ⟨h1, h2⟩ := hlt
        obtain ⟨ad, rfl, hc⟩ := (hD.below hb).2 (by omega)
        obtain ⟨hc1, hc2⟩ := hc i h1
        obtain ⟨K, hK⟩ : ∃ K, (l i).1 = K := ⟨_, rfl⟩
        obtain ⟨J, hJ⟩ : ∃ J, (l i).2 = J := ⟨_, rfl⟩
        rw [hK] at hc1
        rw [hJ] at hc2
        have hc3 := second hc1 hc2
        have p0 := eq_true (show (0 : Int) ≤ (i : Int) by omega)
        have p1 := eq_true (show (i : Int) < (nl : Int) by omega)
        have p2 := eq_true (show (i : Int) < 60 by omega)
        clear hc hK hJ
        by_cases hk0 : K = 0
        · subst hk0
          have hq := Lib.hid hc1
          go_wp2_with fail
          refine (turn_beside g v r A9 c9 J true w wr hl hS hR hb).mono ?_
          rintro e w2 ⟨vr, rfl, hS2, hR2, hb2⟩
          obtain ⟨A2, c2, rfl, -, -⟩ := Kd.R_reads hR2
          clear hS hR
          go_wp2_with fail
          refine (put_any _ g v r J w2 hS2 hl).mono ?_
          rintro e w3 ⟨rfl, hS3, hg3⟩
          have hb3 := below_step hb2 hS2 (Nat.le_refl _) hb2.size hg3
          have hR3 := beside_turned hR2 hS2 hg3
          have hlen := turnB_len r J false
          have e0 : (!true) = false := rfl
          rw [e0] at hR3
          clear hR2 e0
          generalize turnB r J false = rb at *
          obtain ⟨r3, b3⟩ := rb
          clear hS2 hg3 hb2
          have HL3 := Lib.hid (show r3.length = N from hlen.trans HLR.out)
          have hbb : (b3 == b3) = true := by simp
          clear hlen
          go_wp2_with fail
          go_roundw
          case rel => exact ⟨i + 1, r3, A2, c2, rfl, rfl, by go_num, hS3, hR3, HL3.out, hb3⟩
          case measure => simp [intOf]; omega
        · have hk0b : (K == 0) = false := by rw [beq_eq_false_iff_ne]; exact hk0
          by_cases hk1 : K = 1
          · subst hk1
            have hq := Lib.hid hk0
            go_wp2_with fail
            refine (turn_beside g v r A9 c9 J false w wr hl hS hR hb).mono ?_
            rintro e w2 ⟨vr, rfl, hS2, hR2, hb2⟩
            obtain ⟨A2, c2, rfl, -, -⟩ := Kd.R_reads hR2
            clear hS hR
            go_wp2_with fail
            refine (cut_any _ g v r J w2 hS2 hl).mono ?_
            rintro e w3 ⟨rfl, hS3, hg3⟩
            have hb3 := below_step hb2 hS2 (Nat.le_refl _) hb2.size hg3
            have hR3 := beside_turned hR2 hS2 hg3
            have hlen := turnB_len r J true
            have e0 : (!false) = true := rfl
            rw [e0] at hR3
            clear hR2 e0
            generalize turnB r J true = rb at *
            obtain ⟨r3, b3⟩ := rb
            clear hS2 hg3 hb2
            have HL3 := Lib.hid (show r3.length = N from hlen.trans HLR.out)
            have hbb : (b3 == b3) = true := by simp
            clear hlen
            go_wp2_with fail
            go_roundw
            case rel => exact ⟨i + 1, r3, A2, c2, rfl, rfl, by go_num, hS3, hR3, HL3.out, hb3⟩
            case measure => simp [intOf]; omega
          · have hk1b : (K == 1) = false := by rw [beq_eq_false_iff_ne]; exact hk1
            have hq := Lib.hid (And.intro hk0 hk1)
            obtain ⟨k1, hk1n⟩ := ref_next r J hl
            obtain ⟨k2, hk2n⟩ := ref_rank r J hl
            have HK1 := Lib.hid hk1n
            have HK2 := Lib.hid hk2n
            have hTr := hT.below hb
            have hC := (Kd.R_reads' hR).2.2
            have hcc := (Kd.R_reads' hR).2.1
            clear hk0 hk1 hk1n hk2n
            go_wp2_with fail
            refine (has_any _ g v r J wr hS hl).mono ?_
            rintro e w2 ⟨rfl, hb2⟩
            have hS2 := hS.below hb2
            have hR2 := Kd.R_below hR hb2
            have hbb2 := hb.trans (hb2.mono hb.size)
            have hT2 := hTr.below hb2
            have hC2 := Kd.C_below hC hb2
            clear hS hR hb hb2 hTr hC
            go_wp2_with fail
            refine (concordanceref03_Has.calls A9 c9 r J _ w2 hC2 hcc (ref_has r J)).mono ?_
            rintro e w3 ⟨rfl, hd3⟩
            have hb3 := below_drawn hd3
            have hS3 := hS2.below hb3
            have hR3 := Kd.R_below hR2 hb3
            have hbb3 := hbb2.trans (hb3.mono hbb2.size)
            have hT3 := hT2.below hb3
            have hC3 := Kd.C_below hC2 hb3
            have e1 : (hasB r J == hasB r J) = true := by simp
            clear hS2 hR2 hbb2 hb3 hT2 hC2 hd3
            generalize hasB r J = x1 at *
            go_wp2_with fail
            refine (next_any _ g v r J w3 hS3 hT3 hl).mono ?_
            rintro e w4 ⟨rfl, hb4⟩
            have hS4 := hS3.below hb4
            have hR4 := Kd.R_below hR3 hb4
            have hbb4 := hbb3.trans (hb4.mono hbb3.size)
            have hC4 := Kd.C_below hC3 hb4
            clear hS3 hR3 hbb3 hb4 hT3 hC3
            go_wp2_with fail
            refine (concordanceref03_Next.calls k1 A9 c9 r J _ w4 hC4 hcc HK1.out).mono ?_
            rintro e w5 ⟨rfl, hd5⟩
            have hb5 := below_drawn hd5
            have hS5 := hS4.below hb5
            have hR5 := Kd.R_below hR4 hb5
            have hbb5 := hbb4.trans (hb5.mono hbb4.size)
            have hC5 := Kd.C_below hC4 hb5
            have e2 : (nextI r J == nextI r J) = true := by simp
            clear hS4 hR4 hbb4 hb5 hC4 hd5 HK1
            generalize nextI r J = x2 at *
            go_wp2_with fail
            refine (rank_any _ g v r J w5 hS5 hl).mono ?_
            rintro e w6 ⟨rfl, hb6⟩
            have hS6 := hS5.below hb6
            have hR6 := Kd.R_below hR5 hb6
            have hbb6 := hbb5.trans (hb6.mono hbb5.size)
            have hC6 := Kd.C_below hC5 hb6
            clear hS5 hR5 hbb5 hb6 hC5
            go_wp2_with fail
            refine (concordanceref03_Rank.calls k2 A9 c9 r J _ w6 hC6 hcc HK2.out).mono ?_
            rintro e w7 ⟨rfl, hd7⟩
            have hb7 := below_drawn hd7
            have hS7 := hS6.below hb7
            have hR7 := Kd.R_below hR6 hb7
            have hbb7 := hbb6.trans (hb7.mono hbb6.size)
            clear hS6 hR6 hbb6 hb7 hC6 hd7 HK2
            generalize ((cnt r (min J.toNat r.length) : Nat) : Int) = x3 at *
            have e3 : (x3 == x3) = true := by simp
            go_wp2_with fail
            go_roundw
            case rel => exact ⟨i + 1, r, A9, c9, rfl, rfl, by go_num, hS7, hR7, HLR.out, hbb7⟩
            case measure => simp [intOf]; omega
      · have hfin : i < nl → (i : Int) < 60 → False := fun h1 h2 => hlt ⟨h1, by omega⟩
        have hHl := Lib.hid hfin
        by_cases h1 : i < nl
        · have h2 : ¬ (i : Int) < 60 := fun h => hfin h1 h
          clear hfin hlt
          go_wp2_with fail
          go_ret3
          first | exact ⟨g, v, _, r, rfl, hS, hR, HLR.out, hb⟩ | exact ⟨g, v, _, rfl, r, hS, hR, HLR.out, hb⟩ | exact ⟨g, _, rfl, v, r, hS, hR, HLR.out, hb⟩ | exact ⟨g, v, _, rfl, _, hS, hR, HLR.out, hb⟩
        · clear hfin hlt
          go_wp2_with fail
          go_ret3
          first | exact ⟨g, v, _, r, rfl, hS, hR, HLR.out, hb⟩ | exact ⟨g, v, _, rfl, r, hS, hR, HLR.out, hb⟩ | exact ⟨g, _, rfl, v, r, hS, hR, HLR.out, hb⟩ | exact ⟨g, v, _, rfl, _, hS, hR, HLR.out, hb⟩
end Go.Proofs.YtfoheajcahiceaaDoor
