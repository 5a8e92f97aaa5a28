/- BitsClones: the walk. Condition: the library's table is as its initialiser lays it. -/
import Derived.Test.YtfoheajcahiceaaDoorClone
namespace Go.Proofs.YtfoheajcahiceaaDoor
open Go.RowKit Go.Shelf Go.Proofs.YtfoheajcahiceaaDoor.PAll Go.Proofs.YtfoheajcahiceaaDoorW.PrintWords Go.Proofs.YtfoheajcahiceaaDoorW.PrintLast Go.Proofs.YtfoheajcahiceaaDoorW.PrintMore

set_option maxHeartbeats 1000000 in
set_option maxRecDepth 100000 in
/-- A Turn of the document's list: nothing that lay before has changed. -/
theorem turn_plain (r : List Bool) (A : Option Addr) (c : Nat) (k : Int) (b : Bool) (w : World) (hl : r.length ≤ 100000) (hC : Kd.C Kd.bool w A r.length r) (hc : r.length ≤ c) :
    Calls Tryd.prog 25 #[.slice A r.length c, .int .i64 k, .bool b] w fun e w' => ∃ A2 c2, e = .returned (.tuple #[.slice A2 (turnB r k (!b)).1.length c2, .bool (turnB r k (!b)).2]) ∧ (turnB r k (!b)).1.length ≤ c2 ∧ Kd.C Kd.bool w' A2 (turnB r k (!b)).1.length (turnB r k (!b)).1 ∧ Below w.heap.size w w' := by
  by_cases h0 : 0 ≤ k
  · by_cases h1 : k < r.length
    · obtain ⟨ad, rfl, hx⟩ := Kd.at_bool hC k h0 h1
      rw [rdOf_bit'] at hx
      have p0 := eq_true h0
      have p1 := eq_true h1
      by_cases hb : bit r k.toNat = b
      · have e1 : turnB r k (!b) = (r, false) := by unfold turnB; rw [if_neg (by rintro ⟨_, _, h⟩; rw [hb] at h; cases b <;> cases h)]
        rw [e1]
        rw [hb] at hx
        have hbb : (b == b) = true := by simp
        clear hb e1
        go_enter Tryd.func25, Tryd.ntmps25
        go_wp2_with fail
        go_ret2
        exact ⟨some ad, c, rfl, hc, hC, Below.refl _ _⟩
      · have e1 : turnB r k (!b) = (r.set k.toNat b, true) := by unfold turnB; rw [if_pos ⟨h0, h1, by revert hb; cases bit r k.toNat <;> cases b <;> decide⟩]; simp
        rw [e1]
        have hbb : (bit r k.toNat == b) = false := by rw [beq_eq_false_iff_ne]; exact hb
        have HE := Lib.hid e1
        obtain ⟨X, hX⟩ : ∃ X, bit r k.toNat = X := ⟨_, rfl⟩
        rw [hX] at hx hbb
        clear hb e1 hX
        go_enter Tryd.func25, Tryd.ntmps25
        go_wp2_with (at_builtin; refine Kd.R_append_rows Kd.bool (w0 := w) w.heap.size rfl (.tmp 26) (.tmp 27) 24 4 (.bool false) 1 rfl Tryd.underlying24 infoBool rfl (by decide) (by decide) _ [] r (some ad) r.length c (fun _ => True) (fun _ => False) rfl rfl ?c1 ?c2 (fun _ _ h => h) (fun _ h => h.elim) (fun _ _ => trivial) ?c3 ?c4 ?c5 ?_)
        case c1 => exact Kd.R_nil _ _ _ _ _
        case c2 => exact hC
        case c3 => exact Below.refl _ _
        case c4 => exact Nat.le_refl _
        case c5 => rw [List.length_nil]; omega
        intro v1 w1 hR hb1 _ _
        obtain ⟨g, cap, rfl, hge, -, -⟩ := Kd.R_form hR (by omega)
        obtain ⟨hp, hgr⟩ := Kd.R_put hR k b
        obtain ⟨hy, hfz⟩ := Kd.R_cell false hR k h0 h1
        have hb2 : Below w.heap.size w (w1.setCell ⟨g, k.toNat, none⟩ (.bool b)) := hb1.setCell (p := ⟨g, k.toNat, none⟩) hge _
        have HP := Lib.hid hp
        have HB := Lib.hid hb2
        clear hp hgr hb2 hR hC hx
        go_wp2_with fail
        go_ret2
        obtain ⟨h3, h4, h5⟩ := Kd.R_reads' HP.out
        exact ⟨some ⟨g, 0, none⟩, cap, by rw [List.length_set]; rfl, by rw [List.length_set]; exact h4, h5, HB.out⟩
    · have e1 : turnB r k (!b) = (r, false) := by unfold turnB; rw [if_neg (fun h => h1 h.2.1)]
      rw [e1]
      have h1' : (r.length : Int) ≤ k := by omega
      clear e1
      go_enter Tryd.func25, Tryd.ntmps25
      go_wp2_with fail
      go_ret2
      exact ⟨A, c, rfl, hc, hC, Below.refl _ _⟩
  · have e1 : turnB r k (!b) = (r, false) := by unfold turnB; rw [if_neg (fun h => h0 h.1)]
    rw [e1]
    have h0' : k < 0 := by omega
    clear e1
    go_enter Tryd.func25, Tryd.ntmps25
    go_wp2_with fail
    go_ret2
    exact ⟨A, c, rfl, hc, hC, Below.refl _ _⟩

/-- Put, and Cut, of so many deeds. -/
def putL (m : Nat → Int × Int) (r : List Bool) : Nat → List Bool
  | 0 => r
  | n + 1 => (turnB (putL m r n) (m n).2 false).1
def cutL (m : Nat → Int × Int) (r : List Bool) : Nat → List Bool
  | 0 => r
  | n + 1 => (turnB (cutL m r n) (m n).2 true).1
theorem putL_len (m : Nat → Int × Int) (r : List Bool) : ∀ n, (putL m r n).length = r.length
  | 0 => rfl
  | n + 1 => (turnB_len _ _ _).trans (putL_len m r n)
theorem cutL_len (m : Nat → Int × Int) (r : List Bool) : ∀ n, (cutL m r n).length = r.length
  | 0 => rfl
  | n + 1 => (turnB_len _ _ _).trans (cutL_len m r n)

/-- Two sets apart, the first one below H, the other one from H on; the document's list below H too. -/
structure Both (w : World) (base H g g2 : Nat) (v v2 : Value) (r r2 : List Bool) : Prop where
  one : IsSet w base g v r
  two : IsSet w H g2 v2 r2
  lt : g < H
  row : ∀ k, v.ownBlock = some k → k < H
theorem Both.put {w w1 : World} {base H g g2 : Nat} {v v2 : Value} {r r2 r1 : List Bool} (h : Both w base H g g2 v v2 r r2) (h1 : IsSet w1 base g v r1) (hg : w.grownBy w1 v.ownBlock) : Both w1 base H g g2 v v2 r1 r2 :=
  ⟨h1, ⟨(hg.block g2 h.two.lt (fun e => by have := h.row _ e.symm; have := h.two.ge; omega)).trans h.two.cell, h.two.ge, Kd.R_grown2 h.two.row rfl hg (fun k hk e => by have := h.row k hk; have := h.two.row_ge k e.symm; omega)⟩, h.lt, h.row⟩
theorem Both.cut {w w1 : World} {base H g g2 : Nat} {v v2 : Value} {r r2 r1 : List Bool} (h : Both w base H g g2 v v2 r r2) (h1 : IsSet w1 H g2 v2 r1) (hg : w.grownBy w1 v2.ownBlock) : Both w1 base H g g2 v v2 r r1 :=
  ⟨⟨(hg.block g h.one.lt (fun e => by have := h.two.row_ge _ e.symm; have := h.lt; omega)).trans h.one.cell, h.one.ge, Kd.R_grown2 h.one.row rfl hg (fun k hk e => by have := h.row k e.symm; have := h.two.row_ge k hk; omega)⟩, h1, h.lt, h.row⟩
theorem Both.below {w w1 : World} {base H g g2 : Nat} {v v2 : Value} {r r2 : List Bool} (h : Both w base H g g2 v v2 r r2) (hb : Below w.heap.size w w1) : Both w1 base H g g2 v v2 r r2 := ⟨h.one.below hb, h.two.below hb, h.lt, h.row⟩

set_option maxHeartbeats 4000000 in
set_option maxRecDepth 100000 in
theorem bitsClones_walk (n : Int) (A : Option Addr) (nl c : Nat) (l : Nat → Int × Int) (B : Option Addr) (nm d : Nat) (m : Nat → Int × Int) (w : World) (hT : Tab w) (hD : Deeds w A nl l) (hE : Deeds w B nm m) :
    Calls Tryd.prog 7 #[.int .i64 n, .slice A nl c, .slice B nm d] w fun e w' => e = .returned (.bool true) ∧ Below w.heap.size w w' := by
  go_enter Tryd.func7, Tryd.ntmps7
  go_wp2_with fail
  refine (size_law n w).mono ?_
  rintro e w0 ⟨m0, rfl, hm, -, hb0⟩
  go_wp2_with fail
  refine (made_any m0 A nl c l w0 (hT.below hb0) (by omega) (hD.below hb0)).mono ?_
  rintro e w1 ⟨g, v, vr, r, rfl, hS, hR, hlr, hb1⟩
  have hl : r.length ≤ 100000 := by omega
  have hT0 := hT.below hb0
  have hB1 := hb0.trans (hb1.mono hb0.size)
  have hT1 := hT0.below hb1
  have HT0 := Lib.hid hT0.lt
  have HL := Lib.hid hl
  have HE := Lib.hid hE
  clear hlr hm hT hD hE hT0 hl
  go_wp2_with fail
  refine (clone_any _ g v r w1 hS HL.out).mono ?_
  rintro e w2 ⟨g2, v2, rfl, hS2, hb2⟩
  have hBo : Both w2 w0.heap.size w1.heap.size g g2 v v2 r r := ⟨hS.below hb2, hS2, hS.lt, Kd.R_lt hS.row⟩
  have hR2 := Kd.R_below hR hb2
  have hT2 := hT1.below hb2
  have hB2 := hB1.trans (hb2.mono hB1.size)
  have hH : w.heap.size ≤ w0.heap.size := hb0.size
  have hH1 : w0.heap.size ≤ w1.heap.size := hb1.size
  have hRl := Kd.R_lt hR
  have HRT := Lib.hid hRl
  obtain ⟨AR, cR, rfl⟩ := Kd.R_slice hR
  clear hS hS2 hR hT1 hB1 hb0 hb1 hb2 hRl
  generalize w1.heap.size = H at *
  generalize w0.heap.size = H0 at *
  go_wp2_with fail
  have hbl : ∀ wr, Below w.heap.size w wr → w.heap.size ≤ wr.heap.size := fun _ h => h.size
  have HBL := Lib.hid hbl
  clear hbl
  go_loopw [11] (fun vk wr => ∃ i : Nat, vk = .int .i64 i ∧ i ≤ 60 ∧ i ≤ nm ∧ Both wr H0 H g g2 v v2 (putL m r i) (cutL m r i) ∧ Kd.R Kd.bool 4 wr H0 (fun _ => True) (.slice AR r.length cR) r ∧ Tab wr ∧ Below w.heap.size w wr) (fun vk _ => 60 - (intOf vk).toNat)
  case atStart => exact ⟨0, rfl, by omega, by omega, hBo, hR2, hT2, hB2⟩
  case round =>
    clear hBo hR2 hT2 hB2
    obtain ⟨i, rfl, hi60, hin, hBo, hR, hT, hB⟩ := hrel
    by_cases hlt : i < nm ∧ i < 60
    · obtain ⟨h1, h2⟩ := hlt
      obtain ⟨ad, rfl, hc⟩ := (HE.out.below hB).2 (by omega)
      obtain ⟨hc1, hc2⟩ := hc i h1
      have hc3 := second hc1 hc2
      obtain ⟨N, hN⟩ : ∃ N, (m i).2 = N := ⟨_, rfl⟩
      rw [hN] at hc2 hc3
      have p0 := eq_true (show (0 : Int) ≤ (i : Int) by omega)
      have p1 := eq_true (show (i : Int) < (nm : Int) by omega)
      have p2 := eq_true (show (i : Int) < 60 by omega)
      have HLP := Lib.hid (show (putL m r i).length ≤ 100000 by rw [putL_len]; exact HL.out)
      have HLC := Lib.hid (show (cutL m r i).length ≤ 100000 by rw [cutL_len]; exact HL.out)
      have e1 : putL m r (i + 1) = (turnB (putL m r i) N false).1 := by rw [← hN]; rfl
      have e2 : cutL m r (i + 1) = (turnB (cutL m r i) N true).1 := by rw [← hN]; rfl
      have H1 := Lib.hid (And.intro e1 e2)
      generalize putL m r i = P at *
      generalize cutL m r i = C at *
      have HN := Lib.hid hN
      clear e1 e2 hc hc1 hc2 hN
      go_wp2_with fail
      refine (put_any _ g v P N wr hBo.one HLP.out).mono ?_
      rintro e w3 ⟨rfl, hS3, hg3⟩
      have hBo3 := hBo.put hS3 hg3
      have hB3 := below_step hB hBo.one hH hB.size hg3
      have hT3 := tab_step hT hBo.one HT0.out hg3
      have hR3 := beside_turned hR hBo.one hg3
      obtain ⟨ad2, he2, hc2⟩ := (HE.out.below hB3).2 (by omega)
      cases he2
      obtain ⟨hc4, hc5⟩ := hc2 i h1
      rw [HN.out] at hc5
      have hc6 := second hc4 hc5
      clear hBo hB hT hR hc3 hS3 hg3 hc2 hc4 hc5
      go_wp2_with fail
      refine (cut_any _ g2 v2 C N w3 hBo3.two HLC.out).mono ?_
      rintro e w4 ⟨rfl, hS4, hg4⟩
      have hBo4 := hBo3.cut hS4 hg4
      rw [← H1.out.1, ← H1.out.2] at hBo4
      have hB4 := below_step hB3 hBo3.two (Nat.le_trans hH hH1) hB3.size hg4
      have hT4 := tab_step hT3 hBo3.two (Nat.lt_of_lt_of_le HT0.out hH1) hg4
      have hR4 := beside_turned hR3 hBo3.two hg4
      clear hBo3 hB3 hT3 hR3 hc6 hS4 hg4
      go_wp2_with fail
      go_roundw
      case rel => exact ⟨i + 1, by go_num, by omega, by omega, hBo4, hR4, hT4, hB4⟩
      case measure => simp [intOf]; omega
    · have hqq : i = min nm 60 := by omega
      have hRd := Kd.R_reads' hR
      have HLP := Lib.hid (show (putL m r i).length ≤ 100000 by rw [putL_len]; exact HL.out)
      have HLC := Lib.hid (show (cutL m r i).length ≤ 100000 by rw [cutL_len]; exact HL.out)
      obtain ⟨-, hcR, hC⟩ := hRd
      have hways : (i < nm ∧ ¬ (i : Int) < 60) ∨ ¬ ((i : Int) < (nm : Int)) := by omega
      have HQ := Lib.hid hqq
      have hB5 := hB
      clear hR hlt hqq
      generalize hP : putL m r i = P at *
      generalize hCC : cutL m r i = C at *
      have HP := Lib.hid hP
      have HC := Lib.hid hCC
      clear hP hCC
      rcases hways with ⟨h1, h2⟩ | h1
      all_goals
        go_wp2_with fail
        go_loopw [12, 13, 14] (fun v12 v13 vk ws => ∃ (j : Nat) (A1 A2 : Option Addr) (c1 c2 : Nat), v12 = .slice A1 (putL m r j).length c1 ∧ v13 = .slice A2 (cutL m r j).length c2 ∧ vk = .int .i64 j ∧ j ≤ 60 ∧ j ≤ nm ∧ Both ws H0 H g g2 v v2 P C ∧ (putL m r j).length ≤ c1 ∧ Kd.C Kd.bool ws A1 (putL m r j).length (putL m r j) ∧ (cutL m r j).length ≤ c2 ∧ Kd.C Kd.bool ws A2 (cutL m r j).length (cutL m r j) ∧ Tab ws ∧ Below w.heap.size w ws) (fun _ _ vk _ => 60 - (intOf vk).toNat)
        case atStart => exact ⟨0, AR, AR, cR, cR, rfl, rfl, rfl, by omega, by omega, hBo, hcR, hC, hcR, hC, hT, hB⟩
        case round =>
          clear hBo hC hT hB hB5 h1
          obtain ⟨j, A1, A2, c1, c2, rfl, rfl, rfl, hj60, hjn, hBo, hc1, hC1, hc2, hC2, hT, hB⟩ := hrel
          by_cases hlt : j < nm ∧ j < 60
          · obtain ⟨h1, h2⟩ := hlt
            obtain ⟨ad, rfl, hc⟩ := (HE.out.below hB).2 (by omega)
            obtain ⟨hd1, hd2⟩ := hc j h1
            have hd3 := second hd1 hd2
            obtain ⟨N, hN⟩ : ∃ N, (m j).2 = N := ⟨_, rfl⟩
            rw [hN] at hd2 hd3
            have p0 := eq_true (show (0 : Int) ≤ (j : Int) by omega)
            have p1 := eq_true (show (j : Int) < (nm : Int) by omega)
            have p2 := eq_true (show (j : Int) < 60 by omega)
            have HLP2 := Lib.hid (show (putL m r j).length ≤ 100000 by rw [putL_len]; exact HL.out)
            have HLC2 := Lib.hid (show (cutL m r j).length ≤ 100000 by rw [cutL_len]; exact HL.out)
            have e1 : putL m r (j + 1) = (turnB (putL m r j) N false).1 := by rw [← hN]; rfl
            have e2 : cutL m r (j + 1) = (turnB (cutL m r j) N true).1 := by rw [← hN]; rfl
            have H1 := Lib.hid (And.intro e1 e2)
            generalize putL m r j = X at *
            generalize cutL m r j = Y at *
            have HC1 := Lib.hid (And.intro hc1 hc2)
            have HN := Lib.hid hN
            clear e1 e2 hc hd1 hd2 hN hc1 hc2
            go_wp2_with fail
            refine (turn_plain X A1 c1 N true wr HLP2.out hC1 HC1.out.1).mono ?_
            rintro e w3 ⟨A3, c3, rfl, hc3, hC3, hb3⟩
            have hBo3 := hBo.below hb3
            have hB3 := hB.trans (hb3.mono hB.size)
            have hT3 := hT.below hb3
            have hC4 := Kd.C_below hC2 hb3
            obtain ⟨ad2, he2, hc2⟩ := (HE.out.below hB3).2 (by omega)
            cases he2
            obtain ⟨hc4, hc5⟩ := hc2 j h1
            rw [HN.out] at hc5
            have hc6 := second hc4 hc5
            have HC3 := Lib.hid hc3
            clear hBo hB hT hC1 hC2 hc2 hc4 hc5 hb3 hd3 hc3
            go_wp2_with fail
            refine (turn_plain Y A2 c2 N false w3 HLC2.out hC4 HC1.out.2).mono ?_
            rintro e w4 ⟨A4, c4, rfl, hc4, hC5, hb4⟩
            have hBo4 := hBo3.below hb4
            have hB4 := hB3.trans (hb4.mono hB3.size)
            have hT4 := hT3.below hb4
            have hC6 := Kd.C_below hC3 hb4
            have HC4 := Lib.hid hc4
            have e0 : (!true) = false := rfl
            have e00 : (!false) = true := rfl
            rw [e0] at HC3 hC6
            rw [e00] at HC4 hC5
            rw [← H1.out.1] at HC3 hC6
            rw [← H1.out.2] at HC4 hC5
            rw [← H1.out.1]
            rw [e00, ← H1.out.2]
            clear hBo3 hB3 hT3 hC3 hC4 hb4 hc6 hc4 e0 e00
            go_wp2_with fail
            go_roundw
            case rel => exact ⟨j + 1, A3, A4, c3, c4, rfl, rfl, by go_num, by omega, by omega, hBo4, HC3.out, hC6, HC4.out, hC5, hT4, hB4⟩
            case measure => simp [intOf]; omega
          · have hjj : j = min nm 60 := by omega
            obtain rfl : j = i := by have := HQ.out; omega
            have hways : (j < nm ∧ ¬ (j : Int) < 60) ∨ ¬ ((j : Int) < (nm : Int)) := by omega
            rw [HP.out] at hC1 hc1
            rw [HC.out] at hC2 hc2
            rw [HP.out, HC.out]
            have HC1 := Lib.hid (And.intro hc1 hc2)
            clear hlt hjj hc1 hc2
            rcases hways with ⟨h1, h2⟩ | h1
            all_goals
              go_wp2_with fail
              refine (like_any _ g v P A1 c1 wr hBo.one hT HLP.out hC1 HC1.out.1).mono ?_
              rintro e w3 ⟨rfl, hb3⟩
              have hBo3 := hBo.below hb3
              have hB3 := hB.trans (hb3.mono hB.size)
              have hT3 := hT.below hb3
              have hC4 := Kd.C_below hC2 hb3
              clear hBo hB hT hC1 hC2
              go_wp2_with fail
              refine (like_any _ g2 v2 C A2 c2 w3 hBo3.two hT3 HLC.out hC4 HC1.out.2).mono ?_
              rintro e w4 ⟨rfl, hb4⟩
              have hB4 := hB3.trans (hb4.mono hB3.size)
              have hT4 := hT3.below hb4
              go_wp2_with fail
              refine (lives_any w4 hT4).mono ?_
              rintro e w5 ⟨rfl, hb5⟩
              go_wp2_with fail
              go_ret
              exact ⟨rfl, hB4.trans (hb5.mono hB4.size)⟩
end Go.Proofs.YtfoheajcahiceaaDoor
