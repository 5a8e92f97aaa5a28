-- written by a program of this session (wip/px): the walk of printed functions
import Derived.Test.YtbbfilmajiilhaaPAllx0
import Derived.Test.YtbbfilmajiilhaaPAllx5
namespace Go.Proofs.Ytbbfilmajiilhaa.PAll
open Go.RowKit Go.Proofs.YtbbfilmajiilhaaW.PrintWords Go.Proofs.YtbbfilmajiilhaaW.PrintLast Go.Proofs.YtbbfilmajiilhaaW.PrintMore
attribute [local go_sem] max2_int min2_int max_two min_two max_three min_three max_four min_four   -- for this text's walks alone
set_option linter.unusedVariables false
set_option linter.unusedSimpArgs false

/-! ### concordanceref02_Same: function 25 -/
def concordanceref02_Same.l0 : Nat → List ByteArray → List ByteArray → Int → Option (Bool)
  | 0, _, _, _ => none
  | k + 1, x0, x1, x5 => if x5 < (x0.length : Int) then (if 0 ≤ x5 then (if x5 < (x1.length : Int) then (if (rdOf ByteArray.empty x0 x5).toList = (rdOf ByteArray.empty x1 x5).toList then (concordanceref02_Same.l0 k x0 x1 (wrap64 (x5 + 1))) else (some false)) else (none)) else (none)) else (some true)
def concordanceref02_Same.f (k : Nat) (l0 : List ByteArray) (l1 : List ByteArray) : Option (Bool) := if (l0.length : Int) = (l1.length : Int) then (concordanceref02_Same.l0 k l0 l1 0) else (some false)
theorem concordanceref02_Same.mono_l : ∀ k, (∀ y0 y1 y2, LeO (concordanceref02_Same.l0 k y0 y1 y2) (concordanceref02_Same.l0 (k + 1) y0 y1 y2))
  | 0 => fun _ _ _ r h => by simp [concordanceref02_Same.l0] at h
  | k + 1 => by
    have ih0 := concordanceref02_Same.mono_l k
    · intro y0 y1 y2
      unfold concordanceref02_Same.l0
      repeat' first
      | (with_reducible exact ih0 _ _ _)
      | (with_reducible exact LeO.refl _)
      | (with_reducible exact LeO.none _)
      | (with_reducible refine LeO.ite ?_ ?_)
      | (with_reducible refine LeO.bind ?_ (fun _ => ?_))
      | exact ih0 _ _ _
      | exact LeO.none _
      | refine LeO.ite ?_ ?_
      | refine LeO.bind ?_ (fun _ => ?_)
theorem concordanceref02_Same.mono : ∀ a0 a1 k, LeO (concordanceref02_Same.f k a0 a1) (concordanceref02_Same.f (k + 1) a0 a1) := by
  intro a0 a1 k
  have ih0 := concordanceref02_Same.mono_l k
  unfold concordanceref02_Same.f
  repeat' first
      | (with_reducible exact ih0 _ _ _)
      | (with_reducible exact LeO.refl _)
      | (with_reducible exact LeO.none _)
      | (with_reducible refine LeO.ite ?_ ?_)
      | (with_reducible refine LeO.bind ?_ (fun _ => ?_))
      | exact ih0 _ _ _
      | exact LeO.none _
      | refine LeO.ite ?_ ?_
      | refine LeO.bind ?_ (fun _ => ?_)
set_option maxHeartbeats 8000000 in
set_option maxRecDepth 100000 in
theorem concordanceref02_Same.calls (k : Nat) (A0 : Option Addr) (c0 : Nat) (l0 : List ByteArray) (A1 : Option Addr) (c1 : Nat) (l1 : List ByteArray) (r : Bool) (w : World) (hr0 : Kd.C Kd.string w A0 l0.length l0) (hc0 : l0.length ≤ c0) (hr1 : Kd.C Kd.string w A1 l1.length l1) (hc1 : l1.length ≤ c1) (h : concordanceref02_Same.f k l0 l1 = some r) :
    Calls Try.prog 25 #[.slice A0 l0.length c0, .slice A1 l1.length c1] w fun e w' => e = .returned (.bool r) ∧ Drawn0 w w' := by
  have HR0 := Aside0.mk hr0
  have HC0 := Aside0.mk hc0
  clear hr0 hc0
  have HR1 := Aside0.mk hr1
  have HC1 := Aside0.mk hc1
  clear hr1 hc1
  have H : (if (l0.length : Int) = (l1.length : Int) then (concordanceref02_Same.l0 k l0 l1 0) else (some false)) = some r := h
  clear h
  by_cases c3 : (l0.length : Int) = (l1.length : Int)
  · rw [if_pos c3] at H
    have c3b0 : ((l0.length : Int) == (l1.length : Int)) = true := beq_iff_eq.mpr c3
    have c3b1 : ((l0.length : Int) != (l1.length : Int)) = false := bne_eq_false_iff_eq.mpr c3
    have c3b2 : (l0.length == l1.length) = true := by first | simpa using c3 | (simp at c3 ⊢; omega)
    clear c3
    have H' := Aside0.mk H
    clear H
    go_enter Try.func25, Try.ntmps25
    go_wp2
    repeat (go_quiet (fail); try go_wp2)
    go_loopg [5] k (fun kq v5 w' => ∃ (x5_1 : Int), v5 = .int .i64 x5_1 ∧ Aside0 (concordanceref02_Same.l0 kq l0 l1 x5_1 = some r) ∧ Aside0 (kq ≤ k) ∧ Drawn0 w w')
    case atStart => exact ⟨(0), (by first | rfl | (simp; done) | (simp [*]; done)), H', ⟨Nat.le_refl _⟩, by repeat (first | exact Drawn0.refl _ | apply Drawn0.step)⟩
    case round =>
      clear H'
      try clear c1
      try clear c2
      try clear p2
      try clear c3
      try clear c3b0
      try clear c3b1
      try clear c3b2
      obtain ⟨x5_1, rfl, HA, HK1, ⟨m1, rfl⟩⟩ := hrel
      cases gk with
      | zero => exact absurd HA.out (by simp [concordanceref02_Same.l0])
      | succ k1 =>
        have H := HA.out
        clear HA
        simp only [concordanceref02_Same.l0] at H
        by_cases c4 : x5_1 < (l0.length : Int)
        · rw [if_pos c4] at H
          have c4b0 : decide (x5_1 < (l0.length : Int)) = true := decide_eq_true c4
          clear c4
          by_cases c5 : 0 ≤ x5_1
          · rw [if_pos c5] at H
            have c5b0 : decide (0 ≤ x5_1) = true := decide_eq_true c5
            clear c5
            by_cases c6 : x5_1 < (l1.length : Int)
            · rw [if_pos c6] at H
              have c6b0 : decide (x5_1 < (l1.length : Int)) = true := decide_eq_true c6
              clear c6
              by_cases c7 : (rdOf ByteArray.empty l0 x5_1).toList = (rdOf ByteArray.empty l1 x5_1).toList
              · rw [if_pos c7] at H
                have c7b0 : ((rdOf ByteArray.empty l0 x5_1).toList == (rdOf ByteArray.empty l1 x5_1).toList) = true := beq_iff_eq.mpr c7
                have c7b1 : ((rdOf ByteArray.empty l0 x5_1).toList != (rdOf ByteArray.empty l1 x5_1).toList) = false := bne_eq_false_iff_eq.mpr c7
                clear c7
                have H' := Aside0.mk H
                clear H
                have p218 : 0 ≤ (x5_1 : Int) := of_decide_eq_true (by first | (with_reducible assumption) | assumption)
                have q218 : x5_1 < (l0.length : Int) := of_decide_eq_true (by first | (with_reducible assumption) | assumption)
                obtain ⟨ad218, e218, hx218_0⟩ := Kd.at_string HR0.out x5_1 p218 q218
                cases e218
                replace p218 := eq_true p218
                replace q218 := eq_true q218
                have p219 : 0 ≤ (x5_1 : Int) := of_decide_eq_true (by first | (with_reducible assumption) | assumption)
                have q219 : x5_1 < (l1.length : Int) := of_decide_eq_true (by first | (with_reducible assumption) | assumption)
                obtain ⟨ad219, e219, hx219_0⟩ := Kd.at_string HR1.out x5_1 p219 q219
                cases e219
                replace p219 := eq_true p219
                replace q219 := eq_true q219
                go_wp2
                repeat (go_quiet (fail); try go_wp2)
                go_roundg k1
                case measure => have := HK1.out; omega
                case rel => exact ⟨(wrap64 (x5_1 + 1)), (by first | rfl | (simp; done) | (simp [*]; done)), H', ⟨by have := HK1.out; omega⟩, by repeat (first | exact Drawn0.refl _ | apply Drawn0.step)⟩
              · rw [if_neg c7] at H
                have c7b0 : ((rdOf ByteArray.empty l0 x5_1).toList == (rdOf ByteArray.empty l1 x5_1).toList) = false := beq_eq_false_iff_ne.mpr c7
                have c7b1 : ((rdOf ByteArray.empty l0 x5_1).toList != (rdOf ByteArray.empty l1 x5_1).toList) = true := bne_iff_ne.mpr c7
                obtain rfl := Option.some.inj H
                have p218 : 0 ≤ (x5_1 : Int) := of_decide_eq_true (by first | (with_reducible assumption) | assumption)
                have q218 : x5_1 < (l0.length : Int) := of_decide_eq_true (by first | (with_reducible assumption) | assumption)
                obtain ⟨ad218, e218, hx218_0⟩ := Kd.at_string HR0.out x5_1 p218 q218
                cases e218
                replace p218 := eq_true p218
                replace q218 := eq_true q218
                have p219 : 0 ≤ (x5_1 : Int) := of_decide_eq_true (by first | (with_reducible assumption) | assumption)
                have q219 : x5_1 < (l1.length : Int) := of_decide_eq_true (by first | (with_reducible assumption) | assumption)
                obtain ⟨ad219, e219, hx219_0⟩ := Kd.at_string HR1.out x5_1 p219 q219
                cases e219
                replace p219 := eq_true p219
                replace q219 := eq_true q219
                go_wp2
                repeat (go_quiet (fail); try go_wp2)
                go_ret
                exact ⟨by first | rfl | (simp; done) | (simp [*]; done), by repeat (first | exact Drawn0.refl _ | apply Drawn0.step)⟩
            · rw [if_neg c6] at H
              exact absurd H (by simp)
          · rw [if_neg c5] at H
            exact absurd H (by simp)
        · rw [if_neg c4] at H
          have c4b0 : decide (x5_1 < (l0.length : Int)) = false := decide_eq_false c4
          clear c4
          obtain rfl := Option.some.inj H
          go_wp2
          repeat (go_quiet (fail); try go_wp2)
          go_ret
          exact ⟨by first | rfl | (simp; done) | (simp [*]; done), by repeat (first | exact Drawn0.refl _ | apply Drawn0.step)⟩
  · rw [if_neg c3] at H
    have c3b0 : ((l0.length : Int) == (l1.length : Int)) = false := beq_eq_false_iff_ne.mpr c3
    have c3b1 : ((l0.length : Int) != (l1.length : Int)) = true := bne_iff_ne.mpr c3
    have c3b2 : (l0.length == l1.length) = false := by first | simpa using c3 | (simp at c3 ⊢; omega)
    obtain rfl := Option.some.inj H
    go_enter Try.func25, Try.ntmps25
    go_wp2
    repeat (go_quiet (fail); try go_wp2)
    go_ret
    exact ⟨by first | rfl | (simp; done) | (simp [*]; done), by repeat (first | exact Drawn0.refl _ | apply Drawn0.step)⟩

/-! ### concordanceref08_Phrase: function 10 -/
mutual
def concordanceref08_Phrase.l0 : Nat → List ByteArray → List ByteArray → Int → Int → Option (Int)
  | 0, _, _, _, _ => none
  | k + 1, x2, x7, x8, x9 => if (wrap64 (x9 + (x2.length : Int))) ≤ (x7.length : Int) then (concordanceref08_Phrase.j1 k x2 x7 x8 x9 (decide ((x2.length : Int) > 0))) else (concordanceref08_Phrase.j1 k x2 x7 x8 x9 false)
def concordanceref08_Phrase.j1 : Nat → List ByteArray → List ByteArray → Int → Int → Bool → Option (Int)
  | 0, _, _, _, _, _ => none
  | k + 1, x2, x7, x8, x9, x25 => if x25 = true then (if 0 ≤ x9 then (if x9 ≤ (wrap64 (x9 + (x2.length : Int))) then (if (wrap64 (x9 + (x2.length : Int))) ≤ (x7.length : Int) then ((concordanceref02_Same.f k ((x7.take ((wrap64 (x9 + (x2.length : Int))) : Int).toNat).drop (x9 : Int).toNat) x2).bind fun t228 => (if t228 = true then (concordanceref08_Phrase.l0 k x2 x7 (wrap64 (x8 + 1)) (wrap64 (x9 + 1))) else (concordanceref08_Phrase.l0 k x2 x7 x8 (wrap64 (x9 + 1))))) else (none)) else (none)) else (none)) else (some x8)
end
def concordanceref08_Phrase.f (k : Nat) (a0_0 : Int) (l0_1 : List (S29)) (a1 : ByteArray) (l2 : List ByteArray) : Option (Int) := (concordanceref08_Words.f k a0_0 l0_1 a1).bind fun t221 => (concordanceref08_Phrase.l0 k l2 t221 0 0)
theorem concordanceref08_Phrase.mono_l : ∀ k, (∀ y0 y1 y2 y3, LeO (concordanceref08_Phrase.l0 k y0 y1 y2 y3) (concordanceref08_Phrase.l0 (k + 1) y0 y1 y2 y3)) ∧ (∀ y0 y1 y2 y3 y4, LeO (concordanceref08_Phrase.j1 k y0 y1 y2 y3 y4) (concordanceref08_Phrase.j1 (k + 1) y0 y1 y2 y3 y4))
  | 0 => ⟨fun _ _ _ _ r h => by simp [concordanceref08_Phrase.l0] at h, fun _ _ _ _ _ r h => by simp [concordanceref08_Phrase.j1] at h⟩
  | k + 1 => by
    obtain ⟨ih0, ih1⟩ := concordanceref08_Phrase.mono_l k
    refine ⟨?_, ?_⟩
    · intro y0 y1 y2 y3
      unfold concordanceref08_Phrase.l0
      repeat' first
      | (with_reducible exact ih0 _ _ _ _)
      | (with_reducible exact ih1 _ _ _ _ _)
      | (with_reducible exact concordanceref02_Same.mono _ _ _)
      | (with_reducible exact concordanceref08_Words.mono _ _ _ _)
      | (with_reducible exact LeO.refl _)
      | (with_reducible exact LeO.none _)
      | (with_reducible refine LeO.ite ?_ ?_)
      | (with_reducible refine LeO.bind ?_ (fun _ => ?_))
      | exact ih0 _ _ _ _
      | exact ih1 _ _ _ _ _
      | exact concordanceref02_Same.mono _ _ _
      | exact concordanceref08_Words.mono _ _ _ _
      | exact LeO.none _
      | refine LeO.ite ?_ ?_
      | refine LeO.bind ?_ (fun _ => ?_)
    · intro y0 y1 y2 y3 y4
      unfold concordanceref08_Phrase.j1
      repeat' first
      | (with_reducible exact ih0 _ _ _ _)
      | (with_reducible exact ih1 _ _ _ _ _)
      | (with_reducible exact concordanceref02_Same.mono _ _ _)
      | (with_reducible exact concordanceref08_Words.mono _ _ _ _)
      | (with_reducible exact LeO.refl _)
      | (with_reducible exact LeO.none _)
      | (with_reducible refine LeO.ite ?_ ?_)
      | (with_reducible refine LeO.bind ?_ (fun _ => ?_))
      | exact ih0 _ _ _ _
      | exact ih1 _ _ _ _ _
      | exact concordanceref02_Same.mono _ _ _
      | exact concordanceref08_Words.mono _ _ _ _
      | exact LeO.none _
      | refine LeO.ite ?_ ?_
      | refine LeO.bind ?_ (fun _ => ?_)
theorem concordanceref08_Phrase.mono : ∀ a0 a1 a2 a3 k, LeO (concordanceref08_Phrase.f k a0 a1 a2 a3) (concordanceref08_Phrase.f (k + 1) a0 a1 a2 a3) := by
  intro a0 a1 a2 a3 k
  obtain ⟨ih0, ih1⟩ := concordanceref08_Phrase.mono_l k
  unfold concordanceref08_Phrase.f
  repeat' first
      | (with_reducible exact ih0 _ _ _ _)
      | (with_reducible exact ih1 _ _ _ _ _)
      | (with_reducible exact concordanceref02_Same.mono _ _ _)
      | (with_reducible exact concordanceref08_Words.mono _ _ _ _)
      | (with_reducible exact LeO.refl _)
      | (with_reducible exact LeO.none _)
      | (with_reducible refine LeO.ite ?_ ?_)
      | (with_reducible refine LeO.bind ?_ (fun _ => ?_))
      | exact ih0 _ _ _ _
      | exact ih1 _ _ _ _ _
      | exact concordanceref02_Same.mono _ _ _
      | exact concordanceref08_Words.mono _ _ _ _
      | exact LeO.none _
      | refine LeO.ite ?_ ?_
      | refine LeO.bind ?_ (fun _ => ?_)
set_option maxHeartbeats 8000000 in
set_option maxRecDepth 100000 in
theorem concordanceref08_Phrase.calls (k : Nat) (a0_0 : Int) (A0_1 : Option Addr) (c0_1 : Nat) (l0_1 : List (S29)) (a1 : ByteArray) (A2 : Option Addr) (c2 : Nat) (l2 : List ByteArray) (r : Int) (w : World) (hr0_1 : Kd.C k29 w A0_1 l0_1.length l0_1) (hc0_1 : l0_1.length ≤ c0_1) (hr2 : Kd.C Kd.string w A2 l2.length l2) (hc2 : l2.length ≤ c2) (h : concordanceref08_Phrase.f k a0_0 l0_1 a1 l2 = some r) :
    Calls Try.prog 10 #[.agg #[.int .i64 a0_0, .slice A0_1 l0_1.length c0_1], .string a1, .slice A2 l2.length c2] w fun e w' => e = .returned (.int .i64 r) ∧ Below w.heap.size w w' := by
  have hu24 := Try.underlying24
  have HR0_1 := Aside0.mk hr0_1
  have HC0_1 := Aside0.mk hc0_1
  clear hr0_1 hc0_1
  have HR2 := Aside0.mk hr2
  have HC2 := Aside0.mk hc2
  clear hr2 hc2
  have HB := Aside0.mk (Below.refl w.heap.size w)
  have H : ((concordanceref08_Words.f k a0_0 l0_1 a1).bind fun t221 => (concordanceref08_Phrase.l0 k l2 t221 0 0)) = some r := h
  clear h
  replace H := Option.bind_eq_some_iff.mp H
  obtain ⟨t221, A40, H⟩ := H
  replace H : (concordanceref08_Phrase.l0 k l2 t221 0 0) = some r := H
  have A4 := Aside0.mk A40
  clear A40
  have H' := Aside0.mk H
  clear H
  go_enter Try.func10, Try.ntmps10
  go_wp2_with (first | ((with_reducible refine gate_dst (N := 3) rfl ?_); (try (refine gate_guard (by rfl) ?_; dsimp only)); refine box_event ?hg (N := 3) ?hd (cs := #[.int .i64 a0_0, .slice A0_1 l0_1.length c0_1]) (t := 24) ?hr ?_; (case hd => rfl); (case hg => rfl); (case hr => first | (go_simp; done) | (go_simp; rfl)); intro gb220 hg w5 hbox hb; have n0_ := Aside0.mk (below_step (by repeat (first | (with_reducible first | exact HB.out | apply below_alloc | apply pw_below_drewN | apply below_drew1) | exact HB.out)) hb); have n1_ := Aside0.mk (hbox); have n2_ := Aside0.mk ((by rw [hg]; exact (below_size (by repeat (first | (with_reducible first | exact HB.out | apply below_alloc | apply pw_below_drewN | apply below_drew1) | exact HB.out))) : w.heap.size ≤ gb220)); have n3_ := Aside0.mk ((by rw [hg]; exact (below_size (by repeat (first | (with_reducible first | exact HB.out | apply below_alloc | apply pw_below_drewN | apply below_drew1) | exact HB.out))) : w.heap.size ≤ gb220)); clear HB; have HB := n0_; have BK220 := n1_; have GW220 := n2_; have GE220 := n3_; clear n0_ n1_ n2_ n3_; clear hb hbox hg; have hcz6_0 : w5.cell? ⟨gb220, 0, none⟩ = some (.int .i64 a0_0) := (blk_cell BK220.out 0).trans rfl; have hcz6_1 : w5.cell? ⟨gb220, 1, none⟩ = some (.slice A0_1 l0_1.length c0_1) := (blk_cell BK220.out 1).trans rfl; have hfz6_0 := blk_frozen BK220.out 0; have hfz6_1 := blk_frozen BK220.out 1) | ((with_reducible refine gate_callee (f := 8) rfl ?_); refine goesL_ (some 13) rfl rfl Try.func8 (by kernel_rfl) rfl #[.agg #[.int .i64 a0_0, .slice A0_1 l0_1.length c0_1], .string a1] rfl (by (try simp only [List.map_toArray, List.map_cons, List.map_nil]); first | done | rfl | (simp only [List.length_drop, List.length_take]; rfl)) ?_; (with_reducible refine (concordanceref08_Words.calls k a0_0 _ _ l0_1 a1 t221 _ ?side1 ?side2 A4.out).mono ?_); (case side1 => repeat (first | exact (Kd.C_below HR0_1.out HB.out) | (with_reducible refine Kd.C_alloc ?_ _) | (with_reducible refine Kd.C_drewN ?_ _) | (with_reducible refine Kd.C_drew ?_))); (case side2 => exact HC0_1.out); rintro e w7 ⟨v222, rfl, ho0, hb⟩; refine ⟨_, rfl, ?_⟩; have n0_ := Aside0.mk (Kd.R_lower ho0 (below_size (by repeat (first | (with_reducible first | exact HB.out | apply below_alloc | apply pw_below_drewN | apply below_drew1 | refine below_set ?_ GE220.out) | exact HB.out)))); have n1_ := Aside0.mk (blk_below (g := gb220) (o := .cells #[.int .i64 a0_0, .slice A0_1 l0_1.length c0_1] 24 (0, 0)) (by (with_reducible repeat (first | refine blk_drewN ?_ _ | refine blk_drew ?_ | refine blk_alloc ?_ _)); exact BK220.out) hb); have n2_ := Aside0.mk (below_step (by repeat (first | (with_reducible first | exact HB.out | apply below_alloc | apply pw_below_drewN | apply below_drew1 | refine below_set ?_ GE220.out) | exact HB.out)) hb); clear BK220; clear HB; have HO223 := n0_; have BK220 := n1_; have HB := n2_; clear n0_ n1_ n2_; (try clear hb); (try clear hb2); (try clear hk); (try clear hi); (try clear ho0)))
  go_loopg [8, 9] k (fun kq v8 v9 w' => ∃ (x8_1 : Int) (x9_1 : Int), v8 = .int .i64 x8_1 ∧ v9 = .int .i64 x9_1 ∧ Aside0 (concordanceref08_Phrase.l0 kq l2 t221 x8_1 x9_1 = some r) ∧ Aside0 (kq ≤ k) ∧ Aside0 (Kd.R Kd.string 9 w' w.heap.size (fun _ => True) v222 t221) ∧ Aside0 (w'.heap[gb220]? = some (.cells #[.int .i64 a0_0, (.slice A0_1 l0_1.length c0_1)] 24 (0, 0))) ∧ Aside0 (Below w.heap.size w w'))
  case atStart => exact ⟨(0), (0), (by first | rfl | (simp; done) | (simp [*]; done)), (by first | rfl | (simp; done) | (simp [*]; done)), H', ⟨Nat.le_refl _⟩, ⟨by (with_reducible repeat (first | apply Kd.R_alloc | apply Kd.R_drewN | apply Kd.R_drew)); exact HO223.out⟩, ⟨by (with_reducible repeat (first | refine blk_drewN ?_ _ | refine blk_drew ?_ | refine blk_alloc ?_ _)); exact BK220.out⟩, ⟨by repeat (first | (with_reducible first | exact HB.out | apply below_alloc | apply pw_below_drewN | apply below_drew1 | refine below_set ?_ GE220.out) | exact HB.out)⟩⟩
  case round =>
    clear H'
    try clear c1
    try clear c2
    try clear p2
    try clear hcz6_0
    try clear hcz6_1
    try clear hfz6_0
    try clear hfz6_1
    obtain ⟨x8_1, x9_1, rfl, rfl, HA, HK1, HO_7, BK220, HB⟩ := hrel
    cases gk with
    | zero => exact absurd HA.out (by simp [concordanceref08_Phrase.l0])
    | succ k1 =>
      have H := HA.out
      clear HA
      simp only [concordanceref08_Phrase.l0] at H
      have HC8 := Aside0.mk H
      clear H
      go_upto_region 4 with (fail)
      go_cut [25] (fun v25 wc => ∃ (kq : Nat) (x25_7 : Bool), v25 = .bool x25_7 ∧ Aside0 (concordanceref08_Phrase.j1 kq l2 t221 x8_1 x9_1 x25_7 = some r) ∧ Aside0 (kq ≤ k1) ∧ Aside0 (Kd.R Kd.string 9 wc w.heap.size (fun _ => True) v222 t221) ∧ Aside0 (wc.heap[gb220]? = some (.cells #[.int .i64 a0_0, (.slice A0_1 l0_1.length c0_1)] 24 (0, 0))) ∧ Aside0 (Below w.heap.size w wc))
      case first =>
        have H := HC8.out
        clear HC8
        by_cases c9 : (wrap64 (x9_1 + (l2.length : Int))) ≤ (t221.length : Int)
        · rw [if_pos c9] at H
          have c9b0 : decide ((wrap64 (x9_1 + (l2.length : Int))) ≤ (t221.length : Int)) = true := decide_eq_true c9
          clear c9
          (first | rw [c9b0] | (simp only [i64_w, i32_w]; rw [c9b0]) | skip)
          have H' := Aside0.mk H
          clear H
          obtain ⟨Ao10, co10, eo10⟩ := Kd.R_slice HO_7.out
          subst eo10
          go_wp2
          go_meet
          case rel => exact ⟨_, (decide ((l2.length : Int) > 0)), (by first | rfl | (simp; done) | (simp [*]; done)), H', ⟨by have := HK1.out; first | omega | exact Nat.le_refl _⟩, ⟨by (with_reducible repeat (first | apply Kd.R_alloc | apply Kd.R_drewN | apply Kd.R_drew)); exact HO_7.out⟩, ⟨by (with_reducible repeat (first | refine blk_drewN ?_ _ | refine blk_drew ?_ | refine blk_alloc ?_ _)); exact BK220.out⟩, ⟨by repeat (first | (with_reducible first | exact HB.out | apply below_alloc | apply pw_below_drewN | apply below_drew1 | refine below_set ?_ GE220.out) | exact HB.out)⟩⟩
        · rw [if_neg c9] at H
          have c9b0 : decide ((wrap64 (x9_1 + (l2.length : Int))) ≤ (t221.length : Int)) = false := decide_eq_false c9
          clear c9
          (first | rw [c9b0] | (simp only [i64_w, i32_w]; rw [c9b0]) | skip)
          have H' := Aside0.mk H
          clear H
          obtain ⟨Ao11, co11, eo11⟩ := Kd.R_slice HO_7.out
          subst eo11
          go_wp2
          go_meet
          case rel => exact ⟨_, (false), (by first | rfl | (simp; done) | (simp [*]; done)), H', ⟨by have := HK1.out; first | omega | exact Nat.le_refl _⟩, ⟨by (with_reducible repeat (first | apply Kd.R_alloc | apply Kd.R_drewN | apply Kd.R_drew)); exact HO_7.out⟩, ⟨by (with_reducible repeat (first | refine blk_drewN ?_ _ | refine blk_drew ?_ | refine blk_alloc ?_ _)); exact BK220.out⟩, ⟨by repeat (first | (with_reducible first | exact HB.out | apply below_alloc | apply pw_below_drewN | apply below_drew1 | refine below_set ?_ GE220.out) | exact HB.out)⟩⟩
      case rest =>
        clear HC8
        try clear c1
        try clear c2
        try clear p2
        try clear p6
        try clear c8
        try clear c9
        try clear c9b0
        try clear c10
        try clear hcz6_0
        try clear hcz6_1
        try clear hfz6_0
        try clear hfz6_1
        try clear p2
        obtain ⟨kq, x25_7, rfl, HA, HJ7, HO_7, BK220, HB⟩ := hcut
        cases kq with
        | zero => exact absurd HA.out (by simp [concordanceref08_Phrase.j1])
        | succ kj7 =>
          have H := HA.out
          clear HA
          simp only [concordanceref08_Phrase.j1] at H
          by_cases c12 : x25_7 = true
          · subst c12
            have H1 : (if 0 ≤ x9_1 then (if x9_1 ≤ (wrap64 (x9_1 + (l2.length : Int))) then (if (wrap64 (x9_1 + (l2.length : Int))) ≤ (t221.length : Int) then ((concordanceref02_Same.f kj7 ((t221.take ((wrap64 (x9_1 + (l2.length : Int))) : Int).toNat).drop (x9_1 : Int).toNat) l2).bind fun t228 => (if t228 = true then (concordanceref08_Phrase.l0 kj7 l2 t221 (wrap64 (x8_1 + 1)) (wrap64 (x9_1 + 1))) else (concordanceref08_Phrase.l0 kj7 l2 t221 x8_1 (wrap64 (x9_1 + 1))))) else (none)) else (none)) else (none)) = some r := by rw [if_pos rfl] at H; exact H
            clear H
            have H := H1
            clear H1
            by_cases c13 : 0 ≤ x9_1
            · rw [if_pos c13] at H
              have c13b0 := eq_true c13
              have c13b1 : decide (0 ≤ x9_1) = true := decide_eq_true c13
              clear c13
              by_cases c14 : x9_1 ≤ (wrap64 (x9_1 + (l2.length : Int)))
              · rw [if_pos c14] at H
                have c14b0 := eq_true c14
                have c14b1 : decide (x9_1 ≤ (wrap64 (x9_1 + (l2.length : Int)))) = true := decide_eq_true c14
                by_cases c15 : (wrap64 (x9_1 + (l2.length : Int))) ≤ (t221.length : Int)
                · rw [if_pos c15] at H
                  have c15b0 := eq_true c15
                  have c15b1 : decide ((wrap64 (x9_1 + (l2.length : Int))) ≤ (t221.length : Int)) = true := decide_eq_true c15
                  obtain ⟨y224, hy224⟩ : ∃ y_ : List ByteArray, y_ = ((t221.take ((wrap64 (x9_1 + (l2.length : Int))) : Int).toNat).drop (x9_1 : Int).toNat) := ⟨_, rfl⟩
                  replace H : ((concordanceref02_Same.f kj7 y224 l2).bind fun t228 => (if t228 = true then (concordanceref08_Phrase.l0 kj7 l2 t221 (wrap64 (x8_1 + 1)) (wrap64 (x9_1 + 1))) else (concordanceref08_Phrase.l0 kj7 l2 t221 x8_1 (wrap64 (x9_1 + 1))))) = some r := by first | (rw [hy224]; with_reducible exact H) | (have H2_ := (Option.bind_some _ _).symm.trans H; rw [hy224]; with_reducible exact H2_) | (have H2_ := (Option.bind_some _ _).symm.trans H; with_reducible exact H2_) | with_reducible exact H | (rw [hy224]; exact H) | exact H
                  have Ny224 := Aside0.mk hy224
                  clear hy224
                  replace H := Option.bind_eq_some_iff.mp H
                  obtain ⟨t228, A160, H⟩ := H
                  replace H : (if t228 = true then (concordanceref08_Phrase.l0 kj7 l2 t221 (wrap64 (x8_1 + 1)) (wrap64 (x9_1 + 1))) else (concordanceref08_Phrase.l0 kj7 l2 t221 x8_1 (wrap64 (x9_1 + 1)))) = some r := H
                  have A16 := Aside0.mk A160
                  clear A160
                  by_cases c17 : t228 = true
                  · subst c17
                    have H1 : (concordanceref08_Phrase.l0 kj7 l2 t221 (wrap64 (x8_1 + 1)) (wrap64 (x9_1 + 1))) = some r := by rw [if_pos rfl] at H; exact H
                    clear H
                    have H := H1
                    clear H1
                    have H' := Aside0.mk H
                    clear H
                    obtain ⟨Ao19, co19, eo19⟩ := Kd.R_slice HO_7.out
                    subst eo19
                    have q18 : ((wrap64 (x9_1 + (l2.length : Int))) : Int) ≤ ((t221.length : Int) : Int) := of_decide_eq_true (by first | (with_reducible assumption) | assumption)
                    obtain ⟨i018, hi018, _, hsz18, _⟩ := info_parts info9
                    have hroom18 : t221.length ≤ co19 := (Kd.R_reads' HO_7.out).2.1
                    have hC18 : Kd.C Kd.string _ Ao19 t221.length t221 := (Kd.R_reads' HO_7.out).2.2
                    have ql18 : (x9_1 : Int) ≤ ((wrap64 (x9_1 + (l2.length : Int))) : Int) := of_decide_eq_true (by first | (with_reducible assumption) | assumption)
                    have q018 : (0 : Int) ≤ (x9_1 : Int) := of_decide_eq_true (by first | (with_reducible assumption) | assumption)
                    have hcut18 := cut_mid (P := Try.prog) 26 9 .i64 .i64 Try.underlying26 hi018 1 hsz18 Ao19 t221.length co19 x9_1 (wrap64 (x9_1 + (l2.length : Int))) q018 ql18 q18 hroom18
                    have hr18 := Kd.C_mid (lo := (x9_1 : Int).toNat) (hi := ((wrap64 (x9_1 + (l2.length : Int))) : Int).toNat) (c := co19) hC18 (by omega) (by omega) hroom18
                    obtain ⟨A18, hA18⟩ : ∃ A1, A1 = (if co19 = (x9_1 : Int).toNat then Ao19 else (Ao19 : Option Addr).map (·.add ((x9_1 : Int).toNat * 1))) := ⟨_, rfl⟩
                    obtain ⟨c18, hc18⟩ : ∃ c1, c1 = co19 - (x9_1 : Int).toNat := ⟨_, rfl⟩
                    have hy18 : y224.length = ((wrap64 (x9_1 + (l2.length : Int))) : Int).toNat - (x9_1 : Int).toNat := (by rw [Ny224.out, List.length_drop, List.length_take] <;> omega)
                    rw [show ((t221).take ((wrap64 (x9_1 + (l2.length : Int))) : Int).toNat).drop (x9_1 : Int).toNat = y224 from Ny224.out.symm] at hr18
                    replace hr18 : Kd.C Kd.string _ A18 y224.length y224 := (by rw [hA18]; exact hr18)
                    rw [← hy18, ← hA18, ← hc18] at hcut18
                    have HR227 := Aside0.mk hr18
                    have HC227 := Aside0.mk (show y224.length ≤ c18 from by rw [hy18, hc18]; exact Nat.sub_le_sub_right (Nat.le_trans (by omega) hroom18) _)
                    clear hr18 hC18 hroom18 hi018 hsz18 hc18
                    have KY18 := Aside0.mk hy18
                    have KA18 := Aside0.mk hA18
                    clear hy18 hA18
                    have KL18 := Aside0.mk (show ((wrap64 (x9_1 + (l2.length : Int))) : Int).toNat ≤ t221.length from by omega)
                    have KM18 := Aside0.mk (show (x9_1 : Int).toNat ≤ ((wrap64 (x9_1 + (l2.length : Int))) : Int).toNat from by omega)
                    replace q18 := eq_true q18
                    go_wp2_with (first | ((with_reducible refine gate_callee (f := 25) rfl ?_); refine goesL_ (some 36) rfl rfl Try.func25 (by kernel_rfl) rfl #[.slice A18 y224.length c18, .slice A2 l2.length c2] rfl (by (try simp only [List.map_toArray, List.map_cons, List.map_nil]); first | done | rfl | (simp only [List.length_drop, List.length_take]; rfl)) ?_; (with_reducible refine (concordanceref02_Same.calls kj7 _ _ y224 _ _ l2 true _ ?side1 ?side2 ?side3 ?side4 A16.out).mono ?_); (case side1 => repeat (first | exact (by repeat (first | (with_reducible exact HR227.out) | (with_reducible refine Kd.C_alloc ?_ _) | (with_reducible refine Kd.C_drewN ?_ _) | (with_reducible refine Kd.C_drew ?_) | exact HR227.out)) | (with_reducible refine Kd.C_alloc ?_ _) | (with_reducible refine Kd.C_drewN ?_ _) | (with_reducible refine Kd.C_drew ?_))); (case side2 => exact HC227.out); (case side3 => repeat (first | exact (Kd.C_below HR2.out HB.out) | (with_reducible refine Kd.C_alloc ?_ _) | (with_reducible refine Kd.C_drewN ?_ _) | (with_reducible refine Kd.C_drew ?_))); (case side4 => exact HC2.out); rintro e w' ⟨rfl, ⟨nd, rfl⟩⟩; refine ⟨_, rfl, ?_⟩))
                    go_roundg kj7
                    case measure => have := HK1.out; have := HJ7.out; omega
                    case rel => exact ⟨(wrap64 (x8_1 + 1)), (wrap64 (x9_1 + 1)), (by first | rfl | (simp; done) | (simp [*]; done)), (by first | rfl | (simp; done) | (simp [*]; done)), H', ⟨by have := HK1.out; have := HJ7.out; omega⟩, ⟨by (with_reducible repeat (first | apply Kd.R_alloc | apply Kd.R_drewN | apply Kd.R_drew)); exact HO_7.out⟩, ⟨by (with_reducible repeat (first | refine blk_drewN ?_ _ | refine blk_drew ?_ | refine blk_alloc ?_ _)); exact BK220.out⟩, ⟨by repeat (first | (with_reducible first | exact HB.out | apply below_alloc | apply pw_below_drewN | apply below_drew1 | refine below_set ?_ GE220.out) | exact HB.out)⟩⟩
                  · replace c17 := Bool.eq_false_iff.mpr c17
                    subst c17
                    have H1 : (concordanceref08_Phrase.l0 kj7 l2 t221 x8_1 (wrap64 (x9_1 + 1))) = some r := by rw [if_neg (show ¬ (false = true) by decide)] at H; exact H
                    clear H
                    have H := H1
                    clear H1
                    have H' := Aside0.mk H
                    clear H
                    obtain ⟨Ao21, co21, eo21⟩ := Kd.R_slice HO_7.out
                    subst eo21
                    have q20 : ((wrap64 (x9_1 + (l2.length : Int))) : Int) ≤ ((t221.length : Int) : Int) := of_decide_eq_true (by first | (with_reducible assumption) | assumption)
                    obtain ⟨i020, hi020, _, hsz20, _⟩ := info_parts info9
                    have hroom20 : t221.length ≤ co21 := (Kd.R_reads' HO_7.out).2.1
                    have hC20 : Kd.C Kd.string _ Ao21 t221.length t221 := (Kd.R_reads' HO_7.out).2.2
                    have ql20 : (x9_1 : Int) ≤ ((wrap64 (x9_1 + (l2.length : Int))) : Int) := of_decide_eq_true (by first | (with_reducible assumption) | assumption)
                    have q020 : (0 : Int) ≤ (x9_1 : Int) := of_decide_eq_true (by first | (with_reducible assumption) | assumption)
                    have hcut20 := cut_mid (P := Try.prog) 26 9 .i64 .i64 Try.underlying26 hi020 1 hsz20 Ao21 t221.length co21 x9_1 (wrap64 (x9_1 + (l2.length : Int))) q020 ql20 q20 hroom20
                    have hr20 := Kd.C_mid (lo := (x9_1 : Int).toNat) (hi := ((wrap64 (x9_1 + (l2.length : Int))) : Int).toNat) (c := co21) hC20 (by omega) (by omega) hroom20
                    obtain ⟨A20, hA20⟩ : ∃ A1, A1 = (if co21 = (x9_1 : Int).toNat then Ao21 else (Ao21 : Option Addr).map (·.add ((x9_1 : Int).toNat * 1))) := ⟨_, rfl⟩
                    obtain ⟨c20, hc20⟩ : ∃ c1, c1 = co21 - (x9_1 : Int).toNat := ⟨_, rfl⟩
                    have hy20 : y224.length = ((wrap64 (x9_1 + (l2.length : Int))) : Int).toNat - (x9_1 : Int).toNat := (by rw [Ny224.out, List.length_drop, List.length_take] <;> omega)
                    rw [show ((t221).take ((wrap64 (x9_1 + (l2.length : Int))) : Int).toNat).drop (x9_1 : Int).toNat = y224 from Ny224.out.symm] at hr20
                    replace hr20 : Kd.C Kd.string _ A20 y224.length y224 := (by rw [hA20]; exact hr20)
                    rw [← hy20, ← hA20, ← hc20] at hcut20
                    have HR227 := Aside0.mk hr20
                    have HC227 := Aside0.mk (show y224.length ≤ c20 from by rw [hy20, hc20]; exact Nat.sub_le_sub_right (Nat.le_trans (by omega) hroom20) _)
                    clear hr20 hC20 hroom20 hi020 hsz20 hc20
                    have KY20 := Aside0.mk hy20
                    have KA20 := Aside0.mk hA20
                    clear hy20 hA20
                    have KL20 := Aside0.mk (show ((wrap64 (x9_1 + (l2.length : Int))) : Int).toNat ≤ t221.length from by omega)
                    have KM20 := Aside0.mk (show (x9_1 : Int).toNat ≤ ((wrap64 (x9_1 + (l2.length : Int))) : Int).toNat from by omega)
                    replace q20 := eq_true q20
                    go_wp2_with (first | ((with_reducible refine gate_callee (f := 25) rfl ?_); refine goesL_ (some 36) rfl rfl Try.func25 (by kernel_rfl) rfl #[.slice A20 y224.length c20, .slice A2 l2.length c2] rfl (by (try simp only [List.map_toArray, List.map_cons, List.map_nil]); first | done | rfl | (simp only [List.length_drop, List.length_take]; rfl)) ?_; (with_reducible refine (concordanceref02_Same.calls kj7 _ _ y224 _ _ l2 false _ ?side1 ?side2 ?side3 ?side4 A16.out).mono ?_); (case side1 => repeat (first | exact (by repeat (first | (with_reducible exact HR227.out) | (with_reducible refine Kd.C_alloc ?_ _) | (with_reducible refine Kd.C_drewN ?_ _) | (with_reducible refine Kd.C_drew ?_) | exact HR227.out)) | (with_reducible refine Kd.C_alloc ?_ _) | (with_reducible refine Kd.C_drewN ?_ _) | (with_reducible refine Kd.C_drew ?_))); (case side2 => exact HC227.out); (case side3 => repeat (first | exact (Kd.C_below HR2.out HB.out) | (with_reducible refine Kd.C_alloc ?_ _) | (with_reducible refine Kd.C_drewN ?_ _) | (with_reducible refine Kd.C_drew ?_))); (case side4 => exact HC2.out); rintro e w' ⟨rfl, ⟨nd, rfl⟩⟩; refine ⟨_, rfl, ?_⟩))
                    go_roundg kj7
                    case measure => have := HK1.out; have := HJ7.out; omega
                    case rel => exact ⟨(x8_1), (wrap64 (x9_1 + 1)), (by first | rfl | (simp; done) | (simp [*]; done)), (by first | rfl | (simp; done) | (simp [*]; done)), H', ⟨by have := HK1.out; have := HJ7.out; omega⟩, ⟨by (with_reducible repeat (first | apply Kd.R_alloc | apply Kd.R_drewN | apply Kd.R_drew)); exact HO_7.out⟩, ⟨by (with_reducible repeat (first | refine blk_drewN ?_ _ | refine blk_drew ?_ | refine blk_alloc ?_ _)); exact BK220.out⟩, ⟨by repeat (first | (with_reducible first | exact HB.out | apply below_alloc | apply pw_below_drewN | apply below_drew1 | refine below_set ?_ GE220.out) | exact HB.out)⟩⟩
                · rw [if_neg c15] at H
                  exact absurd H (by simp)
              · rw [if_neg c14] at H
                exact absurd H (by simp)
            · rw [if_neg c13] at H
              exact absurd H (by simp)
          · replace c12 := Bool.eq_false_iff.mpr c12
            subst c12
            have H1 : (some x8_1) = some r := by rw [if_neg (show ¬ (false = true) by decide)] at H; exact H
            clear H
            have H := H1
            clear H1
            obtain rfl := Option.some.inj H
            go_wp2
            go_ret
            exact ⟨by first | rfl | (simp [errW_none, errW_some] <;> rfl) | (simp [*, errW_none, errW_some] <;> rfl), by repeat (first | (with_reducible first | exact HB.out | apply below_alloc | apply pw_below_drewN | apply below_drew1 | refine below_set ?_ GE220.out) | exact HB.out)⟩

-- EXTERN: function 12 (doc_Invert): module Bnd0

/-! ### concordanceref02_Key: function 51 -/
def concordanceref02_Key.f (a0_0 : ByteArray) (a0_1 : ByteArray) : Option (ByteArray) := if a0_0.size + 1 ≤ 9223372036854775807 then (if (a0_0 ++ (⟨#[0]⟩ : ByteArray)).size + a0_1.size ≤ 9223372036854775807 then (some ((a0_0 ++ (⟨#[0]⟩ : ByteArray)) ++ a0_1)) else (none)) else (none)
set_option maxHeartbeats 8000000 in
set_option maxRecDepth 100000 in
theorem concordanceref02_Key.calls (a0_0 : ByteArray) (a0_1 : ByteArray) (r : ByteArray) (w : World) (h : concordanceref02_Key.f a0_0 a0_1 = some r) :
    Calls Try.prog 51 #[.agg #[.string a0_0, .string a0_1]] w fun e w' => e = .returned (.string r) ∧ Below w.heap.size w w' := by
  have hu39 := Try.underlying39
  have HB := Aside0.mk (Below.refl w.heap.size w)
  have H : (if a0_0.size + 1 ≤ 9223372036854775807 then (if (a0_0 ++ (⟨#[0]⟩ : ByteArray)).size + a0_1.size ≤ 9223372036854775807 then (some ((a0_0 ++ (⟨#[0]⟩ : ByteArray)) ++ a0_1)) else (none)) else (none)) = some r := h
  clear h
  by_cases c2 : a0_0.size + 1 ≤ 9223372036854775807
  · rw [if_pos c2] at H
    have c2b0 := eq_true c2
    have c2b1 : decide (a0_0.size + 1 ≤ 9223372036854775807) = true := decide_eq_true c2
    try have c2b2 : (9223372036854775807 < a0_0.size + 1) = False := eq_false (Nat.not_lt.2 c2)
    by_cases c3 : (a0_0 ++ (⟨#[0]⟩ : ByteArray)).size + a0_1.size ≤ 9223372036854775807
    · rw [if_pos c3] at H
      have c3b0 := eq_true c3
      have c3b1 : decide ((a0_0 ++ (⟨#[0]⟩ : ByteArray)).size + a0_1.size ≤ 9223372036854775807) = true := decide_eq_true c3
      try have c3b2 : (9223372036854775807 < (a0_0 ++ (⟨#[0]⟩ : ByteArray)).size + a0_1.size) = False := eq_false (Nat.not_lt.2 c3)
      obtain rfl := Option.some.inj H
      go_enter Try.func51, Try.ntmps51
      go_wp2_with (first | ((with_reducible refine gate_dst (N := 1) rfl ?_); refine box_event ?hg (N := 1) ?hd (cs := #[.string a0_0, .string a0_1]) (t := 39) ?hr ?_; (case hd => rfl); (case hg => rfl); (case hr => first | (go_simp; done) | (go_simp; rfl)); intro gb267 hg w4 hbox hb; have n0_ := Aside0.mk (below_step (by repeat (first | (with_reducible first | exact HB.out | apply below_alloc | apply pw_below_drewN | apply below_drew1) | exact HB.out)) hb); have n1_ := Aside0.mk (hbox); have n2_ := Aside0.mk ((by rw [hg]; exact (below_size (by repeat (first | (with_reducible first | exact HB.out | apply below_alloc | apply pw_below_drewN | apply below_drew1) | exact HB.out))) : w.heap.size ≤ gb267)); have n3_ := Aside0.mk ((by rw [hg]; exact (below_size (by repeat (first | (with_reducible first | exact HB.out | apply below_alloc | apply pw_below_drewN | apply below_drew1) | exact HB.out))) : w.heap.size ≤ gb267)); clear HB; have HB := n0_; have BK267 := n1_; have GW267 := n2_; have GE267 := n3_; clear n0_ n1_ n2_ n3_; clear hb hbox hg; have hcz5_0 : w4.cell? ⟨gb267, 0, none⟩ = some (.string a0_0) := (blk_cell BK267.out 0).trans rfl; have hcz5_1 : w4.cell? ⟨gb267, 1, none⟩ = some (.string a0_1) := (blk_cell BK267.out 1).trans rfl; have hfz5_0 := blk_frozen BK267.out 0; have hfz5_1 := blk_frozen BK267.out 1))
      go_ret
      exact ⟨by first | rfl | (simp [errW_none, errW_some] <;> rfl) | (simp [*, errW_none, errW_some] <;> rfl), by repeat (first | (with_reducible first | exact HB.out | apply below_alloc | apply pw_below_drewN | apply below_drew1 | refine below_set ?_ GE267.out) | exact HB.out)⟩
    · rw [if_neg c3] at H
      exact absurd H (by simp)
  · rw [if_neg c2] at H
    exact absurd H (by simp)

end Go.Proofs.Ytbbfilmajiilhaa.PAll
