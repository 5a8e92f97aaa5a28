-- written by a program of this session (wip/px): the walk of printed functions
import Derived.Test.YteidebllianiiaaGreatDoorPAllx0
import Derived.Test.YteidebllianiiaaGreatDoorSq
import Derived.Test.YteidebllianiiaaGreatDoorPAllx5
namespace Go.Proofs.YteidebllianiiaaGreatDoor.PAll
open Go.RowKit Go.Proofs.YteidebllianiiaaGreatDoorW.PrintWords Go.Proofs.YteidebllianiiaaGreatDoorW.PrintLast Go.Proofs.YteidebllianiiaaGreatDoorW.PrintMore
attribute [local go_sem] max2_int min2_int max_two min_two max_three min_three max_four min_four   -- for this text's walks alone
set_option linter.unusedVariables false
set_option linter.unusedSimpArgs false

-- NOT PRINTED: function 102 (slices_partitionOrdered_string)

-- NOT PRINTED: function 73 (slices_pdqsortOrdered_string)

-- NOT PRINTED: function 55 (slices_Sort_string_string)

-- NOT PRINTED: function 30 (slices_Sorted_string)

-- NOT PRINTED: function 31 (api_Posting)

-- NOT PRINTED: function 10 (buffer_Buffer_Keys)

-- NOT PRINTED: function 32 (slices_Clone_int_int)

-- NOT PRINTED: function 11 (buffer_Buffer_Postings)

/-! ### concordanceref04_Rises: function 33 -/
def concordanceref04_Rises.l0 : Nat → List Int → Int → Option (Bool)
 | 0, _, _ => none
 | k + 1, x0, x3 => if x3 < (x0.length : Int) then (if 0 ≤ x3 then (if (rd x0 x3) < 0 then (some false) else (if x3 > 0 then (if 0 ≤ (wrap64 (x3 - 1)) then (if (wrap64 (x3 - 1)) < (x0.length : Int) then (if (rd x0 x3) ≤ (rd x0 (wrap64 (x3 - 1))) then (some false) else (concordanceref04_Rises.l0 k x0 (wrap64 (x3 + 1)))) else (none)) else (none)) else (concordanceref04_Rises.l0 k x0 (wrap64 (x3 + 1))))) else (none)) else (some true)
def concordanceref04_Rises.f (k : Nat) (l0 : List Int) : Option (Bool) := concordanceref04_Rises.l0 k l0 0
theorem concordanceref04_Rises.mono_l : ∀ k, (∀ y0 y1, LeO (concordanceref04_Rises.l0 k y0 y1) (concordanceref04_Rises.l0 (k + 1) y0 y1))
 | 0 => fun _ _ r h => by simp [concordanceref04_Rises.l0] at h
 | k + 1 => by
  have ih0 := concordanceref04_Rises.mono_l k
  ·intro y0 y1
   unfold concordanceref04_Rises.l0
   repeat' first
   | (with_reducible exact ih0 _ _)
   | (with_reducible exact LeO.refl _)
   | (with_reducible exact LeO.none _)
   | (with_reducible refine LeO.ite ?_ ?_)
   | (with_reducible refine LeO.bind ?_ (fun _ => ?_))
   | exact ih0 _ _
   | exact LeO.none _
   | refine LeO.ite ?_ ?_
   | refine LeO.bind ?_ (fun _ => ?_)
theorem concordanceref04_Rises.mono : ∀ a0 k, LeO (concordanceref04_Rises.f k a0) (concordanceref04_Rises.f (k + 1) a0) := by
 intro a0 k
 have ih0 := concordanceref04_Rises.mono_l k
 unfold concordanceref04_Rises.f
 repeat' first
   | (with_reducible exact ih0 _ _)
   | (with_reducible exact LeO.refl _)
   | (with_reducible exact LeO.none _)
   | (with_reducible refine LeO.ite ?_ ?_)
   | (with_reducible refine LeO.bind ?_ (fun _ => ?_))
   | exact ih0 _ _
   | exact LeO.none _
   | refine LeO.ite ?_ ?_
   | refine LeO.bind ?_ (fun _ => ?_)
set_option maxHeartbeats 8000000 in
set_option maxRecDepth 100000 in
theorem concordanceref04_Rises.calls (k : Nat) (A0 : Option Addr) (c0 : Nat) (l0 : List Int) (r : Bool) (w : World) (hr0 : Kd.C (Kd.int .i64) w A0 l0.length l0) (hc0 : l0.length ≤ c0) (h : concordanceref04_Rises.f k l0 = some r) :
  Calls Tryz.prog 33 #[.slice A0 l0.length c0] w fun e w' => e = .returned (.bool r) ∧ Drawn0 w w' := by
 have HR0 := Aside0.mk hr0
 have HC0 := Aside0.mk hc0
 clear hr0 hc0
 have H : (concordanceref04_Rises.l0 k l0 0) = some r := h
 clear h
 have H' := Aside0.mk H
 clear H
 go_enter Tryz.func33, Tryz.ntmps33
 go_wp2
 repeat (go_quiet (fail); try go_wp2)
 go_loopg [3] k (fun kq v3 w' => ∃ (x3_1 : Int), v3 = .int .i64 x3_1 ∧ Aside0 (concordanceref04_Rises.l0 kq l0 x3_1 = some r) ∧ Aside0 (kq ≤ k) ∧ Drawn0 w w')
 case atStart => exact ⟨(0), (by first | rfl | (simp; done) | (simp [*]; done)), H', ⟨Nat.le_refl _⟩, by repeat (first | exact Drawn0.refl _ | apply Drawn0.step)⟩
 case round =>
  clear H'
  obtain ⟨x3_1, rfl, HA, HK1, ⟨m1, rfl⟩⟩ := hrel
  cases gk with
  | zero => exact absurd HA.out (by simp [concordanceref04_Rises.l0])
  | succ k1 =>
   have H := HA.out
   clear HA
   simp only [concordanceref04_Rises.l0] at H
   by_cases c2 : x3_1 < (l0.length : Int)
   ·rw [if_pos c2] at H
    have c2b0 : decide (x3_1 < (l0.length : Int)) = true := decide_eq_true c2
    clear c2
    by_cases c3 : 0 ≤ x3_1
    ·rw [if_pos c3] at H
     have c3b0 : decide (0 ≤ x3_1) = true := decide_eq_true c3
     clear c3
     by_cases c4 : (rd l0 x3_1) < 0
     ·rw [if_pos c4] at H
      have c4b0 : decide ((rd l0 x3_1) < 0) = true := decide_eq_true c4
      clear c4
      obtain rfl := Option.some.inj H
      have p333 : 0 ≤ (x3_1 : Int) := of_decide_eq_true (by assumption)
      have q333 : x3_1 < (l0.length : Int) := of_decide_eq_true (by assumption)
      obtain ⟨ad333, e333, hx333_0⟩ := Kd.at_int HR0.out x3_1 p333 q333
      cases e333
      replace p333 := eq_true p333
      replace q333 := eq_true q333
      go_wp2
      repeat (go_quiet (fail); try go_wp2)
      go_ret
      exact ⟨by first | rfl | (simp; done) | (simp [*]; done), by repeat (first | exact Drawn0.refl _ | apply Drawn0.step)⟩
     ·rw [if_neg c4] at H
      have c4b0 : decide ((rd l0 x3_1) < 0) = false := decide_eq_false c4
      clear c4
      by_cases c5 : x3_1 > 0
      ·rw [if_pos c5] at H
       have c5b0 : decide (0 < x3_1) = true := decide_eq_true c5
       clear c5
       obtain ⟨ji6, hji6⟩ : ∃ j_ : Int, (wrap64 (x3_1 - 1)) = j_ := ⟨_, rfl⟩
       first | rw [hji6] at H | simp only [hji6] at H
       have hji6w : (IntKind.i64.wrap (x3_1 - 1)) = ji6 := (i64_w _).trans hji6
       by_cases c7 : 0 ≤ (ji6)
       ·rw [if_pos c7] at H
        have c7b0 : decide (0 ≤ (ji6)) = true := decide_eq_true c7
        clear c7
        by_cases c8 : (ji6) < (l0.length : Int)
        ·rw [if_pos c8] at H
         have c8b0 : decide ((ji6) < (l0.length : Int)) = true := decide_eq_true c8
         clear c8
         by_cases c9 : (rd l0 x3_1) ≤ (rd l0 (ji6))
         ·rw [if_pos c9] at H
          have c9b0 : decide ((rd l0 x3_1) ≤ (rd l0 (ji6))) = true := decide_eq_true c9
          clear c9
          obtain rfl := Option.some.inj H
          have p333 : 0 ≤ (x3_1 : Int) := of_decide_eq_true (by assumption)
          have q333 : x3_1 < (l0.length : Int) := of_decide_eq_true (by assumption)
          obtain ⟨ad333, e333, hx333_0⟩ := Kd.at_int HR0.out x3_1 p333 q333
          cases e333
          replace p333 := eq_true p333
          replace q333 := eq_true q333
          have p334 : 0 ≤ (x3_1 : Int) := of_decide_eq_true (by assumption)
          have q334 : x3_1 < (l0.length : Int) := of_decide_eq_true (by assumption)
          obtain ⟨ad334, e334, hx334_0⟩ := Kd.at_int HR0.out x3_1 p334 q334
          obtain rfl : ad333 = ad334 := (by injection e334)
          replace p334 := eq_true p334
          replace q334 := eq_true q334
          have p335 : 0 ≤ ((ji6) : Int) := of_decide_eq_true (by assumption)
          have q335 : (ji6) < (l0.length : Int) := of_decide_eq_true (by assumption)
          obtain ⟨ad335, e335, hx335_0⟩ := Kd.at_int HR0.out (ji6) p335 q335
          obtain rfl : ad333 = ad335 := (by injection e335)
          replace p335 := eq_true p335
          replace q335 := eq_true q335
          go_wp2
          repeat (go_quiet (fail); try go_wp2)
          go_ret
          exact ⟨by first | rfl | (simp; done) | (simp only [← hji6] <;> (first | rfl | simp)) | (simp [*]; done), by repeat (first | exact Drawn0.refl _ | apply Drawn0.step)⟩
         ·rw [if_neg c9] at H
          have c9b0 : decide ((rd l0 x3_1) ≤ (rd l0 (ji6))) = false := decide_eq_false c9
          clear c9
          have H' := Aside0.mk H
          clear H
          have p333 : 0 ≤ (x3_1 : Int) := of_decide_eq_true (by assumption)
          have q333 : x3_1 < (l0.length : Int) := of_decide_eq_true (by assumption)
          obtain ⟨ad333, e333, hx333_0⟩ := Kd.at_int HR0.out x3_1 p333 q333
          cases e333
          replace p333 := eq_true p333
          replace q333 := eq_true q333
          have p334 : 0 ≤ (x3_1 : Int) := of_decide_eq_true (by assumption)
          have q334 : x3_1 < (l0.length : Int) := of_decide_eq_true (by assumption)
          obtain ⟨ad334, e334, hx334_0⟩ := Kd.at_int HR0.out x3_1 p334 q334
          obtain rfl : ad333 = ad334 := (by injection e334)
          replace p334 := eq_true p334
          replace q334 := eq_true q334
          have p335 : 0 ≤ ((ji6) : Int) := of_decide_eq_true (by assumption)
          have q335 : (ji6) < (l0.length : Int) := of_decide_eq_true (by assumption)
          obtain ⟨ad335, e335, hx335_0⟩ := Kd.at_int HR0.out (ji6) p335 q335
          obtain rfl : ad333 = ad335 := (by injection e335)
          replace p335 := eq_true p335
          replace q335 := eq_true q335
          go_wp2
          repeat (go_quiet (fail); try go_wp2)
          go_roundg k1
          case measure => have := HK1.out; omega
          case rel => exact ⟨(wrap64 (x3_1 + 1)), (by first | rfl | (simp; done) | (simp [*]; done)), H', ⟨by have := HK1.out; omega⟩, by repeat (first | exact Drawn0.refl _ | apply Drawn0.step)⟩
        ·rw [if_neg c8] at H
         exact absurd H (by simp)
       ·rw [if_neg c7] at H
        exact absurd H (by simp)
      ·rw [if_neg c5] at H
       have c5b0 : decide (0 < x3_1) = false := decide_eq_false c5
       clear c5
       have H' := Aside0.mk H
       clear H
       have p333 : 0 ≤ (x3_1 : Int) := of_decide_eq_true (by assumption)
       have q333 : x3_1 < (l0.length : Int) := of_decide_eq_true (by assumption)
       obtain ⟨ad333, e333, hx333_0⟩ := Kd.at_int HR0.out x3_1 p333 q333
       cases e333
       replace p333 := eq_true p333
       replace q333 := eq_true q333
       go_wp2
       repeat (go_quiet (fail); try go_wp2)
       go_roundg k1
       case measure => have := HK1.out; omega
       case rel => exact ⟨(wrap64 (x3_1 + 1)), (by first | rfl | (simp; done) | (simp [*]; done)), H', ⟨by have := HK1.out; omega⟩, by repeat (first | exact Drawn0.refl _ | apply Drawn0.step)⟩
    ·rw [if_neg c3] at H
     exact absurd H (by simp)
   ·rw [if_neg c2] at H
    have c2b0 : decide (x3_1 < (l0.length : Int)) = false := decide_eq_false c2
    clear c2
    obtain rfl := Option.some.inj H
    go_wp2
    repeat (go_quiet (fail); try go_wp2)
    go_ret
    exact ⟨by first | rfl | (simp; done) | (simp [*]; done), by repeat (first | exact Drawn0.refl _ | apply Drawn0.step)⟩

/-! ### concordanceref05_May: function 12 -/
def concordanceref05_May.l0 : Nat → List (S41) → Int → Option (Bool)
 | 0, _, _ => none
 | k + 1, x0, x3 => if x3 < (x0.length : Int) then (if 0 ≤ x3 then ((concordanceref04_Rises.f k ((rd_T41 x0 x3).f1)).bind fun t337 => (if ((rd_T41 x0 x3).f0) < 0 then (some false) else (if ((rd_T41 x0 x3).f0) ≥ 2147483648 then (some false) else (if x3 > 0 then (if 0 ≤ (wrap64 (x3 - 1)) then (if (wrap64 (x3 - 1)) < (x0.length : Int) then (if ((rd_T41 x0 x3).f0) ≤ ((rd_T41 x0 (wrap64 (x3 - 1))).f0) then (some false) else (if (((rd_T41 x0 x3).f1).length : Int) = 0 then (some false) else (if t337 = true then (if 0 ≤ (wrap64 ((((rd_T41 x0 x3).f1).length : Int) - 1)) then (if (wrap64 ((((rd_T41 x0 x3).f1).length : Int) - 1)) < (((rd_T41 x0 x3).f1).length : Int) then (if (rd ((rd_T41 x0 x3).f1) (wrap64 ((((rd_T41 x0 x3).f1).length : Int) - 1))) ≥ 2147483648 then (some false) else (concordanceref05_May.l0 k x0 (wrap64 (x3 + 1)))) else (none)) else (none)) else (some false)))) else (none)) else (none)) else (if (((rd_T41 x0 x3).f1).length : Int) = 0 then (some false) else (if t337 = true then (if 0 ≤ (wrap64 ((((rd_T41 x0 x3).f1).length : Int) - 1)) then (if (wrap64 ((((rd_T41 x0 x3).f1).length : Int) - 1)) < (((rd_T41 x0 x3).f1).length : Int) then (if (rd ((rd_T41 x0 x3).f1) (wrap64 ((((rd_T41 x0 x3).f1).length : Int) - 1))) ≥ 2147483648 then (some false) else (concordanceref05_May.l0 k x0 (wrap64 (x3 + 1)))) else (none)) else (none)) else (some false))))))) else (none)) else (some true)
def concordanceref05_May.f (k : Nat) (l0 : List (S41)) : Option (Bool) := concordanceref05_May.l0 k l0 0
theorem concordanceref05_May.mono_l : ∀ k, (∀ y0 y1, LeO (concordanceref05_May.l0 k y0 y1) (concordanceref05_May.l0 (k + 1) y0 y1))
 | 0 => fun _ _ r h => by simp [concordanceref05_May.l0] at h
 | k + 1 => by
  have ih0 := concordanceref05_May.mono_l k
  ·intro y0 y1
   unfold concordanceref05_May.l0
   repeat' first
   | (with_reducible exact ih0 _ _)
   | (with_reducible exact concordanceref04_Rises.mono _ _)
   | (with_reducible exact LeO.refl _)
   | (with_reducible exact LeO.none _)
   | (with_reducible refine LeO.ite ?_ ?_)
   | (with_reducible refine LeO.bind ?_ (fun _ => ?_))
   | exact ih0 _ _
   | exact concordanceref04_Rises.mono _ _
   | exact LeO.none _
   | refine LeO.ite ?_ ?_
   | refine LeO.bind ?_ (fun _ => ?_)
theorem concordanceref05_May.mono : ∀ a0 k, LeO (concordanceref05_May.f k a0) (concordanceref05_May.f (k + 1) a0) := by
 intro a0 k
 have ih0 := concordanceref05_May.mono_l k
 unfold concordanceref05_May.f
 repeat' first
   | (with_reducible exact ih0 _ _)
   | (with_reducible exact concordanceref04_Rises.mono _ _)
   | (with_reducible exact LeO.refl _)
   | (with_reducible exact LeO.none _)
   | (with_reducible refine LeO.ite ?_ ?_)
   | (with_reducible refine LeO.bind ?_ (fun _ => ?_))
   | exact ih0 _ _
   | exact concordanceref04_Rises.mono _ _
   | exact LeO.none _
   | refine LeO.ite ?_ ?_
   | refine LeO.bind ?_ (fun _ => ?_)

-- NOT PRINTED: function 13 (buffer_Buffer_Words)

/-! ### concordanceref08_Words: function 57 -/
def concordanceref08_Words.l0 : Nat → ByteArray → Int → Int → List (S50) → Option (List ByteArray)
 | 0, _, _, _, _ => none
 | k + 1, x1, x5, x351000, x351001 => if x5 < (x351001.length : Int) then (if 0 ≤ x5 then (if ((rd_T50 x351001 x5).f0).toList = x1.toList then ((concordanceref02_Words.f k ((rd_T50 x351001 x5).f1)).bind fun t353 => (some t353)) else (concordanceref08_Words.l0 k x1 (wrap64 (x5 + 1)) x351000 x351001)) else (none)) else (some ([] : List ByteArray))
def concordanceref08_Words.f (k : Nat) (a0_0 : Int) (l0_1 : List (S50)) (a1 : ByteArray) : Option (List ByteArray) := concordanceref08_Words.l0 k a1 0 a0_0 l0_1
theorem concordanceref08_Words.mono_l : ∀ k, (∀ y0 y1 y2 y3, LeO (concordanceref08_Words.l0 k y0 y1 y2 y3) (concordanceref08_Words.l0 (k + 1) y0 y1 y2 y3))
 | 0 => fun _ _ _ _ r h => by simp [concordanceref08_Words.l0] at h
 | k + 1 => by
  have ih0 := concordanceref08_Words.mono_l k
  ·intro y0 y1 y2 y3
   unfold concordanceref08_Words.l0
   repeat' first
   | (with_reducible exact ih0 _ _ _ _)
   | (with_reducible exact concordanceref02_Words.mono _ _)
   | (with_reducible exact LeO.refl _)
   | (with_reducible exact LeO.none _)
   | (with_reducible refine LeO.ite ?_ ?_)
   | (with_reducible refine LeO.bind ?_ (fun _ => ?_))
   | exact ih0 _ _ _ _
   | exact concordanceref02_Words.mono _ _
   | exact LeO.none _
   | refine LeO.ite ?_ ?_
   | refine LeO.bind ?_ (fun _ => ?_)
theorem concordanceref08_Words.mono : ∀ a0 a1 a2 k, LeO (concordanceref08_Words.f k a0 a1 a2) (concordanceref08_Words.f (k + 1) a0 a1 a2) := by
 intro a0 a1 a2 k
 have ih0 := concordanceref08_Words.mono_l k
 unfold concordanceref08_Words.f
 repeat' first
   | (with_reducible exact ih0 _ _ _ _)
   | (with_reducible exact concordanceref02_Words.mono _ _)
   | (with_reducible exact LeO.refl _)
   | (with_reducible exact LeO.none _)
   | (with_reducible refine LeO.ite ?_ ?_)
   | (with_reducible refine LeO.bind ?_ (fun _ => ?_))
   | exact ih0 _ _ _ _
   | exact concordanceref02_Words.mono _ _
   | exact LeO.none _
   | refine LeO.ite ?_ ?_
   | refine LeO.bind ?_ (fun _ => ?_)
set_option maxHeartbeats 8000000 in
set_option maxRecDepth 100000 in
theorem concordanceref08_Words.calls (k : Nat) (a0_0 : Int) (A0_1 : Option Addr) (c0_1 : Nat) (l0_1 : List (S50)) (a1 : ByteArray) (r : List ByteArray) (w : World) (hr0_1 : Kd.C k50 w A0_1 l0_1.length l0_1) (hc0_1 : l0_1.length ≤ c0_1) (h : concordanceref08_Words.f k a0_0 l0_1 a1 = some r) :
  Calls Tryz.prog 57 #[.agg #[.int .i64 a0_0, .slice A0_1 l0_1.length c0_1], .string a1] w fun e w' => ∃ v0_ : Value, e = .returned (v0_) ∧ Kd.R Kd.string 9 w' w.heap.size (fun _ => True) v0_ r ∧ Below w.heap.size w w' := by
 have hu31 := Tryz.underlying31
 have HR0_1 := Aside0.mk hr0_1
 have HC0_1 := Aside0.mk hc0_1
 clear hr0_1 hc0_1
 have HB := sA (Below.refl w.heap.size w)
 have H : (concordanceref08_Words.l0 k a1 0 a0_0 l0_1) = some r := h
 clear h
 have H' := Aside0.mk H
 clear H
 go_enter Tryz.func57, Tryz.ntmps57
 go_wp2_with (first | ((with_reducible refine gate_dst (N := 2) rfl ?_); refine box_event ?hg (N := 2) ?hd (cs := #[.int .i64 a0_0, .slice A0_1 l0_1.length c0_1]) (t := 31) ?hr ?_; (case hd => rfl); (case hg => rfl); (case hr => first | (go_simp; done) | (go_simp; rfl)); intro gb350 hg w3 hbox hb; have BK350 := sA (hbox); have GW350 := sA ((by rw [hg]; exact (below_size (sW HB.out)) : w.heap.size ≤ gb350)); have GE350 := sA ((by rw [hg]; exact (below_size (sW HB.out)) : w.heap.size ≤ gb350)); replace HB := sA (below_step (sW HB.out) hb); clear hb hbox hg))
 go_loopg [5] k (fun kq v5 w' => ∃ (x5_1 : Int), v5 = .int .i64 x5_1 ∧ Aside0 (concordanceref08_Words.l0 kq a1 x5_1 a0_0 l0_1 = some r) ∧ Aside0 (kq ≤ k) ∧ Aside0 (w'.heap[gb350]? = some (.cells #[.int .i64 a0_0, (.slice A0_1 l0_1.length c0_1)] 31 (0, 0))) ∧ Aside0 (Below w.heap.size w w'))
 case atStart => exact ⟨(0), (by first | rfl | (simp; done) | (simp [*]; done)), H', ⟨Nat.le_refl _⟩, ⟨sB BK350.out⟩, ⟨by repeat (first | exact sW HB.out | refine sS ?_)⟩⟩
 case round =>
  clear H'
  try clear p2
  obtain ⟨x5_1, rfl, HA, HK1, BK350, HB⟩ := hrel
  cases gk with
  | zero => exact absurd HA.out (by simp [concordanceref08_Words.l0])
  | succ k1 =>
   have H := HA.out
   clear HA
   simp only [concordanceref08_Words.l0] at H
   by_cases c4 : x5_1 < (l0_1.length : Int)
   ·rw [if_pos c4] at H
    have c4b0 : decide (x5_1 < (l0_1.length : Int)) = true := decide_eq_true c4
    clear c4
    by_cases c5 : 0 ≤ x5_1
    ·rw [if_pos c5] at H
     have c5b0 : decide (0 ≤ x5_1) = true := decide_eq_true c5
     clear c5
     by_cases c6 : ((rd_T50 l0_1 x5_1).f0).toList = a1.toList
     ·rw [if_pos c6] at H
      have c6b0 : (((rd_T50 l0_1 x5_1).f0).toList == a1.toList) = true := beq_iff_eq.mpr c6
      have c6b1 : (((rd_T50 l0_1 x5_1).f0).toList != a1.toList) = false := bne_eq_false_iff_eq.mpr c6
      clear c6
      replace H := Option.bind_eq_some_iff.mp H
      obtain ⟨t353, A70, H⟩ := H
      have A7 := Aside0.mk A70
      clear A70
      obtain rfl := Option.some.inj H
      have hcz8_0 := c0 BK350.out
      have hcz8_1 := c1 BK350.out
      have hfz8_0 := blk_frozen BK350.out 0
      have hfz8_1 := blk_frozen BK350.out 1
      have p351 : 0 ≤ (x5_1 : Int) := of_decide_eq_true (by assumption)
      have q351 : x5_1 < (l0_1.length : Int) := of_decide_eq_true (by assumption)
      obtain ⟨ad351, e351, hx351_0, hx351_1⟩ := at_T50 HR0_1.out x5_1 p351 q351
      cases e351
      replace hx351_0 := (HB.out.cell (World.block_lt_of_cell? w _ hx351_0)).trans hx351_0
      replace hx351_1 := (HB.out.cell (World.block_lt_of_cell? w _ hx351_1)).trans hx351_1
      replace p351 := eq_true p351
      replace q351 := eq_true q351
      have p352 : 0 ≤ (x5_1 : Int) := of_decide_eq_true (by assumption)
      have q352 : x5_1 < (l0_1.length : Int) := of_decide_eq_true (by assumption)
      obtain ⟨ad352, e352, hx352_0, hx352_1⟩ := at_T50 HR0_1.out x5_1 p352 q352
      obtain rfl : ad351 = ad352 := (by injection e352)
      replace hx352_0 := (HB.out.cell (World.block_lt_of_cell? w _ hx352_0)).trans hx352_0
      replace hx352_1 := (HB.out.cell (World.block_lt_of_cell? w _ hx352_1)).trans hx352_1
      replace p352 := eq_true p352
      replace q352 := eq_true q352
      go_wp2_with (first | ((with_reducible refine gate_callee (f := 75) rfl ?_); refine goesL_ (some 27) rfl rfl Tryz.func75 (by kernel_rfl) rfl #[.string ((rd_T50 l0_1 x5_1).f1)] rfl (by (try simp only [List.map_toArray, List.map_cons, List.map_nil]); first | done | rfl | (simp only [List.length_drop, List.length_take]; rfl)) ?_; (with_reducible refine (concordanceref02_Words.calls k1 ((rd_T50 l0_1 x5_1).f1) t353 _ A7.out).mono ?_); rintro e w9 ⟨v354, rfl, ho0, hb⟩; refine ⟨_, rfl, ?_⟩; have HO355 := sA (Kd.R_lower ho0 (below_size (by repeat (first | exact sW HB.out | refine sS ?_)))); replace BK350 := sA (blk_below (sB BK350.out) hb); replace HB := sA (below_step (by repeat (first | exact sW HB.out | refine sS ?_)) hb); (try clear hb); (try clear hb2); (try clear hk); (try clear hi); (try clear ho0)))
      go_ret
      exact ⟨_, by first | rfl | (simp [errW_none, errW_some] <;> rfl) | (simp [*, errW_none, errW_some] <;> rfl), sR HO355.out, by repeat (first | exact sW HB.out | refine sS ?_)⟩
     ·rw [if_neg c6] at H
      have c6b0 : (((rd_T50 l0_1 x5_1).f0).toList == a1.toList) = false := beq_eq_false_iff_ne.mpr c6
      have c6b1 : (((rd_T50 l0_1 x5_1).f0).toList != a1.toList) = true := bne_iff_ne.mpr c6
      have H' := Aside0.mk H
      clear H
      have hcz10_0 := c0 BK350.out
      have hcz10_1 := c1 BK350.out
      have hfz10_0 := blk_frozen BK350.out 0
      have hfz10_1 := blk_frozen BK350.out 1
      have p351 : 0 ≤ (x5_1 : Int) := of_decide_eq_true (by assumption)
      have q351 : x5_1 < (l0_1.length : Int) := of_decide_eq_true (by assumption)
      obtain ⟨ad351, e351, hx351_0, hx351_1⟩ := at_T50 HR0_1.out x5_1 p351 q351
      cases e351
      replace hx351_0 := (HB.out.cell (World.block_lt_of_cell? w _ hx351_0)).trans hx351_0
      replace hx351_1 := (HB.out.cell (World.block_lt_of_cell? w _ hx351_1)).trans hx351_1
      replace p351 := eq_true p351
      replace q351 := eq_true q351
      go_wp2
      go_roundg k1
      case measure => have := HK1.out; omega
      case rel => exact ⟨(wrap64 (x5_1 + 1)), (by first | rfl | (simp; done) | (simp [*]; done)), H', ⟨by have := HK1.out; omega⟩, ⟨sB BK350.out⟩, ⟨by repeat (first | exact sW HB.out | refine sS ?_)⟩⟩
    ·rw [if_neg c5] at H
     exact absurd H (by simp)
   ·rw [if_neg c4] at H
    have c4b0 : decide (x5_1 < (l0_1.length : Int)) = false := decide_eq_false c4
    clear c4
    obtain rfl := Option.some.inj H
    have hcz11_0 := c0 BK350.out
    have hcz11_1 := c1 BK350.out
    have hfz11_0 := blk_frozen BK350.out 0
    have hfz11_1 := blk_frozen BK350.out 1
    go_wp2
    go_ret
    exact ⟨_, by first | rfl | (simp [errW_none, errW_some] <;> rfl) | (simp [*, errW_none, errW_some] <;> rfl), by first | exact Kd.R_nil _ _ _ _ _ | exact Kd.N_nil _ _ _ _ _ | exact Kd.V_nil _ _ _ _ _ | exact Kd.Q_nil _ _ _ _ _ | exact Kd.S_nil _ _ _ _ _, by repeat (first | exact sW HB.out | refine sS ?_)⟩

end Go.Proofs.YteidebllianiiaaGreatDoor.PAll
