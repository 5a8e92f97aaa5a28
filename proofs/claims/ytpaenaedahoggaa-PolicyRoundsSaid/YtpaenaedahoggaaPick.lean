import Derived.Test.YtpaenaedahoggaaRows
import Derived.Test.YtpaenaedahoggaaPolEv
import Derived.Deep.QuietTactic
import Derived.BigQuiet
import Derived.WalkSpells
import Derived.WalkLawsBesides
/-! policy.Pick: the run that is merged. -/
namespace Go.Proofs.Ytpaenaedahoggaa
open Go.RowKit Go.Proofs.Ytpaenaedahoggaa.PAll Go.Proofs.YtpaenaedahoggaaW.PrintWords Go.Proofs.YtpaenaedahoggaaW.PrintLast Go.Proofs.YtpaenaedahoggaaW.PrintMore
attribute [local go_sem] max2_int min2_int max_two min_two

/-- The weight of a run, as the closure tells it. -/
theorem weight_any (B1 B2 : Nat) (A : Option Addr) (c : Nat) (l : List Int) (m : List Int) (i width : Nat) (w : World) (hl : Fits l)
    (h1 : w.cell? ⟨B1, 0, none⟩ = some (.slice A m.length c)) (h2 : w.cell? ⟨B2, 0, none⟩ = some (.int .i64 width)) (hm : m = sumsM l) (hr : Kd.C (Kd.int .i64) w A m.length m) (hi : i + width ≤ l.length) :
    Calls Try.prog 22 #[.int .i64 i, .pointer (some ⟨B1, 0, none⟩), .pointer (some ⟨B2, 0, none⟩)] w fun e w' => e = .returned (.int .i64 (wt l width i)) ∧ ∃ n, w' = w.drewN n := by
  have hlen := hl.1
  have hml : m.length = l.length + 1 := by rw [hm, sumsM_length]
  obtain ⟨ad, rfl, hc1⟩ := Kd.at_int hr ((i + width : Nat) : Int) (by omega) (by omega)
  obtain ⟨ad', e', hc2⟩ := Kd.at_int hr (i : Int) (by omega) (by omega)
  cases e'
  rw [Int.toNat_natCast, rd_getD, hm, sumsM_get l _ (by omega)] at hc1
  rw [Int.toNat_natCast, rd_getD, hm, sumsM_get l _ (by omega)] at hc2
  have p1 := pre_range l hl (i + width)
  have p2 := pre_range l hl i
  have HW := Lib.hid (show wt l width i = pre l (i + width) - pre l i from rfl)
  have g1 : (0 : Int) ≤ (i : Int) + (width : Int) := by omega
  have g2 : (i : Int) + (width : Int) < (m.length : Int) := by omega
  have g3 : (i : Int) < (m.length : Int) := by omega
  have g4 : ((i : Int) + (width : Int)).toNat = i + width := by omega
  generalize m.length = n at *
  clear hr hm
  go_enter Try.func22, Try.ntmps22
  go_wp2_with fail
  go_quiet (fail)
  go_wp2
  go_ret
  exact ⟨by rw [HW.out]; rfl, ⟨_, rfl⟩⟩

theorem c_sums (A : Option Addr) (c : Nat) (l : List Int) (w : World) (hr : Kd.C (Kd.int .i64) w A l.length l) (hc : l.length ≤ c) (hl : Fits l) :
    Calls Try.prog 21 #[.slice A l.length c] w fun e w' => ∃ m A2 c2, e = .returned (.slice A2 m.length c2) ∧ Hid (m = sumsM l) ∧ Kd.C (Kd.int .i64) w' A2 m.length m ∧ Below w.heap.size w w' := by
  obtain ⟨k, hk⟩ := (sums_ev l hl).rounds
  refine (policy_sums.calls k A c l _ w hr hc hk).mono ?_
  rintro e w' ⟨v, rfl, h, hb⟩
  obtain ⟨A2, c2, rfl, _, h2⟩ := Kd.R_reads h
  exact ⟨_, A2, c2, rfl, Lib.hid rfl, h2, hb⟩
theorem two_new (w : World) (o o' : Obj) {w1 : World} (hb : Below ((w.alloc o).alloc o').heap.size ((w.alloc o).alloc o') w1) : Below w.heap.size w w1 :=
  (((Below.refl _ _).alloc (Nat.le_refl _) _).alloc (by simp) _).trans (hb.mono (by simp; omega))

set_option maxHeartbeats 2000000 in
set_option maxRecDepth 100000 in
theorem pick_any (A : Option Addr) (c : Nat) (l : List Int) (most width : Int) (w : World) (hr : Kd.C (Kd.int .i64) w A l.length l) (hc : l.length ≤ c) (hl : Fits l) :
    Calls Try.prog 10 #[.slice A l.length c, .int .i64 most, .int .i64 width] w fun e w' => ∃ r, r = pickM l most width ∧ e = .returned (.tuple #[.agg #[.int .i64 r.1, .int .i64 r.2.1], .bool r.2.2]) ∧ Below w.heap.size w w' := by
  have hlen := hl.1
  have hM : (if most < 1 then (1 : Int) else most) = max most 1 := by split <;> omega
  by_cases hm : (l.length : Int) ≤ max most 1
  · have HP := Lib.hid (show pickM l most width = (0, 0, false) from if_pos hm)
    have hmb : decide ((l.length : Int) ≤ max most 1) = true := decide_eq_true hm
    clear hm
    generalize max most 1 = M at *
    generalize l.length = n at *
    go_enter Try.func10, Try.ntmps10
    go_wp2_with fail
    refine bodyPost_ret (v := .tuple #[.agg #[.int .i64 0, .int .i64 0], .bool false]) (by simp [results, Try.results10, go_sem]) rfl ⟨(0, 0, false), HP.out.symm, rfl, ?_⟩
    exact ((Below.refl _ _).alloc (Nat.le_refl _) _).alloc (by simp) _
  · have HP := Lib.hid (show pickM l most width = ((best l (wide l.length width) (l.length - wide l.length width + 1) : Int), (best l (wide l.length width) (l.length - wide l.length width + 1) : Int) + (wide l.length width : Int), true) from if_neg hm)
    have hmb : decide ((l.length : Int) ≤ max most 1) = false := decide_eq_false hm
    have h2 : 2 ≤ l.length := by omega
    have hW : (if width < 2 then (2 : Int) else width) = max width 2 := by split <;> omega
    have hN : (if (l.length : Int) < max width 2 then (l.length : Int) else max width 2) = (wide l.length width : Int) := by unfold wide; split <;> omega
    have hwn : wide l.length width ≤ l.length := by unfold wide; omega
    have hw2 : 2 ≤ wide l.length width := by unfold wide; omega
    clear hm
    generalize max most 1 = M at *
    generalize max width 2 = W2 at *
    generalize hwd : wide l.length width = wd at *
    have Hwd := Lib.hid hwd
    clear hwd
    go_enter Try.func10, Try.ntmps10
    go_wp2_with fail
    refine (c_sums A c l _ (Kd.C_below hr (((Below.refl _ w).alloc (Nat.le_refl _) _).alloc (by simp) _)) hc hl).mono ?_
    rintro e w1 ⟨m, A2, c2, rfl, Hm, hrm, hb1⟩
    have hb := two_new w _ _ hb1
    have x1 : w1.cell? ⟨w.heap.size, 0, none⟩ = some (.int .i64 wd) := (hb1.cell (p := ⟨w.heap.size, 0, none⟩) (by simp; omega)).trans (by rw [World.cell?_alloc_past _ _ _ (by simp), World.cell?_alloc_at _ _ _ _ rfl]; rfl)
    have x2 : w1.cell? ⟨w.heap.size + 1, 0, none⟩ = some (.int .i64 0) := (hb1.cell (p := ⟨w.heap.size + 1, 0, none⟩) (by simp)).trans (by rw [World.cell?_alloc_at _ _ _ _ (by simp)]; rfl)
    have x3 : w1.cell? ⟨w.heap.size + 1, 1, none⟩ = some (.int .i64 0) := (hb1.cell (p := ⟨w.heap.size + 1, 1, none⟩) (by simp)).trans (by rw [World.cell?_alloc_at _ _ _ _ (by simp)]; rfl)
    have y2 : w1.frozen? ⟨w.heap.size + 1, 0, none⟩ = false := (hb1.frozen (p := ⟨w.heap.size + 1, 0, none⟩) (by simp)).trans (World.frozen?_alloc_at _ _ _ _ (by simp))
    have y3 : w1.frozen? ⟨w.heap.size + 1, 1, none⟩ = false := (hb1.frozen (p := ⟨w.heap.size + 1, 1, none⟩) (by simp)).trans (World.frozen?_alloc_at _ _ _ _ (by simp))
    have hz1 : w.heap.size + 1 < w1.heap.size := by have := hb1.size; simp at this; omega
    have hz0 : w.heap.size < w1.heap.size := by omega
    clear hb1
    have hmf : ∀ (fn : Fn) (first cap : Array Value) (w : World), (Instr.makeFunc fn first cap).run Try.prog w = .ok (.func fn first cap) w := fun _ _ _ _ => rfl
    go_wp2_with fail
    have hws : Below w.heap.size w (w1.alloc (.cells #[.slice A2 m.length c2] 22)) := hb.alloc (by omega) _
    have z1 : (w1.alloc (.cells #[.slice A2 m.length c2] 22)).cell? ⟨w1.heap.size, 0, none⟩ = some (.slice A2 m.length c2) := by rw [World.cell?_alloc_at _ _ _ _ rfl]; rfl
    have z2 : (w1.alloc (.cells #[.slice A2 m.length c2] 22)).cell? ⟨w.heap.size, 0, none⟩ = some (.int .i64 wd) := by rw [World.cell?_alloc_past _ _ _ hz0]; exact x1
    have z3 : (w1.alloc (.cells #[.slice A2 m.length c2] 22)).cell? ⟨w.heap.size + 1, 0, none⟩ = some (.int .i64 0) := by rw [World.cell?_alloc_past _ _ _ hz1]; exact x2
    have z4 : (w1.alloc (.cells #[.slice A2 m.length c2] 22)).cell? ⟨w.heap.size + 1, 1, none⟩ = some (.int .i64 0) := by rw [World.cell?_alloc_past _ _ _ hz1]; exact x3
    have z5 : (w1.alloc (.cells #[.slice A2 m.length c2] 22)).frozen? ⟨w.heap.size + 1, 0, none⟩ = false := by rw [World.frozen?_alloc_past _ _ _ hz1]; exact y2
    have z6 : (w1.alloc (.cells #[.slice A2 m.length c2] 22)).frozen? ⟨w.heap.size + 1, 1, none⟩ = false := by rw [World.frozen?_alloc_past _ _ _ hz1]; exact y3
    have zr : Kd.C (Kd.int .i64) (w1.alloc (.cells #[.slice A2 m.length c2] 22)) A2 m.length m := Kd.C_below hrm ((Below.refl _ w1).alloc (Nat.le_refl _) _)
    generalize w1.alloc (.cells #[.slice A2 m.length c2] 22) = w2 at *
    clear x1 x2 x3 y2 y3 hrm hb hr
    go_loopw [11, 31] (fun b i wr => ∃ k q : Nat, k ≤ l.length - wd + 1 ∧ i = .int .i64 k ∧ b = .int .i64 (best l wd k) ∧ wr = w2.drewN q) (fun _ i _ => l.length - wd + 1 - (intOf i).toNat)
    case atStart => exact ⟨0, 0, by omega, rfl, rfl, rfl⟩
    case round =>
      obtain ⟨k, q, hk, rfl, rfl, rfl⟩ := hrel
      have hbl := best_le l wd k
      by_cases hlt : k < l.length - wd + 1
      · have hlt2 : (k : Int) < (l.length : Int) - (wd : Int) + 1 := by omega
        have HS := Lib.hid (show best l wd (k + 1) = if wt l wd k < wt l wd (best l wd k) then k else best l wd k from rfl)
        go_wp2_with fail
        refine (weight_any w1.heap.size w.heap.size A2 c2 l m k wd (w2.drewN q) hl z1 z2 Hm.out (Kd.C_drewN zr q) (by omega)).mono ?_
        rintro e w3 ⟨rfl, q2, rfl⟩
        go_wp2_with fail
        refine (weight_any w1.heap.size w.heap.size A2 c2 l m (best l wd k) wd (w2.drewN (q + q2)) hl z1 z2 Hm.out (Kd.C_drewN zr (q + q2)) (by omega)).mono ?_
        rintro e w3 ⟨rfl, q3, rfl⟩
        go_wp2
        all_goals
          go_roundw
          case rel => exact ⟨k + 1, _, by omega, by go_num, by rw [HS.out]; first | rw [if_pos (by assumption)] | rw [if_neg (by omega)], rfl⟩
          case measure => simp [intOf]; omega
      · obtain rfl : k = l.length - wd + 1 := by omega
        have hge : (l.length : Int) - (wd : Int) + 1 ≤ ((l.length - wd + 1 : Nat) : Int) := by omega
        have hNb : l.length - wd + 1 ≤ 1000001 := by omega
        generalize l.length - wd + 1 = N at *
        go_wp2_with fail
        refine bodyPost_ret (v := .tuple #[.agg #[.int .i64 (best l wd N), .int .i64 ((best l wd N : Int) + (wd : Int))], .bool true]) (by simp [results, Try.results10, go_sem, z3, z4]) rfl ⟨((best l wd N : Int), (best l wd N : Int) + (wd : Int), true), HP.out.symm, rfl, ?_⟩
        have hq : Below w.heap.size w (w2.drewN q) := ⟨hws.os, hws.tape, hws.output, hws.size, hws.block⟩
        exact (hq.setCell (p := ⟨w.heap.size + 1, 0, none⟩) (Nat.le_succ _) _).setCell (p := ⟨w.heap.size + 1, 1, none⟩) (Nat.le_succ _) _

def policy_Pick.f (l0 : List Int) (a1 : Int) (a2 : Int) : Option (Int × Int × Bool) := if Fits l0 then some (pickM l0 a1 a2) else none
theorem policy_Pick.calls (A0 : Option Addr) (c0 : Nat) (l0 : List Int) (a1 : Int) (a2 : Int) (r1 : Int) (r2 : Int) (r3 : Bool) (w : World) (hr0 : Kd.C (Kd.int .i64) w A0 l0.length l0) (hc0 : l0.length ≤ c0) (h : policy_Pick.f l0 a1 a2 = some (r1, r2, r3)) :
    Calls Try.prog 10 #[.slice A0 l0.length c0, .int .i64 a1, .int .i64 a2] w fun e w' => e = .returned (.tuple #[.agg #[.int .i64 r1, .int .i64 r2], .bool r3]) ∧ Below w.heap.size w w' := by
  unfold policy_Pick.f at h
  split at h
  · refine (pick_any A0 c0 l0 a1 a2 w hr0 hc0 (by assumption)).mono ?_
    rintro e w' ⟨r, hr, rfl, hb⟩
    rw [← hr] at h
    cases h
    exact ⟨rfl, hb⟩
  · cases h
end Go.Proofs.Ytpaenaedahoggaa
