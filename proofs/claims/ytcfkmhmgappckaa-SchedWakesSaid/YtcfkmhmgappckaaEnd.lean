/- End. No condition but on size. -/
import Derived.Test.YtcfkmhmgappckaaStuck
import Derived.Deep.RegionHeld3
namespace Go.Proofs.Ytcfkmhmgappckaa
open Go.RowKit Go.Proofs.Ytcfkmhmgappckaa.Sc Go.Proofs.Ytcfkmhmgappckaa.PAll Go.Proofs.YtcfkmhmgappckaaW.PrintWords Go.Proofs.YtcfkmhmgappckaaW.PrintLast Go.Proofs.YtcfkmhmgappckaaW.PrintMore

set_option maxHeartbeats 1000000 in
theorem own_any (o t : Int) (v : Value) (p : Nat) (w : World) (hv : v.oneCell' = true) (hc : w.cell? ⟨p, 0, none⟩ = some (.int .i64 t)) :
    Calls Try.prog 39 #[.agg #[.int .i64 o, v], .pointer (some ⟨p, 0, none⟩)] w fun e w' => e = .returned (.bool (o == t)) ∧ Below w.heap.size w w' := by
  have q := World.cell?_alloc_some w _ (Obj.cells #[.int .i64 o, v] 55 (0, 0)) (by rw [hc]; rfl)
  rw [hc] at q
  go_enter Try.func39, Try.ntmps39
  go_wp2
  trace_state
  go_ret
  exact ⟨rfl, below_alloc (Below.refl _ _) _⟩
set_option maxHeartbeats 1000000 in
set_option maxRecDepth 100000 in
theorem idx_mu (M : List (Int × List Int)) (vs : List (Option Nat × Value)) (bM p c : Nat) (t : Int) (w : World) (hl : M.length ≤ 1000) (hp : w.cell? ⟨p, 0, none⟩ = some (.int .i64 t))
    (hc : ∀ j, (hj : j < M.length) → w.cell? ⟨bM, j * 2, none⟩ = some (.int .i64 (M[j]).1) ∧ ∃ A n q, w.cell? ⟨bM, j * 2 + 1, none⟩ = some (.slice A n q)) :
    Calls Try.prog 54 #[.slice (some ⟨bM, 0, none⟩) M.length c, .func (.func 39) #[] #[.pointer (some ⟨p, 0, none⟩)]] w fun e w' => ∃ r : Int, e = .returned (.int .i64 r) ∧ decide (0 ≤ r) = M.any (fun x => x.1 == t) ∧ Below w.heap.size w w' := by
  have HC := Lib.hid hc
  have HP := Lib.hid hp
  clear hc hp
  go_enter Try.func54, Try.ntmps54
  go_wp2
  go_loopw [8] (fun v wr => ∃ i : Nat, v = .int .i64 (i : Int) ∧ i ≤ M.length ∧ (M.take i).any (fun x => x.1 == t) = false ∧ Below w.heap.size w wr) (fun v _ => M.length - (intOf v).toNat)
  case atStart => exact ⟨0, rfl, by omega, rfl, Below.refl _ _⟩
  case round =>
    obtain ⟨i, rfl, hi, hn, hbw⟩ := hrel
    have HN := Lib.hid hn
    have HBW := Lib.hid hbw
    clear hn hbw
    by_cases hlt : i < M.length
    · have g1 : ((i : Nat) : Int) < (M.length : Int) := by omega
      obtain ⟨e1, A, n, q, e2⟩ := HC.out i hlt
      have c1 := cell_stay (Nat.le_refl _) HBW.out e1
      have c2 := cell_stay (Nat.le_refl _) HBW.out e2
      have c3 := cell_stay (Nat.le_refl _) HBW.out HP.out
      obtain ⟨x, hx⟩ : ∃ x, x = (M[i]).1 := ⟨_, rfl⟩
      rw [← hx] at c1
      have hst : (M.take (i + 1)).any (fun x => x.1 == t) = (x == t) := by
        rw [List.take_succ_eq_append_getElem hlt, List.any_append, HN.out, hx]; simp
      have HO := Lib.hid (own_any x t (.slice A n q) p wr rfl c3)
      have HST := Lib.hid hst
      clear hst hx e1 e2 c3
      by_cases h3 : x = t
      · have hb : (x == t) = true := by simp [h3]
        have hall : M.any (fun x => x.1 == t) = true := by
          have h1 := HST.out.trans hb
          rw [List.any_eq_true] at h1 ⊢
          obtain ⟨y, hy, h2⟩ := h1
          exact ⟨y, List.mem_of_mem_take hy, h2⟩
        have HA := Lib.hid hall
        clear h3 hall
        go_wp2_with fail
        refine HO.out.mono ?_
        rintro e w1 ⟨rfl, hb1⟩
        have HB1 := Lib.hid hb1
        clear hb1
        go_wp2_with fail
        go_ret
        exact ⟨(i : Int), rfl, by rw [HA.out]; simp, Below.trans HBW.out (HB1.out.mono HBW.out.size)⟩
      · have hb : (x == t) = false := by simp [h3]
        have HST2 := Lib.hid (HST.out.trans hb)
        clear h3
        go_wp2_with fail
        refine HO.out.mono ?_
        rintro e w1 ⟨rfl, hb1⟩
        have HB1 := Lib.hid hb1
        clear hb1
        go_wp2_with fail
        go_roundw
        case rel => exact ⟨i + 1, by go_num, by omega, HST2.out, Below.trans HBW.out (HB1.out.mono HBW.out.size)⟩
        case measure => simp [intOf]; omega
    · have hfin : M.any (fun x => x.1 == t) = false := by have h := HN.out; rwa [List.take_of_length_le (by omega)] at h
      have HA := Lib.hid hfin
      clear hfin
      go_wp2_with fail
      go_ret
      exact ⟨-1, rfl, by rw [HA.out]; rfl, HBW.out⟩
end Go.Proofs.Ytcfkmhmgappckaa
