/- Stuck, End. No condition but on size. -/
import Derived.Test.YtcfkmhmgappckaaAskB
import Derived.Outline
namespace Go.Proofs.Ytcfkmhmgappckaa
open Go.RowKit Go.Proofs.Ytcfkmhmgappckaa.Sc Go.Proofs.Ytcfkmhmgappckaa.PAll Go.Proofs.YtcfkmhmgappckaaW.PrintWords Go.Proofs.YtcfkmhmgappckaaW.PrintLast Go.Proofs.YtcfkmhmgappckaaW.PrintMore

theorem over_any (x : Int) (w : World) : Calls Try.prog 35 #[.int .i64 x] w fun e w' => e = .returned (.bool (x != 3)) ∧ w = w' := by
  go_enter Try.func35, Try.ntmps35
  go_wp2
  go_ret
  exact ⟨rfl, rfl⟩
set_option maxHeartbeats 1000000 in
set_option maxRecDepth 100000 in
theorem idx_int (l : List Int) (b c : Nat) (w : World) (hl : l.length ≤ 1000) (hc : ∀ j, j < l.length → w.cell? ⟨b, j, none⟩ = some (.int .i64 (l.getD j 0))) :
    Calls Try.prog 53 #[.slice (some ⟨b, 0, none⟩) l.length c, .func (.func 35) #[] #[]] w fun e w' => ∃ r : Int, e = .returned (.int .i64 r) ∧ decide (0 ≤ r) = l.any (fun x => x != 3) ∧ w = w' := by
  have HC := Lib.hid hc
  clear hc
  go_enter Try.func53, Try.ntmps53
  go_wp2
  go_loop [8] (fun v => ∃ i : Nat, v = .int .i64 (i : Int) ∧ i ≤ l.length ∧ (l.take i).any (fun x => x != 3) = false) (fun v => l.length - (intOf v).toNat)
  case atStart => exact ⟨0, rfl, by omega, rfl⟩
  case round =>
    obtain ⟨i, rfl, hi, hn⟩ := hrel
    have HN := Lib.hid hn
    clear hn
    by_cases hlt : i < l.length
    · have g1 : ((i : Nat) : Int) < (l.length : Int) := by omega
      have hcell := HC.out i hlt
      obtain ⟨x, hx⟩ : ∃ x, x = l.getD i 0 := ⟨_, rfl⟩
      rw [← hx] at hcell
      have hx2 : l[i] = x := by rw [hx, List.getD_eq_getElem?_getD, List.getElem?_eq_getElem hlt]; rfl
      have hst : (l.take (i + 1)).any (fun x => x != 3) = (x != 3) := by
        rw [List.take_succ_eq_append_getElem hlt, List.any_append, HN.out, hx2]; simp
      have HST := Lib.hid hst
      clear hst hx hx2
      by_cases h3 : x = 3
      · have hb : (x != 3) = false := by simp [h3]
        have HST2 := Lib.hid (HST.out.trans hb)
        clear h3
        go_wp2_with fail
        refine (over_any x w).mono ?_
        rintro e w' ⟨rfl, rfl⟩
        go_wp2_with fail
        go_round
        case rel => exact ⟨i + 1, by go_num, by omega, HST2.out⟩
        case measure => simp [intOf]; omega
      · have hb : (x != 3) = true := by simp [h3]
        have hall : l.any (fun x => x != 3) = true := by
          have h1 := HST.out.trans hb
          rw [List.any_eq_true] at h1 ⊢
          obtain ⟨y, hy, h2⟩ := h1
          exact ⟨y, List.mem_of_mem_take hy, h2⟩
        have HA := Lib.hid hall
        clear h3 hall
        go_wp2_with fail
        refine (over_any x w).mono ?_
        rintro e w' ⟨rfl, rfl⟩
        go_wp2_with fail
        go_ret
        exact ⟨(i : Int), rfl, by rw [HA.out]; simp, rfl⟩
    · have hfin : l.any (fun x => x != 3) = false := by have h := HN.out; rwa [List.take_of_length_le (by omega)] at h
      have HA := Lib.hid hfin
      clear hfin
      go_wp2_with fail
      go_ret
      exact ⟨-1, rfl, by rw [HA.out]; rfl, rfl⟩
set_option maxHeartbeats 1000000 in
theorem contf_int (l : List Int) (b c : Nat) (w : World) (hl : l.length ≤ 1000) (hc : ∀ j, j < l.length → w.cell? ⟨b, j, none⟩ = some (.int .i64 (l.getD j 0))) :
    Calls Try.prog 37 #[.slice (some ⟨b, 0, none⟩) l.length c, .func (.func 35) #[] #[]] w fun e w' => e = .returned (.bool (l.any (fun x => x != 3))) ∧ w = w' := by
  have HI := Lib.hid (idx_int l b c w hl hc)
  clear hc
  go_enter Try.func37, Try.ntmps37
  go_wp2_with fail
  refine HI.out.mono ?_
  rintro e w' ⟨r, rfl, hr, rfl⟩
  have HR := Lib.hid hr
  clear hr
  go_wp2_with fail
  go_ret
  exact ⟨by rw [← HR.out]; exact ret_bool (by simp), rfl⟩
set_option maxHeartbeats 1000000 in
set_option maxRecDepth 100000 in
theorem stuck_sch {w : World} {base g : Nat} {F : Nat → Prop} {S : Sd} (h : Sch w base g F S) (hn : S.T.length ≤ 1000) :
    Calls Try.prog 19 #[.pointer (some ⟨g, 0, none⟩)] w fun e w' => e = .returned (.bool (Sc.stuck S)) ∧ w = w' := by
  obtain ⟨_, bT, bM, bR, vs, us, h1, _⟩ := h
  have d0 := h1.c0
  have hc : ∀ j, j < S.T.length → w.cell? ⟨bT, j, none⟩ = some (.int .i64 (S.T.getD j 0)) := fun j hj => by
    rw [h1.cT j hj, List.getD_eq_getElem?_getD, List.getElem?_eq_getElem hj]; rfl
  have hk : Calls Try.prog 36 #[.slice (some ⟨bT, 0, none⟩) S.T.length S.T.length, .int .i64 0] w fun e w' => e = .returned (.bool (S.T.contains 0)) ∧ w = w' := by
    have := Try.slices_Contains_int bT 0 S.T.length S.T.length S.T 0 w (Nat.le_refl _) (by omega) (fun j hj => by rw [Nat.zero_add]; exact hc j hj)
    rw [List.take_length] at this
    exact this.mono (fun e w' ⟨a, b⟩ => ⟨a, b.symm⟩)
  have hf := contf_int S.T bT S.T.length w hn hc
  have he : Sc.stuck S = (!(S.T.contains 0) && S.T.any (fun x => x != 3)) := by
    unfold Sc.stuck
    congr 1
    · rw [Bool.eq_iff_iff]
      simp
      exact ⟨fun h h0 => h 0 h0 rfl, fun h x hx e => h (e ▸ hx)⟩
    · congr 1; funext x; rw [Bool.eq_iff_iff]; simp
  rw [he]
  obtain ⟨A, hA⟩ : ∃ A, A = S.T.contains 0 := ⟨_, rfl⟩
  obtain ⟨B, hB⟩ : ∃ B, B = S.T.any (fun x => x != 3) := ⟨_, rfl⟩
  rw [← hA] at hk ⊢
  rw [← hB] at hf ⊢
  have HK := Lib.hid hk
  have HF := Lib.hid hf
  clear hk hf h1 hc he hA hB
  cases A with
  | true =>
    go_enter Try.func19, Try.ntmps19
    go_wp2_with fail
    refine HK.out.mono ?_
    rintro e w' ⟨rfl, rfl⟩
    go_wp2_with fail
    go_ret
    exact ⟨rfl, rfl⟩
  | false =>
    go_enter Try.func19, Try.ntmps19
    go_wp2_with fail
    refine HK.out.mono ?_
    rintro e w' ⟨rfl, rfl⟩
    go_wp2_with fail
    refine HF.out.mono ?_
    rintro e w' ⟨rfl, rfl⟩
    go_wp2_with fail
    go_ret
    exact ⟨by simp, rfl⟩
end Go.Proofs.Ytcfkmhmgappckaa
