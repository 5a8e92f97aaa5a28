/- Unlock; what Wait and Rest ask. No condition but on size. -/
import Derived.Test.YtcfkmhmgappckaaLock
namespace Go.Proofs.Ytcfkmhmgappckaa
open Go.RowKit Go.Proofs.Ytcfkmhmgappckaa.Sc Go.Proofs.Ytcfkmhmgappckaa.PAll Go.Proofs.YtcfkmhmgappckaaW.PrintWords Go.Proofs.YtcfkmhmgappckaaW.PrintLast Go.Proofs.YtcfkmhmgappckaaW.PrintMore

theorem unlockE_eq (S : Sd) (t m : Int) : first (there S.T t && there S.M m) ((stT S t == 0) && (owner S m == t)) = unlockE S t m := by
  unfold unlockE
  congr 2
set_option maxHeartbeats 1000000 in
set_option maxRecDepth 100000 in
theorem unlock_no {w : World} {base g : Nat} {F : Nat → Prop} {S : Sd} (h : Sch w base g F S) (hT : S.T.length ≤ 1000) (hM : S.M.length ≤ 1000) (hR : S.R.length ≤ 1000) (t m : Int) (hE : unlockE S t m ≠ 0) :
    Calls Try.prog 13 #[.pointer (some ⟨g, 0, none⟩), .int .i64 t, .int .i64 m] w fun e w' => e = .returned (.int .i64 (unlockE S t m)) ∧ Below w.heap.size w w' := by
  obtain ⟨bT, bM, bR, d0, d1, d2⟩ := h.cells
  have HST := Lib.hid (state_sch h hT t)
  have HOW := Lib.hid (owner_sch h hM m)
  have HLE := Lib.hid (unlockE_eq S t m)
  have hne : (unlockE S t m == 0) = false := by simpa using hE
  clear h
  by_cases nT : there S.T t = false
  · go_enter Try.func13, Try.ntmps13
    go_wp2_with fail
    refine (in_int _ _ _ _ _ (by omega)).mono ?_
    rintro e w' ⟨rfl, rfl⟩
    rw [inB_there, nT]
    go_wp2_with fail
    refine HST.out.mono ?_
    rintro e w' ⟨rfl, rfl⟩
    go_wp2_with fail
    refine HOW.out.mono ?_
    rintro e w' ⟨rfl, rfl⟩
    go_wp2_with fail
    refine (first_two _ _ _ _ _ (cell_at_new _ _ _ 0 _ rfl) (cell_at_new _ _ _ 1 _ rfl)).mono ?_
    rintro e w1 ⟨rfl, hb1⟩
    have HB := Lib.hid ((below_alloc (Below.refl _ _) _).trans (hb1.mono (by simp)))
    clear hb1
    have hle := HLE.out
    rw [nT] at hle
    simp only [Bool.true_and, Bool.false_and, Bool.and_true, Bool.and_false] at hle
    rw [hle]
    clear hle
    go_wp2_with fail
    go_ret
    exact ⟨rfl, HB.out⟩
  · have hT : there S.T t = true := by simpa using nT
    clear nT
    go_enter Try.func13, Try.ntmps13
    go_wp2_with fail
    refine (in_int _ _ _ _ _ (by omega)).mono ?_
    rintro e w' ⟨rfl, rfl⟩
    rw [inB_there, hT]
    go_wp2_with fail
    refine (in_mutex _ _ _ _ _ (by omega)).mono ?_
    rintro e w' ⟨rfl, rfl⟩
    rw [inB_there]
    go_wp2_with fail
    refine HST.out.mono ?_
    rintro e w' ⟨rfl, rfl⟩
    go_wp2_with fail
    refine HOW.out.mono ?_
    rintro e w' ⟨rfl, rfl⟩
    go_wp2_with fail
    refine (first_two _ _ _ _ _ (cell_at_new _ _ _ 0 _ rfl) (cell_at_new _ _ _ 1 _ rfl)).mono ?_
    rintro e w1 ⟨rfl, hb1⟩
    have HB := Lib.hid ((below_alloc (Below.refl _ _) _).trans (hb1.mono (by simp)))
    clear hb1
    have hle := HLE.out
    rw [hT] at hle
    simp only [Bool.true_and, Bool.false_and, Bool.and_true, Bool.and_false] at hle
    rw [hle]
    clear hle
    go_wp2_with fail
    go_ret
    exact ⟨rfl, HB.out⟩
theorem waitE_eq (S : Sd) (t c m : Int) : first (there S.T t && there S.M m && there S.R c) ((stT S t == 0) && (owner S m == t)) = waitE S t c m := by
  unfold waitE
  congr 2
set_option maxHeartbeats 1000000 in
set_option maxRecDepth 100000 in
theorem wait_no {w : World} {base g : Nat} {F : Nat → Prop} {S : Sd} (h : Sch w base g F S) (hT : S.T.length ≤ 1000) (hM : S.M.length ≤ 1000) (hR : S.R.length ≤ 1000) (t c m : Int) (hE : waitE S t c m ≠ 0) :
    Calls Try.prog 15 #[.pointer (some ⟨g, 0, none⟩), .int .i64 t, .int .i64 c, .int .i64 m] w fun e w' => e = .returned (.int .i64 (waitE S t c m)) ∧ Below w.heap.size w w' := by
  obtain ⟨bT, bM, bR, d0, d1, d2⟩ := h.cells
  have HST := Lib.hid (state_sch h hT t)
  have HOW := Lib.hid (owner_sch h hM m)
  have HLE := Lib.hid (waitE_eq S t c m)
  have hne : (waitE S t c m == 0) = false := by simpa using hE
  clear h
  by_cases nT : there S.T t = false
  · go_enter Try.func15, Try.ntmps15
    go_wp2_with fail
    refine (in_int _ _ _ _ _ (by omega)).mono ?_
    rintro e w' ⟨rfl, rfl⟩
    rw [inB_there, nT]
    go_wp2_with fail
    refine HST.out.mono ?_
    rintro e w' ⟨rfl, rfl⟩
    go_wp2_with fail
    refine HOW.out.mono ?_
    rintro e w' ⟨rfl, rfl⟩
    go_wp2_with fail
    refine (first_two _ _ _ _ _ (cell_at_new _ _ _ 0 _ rfl) (cell_at_new _ _ _ 1 _ rfl)).mono ?_
    rintro e w1 ⟨rfl, hb1⟩
    have HB := Lib.hid ((below_alloc (Below.refl _ _) _).trans (hb1.mono (by simp)))
    clear hb1
    have hle := HLE.out
    rw [nT] at hle
    simp only [Bool.true_and, Bool.false_and, Bool.and_true, Bool.and_false] at hle
    rw [hle]
    clear hle
    go_wp2_with fail
    go_ret
    exact ⟨rfl, HB.out⟩
  · have hT : there S.T t = true := by simpa using nT
    clear nT
    by_cases nM : there S.M m = false
    · go_enter Try.func15, Try.ntmps15
      go_wp2_with fail
      refine (in_int _ _ _ _ _ (by omega)).mono ?_
      rintro e w' ⟨rfl, rfl⟩
      rw [inB_there, hT]
      go_wp2_with fail
      refine (in_mutex _ _ _ _ _ (by omega)).mono ?_
      rintro e w' ⟨rfl, rfl⟩
      rw [inB_there, nM]
      go_wp2_with fail
      refine HST.out.mono ?_
      rintro e w' ⟨rfl, rfl⟩
      go_wp2_with fail
      refine HOW.out.mono ?_
      rintro e w' ⟨rfl, rfl⟩
      go_wp2_with fail
      refine (first_two _ _ _ _ _ (cell_at_new _ _ _ 0 _ rfl) (cell_at_new _ _ _ 1 _ rfl)).mono ?_
      rintro e w1 ⟨rfl, hb1⟩
      have HB := Lib.hid ((below_alloc (Below.refl _ _) _).trans (hb1.mono (by simp)))
      clear hb1
      have hle := HLE.out
      rw [hT, nM] at hle
      simp only [Bool.true_and, Bool.false_and, Bool.and_true, Bool.and_false] at hle
      rw [hle]
      clear hle
      go_wp2_with fail
      go_ret
      exact ⟨rfl, HB.out⟩
    · have hM : there S.M m = true := by simpa using nM
      clear nM
      go_enter Try.func15, Try.ntmps15
      go_wp2_with fail
      refine (in_int _ _ _ _ _ (by omega)).mono ?_
      rintro e w' ⟨rfl, rfl⟩
      rw [inB_there, hT]
      go_wp2_with fail
      refine (in_mutex _ _ _ _ _ (by omega)).mono ?_
      rintro e w' ⟨rfl, rfl⟩
      rw [inB_there, hM]
      go_wp2_with fail
      refine (in_rests _ _ _ _ _ (by omega)).mono ?_
      rintro e w' ⟨rfl, rfl⟩
      rw [inB_there]
      go_wp2_with fail
      refine HST.out.mono ?_
      rintro e w' ⟨rfl, rfl⟩
      go_wp2_with fail
      refine HOW.out.mono ?_
      rintro e w' ⟨rfl, rfl⟩
      go_wp2_with fail
      refine (first_two _ _ _ _ _ (cell_at_new _ _ _ 0 _ rfl) (cell_at_new _ _ _ 1 _ rfl)).mono ?_
      rintro e w1 ⟨rfl, hb1⟩
      have HB := Lib.hid ((below_alloc (Below.refl _ _) _).trans (hb1.mono (by simp)))
      clear hb1
      have hle := HLE.out
      rw [hT, hM] at hle
      simp only [Bool.true_and, Bool.false_and, Bool.and_true, Bool.and_false] at hle
      rw [hle]
      clear hle
      go_wp2_with fail
      go_ret
      exact ⟨rfl, HB.out⟩
theorem restE_eq (S : Sd) (t c : Int) : first (there S.T t && there S.R c) (stT S t == 0) = restE S t c := by
  unfold restE
  congr 2
set_option maxHeartbeats 1000000 in
set_option maxRecDepth 100000 in
theorem rest_no {w : World} {base g : Nat} {F : Nat → Prop} {S : Sd} (h : Sch w base g F S) (hT : S.T.length ≤ 1000) (hM : S.M.length ≤ 1000) (hR : S.R.length ≤ 1000) (t c : Int) (hE : restE S t c ≠ 0) :
    Calls Try.prog 26 #[.pointer (some ⟨g, 0, none⟩), .int .i64 t, .int .i64 c] w fun e w' => e = .returned (.int .i64 (restE S t c)) ∧ Below w.heap.size w w' := by
  obtain ⟨bT, bM, bR, d0, d1, d2⟩ := h.cells
  have HST := Lib.hid (state_sch h hT t)
  have HLE := Lib.hid (restE_eq S t c)
  have hne : (restE S t c == 0) = false := by simpa using hE
  clear h
  by_cases nT : there S.T t = false
  · go_enter Try.func26, Try.ntmps26
    go_wp2_with fail
    refine (in_int _ _ _ _ _ (by omega)).mono ?_
    rintro e w' ⟨rfl, rfl⟩
    rw [inB_there, nT]
    go_wp2_with fail
    refine HST.out.mono ?_
    rintro e w' ⟨rfl, rfl⟩
    go_wp2_with fail
    refine (first_one _ _ _ _ (cell_at_new _ _ _ 0 _ rfl)).mono ?_
    rintro e w1 ⟨rfl, hb1⟩
    have HB := Lib.hid ((below_alloc (Below.refl _ _) _).trans (hb1.mono (by simp)))
    clear hb1
    have hle := HLE.out
    rw [nT] at hle
    simp only [Bool.true_and, Bool.false_and, Bool.and_true, Bool.and_false] at hle
    rw [hle]
    clear hle
    go_wp2_with fail
    go_ret
    exact ⟨rfl, HB.out⟩
  · have hT : there S.T t = true := by simpa using nT
    clear nT
    go_enter Try.func26, Try.ntmps26
    go_wp2_with fail
    refine (in_int _ _ _ _ _ (by omega)).mono ?_
    rintro e w' ⟨rfl, rfl⟩
    rw [inB_there, hT]
    go_wp2_with fail
    refine (in_rests _ _ _ _ _ (by omega)).mono ?_
    rintro e w' ⟨rfl, rfl⟩
    rw [inB_there]
    go_wp2_with fail
    refine HST.out.mono ?_
    rintro e w' ⟨rfl, rfl⟩
    go_wp2_with fail
    refine (first_one _ _ _ _ (cell_at_new _ _ _ 0 _ rfl)).mono ?_
    rintro e w1 ⟨rfl, hb1⟩
    have HB := Lib.hid ((below_alloc (Below.refl _ _) _).trans (hb1.mono (by simp)))
    clear hb1
    have hle := HLE.out
    rw [hT] at hle
    simp only [Bool.true_and, Bool.false_and, Bool.and_true, Bool.and_false] at hle
    rw [hle]
    clear hle
    go_wp2_with fail
    go_ret
    exact ⟨rfl, HB.out⟩
set_option maxHeartbeats 1000000 in
set_option maxRecDepth 100000 in
theorem unlock_yes {w : World} {base g : Nat} {F : Nat → Prop} {S : Sd} (h : Sch w base g F S) (hb : base ≤ w.heap.size) (hk : Ok S []) (hT : S.T.length ≤ 1000) (hM : S.M.length ≤ 1000) (hR : S.R.length ≤ 1000) (t m : Int) (hE : unlockE S t m = 0) :
    Calls Try.prog 13 #[.pointer (some ⟨g, 0, none⟩), .int .i64 t, .int .i64 m] w fun e w' => e = .returned (.int .i64 0) ∧ Next w base g F (give S m) w' := by
  obtain ⟨bT, bM, bR, d0, d1, d2⟩ := h.cells
  have HST := Lib.hid (state_sch h hT t)
  have HOW := Lib.hid (owner_sch h hM m)
  have hle := unlockE_eq S t m
  rw [hE] at hle
  have hx := (first_eq _ _).1 hle
  simp only [Bool.and_eq_true] at hx
  have hT := hx.1.1
  have hM := hx.1.2
  rw [hT, hM] at hle
  simp only [Bool.true_and, Bool.and_true] at hle
  have HG := Lib.hid (fun w1 (hb1 : Below w.heap.size w w1) => give_any (h.below hb1) (Nat.le_trans hb hb1.size) m hx.1.2 (fun t r hr => Ok.giveT hk m hx.1.2 t r hr))
  have HF0 := Lib.hid h.1
  clear h hk
  have HLE := Lib.hid hle
  clear hle hx
  go_enter Try.func13, Try.ntmps13
  go_wp2_with fail
  refine (in_int _ _ _ _ _ (by omega)).mono ?_
  rintro e w' ⟨rfl, rfl⟩
  rw [inB_there, hT]
  go_wp2_with fail
  refine (in_mutex _ _ _ _ _ (by omega)).mono ?_
  rintro e w' ⟨rfl, rfl⟩
  rw [inB_there, hM]
  go_wp2_with fail
  refine HST.out.mono ?_
  rintro e w' ⟨rfl, rfl⟩
  go_wp2_with fail
  refine HOW.out.mono ?_
  rintro e w' ⟨rfl, rfl⟩
  go_wp2_with fail
  refine (first_two _ _ _ _ _ (cell_at_new _ _ _ 0 _ rfl) (cell_at_new _ _ _ 1 _ rfl)).mono ?_
  rintro e w1 ⟨rfl, hb1⟩
  have HB := Lib.hid ((below_alloc (Below.refl _ _) _).trans (hb1.mono (by simp)))
  clear hb1
  have hle := HLE.out
  rw [hle]
  clear hle
  go_wp2_with fail
  refine (HG.out _ HB.out).mono ?_
  rintro e w2 ⟨rfl, hn⟩
  have HN := Lib.hid hn
  clear hn
  go_wp2_with fail
  go_ret
  exact ⟨rfl, Next.pre HB.out HF0.out hb HN.out⟩
theorem unlock_any {w : World} {base g : Nat} {F : Nat → Prop} {S : Sd} (h : Sch w base g F S) (hb : base ≤ w.heap.size) (hk : Ok S []) (hT : S.T.length ≤ 1000) (hM : S.M.length ≤ 1000) (hR : S.R.length ≤ 1000) (t m : Int) :
    Calls Try.prog 13 #[.pointer (some ⟨g, 0, none⟩), .int .i64 t, .int .i64 m] w fun e w' => e = .returned (.int .i64 (unlock S t m).2) ∧ Next w base g F (unlock S t m).1 w' := by
  unfold Sc.unlock
  by_cases hE : unlockE S t m = 0
  · simp only [if_pos hE]
    rw [hE]
    exact unlock_yes h hb hk hT hM hR t m hE
  · simp only [if_neg hE]
    exact (unlock_no h hT hM hR t m hE).mono (fun e w' ⟨h1, h2⟩ => ⟨h1, Next.of_below h hb h2⟩)
end Go.Proofs.Ytcfkmhmgappckaa
