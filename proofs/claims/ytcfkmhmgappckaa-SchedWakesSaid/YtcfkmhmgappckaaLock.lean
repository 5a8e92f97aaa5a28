/- Lock. No condition but on size. -/
import Derived.Test.YtcfkmhmgappckaaSch
namespace Go.Proofs.Ytcfkmhmgappckaa
open Go.RowKit Go.Proofs.Ytcfkmhmgappckaa.Sc Go.Proofs.Ytcfkmhmgappckaa.PAll Go.Proofs.YtcfkmhmgappckaaW.PrintWords Go.Proofs.YtcfkmhmgappckaaW.PrintLast Go.Proofs.YtcfkmhmgappckaaW.PrintMore

theorem cell_at_new (w : World) (c : Array Value) (t : TypeId) (i : Nat) (v : Value) (h : c[i]? = some v) : (w.alloc (.cells c t (0, 0))).cell? ⟨w.heap.size, i, none⟩ = some v := by
  have : (w.alloc (.cells c t (0, 0))).heap[w.heap.size]? = some (.cells c t (0, 0)) := heap_alloc_new w _
  unfold World.cell?
  simp only [this]
  exact h
theorem inB_there {α : Type} (l : List α) (t : Int) : inB l.length t = there l t := rfl
theorem Sch.cells {w : World} {base g : Nat} {F : Nat → Prop} {S : Sd} (h : Sch w base g F S) : ∃ bT bM bR : Nat, w.cell? ⟨g, 0, none⟩ = some (.slice (some ⟨bT, 0, none⟩) S.T.length S.T.length) ∧ w.cell? ⟨g, 1, none⟩ = some (.slice (some ⟨bM, 0, none⟩) S.M.length S.M.length) ∧ w.cell? ⟨g, 2, none⟩ = some (.slice (some ⟨bR, 0, none⟩) S.R.length S.R.length) := by
  obtain ⟨_, bT, bM, bR, vs, us, h1, _⟩ := h
  exact ⟨bT, bM, bR, h1.c0, h1.c1, h1.c2⟩
theorem state_sch {w : World} {base g : Nat} {F : Nat → Prop} {S : Sd} (h : Sch w base g F S) (hn : S.T.length ≤ 1000) (t : Int) :
    Calls Try.prog 16 #[.pointer (some ⟨g, 0, none⟩), .int .i64 t] w fun e w' => e = .returned (.int .i64 (stT S t)) ∧ w' = w := by
  obtain ⟨_, bT, bM, bR, vs, us, h1, _⟩ := h
  exact state_any h1 hn t
theorem owner_sch {w : World} {base g : Nat} {F : Nat → Prop} {S : Sd} (h : Sch w base g F S) (hn : S.M.length ≤ 1000) (t : Int) :
    Calls Try.prog 11 #[.pointer (some ⟨g, 0, none⟩), .int .i64 t] w fun e w' => e = .returned (.int .i64 (owner S t)) ∧ w' = w := by
  obtain ⟨_, bT, bM, bR, vs, us, h1, _⟩ := h
  exact owner_any h1 hn t
theorem lockE_eq (S : Sd) (t m : Int) : first (there S.T t && there S.M m) ((stT S t == 0) && (owner S m != t)) = lockE S t m := by
  unfold lockE
  congr 2
  · rw [Bool.eq_iff_iff]; simp
set_option maxHeartbeats 1000000 in
set_option maxRecDepth 100000 in
theorem lock_no {w : World} {base g : Nat} {F : Nat → Prop} {S : Sd} (h : Sch w base g F S) (hT : S.T.length ≤ 1000) (hM : S.M.length ≤ 1000) (t m : Int) (hE : lockE S t m ≠ 0) :
    Calls Try.prog 10 #[.pointer (some ⟨g, 0, none⟩), .int .i64 t, .int .i64 m] w fun e w' => e = .returned (.tuple #[.bool false, .int .i64 (lockE S t m)]) ∧ Below w.heap.size w w' := by
  obtain ⟨bT, bM, bR, d0, d1, d2⟩ := h.cells
  have hst := state_sch h hT t
  have how := owner_sch h hM m
  have hle := lockE_eq S t m
  have hne : (lockE S t m != 0) = true := by simpa using hE
  have HST := Lib.hid hst
  have HOW := Lib.hid how
  have HLE := Lib.hid hle
  have HS := Lib.hid h
  clear h hst how hle
  by_cases ht : there S.T t = true
  · go_enter Try.func10, Try.ntmps10
    go_wp2_with fail
    refine (in_int _ _ _ _ _ (by omega)).mono ?_
    rintro e w' ⟨rfl, rfl⟩
    rw [inB_there, ht]
    go_wp2_with fail
    refine (in_mutex _ _ _ _ _ (by omega)).mono ?_
    rintro e w' ⟨rfl, rfl⟩
    rw [inB_there]
    go_wp2_with fail
    refine HST.out.mono ?_
    rintro e w' ⟨rfl, rfl⟩
    go_wp2_with fail
    refine HOW.out.mono ?_
    rintro e w' ⟨rfl, rfl⟩
    go_wp2_with fail
    refine (first_two _ _ _ _ _ (cell_at_new _ _ _ 0 _ rfl) (cell_at_new _ _ _ 1 _ rfl)).mono ?_
    rintro e w1 ⟨rfl, hb⟩
    have HB := Lib.hid ((below_alloc (Below.refl _ _) _).trans (hb.mono (by simp)))
    clear hb
    have hle := HLE.out
    rw [ht, Bool.true_and] at hle
    rw [hle]
    clear hle
    go_wp2_with fail
    go_ret2
    exact ⟨rfl, HB.out⟩
  · have ht2 : there S.T t = false := by simpa using ht
    go_enter Try.func10, Try.ntmps10
    go_wp2_with fail
    refine (in_int _ _ _ _ _ (by omega)).mono ?_
    rintro e w' ⟨rfl, rfl⟩
    rw [inB_there, ht2]
    go_wp2_with fail
    refine HST.out.mono ?_
    rintro e w' ⟨rfl, rfl⟩
    go_wp2_with fail
    refine HOW.out.mono ?_
    rintro e w' ⟨rfl, rfl⟩
    go_wp2_with fail
    refine (first_two _ _ _ _ _ (cell_at_new _ _ _ 0 _ rfl) (cell_at_new _ _ _ 1 _ rfl)).mono ?_
    rintro e w1 ⟨rfl, hb⟩
    have HB := Lib.hid ((below_alloc (Below.refl _ _) _).trans (hb.mono (by simp)))
    clear hb
    have hle := HLE.out
    rw [ht2, Bool.false_and] at hle
    rw [hle]
    clear hle
    go_wp2_with fail
    go_ret2
    exact ⟨rfl, HB.out⟩
theorem Below.up {w w1 w2 : World} (h : Below w.heap.size w w1) (k : Below w1.heap.size w1 w2) : Below w.heap.size w w2 := h.trans (k.mono h.size)
set_option maxHeartbeats 1000000 in
set_option maxRecDepth 100000 in
theorem lock_yes {w : World} {base g : Nat} {F : Nat → Prop} {S : Sd} (h : Sch w base g F S) (hb : base ≤ w.heap.size) (hk : Ok S []) (hT : S.T.length ≤ 1000) (hM : S.M.length ≤ 1000) (t m : Int) (hE : lockE S t m = 0) :
    Calls Try.prog 10 #[.pointer (some ⟨g, 0, none⟩), .int .i64 t, .int .i64 m] w fun e w' => e = .returned (.tuple #[.bool (come S t m).2, .int .i64 0]) ∧ Next w base g F (come S t m).1 w' := by
  obtain ⟨bT, bM, bR, d0, d1, d2⟩ := h.cells
  have hst := state_sch h hT t
  have how := owner_sch h hM m
  have hle := lockE_eq S t m
  rw [hE] at hle
  have hx := (first_eq _ _).1 hle
  simp only [Bool.and_eq_true] at hx
  have ht := hx.1.1
  have hm := hx.1.2
  rw [ht, hm, Bool.true_and] at hle
  have hco : ∀ w1, Below w.heap.size w w1 → Calls Try.prog 31 #[.pointer (some ⟨g, 0, none⟩), .int .i64 t, .int .i64 m] w1 fun e w' => e = .returned (.bool (come S t m).2) ∧ Next w1 base g F (come S t m).1 w' := fun w1 hb1 =>
    come_any (h.below hb1) (Nat.le_trans hb hb1.size) t m ht hm (Nat.le_trans (hk.rowFew _ (mu_mem S m hm)) hT)
  have HST := Lib.hid hst
  have HOW := Lib.hid how
  have HLE := Lib.hid hle
  have HCO := Lib.hid hco
  have HF0 := Lib.hid h.1
  clear h hst how hle hco hx hk
  go_enter Try.func10, Try.ntmps10
  go_wp2_with fail
  refine (in_int _ _ _ _ _ (by omega)).mono ?_
  rintro e w' ⟨rfl, rfl⟩
  rw [inB_there, ht]
  go_wp2_with fail
  refine (in_mutex _ _ _ _ _ (by omega)).mono ?_
  rintro e w' ⟨rfl, rfl⟩
  rw [inB_there, hm]
  go_wp2_with fail
  refine HST.out.mono ?_
  rintro e w' ⟨rfl, rfl⟩
  go_wp2_with fail
  refine HOW.out.mono ?_
  rintro e w' ⟨rfl, rfl⟩
  go_wp2_with fail
  refine (first_two _ _ _ _ _ (cell_at_new _ _ _ 0 _ rfl) (cell_at_new _ _ _ 1 _ rfl)).mono ?_
  rintro e w1 ⟨rfl, hb1⟩
  have HB := Lib.hid ((below_alloc (Below.refl _ _) _).trans (hb1.mono (by simp)))
  clear hb1
  have hle := HLE.out
  rw [hle]
  clear hle
  go_wp2_with fail
  refine (HCO.out _ HB.out).mono ?_
  rintro e w2 ⟨rfl, hn⟩
  have HN := Lib.hid hn
  clear hn
  go_wp2_with fail
  go_ret2
  exact ⟨rfl, Next.pre HB.out HF0.out hb HN.out⟩
theorem lock_any {w : World} {base g : Nat} {F : Nat → Prop} {S : Sd} (h : Sch w base g F S) (hb : base ≤ w.heap.size) (hk : Ok S []) (hT : S.T.length ≤ 1000) (hM : S.M.length ≤ 1000) (t m : Int) :
    Calls Try.prog 10 #[.pointer (some ⟨g, 0, none⟩), .int .i64 t, .int .i64 m] w fun e w' => e = .returned (.tuple #[.bool (lock S t m).2.1, .int .i64 (lock S t m).2.2]) ∧ Next w base g F (lock S t m).1 w' := by
  unfold Sc.lock
  by_cases hE : lockE S t m = 0
  · rw [if_neg (by omega)]
    exact lock_yes h hb hk hT hM t m hE
  · rw [if_pos hE]
    exact (lock_no h hT hM t m hE).mono (fun e w' ⟨h1, h2⟩ => ⟨h1, Next.of_below h hb h2⟩)
end Go.Proofs.Ytcfkmhmgappckaa
