/- SchedHolds: the plain law, and the counts in memory. No condition. -/
import Derived.Test.YtcfkmhmgappckaaBnd5
set_option linter.unusedVariables false
set_option linter.unusedSimpArgs false
namespace Go.Proofs.Ytcfkmhmgappckaa
open Go.RowKit Go.Proofs.Ytcfkmhmgappckaa.Sc Go.Proofs.Ytcfkmhmgappckaa.PAll Go.Proofs.YtcfkmhmgappckaaW.PrintWords Go.Proofs.YtcfkmhmgappckaaW.PrintLast Go.Proofs.YtcfkmhmgappckaaW.PrintMore

/-- How often a task stands in the first m rows, and in the first j places of the next. -/
def cntAt (S : Sd) (m j : Nat) (t : Nat) : Nat := ((S.M.take m).map (·.2)).flatten.count (t : Int) + ((rowM S (m : Int)).take j).count (t : Int)
theorem cnt_zero (S : Sd) (t : Nat) : cntAt S 0 0 t = 0 := by simp [cntAt]
theorem cnt_row (S : Sd) (m t : Nat) (hm : m < S.M.length) : cntAt S m (rowM S (m : Int)).length t = cntAt S (m + 1) 0 t := by
  unfold cntAt
  rw [List.take_length, List.take_zero, List.take_succ_eq_append_getElem hm, (ow_in S m hm).2, List.map_append, List.flatten_append, List.count_append, List.map_cons, List.map_nil, List.flatten_cons, List.flatten_nil, List.append_nil, List.count_nil, Nat.add_zero]
theorem cnt_step (S : Sd) (m j t : Nat) (hj : j < (rowM S (m : Int)).length) : cntAt S m (j + 1) t = if (rowM S (m : Int))[j] = (t : Int) then cntAt S m j t + 1 else cntAt S m j t := by
  unfold cntAt
  rw [List.take_succ_eq_append_getElem hj, List.count_append]
  by_cases h : (rowM S (m : Int))[j] = (t : Int)
  · rw [if_pos h, h]; simp; omega
  · rw [if_neg h]
    have : List.count (t : Int) [(rowM S (m : Int))[j]] = 0 := by simp [h]
    omega
theorem cnt_all (S : Sd) (t : Nat) (ho : Ok S []) : cntAt S S.M.length 0 t = if stT S (t : Int) = 1 then 1 else 0 := by
  unfold cntAt
  rw [List.take_length, List.take_zero, ← ho.row (t : Int)]
  simp [rowsT]
theorem cnt_le (S : Sd) (m j t : Nat) (hm : m < S.M.length) (ho : Ok S []) : cntAt S m j t ≤ 1 := by
  have h1 := ho.row (t : Int)
  have h2 : cntAt S m j t ≤ (rowsT S).count (t : Int) := by
    unfold cntAt rowsT
    have e : S.M.map (·.2) = (S.M.take m).map (·.2) ++ (S.M[m]).2 :: (S.M.drop (m + 1)).map (·.2) := by
      have h := congrArg (List.map (fun x : Int × List Int => x.2)) (show S.M = S.M.take m ++ S.M[m] :: S.M.drop (m + 1) by rw [← List.drop_eq_getElem_cons hm, List.take_append_drop])
      rw [List.map_append, List.map_cons] at h
      exact h
    rw [e, List.flatten_append, List.flatten_cons, List.count_append, List.count_append, (ow_in S m hm).2]
    have := (List.take_sublist j (S.M[m]).2).count_le (t : Int)
    omega
  split at h1 <;> omega
theorem row_in {S : Sd} (ho : Ok S []) (m j : Nat) (hm : m < S.M.length) (hj : j < (rowM S (m : Int)).length) : 0 ≤ (rowM S (m : Int))[j] ∧ (rowM S (m : Int))[j] < (S.T.length : Int) := by
  obtain ⟨x, hx⟩ : ∃ x, x = (rowM S (m : Int))[j] := ⟨_, rfl⟩
  have hmem : x ∈ rowsT S := by
    unfold rowsT
    rw [List.mem_flatten]
    refine ⟨(S.M[m]).2, List.mem_map.2 ⟨_, List.getElem_mem hm, rfl⟩, ?_⟩
    rw [← (ow_in S m hm).2, hx]
    exact List.getElem_mem hj
  rw [← hx]
  have h1 := ho.row x
  have h2 := List.count_pos_iff.2 hmem
  have h3 : stT S x = 1 := by
    by_cases e : stT S x = 1
    · exact e
    · rw [if_neg e] at h1; omega
  exact (there_iff _ _).1 (stT_there S x (by omega))
theorem own_in {S : Sd} (ho : Ok S []) (m : Nat) (hm : m < S.M.length) : (owner S (m : Int) = -1 ∧ rowM S (m : Int) = []) ∨ (0 ≤ owner S (m : Int) ∧ stT S (owner S (m : Int)) ≠ 3) := by
  rw [(ow_in S m hm).1, (ow_in S m hm).2]
  rcases ho.own _ (List.getElem_mem hm) with h | ⟨h1, h2⟩
  · exact .inl h
  · exact .inr ⟨((there_iff _ _).1 h1).1, h2⟩
theorem make_ints (n : Nat) (hn : n ≤ 1000) (w : World) : (Instr.makeSlice 22 (.int .i64 (n : Int)) (.int .i64 (n : Int))).run Try.prog w = .ok (.slice (some ⟨w.heap.size, 0, none⟩) n n) (w.alloc (.cells (Array.replicate n (.int .i64 0)) 3 (0, 0))) := by
  obtain ⟨i0, hi, hz0, hz1, hz2⟩ := info_parts infoInt
  have := run_make (P := Try.prog) w 22 3 i0 _ Try.underlying22 hi hz0 .i64 .i64 (n : Int) (n : Int) (by omega) (Int.le_refl _) (by rw [hz2]; omega) (by omega)
  rw [hz1, Int.toNat_natCast] at this
  rw [this, ← List.toArray_replicate, ← made_one]
  rfl
/-- The counts, in memory. -/
def CntIs (w : World) (b n : Nat) (f : Nat → Nat) : Prop := w.heap[b]? = some (.cells ((List.range n).map fun t => Value.int .i64 (f t : Int)).toArray 3 (0, 0))
theorem CntIs.cell {w : World} {b n : Nat} {f : Nat → Nat} (h : CntIs w b n f) (t : Nat) (ht : t < n) : w.cell? ⟨b, t, none⟩ = some (.int .i64 (f t : Int)) ∧ w.frozen? ⟨b, t, none⟩ = false := by
  have hC : w.heap[b]? = some (.cells ((List.range n).map fun t => Value.int .i64 (f t : Int)).toArray 3 (0, 0)) := h
  constructor
  · unfold World.cell?
    simp [hC, ht]
  · unfold World.frozen?
    simp [hC]
theorem CntIs.store {w : World} {b n : Nat} {f : Nat → Nat} (h : CntIs w b n f) (t : Nat) (ht : t < n) : CntIs (w.setCell ⟨b, t, none⟩ (.int .i64 ((f t + 1 : Nat) : Int))) b n (fun u => if u = t then f u + 1 else f u) := by
  have hC : w.heap[b]? = some (.cells ((List.range n).map fun t => Value.int .i64 (f t : Int)).toArray 3 (0, 0)) := h
  unfold CntIs
  simp only [World.setCell, Array.getElem?_modify, hC, if_true, Option.map_some]
  congr 2
  apply Array.ext
  · simp
  · intro i h1 h2
    simp only [List.setIfInBounds_toArray, List.getElem_toArray, List.getElem_set, List.getElem_map, List.getElem_range]
    by_cases e : t = i
    · subst e; simp
    · simp [e, Ne.symm e]
theorem Two.store {K : Nat → Prop} {w : World} {B D g h b t : Nat} {v : Value} {S1 S2 : Sd} (H : Two K w B D g h S1 S2) (hk : K b) : Two K (w.setCell ⟨b, t, none⟩ v) B D g h S1 S2 := by
  obtain ⟨F, G, H⟩ := H
  have hm : Moves (fun k => k = b) w (w.setCell ⟨b, t, none⟩ v) := (Moves.refl _ w).store _ _ rfl
  have hs := hm.size
  exact ⟨F, G, H.s.apart hm (fun k hF e => (H.kf b hk).1 (e ▸ hF)), H.r.apart hm (fun k hG e => (H.kf b hk).2.1 (e ▸ hG)), H.fg, fun k q => ⟨(H.kf k q).1, (H.kf k q).2.1, Nat.lt_of_lt_of_le (H.kf k q).2.2 hs⟩, Nat.le_trans H.b hs, Nat.le_trans H.d hs⟩
theorem CntIs.below {w w1 : World} {b n : Nat} {f : Nat → Nat} (h : CntIs w b n f) (hb : Below w.heap.size w w1) (hlt : b < w.heap.size) : CntIs w1 b n f := (hb.block b hlt).trans h
/-- A slice that came anew. -/
def Fresh (B : Nat) (v : Value) : Prop := ∀ ad n c, v = .slice (some ad) n c → B ≤ ad.block
theorem Fresh.nil (B : Nat) : Fresh B (.slice none 0 0) := fun ad n c h => by cases h
theorem clone_new {w : World} {base t : Nat} {ob : Option Nat} {v : Value} {l : List Int} (h : RowIn w base t 1 ob v (ints l)) (hl : l.length ≤ 1000) :
    Calls Try.prog 34 #[v] w fun e w' => ∃ v', e = .returned v' ∧ Reads w' v' l ∧ Fresh w.heap.size v' ∧ Below w.heap.size w w' := by
  rcases h.cells with ⟨rfl, rfl⟩ | ⟨b, o, c, rfl, hc⟩
  · refine (Try.slices_Clone_int_nil 0 0 w).mono ?_
    rintro e w' ⟨rfl, rfl⟩
    exact ⟨_, rfl, ⟨none, 0, rfl, Nat.le_refl _, rfl, by simp, fun h => by simp at h⟩, Fresh.nil _, Below.refl _ _⟩
  · refine (Try.slices_Clone_int b o l.length c l w (Nat.le_refl _) (by omega) hc).mono ?_
    rintro e w' ⟨v', rfl, h1, _, h2⟩
    rw [List.take_length] at h1
    refine ⟨v', rfl, Reads.of_row hl h1, fun ad n c e => ?_, h2⟩
    rcases h1.2 with ⟨e1, _⟩ | ⟨b, cap, cur, e1, hb, _⟩
    · rw [e] at e1; cases e1
    · rw [e] at e1
      simp only [Value.slice.injEq, Option.some.injEq] at e1
      rw [e1.1]; exact hb
set_option maxHeartbeats 1000000 in
set_option maxRecDepth 100000 in
theorem row_new {w : World} {base g : Nat} {F : Nat → Prop} {S : Sd} (h : Sch w base g F S) (hn : S.M.length ≤ 1000) (hl : ∀ x ∈ S.M, x.2.length ≤ 1000) (m : Int) :
    Calls Try.prog 18 #[.pointer (some ⟨g, 0, none⟩), .int .i64 m] w fun e w' => ∃ v, e = .returned v ∧ Reads w' v (rowM S m) ∧ Fresh w.heap.size v ∧ Below w.heap.size w w' := by
  obtain ⟨_, bT, bM, bR, vs, us, h1, _⟩ := h
  have d0 := h1.c1
  by_cases hm : there S.M m = true
  · have hmI := (there_iff _ _).1 hm
    obtain ⟨m, rfl⟩ := Int.eq_ofNat_of_zero_le hmI.1
    have hm2 : m < S.M.length := by omega
    obtain ⟨_, v, hv, d3⟩ := h1.cM m hm2
    rw [Nat.mul_comm] at d3
    have hR := h1.rows m _ v (List.getElem?_eq_getElem hm2) hv
    have hr : rowM S (m : Int) = (S.M[m]).2 := by unfold rowM mu; rw [hm, if_pos rfl, Int.toNat_natCast, List.getD_eq_getElem?_getD, List.getElem?_eq_getElem hm2]; rfl
    have hcl := clone_new hR (hl _ (List.getElem_mem _))
    rw [← hr] at hcl
    have g1 : ((m : Nat) : Int) < (S.M.length : Int) := by omega
    have HC := Lib.hid hcl
    clear hcl hr hR hv h1 hl
    go_enter Try.func18, Try.ntmps18
    go_wp2_with fail
    refine (in_mutex _ _ _ _ _ (by omega)).mono ?_
    rintro e w' ⟨rfl, rfl⟩
    rw [inB_there, hm]
    go_wp2_with fail
    refine HC.out.mono ?_
    rintro e w2 ⟨v2, rfl, hrd, hfr, hb⟩
    have HR := Lib.hid hrd
    have HB := Lib.hid hb
    clear hrd hb
    go_wp2_with fail
    go_ret
    exact ⟨v2, rfl, HR.out, hfr, HB.out⟩
  · have hm2 : there S.M m = false := by simpa using hm
    have hr : rowM S m = [] := by unfold rowM; rw [hm2]; rfl
    rw [hr]
    clear hr h1 hm hl
    go_enter Try.func18, Try.ntmps18
    go_wp2_with fail
    refine (in_mutex _ _ _ _ _ (by omega)).mono ?_
    rintro e w' ⟨rfl, rfl⟩
    rw [inB_there, hm2]
    go_wp2_with fail
    go_ret
    exact ⟨_, rfl, ⟨none, 0, rfl, Nat.le_refl _, rfl, by simp, fun h => by simp at h⟩, Fresh.nil _, Below.refl _ _⟩
theorem CntIs.congr {w : World} {b n : Nat} {f f' : Nat → Nat} (h : CntIs w b n f) (he : ∀ t, t < n → f t = f' t) : CntIs w b n f' := by
  have hC : w.heap[b]? = some (.cells ((List.range n).map fun t => Value.int .i64 (f t : Int)).toArray 3 (0, 0)) := h
  unfold CntIs
  rw [hC]
  congr 3
  apply List.map_congr_left
  intro t ht
  rw [he t (List.mem_range.1 ht)]
theorem Two.moved {K : Nat → Prop} {w w1 : World} {B D g h b : Nat} {S1 S2 : Sd} (H : Two K w B D g h S1 S2) (hk : K b) (hm : Moves (fun k => k = b) w w1) : Two K w1 B D g h S1 S2 := by
  obtain ⟨F, G, H⟩ := H
  have hs := hm.size
  exact ⟨F, G, H.s.apart hm (fun k hF e => (H.kf b hk).1 (e ▸ hF)), H.r.apart hm (fun k hG e => (H.kf b hk).2.1 (e ▸ hG)), H.fg, fun k q => ⟨(H.kf k q).1, (H.kf k q).2.1, Nat.lt_of_lt_of_le (H.kf k q).2.2 hs⟩, Nat.le_trans H.b hs, Nat.le_trans H.d hs⟩
theorem CntIs.new (w : World) (n : Nat) : CntIs (w.alloc (.cells (Array.replicate n (.int .i64 0)) 3 (0, 0))) w.heap.size n (fun _ => 0) := by
  unfold CntIs
  rw [heap_alloc_new w _]
  congr 2
  apply Array.ext
  · simp
  · intro i h1 h2; simp
end Go.Proofs.Ytcfkmhmgappckaa
