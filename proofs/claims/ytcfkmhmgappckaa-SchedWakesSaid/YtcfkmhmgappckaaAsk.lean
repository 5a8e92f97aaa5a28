/- Wait, Rest, Row, Pick. No condition but on size. -/
import Derived.Test.YtcfkmhmgappckaaLie
import Derived.Test.YtcfkmhmgappckaaLives
namespace Go.Proofs.Ytcfkmhmgappckaa
open Go.RowKit Go.Proofs.Ytcfkmhmgappckaa.Sc Go.Proofs.Ytcfkmhmgappckaa.PAll Go.Proofs.YtcfkmhmgappckaaW.PrintWords Go.Proofs.YtcfkmhmgappckaaW.PrintLast Go.Proofs.YtcfkmhmgappckaaW.PrintMore

theorem wait_any {w : World} {base g : Nat} {F : Nat → Prop} {S : Sd} (h : Sch w base g F S) (hb : base ≤ w.heap.size) (hk : Ok S []) (hT : S.T.length ≤ 1000) (hM : S.M.length ≤ 1000) (hR : S.R.length ≤ 1000) (t c m : Int) :
    Calls Try.prog 15 #[.pointer (some ⟨g, 0, none⟩), .int .i64 t, .int .i64 c, .int .i64 m] w fun e w' => e = .returned (.int .i64 (wait S t c m).2) ∧ Next w base g F (wait S t c m).1 w' := by
  by_cases hE : waitE S t c m = 0
  · have hx := (first_eq _ _).1 hE
    simp only [Bool.and_eq_true] at hx
    obtain ⟨t, rfl⟩ := Int.eq_ofNat_of_zero_le ((there_iff _ _).1 hx.1.1.1).1
    obtain ⟨c, rfl⟩ := Int.eq_ofNat_of_zero_le ((there_iff _ _).1 hx.1.2).1
    refine (wait_nat h hb hk hT hM hR t c m hE).mono (fun e w' ⟨h1, h2⟩ => ⟨?_, h2⟩)
    rw [h1]; show _ = Ending.returned (.int .i64 (waitE S t c m)); rw [hE]
  · have e : (wait S t c m).1 = S := by unfold Sc.wait; rw [if_neg hE]
    rw [e]
    exact (wait_no h hT hM hR t c m hE).mono (fun e w' ⟨h1, h2⟩ => ⟨h1, Next.of_below h hb h2⟩)
theorem rest_any {w : World} {base g : Nat} {F : Nat → Prop} {S : Sd} (h : Sch w base g F S) (hb : base ≤ w.heap.size) (hk : Ok S []) (hT : S.T.length ≤ 1000) (hM : S.M.length ≤ 1000) (hR : S.R.length ≤ 1000) (t c : Int) :
    Calls Try.prog 26 #[.pointer (some ⟨g, 0, none⟩), .int .i64 t, .int .i64 c] w fun e w' => e = .returned (.int .i64 (Sc.rest S t c).2) ∧ Next w base g F (Sc.rest S t c).1 w' := by
  by_cases hE : restE S t c = 0
  · have hx := (first_eq _ _).1 hE
    simp only [Bool.and_eq_true] at hx
    obtain ⟨t, rfl⟩ := Int.eq_ofNat_of_zero_le ((there_iff _ _).1 hx.1.1).1
    obtain ⟨c, rfl⟩ := Int.eq_ofNat_of_zero_le ((there_iff _ _).1 hx.1.2).1
    refine (rest_nat h hb hk hT hM hR t c hE).mono (fun e w' ⟨h1, h2⟩ => ⟨?_, h2⟩)
    rw [h1]; show _ = Ending.returned (.int .i64 (restE S t c)); rw [hE]
  · have e : (Sc.rest S t c).1 = S := by unfold Sc.rest; rw [if_neg hE]
    rw [e]
    exact (rest_no h hT hM hR t c hE).mono (fun e w' ⟨h1, h2⟩ => ⟨h1, Next.of_below h hb h2⟩)
/-- A list of numbers that is read. -/
def Reads (w : World) (v : Value) (l : List Int) : Prop := ∃ A c, v = .slice A l.length c ∧ l.length ≤ c ∧ Kd.C (Kd.int .i64) w A l.length l
theorem Reads.of_row {w : World} {base t : Nat} {v : Value} {l : List Int} (hl : l.length ≤ 1000) (h : w.ownsRow base t 1 v l.length (l.map (Value.int .i64))) : Reads w v l := by
  rcases h.2 with ⟨e1, e2⟩ | ⟨b, cap, cur, e1, hb, hc, h1, h2, h3, h4⟩
  · have : l = [] := by
      have := h.1
      rw [e2] at this
      exact List.eq_nil_of_length_eq_zero (by simpa using e2)
    subst this
    exact ⟨none, 0, e1, Nat.le_refl _, rfl, by omega, fun h => by simp at h⟩
  · refine ⟨_, cap, e1, h1, rfl, by omega, fun _ => ⟨⟨b, 0, none⟩, rfl, fun j p hj => ⟨[.int .i64 p], rfl, rfl, fun i u hu => ?_⟩⟩⟩
    cases i with
    | succ i => simp at hu
    | zero =>
      obtain rfl : Value.int .i64 p = u := by simpa using hu
      obtain ⟨hjl, hjp⟩ := List.getElem?_eq_some_iff.1 hj
      have hx : cur.toList[j]? = some (.int .i64 p) := by
        have h5 : (cur.toList.take (l.length * 1))[j]? = (l.map (Value.int .i64))[j]? := by rw [h4]
        rw [List.getElem?_take_of_lt (by omega), List.getElem?_map, hj] at h5
        exact h5
      rw [Addr.add_lit]
      unfold World.cell?
      simp only [hc]
      show cur[0 + (j * 1 + 0)]? = _
      rw [Nat.zero_add, Nat.mul_one, Nat.add_zero, ← Array.getElem?_toList]
      exact hx
theorem ready_reads {w : World} {base g : Nat} {F : Nat → Prop} {S : Sd} (h : Sch w base g F S) (hn : S.T.length ≤ 1000) :
    Calls Try.prog 12 #[.pointer (some ⟨g, 0, none⟩)] w fun e w' => ∃ v, e = .returned v ∧ Reads w' v (ready S) ∧ Below w.heap.size w w' := by
  obtain ⟨_, bT, bM, bR, vs, us, h1, _⟩ := h
  refine (ready_any h1 hn).mono ?_
  rintro e w' ⟨v, rfl, hI, hb⟩
  refine ⟨v, rfl, Reads.of_row ?_ hI, hb⟩
  unfold ready
  rw [readyF_len]
  exact Nat.le_trans List.countP_le_length hn
theorem RowIn.cells {w : World} {base t : Nat} {ob : Option Nat} {v : Value} {l : List Int} (h : RowIn w base t 1 ob v (ints l)) : v = .slice none 0 0 ∧ l = [] ∨ ∃ b o c, v = .slice (some ⟨b, o, none⟩) l.length c ∧ ∀ j, j < l.length → w.cell? ⟨b, o + j, none⟩ = some (.int .i64 (l.getD j 0)) := by
  rcases h.2 with ⟨_, e, e2⟩ | ⟨b, off, cap, cs, _, e, _, hc, h1, h2, h3⟩
  · exact .inl ⟨e, by simpa [ints] using e2⟩
  · refine .inr ⟨b, off * 1, cap, by rw [e]; simp [ints], fun j hj => ?_⟩
    have h4 := h3 j (by simpa [ints] using hj)
    have hf : ∀ (l : List Int) (j : Nat), (ints l).flatten[j]? = (l[j]?).map (Value.int .i64) := by
      intro l
      induction l with
      | nil => intro j; simp [ints]
      | cons x l ih =>
        intro j
        cases j with
        | zero => simp [ints]
        | succ j => have := ih j; simpa [ints] using this
    unfold World.cell?
    simp only [hc]
    show cs[off * 1 + j]? = _
    rw [h4, hf, List.getElem?_eq_getElem hj, Option.map_some, List.getD_eq_getElem?_getD, List.getElem?_eq_getElem hj]
    rfl
theorem clone_any {w : World} {base t : Nat} {ob : Option Nat} {v : Value} {l : List Int} (h : RowIn w base t 1 ob v (ints l)) (hl : l.length ≤ 1000) :
    Calls Try.prog 34 #[v] w fun e w' => ∃ v', e = .returned v' ∧ Reads w' v' l ∧ Below w.heap.size w w' := by
  rcases h.cells with ⟨rfl, rfl⟩ | ⟨b, o, c, rfl, hc⟩
  · refine (Try.slices_Clone_int_nil 0 0 w).mono ?_
    rintro e w' ⟨rfl, rfl⟩
    exact ⟨_, rfl, ⟨none, 0, rfl, Nat.le_refl _, rfl, by simp, fun h => by simp at h⟩, Below.refl _ _⟩
  · refine (Try.slices_Clone_int b o l.length c l w (Nat.le_refl _) (by omega) hc).mono ?_
    rintro e w' ⟨v', rfl, h1, _, h2⟩
    rw [List.take_length] at h1
    exact ⟨v', rfl, Reads.of_row hl h1, h2⟩
set_option maxHeartbeats 1000000 in
set_option maxRecDepth 100000 in
theorem row_sch {w : World} {base g : Nat} {F : Nat → Prop} {S : Sd} (h : Sch w base g F S) (hn : S.M.length ≤ 1000) (hl : ∀ x ∈ S.M, x.2.length ≤ 1000) (m : Int) :
    Calls Try.prog 18 #[.pointer (some ⟨g, 0, none⟩), .int .i64 m] w fun e w' => ∃ v, e = .returned v ∧ Reads w' v (rowM S m) ∧ Below w.heap.size w w' := by
  obtain ⟨_, bT, bM, bR, vs, us, h1, _⟩ := h
  have d0 := h1.c1
  by_cases hm : there S.M m = true
  · have hmI := (there_iff _ _).1 hm
    obtain ⟨m, rfl⟩ := Int.eq_ofNat_of_zero_le hmI.1
    have hm2 : m < S.M.length := by omega
    obtain ⟨_, v, hv, d3⟩ := h1.cM m hm2
    rw [Nat.mul_comm] at d3
    have hR := h1.rows m _ v (List.getElem?_eq_getElem hm2) hv
    have hr : rowM S (m : Int) = (S.M[m]).2 := by unfold rowM mu; rw [hm, if_pos rfl, Int.toNat_natCast, List.getD_eq_getElem?_getD, List.getElem?_eq_getElem hm2]; rfl
    have hcl := clone_any hR (hl _ (List.getElem_mem _))
    rw [← hr] at hcl
    have g1 : ((m : Nat) : Int) < (S.M.length : Int) := by omega
    have HC := Lib.hid hcl
    clear hcl hr hR hv h1 hl
    go_enter Try.func18, Try.ntmps18
    go_wp2_with fail
    refine (in_mutex _ _ _ _ _ (by omega)).mono ?_
    rintro e w' ⟨rfl, rfl⟩
    rw [inB_there, hm]
    go_wp2_with fail
    refine HC.out.mono ?_
    rintro e w2 ⟨v2, rfl, hrd, hb⟩
    have HR := Lib.hid hrd
    have HB := Lib.hid hb
    clear hrd hb
    go_wp2_with fail
    go_ret
    exact ⟨v2, rfl, HR.out, HB.out⟩
  · have hm2 : there S.M m = false := by simpa using hm
    have hr : rowM S m = [] := by unfold rowM; rw [hm2]; rfl
    rw [hr]
    clear hr h1 hm hl
    go_enter Try.func18, Try.ntmps18
    go_wp2_with fail
    refine (in_mutex _ _ _ _ _ (by omega)).mono ?_
    rintro e w' ⟨rfl, rfl⟩
    rw [inB_there, hm2]
    go_wp2_with fail
    go_ret
    exact ⟨_, rfl, ⟨none, 0, rfl, Nat.le_refl _, rfl, by simp, fun h => by simp at h⟩, Below.refl _ _⟩
/-- One of those that are ready. -/
def pick (S : Sd) (n : Int) : Int × Bool := if (ready S).length = 0 then (0, false) else ((ready S).getD ((if n < 0 then -(n + 1) else n) % ((ready S).length : Int)).toNat 0, true)
end Go.Proofs.Ytcfkmhmgappckaa
