/- What a task is, whose a mutex is. No condition but on size. -/
import Derived.Test.YtcfkmhmgappckaaIsS
import Derived.Test.YtcfkmhmgappckaaIn
namespace Go.Proofs.Ytcfkmhmgappckaa
open Go.RowKit Go.Proofs.Ytcfkmhmgappckaa.Sc Go.Proofs.Ytcfkmhmgappckaa.PAll Go.Proofs.YtcfkmhmgappckaaW.PrintWords Go.Proofs.YtcfkmhmgappckaaW.PrintLast Go.Proofs.YtcfkmhmgappckaaW.PrintMore

section
variable {w : World} {base g bT bM bR : Nat} {vs us : List (Option Nat × Value)} {S : Sd}
theorem IsS.c0 (h : IsS w base g bT bM bR vs us S) : w.cell? ⟨g, 0, none⟩ = some (.slice (some ⟨bT, 0, none⟩) S.T.length S.T.length) := by simp [World.cell?, h.cell]
theorem IsS.c1 (h : IsS w base g bT bM bR vs us S) : w.cell? ⟨g, 1, none⟩ = some (.slice (some ⟨bM, 0, none⟩) S.M.length S.M.length) := by simp [World.cell?, h.cell]
theorem IsS.c2 (h : IsS w base g bT bM bR vs us S) : w.cell? ⟨g, 2, none⟩ = some (.slice (some ⟨bR, 0, none⟩) S.R.length S.R.length) := by simp [World.cell?, h.cell]
theorem IsS.cT (h : IsS w base g bT bM bR vs us S) (i : Nat) (hi : i < S.T.length) : w.cell? ⟨bT, i, none⟩ = some (.int .i64 S.T[i]) := by simp [World.cell?, h.T, hi]
theorem flat2 {α : Type} : ∀ (l : List (List α)), (∀ c ∈ l, c.length = 2) → ∀ i j, j < 2 → l.flatten[2 * i + j]? = (l[i]?).bind (·[j]?)
  | [], _, i, j, _ => by simp
  | c :: l, h, 0, j, hj => by
    have := h c (by simp)
    rw [List.flatten_cons, List.getElem?_append_left (by omega)]
    simp
  | c :: l, h, i + 1, j, hj => by
    have hc := h c (by simp)
    rw [List.flatten_cons, List.getElem?_append_right (by omega), hc, show 2 * (i + 1) + j - 2 = 2 * i + j by omega, flat2 l (fun d hd => h d (by simp [hd])) i j hj]
    simp
theorem IsS.cM (h : IsS w base g bT bM bR vs us S) (i : Nat) (hi : i < S.M.length) : w.cell? ⟨bM, 2 * i, none⟩ = some (.int .i64 (S.M[i]).1) ∧ ∃ v, vs[i]? = some v ∧ w.cell? ⟨bM, 2 * i + 1, none⟩ = some v.2 := by
  have hv : i < vs.length := by have := h.lenV; omega
  have hz : (List.zipWith (fun (x : Int × List Int) (v : Option Nat × Value) => [Value.int .i64 x.1, v.2]) S.M vs)[i]? = some [Value.int .i64 (S.M[i]).1, (vs[i]).2] := by
    rw [List.getElem?_zipWith, List.getElem?_eq_getElem hi, List.getElem?_eq_getElem hv]
  have hall : ∀ c ∈ List.zipWith (fun (x : Int × List Int) (v : Option Nat × Value) => [Value.int .i64 x.1, v.2]) S.M vs, c.length = 2 := by
    intro c hc
    obtain ⟨k, hk, rfl⟩ := List.getElem_of_mem hc
    simp
  have f0 := flat2 _ hall i 0 (by omega)
  have f1 := flat2 _ hall i 1 (by omega)
  rw [hz] at f0 f1
  refine ⟨?_, vs[i], List.getElem?_eq_getElem hv, ?_⟩
  · simp only [World.cell?, h.M, Option.bind_some]
    simpa using f0
  · simp only [World.cell?, h.M, Option.bind_some]
    simpa using f1
end
set_option maxHeartbeats 400000 in
theorem state_any {w : World} {base g bT bM bR : Nat} {vs us : List (Option Nat × Value)} {S : Sd} (h : IsS w base g bT bM bR vs us S) (hn : S.T.length ≤ 1000) (t : Int) :
    Calls Try.prog 16 #[.pointer (some ⟨g, 0, none⟩), .int .i64 t] w fun e w' => e = .returned (.int .i64 (stT S t)) ∧ w' = w := by
  have d0 := h.c0
  by_cases hi : 0 ≤ t ∧ t < S.T.length
  · have e1 : inB S.T.length t = true := by unfold inB; simp [hi.1, hi.2]
    have e2 : there S.T t = true := by unfold there; simp [hi.1, hi.2]
    have d1 := h.cT t.toNat (by omega)
    have e3 : stT S t = S.T[t.toNat]'(by omega) := by unfold stT; rw [e2, if_pos rfl, List.getD_eq_getElem?_getD, List.getElem?_eq_getElem (by omega)]; rfl
    rw [e3]
    obtain ⟨x, hx⟩ : ∃ x, S.T[t.toNat]'(by omega) = x := ⟨_, rfl⟩
    rw [hx] at d1 ⊢
    have g1 := hi.1
    have g2 := hi.2
    clear h e2 e3 hx hi
    go_enter Try.func16, Try.ntmps16
    go_wp2_with fail
    refine (in_int _ _ _ _ _ (by omega)).mono ?_
    rintro e w' ⟨rfl, rfl⟩
    rw [e1]
    go_wp2_with fail
    go_ret
    exact ⟨rfl, rfl⟩
  · have e1 : inB S.T.length t = false := by unfold inB; rw [Bool.and_eq_false_iff, decide_eq_false_iff_not, decide_eq_false_iff_not]; omega
    have e2 : there S.T t = false := by unfold there; rw [Bool.and_eq_false_iff, decide_eq_false_iff_not, decide_eq_false_iff_not]; omega
    have e3 : stT S t = -1 := by unfold stT; rw [e2]; rfl
    rw [e3]
    clear h e2 e3 hi
    go_enter Try.func16, Try.ntmps16
    go_wp2_with fail
    refine (in_int _ _ _ _ _ (by omega)).mono ?_
    rintro e w' ⟨rfl, rfl⟩
    rw [e1]
    go_wp2_with fail
    go_ret
    exact ⟨rfl, rfl⟩
set_option maxHeartbeats 400000 in
theorem owner_any {w : World} {base g bT bM bR : Nat} {vs us : List (Option Nat × Value)} {S : Sd} (h : IsS w base g bT bM bR vs us S) (hn : S.M.length ≤ 1000) (t : Int) :
    Calls Try.prog 11 #[.pointer (some ⟨g, 0, none⟩), .int .i64 t] w fun e w' => e = .returned (.int .i64 (owner S t)) ∧ w' = w := by
  have d0 := h.c1
  by_cases hi : 0 ≤ t ∧ t < S.M.length
  · have e1 : inB S.M.length t = true := by unfold inB; simp [hi.1, hi.2]
    have e2 : there S.M t = true := by unfold there; simp [hi.1, hi.2]
    have d1 := (h.cM t.toNat (by omega)).1
    have e3 : owner S t = (S.M[t.toNat]'(by omega)).1 := by unfold owner mu; rw [e2, if_pos rfl, List.getD_eq_getElem?_getD, List.getElem?_eq_getElem (by omega)]; rfl
    rw [e3]
    obtain ⟨x, hx⟩ : ∃ x, S.M[t.toNat]'(by omega) = x := ⟨_, rfl⟩
    rw [hx] at d1 ⊢
    have d2 : w.cell? ⟨bM, t.toNat * 2, none⟩ = some (.int .i64 x.1) := by rw [Nat.mul_comm]; exact d1
    have g1 := hi.1
    have g2 := hi.2
    clear h e2 e3 hx hi
    go_enter Try.func11, Try.ntmps11
    go_wp2_with fail
    refine (in_mutex _ _ _ _ _ (by omega)).mono ?_
    rintro e w' ⟨rfl, rfl⟩
    rw [e1]
    go_wp2_with fail
    go_ret
    exact ⟨rfl, rfl⟩
  · have e1 : inB S.M.length t = false := by unfold inB; rw [Bool.and_eq_false_iff, decide_eq_false_iff_not, decide_eq_false_iff_not]; omega
    have e2 : there S.M t = false := by unfold there; rw [Bool.and_eq_false_iff, decide_eq_false_iff_not, decide_eq_false_iff_not]; omega
    have e3 : owner S t = -1 := by unfold owner; rw [e2]; rfl
    rw [e3]
    clear h e2 e3 hi
    go_enter Try.func11, Try.ntmps11
    go_wp2_with fail
    refine (in_mutex _ _ _ _ _ (by omega)).mono ?_
    rintro e w' ⟨rfl, rfl⟩
    rw [e1]
    go_wp2_with fail
    go_ret
    exact ⟨rfl, rfl⟩
end Go.Proofs.Ytcfkmhmgappckaa
