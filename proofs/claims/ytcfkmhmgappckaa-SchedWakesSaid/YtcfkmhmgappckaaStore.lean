/- A schedule behind a store: a state, an owner. No condition. -/
import Derived.Test.YtcfkmhmgappckaaReady
namespace Go.Proofs.Ytcfkmhmgappckaa
open Go.RowKit Go.Proofs.Ytcfkmhmgappckaa.Sc Go.Proofs.Ytcfkmhmgappckaa.PAll Go.Proofs.YtcfkmhmgappckaaW.PrintWords Go.Proofs.YtcfkmhmgappckaaW.PrintLast Go.Proofs.YtcfkmhmgappckaaW.PrintMore
section
variable {w w1 : World} {base g bT bM bR : Nat} {vs us : List (Option Nat × Value)} {S : Sd}
theorem IsS.ne3 (h : IsS w base g bT bM bR vs us S) : bT ≠ g ∧ bM ≠ g ∧ bR ≠ g ∧ bT ≠ bM ∧ bT ≠ bR ∧ bM ≠ bR := by
  have hap := (List.pairwise_append.1 h.apart).1
  simp at hap
  omega
theorem IsS.far (h : IsS w base g bT bM bR vs us S) {b : Nat} (hb : b = g ∨ b = bT ∨ b = bM ∨ b = bR) (x : Option Nat × Value) (hx : x ∈ vs ++ us) : x.1 ≠ some b := by
  have hap := (List.pairwise_append.1 h.apart).2.2
  have h2 : some b ∈ [some g, some bT, some bM, some bR] := by rcases hb with rfl | rfl | rfl | rfl <;> simp
  intro e
  rcases hap _ h2 _ (List.mem_map_of_mem (f := (·.1)) hx) with h3 | h3 | h3
  · cases h3
  · rw [h3] at e; cases e
  · exact h3 e.symm
theorem IsS.setT (h : IsS w base g bT bM bR vs us S) (t : Nat) (ht : t < S.T.length) (x : Int) : IsS (w.setCell ⟨bT, t, none⟩ (.int .i64 x)) base g bT bM bR vs us (Sc.setT S t x) := by
  have hs : ∀ k, k ≠ bT → (w.setCell ⟨bT, t, none⟩ (.int .i64 x)).heap[k]? = w.heap[k]? := fun k hk => Below.heap_setCell w ⟨bT, t, none⟩ _ k hk
  obtain ⟨n1, n2, n3, n4, n5, n6⟩ := h.ne3
  refine ⟨h.ge, ?_, h.geT, h.geM, h.geR, ?_, h.lenV, (hs _ (Ne.symm n4)).trans h.M, fun i a v p q => ?_, h.lenU, (hs _ (Ne.symm n5)).trans h.R, fun i a u p q => ?_, h.apart⟩
  · rw [hs _ (Ne.symm n1), h.cell]
    simp [Sc.setT]
  · simp [World.setCell, h.T, Array.getElem?_modify, Sc.setT, List.map_set]
  · exact (h.rows i a v p q).same (fun b e => hs b (fun e2 => h.far (b := bT) (by simp) v (by have := List.mem_of_getElem? q; simp [this]) (by rw [e, e2])))
  · exact (h.rests i a u p q).same (fun b e => hs b (fun e2 => h.far (b := bT) (by simp) u (by have := List.mem_of_getElem? q; simp [this]) (by rw [e, e2])))
theorem flat2_set {α : Type} (v : α) (j : Nat) (hj : j < 2) : ∀ (l : List (List α)), (∀ c ∈ l, c.length = 2) → ∀ m c, l[m]? = some c → l.flatten.set (m * 2 + j) v = (l.set m (c.set j v)).flatten
  | [], _, m, c, h => by simp at h
  | d :: l, hl, 0, c, h => by
    obtain rfl : d = c := by simpa using h
    have hd := hl d (by simp)
    simp only [List.flatten_cons, Nat.zero_mul, Nat.zero_add, List.set_cons_zero]
    rw [List.set_append_left _ _ (by omega)]
  | d :: l, hl, m + 1, c, h => by
    have hd := hl d (by simp)
    have ih := flat2_set v j hj l (fun e he => hl e (by simp [he])) m c (by simpa using h)
    simp only [List.flatten_cons, List.set_cons_succ]
    rw [List.set_append_right _ _ (by omega), hd, show (m + 1) * 2 + j - 2 = m * 2 + j by omega, ih]
def cellsM (M : List (Int × List Int)) (vs : List (Option Nat × Value)) : List (List Value) := List.zipWith (fun (x : Int × List Int) (v : Option Nat × Value) => [Value.int .i64 x.1, v.2]) M vs
theorem cellsM_two (M : List (Int × List Int)) (vs : List (Option Nat × Value)) : ∀ c ∈ cellsM M vs, c.length = 2 := by
  intro c hc
  obtain ⟨k, hk, rfl⟩ := List.getElem_of_mem hc
  simp [cellsM]
theorem cellsM_set (M : List (Int × List Int)) (vs : List (Option Nat × Value)) (m : Nat) (hm : m < M.length) (hv : m < vs.length) (x : Int) (r : List Int) :
    cellsM (M.set m (x, r)) vs = (cellsM M vs).set m [Value.int .i64 x, (vs[m]).2] := by
  apply List.ext_getElem
  · simp [cellsM]
  · intro k h1 h2
    simp only [cellsM, List.getElem_zipWith, List.getElem_set]
    by_cases e : m = k
    · subst e; simp
    · simp [e]
theorem IsS.setO (h : IsS w base g bT bM bR vs us S) (m : Nat) (hm : m < S.M.length) (x : Int) : IsS (w.setCell ⟨bM, m * 2, none⟩ (.int .i64 x)) base g bT bM bR vs us (Sc.setM S m (x, (S.M[m]).2)) := by
  have hs : ∀ k, k ≠ bM → (w.setCell ⟨bM, m * 2, none⟩ (.int .i64 x)).heap[k]? = w.heap[k]? := fun k hk => Below.heap_setCell w ⟨bM, m * 2, none⟩ _ k hk
  obtain ⟨n1, n2, n3, n4, n5, n6⟩ := h.ne3
  have hv : m < vs.length := by have := h.lenV; omega
  have hz : (cellsM S.M vs)[m]? = some [Value.int .i64 (S.M[m]).1, (vs[m]).2] := by
    unfold cellsM
    rw [List.getElem?_zipWith, List.getElem?_eq_getElem hm, List.getElem?_eq_getElem hv]
  have hfl := flat2_set (Value.int .i64 x) 0 (by omega) (cellsM S.M vs) (cellsM_two _ _) m _ hz
  refine ⟨h.ge, ?_, h.geT, h.geM, h.geR, (hs _ n4).trans h.T, ?_, ?_, fun i a v p q => ?_, h.lenU, (hs _ (Ne.symm n6)).trans h.R, fun i a u p q => ?_, h.apart⟩
  · rw [hs _ (Ne.symm n2), h.cell]
    simp [Sc.setM]
  · rw [h.lenV]; simp [Sc.setM]
  · have hM := h.M
    rw [show List.zipWith (fun (x : Int × List Int) (v : Option Nat × Value) => [Value.int .i64 x.1, v.2]) S.M vs = cellsM S.M vs from rfl] at hM
    have e1 : (Sc.setM S m (x, (S.M[m]).2)).M = S.M.set m (x, (S.M[m]).2) := by simp [Sc.setM]
    rw [show List.zipWith (fun (x : Int × List Int) (v : Option Nat × Value) => [Value.int .i64 x.1, v.2]) (Sc.setM S m (x, (S.M[m]).2)).M vs = cellsM (Sc.setM S m (x, (S.M[m]).2)).M vs from rfl, e1, cellsM_set _ _ m hm hv]
    rw [Nat.add_zero, List.set_cons_zero] at hfl
    rw [← hfl]
    simp [World.setCell, hM, Array.getElem?_modify]
  · refine RowIn.same (w := w) ?_ (fun b e => hs b (fun e2 => h.far (b := bM) (by simp) v (by have := List.mem_of_getElem? q; simp [this]) (by rw [e, e2])))
    have p' : (S.M.set m (x, (S.M[m]).2))[i]? = some a := by simpa [Sc.setM] using p
    rw [List.getElem?_set] at p'
    split at p'
    · rename_i e
      subst e
      obtain rfl := Option.some.inj p'
      exact h.rows m (S.M[m]) v (List.getElem?_eq_getElem hm) q
    · exact h.rows i a v p' q
  · exact (h.rests i a u p q).same (fun b e => hs b (fun e2 => h.far (b := bM) (by simp) u (by have := List.mem_of_getElem? q; simp [this]) (by rw [e, e2])))
end
end Go.Proofs.Ytcfkmhmgappckaa
