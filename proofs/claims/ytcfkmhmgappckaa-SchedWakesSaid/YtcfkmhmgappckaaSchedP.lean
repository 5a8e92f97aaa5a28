/- Who may go on, plain: tasks, mutexes, conditions. No condition. -/
namespace Go.Proofs.Ytcfkmhmgappckaa.Sc

/-- States; owners with their rows; those that rest, each with its mutex. -/
structure Sd where
  T : List Int
  M : List (Int × List Int)
  R : List (List (Int × Int))
def there {α : Type} (l : List α) (i : Int) : Bool := decide (0 ≤ i) && decide (i < l.length)
def stT (s : Sd) (t : Int) : Int := if there s.T t then s.T.getD t.toNat 0 else -1
def mu (s : Sd) (m : Int) : Int × List Int := s.M.getD m.toNat (-1, [])
def owner (s : Sd) (m : Int) : Int := if there s.M m then (mu s m).1 else -1
def rowM (s : Sd) (m : Int) : List Int := if there s.M m then (mu s m).2 else []
def setT (s : Sd) (t v : Int) : Sd := { s with T := s.T.set t.toNat v }
def setM (s : Sd) (m : Int) (x : Int × List Int) : Sd := { s with M := s.M.set m.toNat x }
def setR (s : Sd) (c : Int) (x : List (Int × Int)) : Sd := { s with R := s.R.set c.toNat x }
/-- A task comes for a mutex. -/
def come (s : Sd) (t m : Int) : Sd × Bool :=
  if (mu s m).1 = -1 then (setT (setM s m (t, (mu s m).2)) t 0, true)
  else (setT (setM s m ((mu s m).1, (mu s m).2 ++ [t])) t 1, false)
/-- A mutex is given up. -/
def give (s : Sd) (m : Int) : Sd :=
  match (mu s m).2 with
  | [] => setM s m (-1, [])
  | t :: r => (come (setM s m (-1, r)) t m).1
/-- What is told of a thing that may not be there, or not be so. -/
def first (here : Bool) (so : Bool) : Int := if !here then 1 else if !so then 12 else 0
def lockE (s : Sd) (t m : Int) : Int := first (there s.T t && there s.M m) (decide (stT s t = 0) && decide (owner s m ≠ t))
def lock (s : Sd) (t m : Int) : Sd × Bool × Int := if lockE s t m ≠ 0 then (s, false, lockE s t m) else ((come s t m).1, (come s t m).2, 0)
def unlockE (s : Sd) (t m : Int) : Int := first (there s.T t && there s.M m) (decide (stT s t = 0) && decide (owner s m = t))
def unlock (s : Sd) (t m : Int) : Sd × Int := (if unlockE s t m = 0 then give s m else s, unlockE s t m)
def waitE (s : Sd) (t c m : Int) : Int := first (there s.T t && there s.M m && there s.R c) (decide (stT s t = 0) && decide (owner s m = t))
def wait (s : Sd) (t c m : Int) : Sd × Int :=
  (if waitE s t c m = 0 then give (setR (setT s t 2) c (s.R.getD c.toNat [] ++ [(t, m)])) m else s, waitE s t c m)
def restE (s : Sd) (t c : Int) : Int := first (there s.T t && there s.R c) (decide (stT s t = 0))
def rest (s : Sd) (t c : Int) : Sd × Int := (if restE s t c = 0 then setR (setT s t 2) c (s.R.getD c.toNat [] ++ [(t, -1)]) else s, restE s t c)
def wakeOne (s : Sd) (x : Int × Int) : Sd := if x.2 = -1 then setT s x.1 0 else (come s x.1 x.2).1
def wake (s : Sd) (c : Int) : Sd × Int × Int :=
  if there s.R c then ((s.R.getD c.toNat []).foldl wakeOne (setR s c []), ((s.R.getD c.toNat []).length : Int), 0) else (s, 0, 1)
def endE (s : Sd) (t : Int) : Int := first (there s.T t) (decide (stT s t = 0) && !(s.M.any fun x => decide (x.1 = t)))
def endT (s : Sd) (t : Int) : Sd × Int := (if endE s t = 0 then setT s t 3 else s, endE s t)
/-- Those that are ready, from a place on. -/
def readyF (l : List Int) (k : Nat) : List Int := match l with
  | [] => []
  | x :: l => if x = 0 then (k : Int) :: readyF l (k + 1) else readyF l (k + 1)
def ready (s : Sd) : List Int := readyF s.T 0
def stuck (s : Sd) : Bool := !(s.T.any fun x => decide (x = 0)) && s.T.any fun x => decide (x ≠ 3)
def newS (t m c : Int) : Sd := ⟨List.replicate t.toNat 0, List.replicate m.toNat (-1, []), List.replicate c.toNat []⟩

/-! ### tasks that come for one mutex, one behind the other -/
def nums (r : List Nat) : List Int := r.map (fun t : Nat => (t : Int))
/-- i of them have had it. -/
def stR (n : Nat) (r : List Nat) (i : Nat) : Sd :=
  ⟨(List.range n).map (fun t => if t ∈ r.drop (i + 1) then (1 : Int) else 0), [(if h : i < r.length then ((r[i] : Nat) : Int) else -1, nums (r.drop (i + 1)))], [[]]⟩
theorem stR_new (n : Nat) : newS n 1 1 = stR n [] 0 := by
  unfold newS stR nums
  simp only [List.drop_nil, List.length_nil, Nat.not_lt_zero, dite_false, List.map_nil, List.not_mem_nil, if_false]
  congr 1
  apply List.ext_getElem
  · simp
  · intro i h1 h2
    simp
theorem getD_range (n t : Nat) (f : Nat → Int) (h : t < n) : ((List.range n).map f).getD t 0 = f t := by
  simp [List.getD_eq_getElem?_getD, h]
theorem there_nat {α : Type} (l : List α) (i : Nat) (h : i < l.length) : there l (i : Int) = true := by unfold there; simp [h]
theorem stR_st (n : Nat) (r : List Nat) (i t : Nat) (h : t < n) : stT (stR n r i) (t : Int) = if t ∈ r.drop (i + 1) then 1 else 0 := by
  unfold stT
  rw [there_nat _ _ (by unfold stR; simpa using h), if_pos rfl, Int.toNat_natCast]
  exact getD_range n t _ h
theorem stR_mu (n : Nat) (r : List Nat) (i : Nat) : mu (stR n r i) 0 = (if h : i < r.length then ((r[i] : Nat) : Int) else -1, nums (r.drop (i + 1))) := rfl
theorem stR_owner (n : Nat) (r : List Nat) (i : Nat) : owner (stR n r i) 0 = if h : i < r.length then ((r[i] : Nat) : Int) else -1 := rfl
theorem set_range (n t : Nat) (f : Nat → Int) (v : Int) : ((List.range n).map f).set t v = (List.range n).map (fun j => if j = t then v else f j) := by
  apply List.ext_getElem
  · simp
  · intro j h1 h2
    simp only [List.getElem_set, List.getElem_map, List.getElem_range]
    by_cases e : t = j
    · rw [if_pos e, if_pos e.symm]
    · rw [if_neg e, if_neg (Ne.symm e)]
theorem lock_stR (n : Nat) (r : List Nat) (t : Nat) (h : t < n) (hr : t ∉ r) : lock (stR n r 0) (t : Int) 0 = (stR n (r ++ [t]) 0, decide (r.length = 0), 0) := by
  have h1 : stT (stR n r 0) (t : Int) = 0 := by
    rw [stR_st n r 0 t h, if_neg (fun hm => hr (List.mem_of_mem_drop hm))]
  have h2 : owner (stR n r 0) 0 ≠ (t : Int) := by
    rw [stR_owner]
    split
    · rename_i h0
      intro e
      exact hr (by have : r[0] = t := by exact_mod_cast e
                   rw [← this]; exact List.getElem_mem _)
    · omega
  have hE : lockE (stR n r 0) (t : Int) 0 = 0 := by
    unfold lockE first
    have h3 : there (stR n r 0).M 0 = true := rfl
    rw [there_nat _ t (by unfold stR; simpa using h), h1, h3, decide_eq_true h2]
    rfl
  unfold lock
  rw [hE, if_neg (by simp)]
  unfold come
  rw [stR_mu]
  cases r with
  | nil =>
    simp only [List.length_nil, Nat.lt_irrefl, dite_false, if_true]
    refine Prod.ext ?_ rfl
    simp [stR, setT, setM, set_range, nums]
  | cons x r =>
    have hx : (if h : 0 < (x :: r).length then (((x :: r)[0] : Nat) : Int) else -1) = (x : Int) := by simp
    rw [hx, if_neg (by simp only; omega)]
    refine Prod.ext ?_ rfl
    simp only [stR, setT, setM, set_range, nums, List.set_cons_zero, Int.toNat_zero, Int.toNat_natCast]
    congr 1
    · apply List.map_congr_left
      intro j hj
      by_cases e : j = t
      · subst e; simp
      · rw [if_neg e]; simp [e]
    · simp
theorem drop_at (r : List Nat) (i : Nat) (h : i < r.length) : r.drop i = r[i] :: r.drop (i + 1) := List.drop_eq_getElem_cons h
theorem notin_drop {r : List Nat} (hn : r.Nodup) (i : Nat) (h : i < r.length) : r[i] ∉ r.drop (i + 1) := by
  have h2 : (r.drop i).Nodup := hn.sublist (List.drop_sublist _ _)
  rw [drop_at r i h] at h2
  exact (List.nodup_cons.1 h2).1
theorem unlock_stR (n : Nat) (r : List Nat) (hn : r.Nodup) (hr : ∀ t ∈ r, t < n) (i : Nat) (h : i < r.length) : unlock (stR n r i) ((r[i] : Nat) : Int) 0 = (stR n r (i + 1), 0) := by
  have h1 : stT (stR n r i) ((r[i] : Nat) : Int) = 0 := by rw [stR_st n r i _ (hr _ (List.getElem_mem _)), if_neg (notin_drop hn i h)]
  have h2 : owner (stR n r i) 0 = ((r[i] : Nat) : Int) := by rw [stR_owner, dif_pos h]
  have hE : unlockE (stR n r i) ((r[i] : Nat) : Int) 0 = 0 := by
    unfold unlockE first
    have h3 : there (stR n r i).M 0 = true := rfl
    rw [there_nat _ (r[i]) (by unfold stR; simpa using hr _ (List.getElem_mem _)), h1, h2, h3, decide_eq_true rfl, decide_eq_true rfl]
    rfl
  unfold unlock
  rw [hE, if_pos rfl]
  refine Prod.ext ?_ rfl
  show give (stR n r i) 0 = stR n r (i + 1)
  unfold give
  rw [stR_mu]
  by_cases hl : i + 1 < r.length
  · have e : nums (r.drop (i + 1)) = ((r[i + 1] : Nat) : Int) :: nums (r.drop (i + 2)) := by rw [drop_at r (i + 1) hl]; rfl
    simp only [e]
    have hmu : mu (setM (stR n r i) 0 (-1, nums (r.drop (i + 2)))) 0 = (-1, nums (r.drop (i + 2))) := rfl
    unfold come
    rw [hmu, if_pos rfl]
    simp only [stR, setT, setM, set_range, List.set_cons_zero, Int.toNat_zero, Int.toNat_natCast, dif_pos hl]
    congr 1
    apply List.map_congr_left
    intro j hj
    have hm : j ∈ r.drop (i + 1) ↔ j = r[i + 1] ∨ j ∈ r.drop (i + 2) := by rw [drop_at r (i + 1) hl, List.mem_cons]
    by_cases e2 : j = r[i + 1]
    · rw [if_pos e2, e2, if_neg (notin_drop hn (i + 1) hl)]
    · rw [if_neg e2]
      by_cases e3 : j ∈ r.drop (i + 2)
      · rw [if_pos e3, if_pos (hm.2 (.inr e3))]
      · rw [if_neg e3, if_neg (fun h4 => (hm.1 h4).elim e2 e3)]
  · have e : r.drop (i + 1) = [] := List.drop_of_length_le (by omega)
    have e2 : r.drop (i + 1 + 1) = [] := List.drop_of_length_le (by omega)
    simp only [e, nums, List.map_nil]
    simp only [stR, setM, List.set_cons_zero, Int.toNat_zero, dif_neg hl, e, e2, nums, List.map_nil]
theorem readyF_len : ∀ (l : List Int) (k : Nat), (readyF l k).length = l.countP (fun x => decide (x = 0))
  | [], _ => rfl
  | x :: l, k => by
    unfold readyF
    by_cases h : x = 0
    · rw [if_pos h, List.length_cons, readyF_len l, List.countP_cons_of_pos (by simpa using h)]
    · rw [if_neg h, readyF_len l, List.countP_cons_of_neg (by simpa using h)]
theorem ready_stR (n : Nat) (r : List Nat) (hn : r.Nodup) (hp : r.Perm (List.range n)) (i : Nat) : (ready (stR n r i)).length = min n (i + 1) := by
  unfold ready stR
  rw [readyF_len, List.countP_map]
  have hc : ∀ l : List Nat, l.countP ((fun x : Int => decide (x = 0)) ∘ fun t => if t ∈ r.drop (i + 1) then (1 : Int) else 0) = l.countP (fun t => decide (t ∉ r.drop (i + 1))) := by
    intro l
    apply List.countP_congr
    intro t _
    simp only [Function.comp]
    by_cases h : t ∈ r.drop (i + 1) <;> simp [h]
  rw [hc, ← hp.countP_eq]
  have hl : r.length = n := by rw [hp.length_eq, List.length_range]
  conv => lhs; rw [← List.take_append_drop (i + 1) r, List.countP_append]
  have hnd : (r.take (i + 1) ++ r.drop (i + 1)).Nodup := by rw [List.take_append_drop]; exact hn
  have h1 : (r.take (i + 1)).countP (fun t => decide (t ∉ r.drop (i + 1))) = (r.take (i + 1)).length := by
    rw [List.countP_eq_length]
    intro t ht
    rw [decide_eq_true_iff]
    intro h2
    exact (List.nodup_append.1 hnd).2.2 t ht t h2 rfl
  have h2 : (r.drop (i + 1)).countP (fun t => decide (t ∉ r.drop (i + 1))) = 0 := by
    rw [List.countP_eq_zero]
    intro t ht
    simp [ht]
  rw [List.take_append_drop, h1, h2, List.length_take]
  omega
end Go.Proofs.Ytcfkmhmgappckaa.Sc
