/- Joined: SchedP, SchedI, WakesP, IsS, In, State, Ready, Store, Push, Foot, Come, Held, Give. -/
import Derived.Test.YtcfkmhmgappckaaPAllx1
import Derived.Test.YtcfkmhmgappckaaShelf
import Derived.Test.YtcfkmhmgappckaaRows
import Derived.WalkKit
import Derived.WalkSpells
import Derived.WalkLawsBesides
import Derived.Maps.AppendAt
import Derived.Lib.OthersKept
import Derived.Lib.Hide
import Derived.ArgAppend
import Derived.BigRegion
import Derived.Outline
import Derived.Deep.RegionLaw
set_option linter.unusedVariables false
set_option linter.unusedSimpArgs false
/- Who may go on, plain: tasks, mutexes, conditions. No condition. -/
namespace Go.Proofs.Ytcfkmhmgappckaa.Sc

/-- States; owners with their rows; those that rest, each with its mutex. -/
structure Sd where
  T : List Int
  M : List (Int × List Int)
  R : List (List (Int × Int))
def there {α : Type} (l : List α) (i : Int) : Bool := decide (0 ≤ i) && decide (i < l.length)
def stT (s : Sd) (t : Int) : Int := if there s.T t then s.T.getD t.toNat 0 else -1
def mu (s : Sd) (m : Int) : Int × List Int := s.M.getD m.toNat (-1, [])
def owner (s : Sd) (m : Int) : Int := if there s.M m then (mu s m).1 else -1
def rowM (s : Sd) (m : Int) : List Int := if there s.M m then (mu s m).2 else []
def setT (s : Sd) (t v : Int) : Sd := { s with T := s.T.set t.toNat v }
def setM (s : Sd) (m : Int) (x : Int × List Int) : Sd := { s with M := s.M.set m.toNat x }
def setR (s : Sd) (c : Int) (x : List (Int × Int)) : Sd := { s with R := s.R.set c.toNat x }
/-- A task comes for a mutex. -/
def come (s : Sd) (t m : Int) : Sd × Bool :=
  if (mu s m).1 = -1 then (setT (setM s m (t, (mu s m).2)) t 0, true)
  else (setT (setM s m ((mu s m).1, (mu s m).2 ++ [t])) t 1, false)
/-- A mutex is given up. -/
def give (s : Sd) (m : Int) : Sd :=
  match (mu s m).2 with
  | [] => setM s m (-1, [])
  | t :: r => (come (setM s m (-1, r)) t m).1
/-- What is told of a thing that may not be there, or not be so. -/
def first (here : Bool) (so : Bool) : Int := if !here then 1 else if !so then 12 else 0
def lockE (s : Sd) (t m : Int) : Int := first (there s.T t && there s.M m) (decide (stT s t = 0) && decide (owner s m ≠ t))
def lock (s : Sd) (t m : Int) : Sd × Bool × Int := if lockE s t m ≠ 0 then (s, false, lockE s t m) else ((come s t m).1, (come s t m).2, 0)
def unlockE (s : Sd) (t m : Int) : Int := first (there s.T t && there s.M m) (decide (stT s t = 0) && decide (owner s m = t))
def unlock (s : Sd) (t m : Int) : Sd × Int := (if unlockE s t m = 0 then give s m else s, unlockE s t m)
def waitE (s : Sd) (t c m : Int) : Int := first (there s.T t && there s.M m && there s.R c) (decide (stT s t = 0) && decide (owner s m = t))
def wait (s : Sd) (t c m : Int) : Sd × Int :=
  (if waitE s t c m = 0 then give (setR (setT s t 2) c (s.R.getD c.toNat [] ++ [(t, m)])) m else s, waitE s t c m)
def restE (s : Sd) (t c : Int) : Int := first (there s.T t && there s.R c) (decide (stT s t = 0))
def rest (s : Sd) (t c : Int) : Sd × Int := (if restE s t c = 0 then setR (setT s t 2) c (s.R.getD c.toNat [] ++ [(t, -1)]) else s, restE s t c)
def wakeOne (s : Sd) (x : Int × Int) : Sd := if x.2 = -1 then setT s x.1 0 else (come s x.1 x.2).1
def wake (s : Sd) (c : Int) : Sd × Int × Int :=
  if there s.R c then ((s.R.getD c.toNat []).foldl wakeOne (setR s c []), ((s.R.getD c.toNat []).length : Int), 0) else (s, 0, 1)
def endE (s : Sd) (t : Int) : Int := first (there s.T t) (decide (stT s t = 0) && !(s.M.any fun x => decide (x.1 = t)))
def endT (s : Sd) (t : Int) : Sd × Int := (if endE s t = 0 then setT s t 3 else s, endE s t)
/-- Those that are ready, from a place on. -/
def readyF (l : List Int) (k : Nat) : List Int := match l with
  | [] => []
  | x :: l => if x = 0 then (k : Int) :: readyF l (k + 1) else readyF l (k + 1)
def ready (s : Sd) : List Int := readyF s.T 0
def stuck (s : Sd) : Bool := !(s.T.any fun x => decide (x = 0)) && s.T.any fun x => decide (x ≠ 3)
def newS (t m c : Int) : Sd := ⟨List.replicate t.toNat 0, List.replicate m.toNat (-1, []), List.replicate c.toNat []⟩

/-! ### tasks that come for one mutex, one behind the other -/
def nums (r : List Nat) : List Int := r.map (fun t : Nat => (t : Int))
/-- i of them have had it. -/
def stR (n : Nat) (r : List Nat) (i : Nat) : Sd :=
  ⟨(List.range n).map (fun t => if t ∈ r.drop (i + 1) then (1 : Int) else 0), [(if h : i < r.length then ((r[i] : Nat) : Int) else -1, nums (r.drop (i + 1)))], [[]]⟩
theorem stR_new (n : Nat) : newS n 1 1 = stR n [] 0 := by
  unfold newS stR nums
  simp only [List.drop_nil, List.length_nil, Nat.not_lt_zero, dite_false, List.map_nil, List.not_mem_nil, if_false]
  congr 1
  apply List.ext_getElem
  · simp
  · intro i h1 h2
    simp
theorem getD_range (n t : Nat) (f : Nat → Int) (h : t < n) : ((List.range n).map f).getD t 0 = f t := by
  simp [List.getD_eq_getElem?_getD, h]
theorem there_nat {α : Type} (l : List α) (i : Nat) (h : i < l.length) : there l (i : Int) = true := by unfold there; simp [h]
theorem stR_st (n : Nat) (r : List Nat) (i t : Nat) (h : t < n) : stT (stR n r i) (t : Int) = if t ∈ r.drop (i + 1) then 1 else 0 := by
  unfold stT
  rw [there_nat _ _ (by unfold stR; simpa using h), if_pos rfl, Int.toNat_natCast]
  exact getD_range n t _ h
theorem stR_mu (n : Nat) (r : List Nat) (i : Nat) : mu (stR n r i) 0 = (if h : i < r.length then ((r[i] : Nat) : Int) else -1, nums (r.drop (i + 1))) := rfl
theorem stR_owner (n : Nat) (r : List Nat) (i : Nat) : owner (stR n r i) 0 = if h : i < r.length then ((r[i] : Nat) : Int) else -1 := rfl
theorem set_range (n t : Nat) (f : Nat → Int) (v : Int) : ((List.range n).map f).set t v = (List.range n).map (fun j => if j = t then v else f j) := by
  apply List.ext_getElem
  · simp
  · intro j h1 h2
    simp only [List.getElem_set, List.getElem_map, List.getElem_range]
    by_cases e : t = j
    · rw [if_pos e, if_pos e.symm]
    · rw [if_neg e, if_neg (Ne.symm e)]
theorem lock_stR (n : Nat) (r : List Nat) (t : Nat) (h : t < n) (hr : t ∉ r) : lock (stR n r 0) (t : Int) 0 = (stR n (r ++ [t]) 0, decide (r.length = 0), 0) := by
  have h1 : stT (stR n r 0) (t : Int) = 0 := by
    rw [stR_st n r 0 t h, if_neg (fun hm => hr (List.mem_of_mem_drop hm))]
  have h2 : owner (stR n r 0) 0 ≠ (t : Int) := by
    rw [stR_owner]
    split
    · rename_i h0
      intro e
      exact hr (by have : r[0] = t := by exact_mod_cast e
                   rw [← this]; exact List.getElem_mem _)
    · omega
  have hE : lockE (stR n r 0) (t : Int) 0 = 0 := by
    unfold lockE first
    have h3 : there (stR n r 0).M 0 = true := rfl
    rw [there_nat _ t (by unfold stR; simpa using h), h1, h3, decide_eq_true h2]
    rfl
  unfold lock
  rw [hE, if_neg (by simp)]
  unfold come
  rw [stR_mu]
  cases r with
  | nil =>
    simp only [List.length_nil, Nat.lt_irrefl, dite_false, if_true]
    refine Prod.ext ?_ rfl
    simp [stR, setT, setM, set_range, nums]
  | cons x r =>
    have hx : (if h : 0 < (x :: r).length then (((x :: r)[0] : Nat) : Int) else -1) = (x : Int) := by simp
    rw [hx, if_neg (by simp only; omega)]
    refine Prod.ext ?_ rfl
    simp only [stR, setT, setM, set_range, nums, List.set_cons_zero, Int.toNat_zero, Int.toNat_natCast]
    congr 1
    · apply List.map_congr_left
      intro j hj
      by_cases e : j = t
      · subst e; simp
      · rw [if_neg e]; simp [e]
    · simp
theorem drop_at (r : List Nat) (i : Nat) (h : i < r.length) : r.drop i = r[i] :: r.drop (i + 1) := List.drop_eq_getElem_cons h
theorem notin_drop {r : List Nat} (hn : r.Nodup) (i : Nat) (h : i < r.length) : r[i] ∉ r.drop (i + 1) := by
  have h2 : (r.drop i).Nodup := hn.sublist (List.drop_sublist _ _)
  rw [drop_at r i h] at h2
  exact (List.nodup_cons.1 h2).1
theorem unlock_stR (n : Nat) (r : List Nat) (hn : r.Nodup) (hr : ∀ t ∈ r, t < n) (i : Nat) (h : i < r.length) : unlock (stR n r i) ((r[i] : Nat) : Int) 0 = (stR n r (i + 1), 0) := by
  have h1 : stT (stR n r i) ((r[i] : Nat) : Int) = 0 := by rw [stR_st n r i _ (hr _ (List.getElem_mem _)), if_neg (notin_drop hn i h)]
  have h2 : owner (stR n r i) 0 = ((r[i] : Nat) : Int) := by rw [stR_owner, dif_pos h]
  have hE : unlockE (stR n r i) ((r[i] : Nat) : Int) 0 = 0 := by
    unfold unlockE first
    have h3 : there (stR n r i).M 0 = true := rfl
    rw [there_nat _ (r[i]) (by unfold stR; simpa using hr _ (List.getElem_mem _)), h1, h2, h3, decide_eq_true rfl, decide_eq_true rfl]
    rfl
  unfold unlock
  rw [hE, if_pos rfl]
  refine Prod.ext ?_ rfl
  show give (stR n r i) 0 = stR n r (i + 1)
  unfold give
  rw [stR_mu]
  by_cases hl : i + 1 < r.length
  · have e : nums (r.drop (i + 1)) = ((r[i + 1] : Nat) : Int) :: nums (r.drop (i + 2)) := by rw [drop_at r (i + 1) hl]; rfl
    simp only [e]
    have hmu : mu (setM (stR n r i) 0 (-1, nums (r.drop (i + 2)))) 0 = (-1, nums (r.drop (i + 2))) := rfl
    unfold come
    rw [hmu, if_pos rfl]
    simp only [stR, setT, setM, set_range, List.set_cons_zero, Int.toNat_zero, Int.toNat_natCast, dif_pos hl]
    congr 1
    apply List.map_congr_left
    intro j hj
    have hm : j ∈ r.drop (i + 1) ↔ j = r[i + 1] ∨ j ∈ r.drop (i + 2) := by rw [drop_at r (i + 1) hl, List.mem_cons]
    by_cases e2 : j = r[i + 1]
    · rw [if_pos e2, e2, if_neg (notin_drop hn (i + 1) hl)]
    · rw [if_neg e2]
      by_cases e3 : j ∈ r.drop (i + 2)
      · rw [if_pos e3, if_pos (hm.2 (.inr e3))]
      · rw [if_neg e3, if_neg (fun h4 => (hm.1 h4).elim e2 e3)]
  · have e : r.drop (i + 1) = [] := List.drop_of_length_le (by omega)
    have e2 : r.drop (i + 1 + 1) = [] := List.drop_of_length_le (by omega)
    simp only [e, nums, List.map_nil]
    simp only [stR, setM, List.set_cons_zero, Int.toNat_zero, dif_neg hl, e, e2, nums, List.map_nil]
theorem readyF_len : ∀ (l : List Int) (k : Nat), (readyF l k).length = l.countP (fun x => decide (x = 0))
  | [], _ => rfl
  | x :: l, k => by
    unfold readyF
    by_cases h : x = 0
    · rw [if_pos h, List.length_cons, readyF_len l, List.countP_cons_of_pos (by simpa using h)]
    · rw [if_neg h, readyF_len l, List.countP_cons_of_neg (by simpa using h)]
theorem ready_stR (n : Nat) (r : List Nat) (hn : r.Nodup) (hp : r.Perm (List.range n)) (i : Nat) : (ready (stR n r i)).length = min n (i + 1) := by
  unfold ready stR
  rw [readyF_len, List.countP_map]
  have hc : ∀ l : List Nat, l.countP ((fun x : Int => decide (x = 0)) ∘ fun t => if t ∈ r.drop (i + 1) then (1 : Int) else 0) = l.countP (fun t => decide (t ∉ r.drop (i + 1))) := by
    intro l
    apply List.countP_congr
    intro t _
    simp only [Function.comp]
    by_cases h : t ∈ r.drop (i + 1) <;> simp [h]
  rw [hc, ← hp.countP_eq]
  have hl : r.length = n := by rw [hp.length_eq, List.length_range]
  conv => lhs; rw [← List.take_append_drop (i + 1) r, List.countP_append]
  have hnd : (r.take (i + 1) ++ r.drop (i + 1)).Nodup := by rw [List.take_append_drop]; exact hn
  have h1 : (r.take (i + 1)).countP (fun t => decide (t ∉ r.drop (i + 1))) = (r.take (i + 1)).length := by
    rw [List.countP_eq_length]
    intro t ht
    rw [decide_eq_true_iff]
    intro h2
    exact (List.nodup_append.1 hnd).2.2 t ht t h2 rfl
  have h2 : (r.drop (i + 1)).countP (fun t => decide (t ∉ r.drop (i + 1))) = 0 := by
    rw [List.countP_eq_zero]
    intro t ht
    simp [ht]
  rw [List.take_append_drop, h1, h2, List.length_take]
  omega
end Go.Proofs.Ytcfkmhmgappckaa.Sc

/- A schedule that may be: what holds of it always, plain. No condition. -/
namespace Go.Proofs.Ytcfkmhmgappckaa.Sc

theorem there_iff {α : Type} (l : List α) (i : Int) : there l i = true ↔ 0 ≤ i ∧ i < l.length := by unfold there; simp
theorem getD_set (l : List Int) (i j : Nat) (v : Int) (h : i < l.length) : (l.set i v).getD j 0 = if j = i then v else l.getD j 0 := by
  simp only [List.getD_eq_getElem?_getD, List.getElem?_set]
  by_cases e : i = j
  · subst e; simp [h]
  · rw [if_neg e, if_neg (Ne.symm e)]
theorem stT_setT (s : Sd) (t v u : Int) (h : there s.T t = true) : stT (setT s t v) u = if u = t then v else stT s u := by
  rw [there_iff] at h
  unfold stT setT there
  simp only [List.length_set]
  by_cases e : u = t
  · subst e
    simp only [h.1, h.2, decide_true, Bool.and_self, if_true]
    rw [getD_set _ _ _ _ (by omega), if_pos rfl]
  · rw [if_neg e]
    split
    · rename_i hu
      simp only [Bool.and_eq_true, decide_eq_true_eq] at hu
      rw [getD_set _ _ _ _ (by omega), if_neg (by omega)]
    · rfl
@[simp] theorem stT_setM (s : Sd) (m : Int) (x : Int × List Int) (u : Int) : stT (setM s m x) u = stT s u := rfl
@[simp] theorem stT_setR (s : Sd) (m : Int) (x : List (Int × Int)) (u : Int) : stT (setR s m x) u = stT s u := rfl
@[simp] theorem T_setM (s : Sd) (m : Int) (x : Int × List Int) : (setM s m x).T = s.T := rfl
@[simp] theorem T_setR (s : Sd) (m : Int) (x : List (Int × Int)) : (setR s m x).T = s.T := rfl
@[simp] theorem M_setT (s : Sd) (t v : Int) : (setT s t v).M = s.M := rfl
@[simp] theorem R_setT (s : Sd) (t v : Int) : (setT s t v).R = s.R := rfl
@[simp] theorem M_setR (s : Sd) (m : Int) (x : List (Int × Int)) : (setR s m x).M = s.M := rfl
@[simp] theorem R_setM (s : Sd) (m : Int) (x : Int × List Int) : (setM s m x).R = s.R := rfl
theorem stT_there (s : Sd) (t : Int) (h : stT s t ≠ -1) : there s.T t = true := by
  unfold stT at h
  by_cases e : there s.T t = true
  · exact e
  · rw [if_neg e] at h; exact absurd rfl h
@[simp] theorem there_setT (s : Sd) (t v : Int) (u : Int) : there (setT s t v).T u = there s.T u := by simp [there, setT]

/-- Those that wait; those that rest. -/
def rowsT (s : Sd) : List Int := (s.M.map (·.2)).flatten
def restsT (s : Sd) : List Int := (s.R.map fun l => l.map (·.1)).flatten
structure Ok (s : Sd) (more : List Int) : Prop where
  own : ∀ x ∈ s.M, (x.1 = -1 ∧ x.2 = []) ∨ (there s.T x.1 = true ∧ stT s x.1 ≠ 3)
  row : ∀ t, (rowsT s).count t = if stT s t = 1 then 1 else 0
  rest : ∀ t, (restsT s).count t + more.count t = if stT s t = 2 then 1 else 0
  mid : ∀ l ∈ s.R, ∀ x ∈ l, x.2 = -1 ∨ there s.M x.2 = true
/-- As Ok, but for one task, that stands nowhere. -/
structure OkBut (s : Sd) (u : Int) (more : List Int) : Prop where
  here : there s.T u = true
  own : ∀ x ∈ s.M, (x.1 = -1 ∧ x.2 = []) ∨ (there s.T x.1 = true ∧ (x.1 = u ∨ stT s x.1 ≠ 3))
  row : ∀ t, (rowsT s).count t = if t ≠ u ∧ stT s t = 1 then 1 else 0
  rest : ∀ t, (restsT s).count t + more.count t = if t ≠ u ∧ stT s t = 2 then 1 else 0
  mid : ∀ l ∈ s.R, ∀ x ∈ l, x.2 = -1 ∨ there s.M x.2 = true

theorem count_set {α : Type} (f : α → List Int) : ∀ (l : List α) (i : Nat) (x y : α) (t : Int), l[i]? = some y → ((l.set i x).map f).flatten.count t + (f y).count t = (l.map f).flatten.count t + (f x).count t
  | [], i, x, y, t, h => by simp at h
  | z :: l, 0, x, y, t, h => by
    obtain rfl : z = y := by simpa using h
    simp only [List.set_cons_zero, List.map_cons, List.flatten_cons, List.count_append]; omega
  | z :: l, i + 1, x, y, t, h => by
    have := count_set f l i x y t (by simpa using h)
    simp only [List.set_cons_succ, List.map_cons, List.flatten_cons, List.count_append]; omega
theorem mu_at (s : Sd) (m : Int) (h : there s.M m = true) : s.M[m.toNat]? = some (mu s m) := by
  rw [there_iff] at h
  unfold mu
  rw [List.getD_eq_getElem?_getD, List.getElem?_eq_getElem (by omega)]; rfl
theorem re_at (s : Sd) (c : Int) (h : there s.R c = true) : s.R[c.toNat]? = some (s.R.getD c.toNat []) := by
  rw [there_iff] at h
  rw [List.getD_eq_getElem?_getD, List.getElem?_eq_getElem (by omega)]; rfl
theorem rows_setM (s : Sd) (m : Int) (x : Int × List Int) (h : there s.M m = true) (t : Int) : (rowsT (setM s m x)).count t + (mu s m).2.count t = (rowsT s).count t + x.2.count t :=
  count_set (fun x : Int × List Int => x.2) s.M m.toNat x _ t (mu_at s m h)
theorem rests_setR (s : Sd) (c : Int) (x : List (Int × Int)) (h : there s.R c = true) (t : Int) : (restsT (setR s c x)).count t + ((s.R.getD c.toNat []).map (·.1)).count t = (restsT s).count t + (x.map (·.1)).count t :=
  count_set (fun l : List (Int × Int) => l.map (fun x : Int × Int => x.1)) s.R c.toNat x _ t (re_at s c h)
@[simp] theorem rows_setT (s : Sd) (t v : Int) : rowsT (setT s t v) = rowsT s := rfl
@[simp] theorem rests_setT (s : Sd) (t v : Int) : restsT (setT s t v) = restsT s := rfl
@[simp] theorem rows_setR (s : Sd) (c : Int) (x : List (Int × Int)) : rowsT (setR s c x) = rowsT s := rfl
@[simp] theorem rests_setM (s : Sd) (m : Int) (x : Int × List Int) : restsT (setM s m x) = restsT s := rfl
theorem mem_setM {s : Sd} {m : Int} {x y : Int × List Int} (h : y ∈ (setM s m x).M) : y ∈ s.M ∨ y = x := List.mem_or_eq_of_mem_set h
theorem mem_setR {s : Sd} {c : Int} {x y : List (Int × Int)} (h : y ∈ (setR s c x).R) : y ∈ s.R ∨ y = x := List.mem_or_eq_of_mem_set h
theorem mu_mem (s : Sd) (m : Int) (h : there s.M m = true) : mu s m ∈ s.M := List.mem_of_getElem? (mu_at s m h)
@[simp] theorem there_setM (s : Sd) (m : Int) (x : Int × List Int) (u : Int) : there (setM s m x).M u = there s.M u := by simp [there, setM]

theorem Ok.but {s : Sd} {more : List Int} (h : Ok s more) (t : Int) (h0 : stT s t = 0) : OkBut s t more := by
  refine ⟨stT_there s t (by omega), fun x hx => (h.own x hx).imp id (fun k => ⟨k.1, .inr k.2⟩), fun u => ?_, fun u => ?_, h.mid⟩
  · rw [h.row u]
    by_cases e : u = t
    · subst e; simp [h0]
    · simp [e]
  · rw [h.rest u]
    by_cases e : u = t
    · subst e; simp [h0]
    · simp [e]
theorem Ok.butRest {s : Sd} {t : Int} {more : List Int} (h : Ok s (t :: more)) : OkBut s t more := by
  have h2 : stT s t = 2 := by
    have := h.rest t
    rw [List.count_cons_self] at this
    by_cases e : stT s t = 2
    · exact e
    · rw [if_neg e] at this; omega
  refine ⟨stT_there s t (by omega), fun x hx => (h.own x hx).imp id (fun k => ⟨k.1, .inr k.2⟩), fun u => ?_, fun u => ?_, h.mid⟩
  · rw [h.row u]
    by_cases e : u = t
    · subst e; simp [h2]
    · simp [e]
  · have h3 := h.rest u
    by_cases e : u = t
    · subst e
      rw [List.count_cons_self, if_pos h2] at h3
      simp; omega
    · rw [List.count_cons_of_ne (Ne.symm e)] at h3
      rw [h3]; simp [e]
/-- A task that stands nowhere is ready. -/
theorem OkBut.ready {s : Sd} {t : Int} {more : List Int} (h : OkBut s t more) : Ok (setT s t 0) more := by
  refine ⟨fun x hx => (h.own x hx).imp id (fun k => ⟨by rw [there_setT]; exact k.1, ?_⟩), fun u => ?_, fun u => ?_, h.mid⟩
  · rw [stT_setT s t 0 _ h.here]
    split
    · omega
    · exact k.2.resolve_left (by assumption)
  · rw [stT_setT s t 0 _ h.here, rows_setT, h.row u]
    by_cases e : u = t <;> simp [e]
  · rw [stT_setT s t 0 _ h.here, rests_setT, h.rest u]
    by_cases e : u = t <;> simp [e]
theorem OkBut.own_set {s : Sd} {t : Int} {more : List Int} (h : OkBut s t more) (m : Int) (x : Int × List Int) (hm : there s.M m = true) (hx : there s.T x.1 = true ∧ (x.1 = t ∨ stT s x.1 ≠ 3)) (hr : x.2 = (mu s m).2) : OkBut (setM s m x) t more := by
  refine ⟨h.here, fun y hy => ?_, fun u => ?_, fun u => ?_, fun l hl x hx => by rw [there_setM]; exact h.mid l hl x hx⟩
  · rcases mem_setM hy with hy | rfl
    · exact h.own y hy
    · exact .inr hx
  · have := rows_setM s m x hm u
    rw [hr] at this
    rw [stT_setM, ← h.row u]; omega
  · exact h.rest u
theorem OkBut.come {s : Sd} {t : Int} {more : List Int} (h : OkBut s t more) (m : Int) (hm : there s.M m = true) : Ok (come s t m).1 more := by
  unfold Sc.come
  split
  · exact (h.own_set m (t, (mu s m).2) hm ⟨h.here, .inl rfl⟩ rfl).ready
  · rename_i hn
    have ho := (h.own _ (mu_mem s m hm)).resolve_left (fun k => hn k.1)
    refine ⟨fun y hy => ?_, fun u => ?_, fun u => ?_, fun l hl x hx => ?_⟩
    · have hs : ∀ z : Int × List Int, there s.T z.1 = true ∧ (z.1 = t ∨ stT s z.1 ≠ 3) → there (setT (setM s m ((mu s m).1, (mu s m).2 ++ [t])) t 1).T z.1 = true ∧ stT (setT (setM s m ((mu s m).1, (mu s m).2 ++ [t])) t 1) z.1 ≠ 3 := by
        intro z hz
        refine ⟨by rw [there_setT]; exact hz.1, ?_⟩
        rw [stT_setT (setM s m _) t 1 _ h.here]
        split
        · omega
        · exact hz.2.resolve_left (by assumption)
      rcases mem_setM hy with hy | rfl
      · exact (h.own y hy).imp id (hs y)
      · exact .inr (hs _ ho)
    · have := rows_setM s m ((mu s m).1, (mu s m).2 ++ [t]) hm u
      show List.count u (rowsT (setM s m ((mu s m).1, (mu s m).2 ++ [t]))) = if stT (setT (setM s m ((mu s m).1, (mu s m).2 ++ [t])) t 1) u = 1 then 1 else 0
      rw [stT_setT (setM s m _) t 1 _ h.here]
      have h3 := h.row u
      simp only [List.count_append] at this
      by_cases e : u = t
      · subst e
        simp at h3 this ⊢; omega
      · have e2 : List.count u [t] = 0 := by simp [Ne.symm e]
        rw [e2] at this
        rw [if_neg e, stT_setM]
        simp [e] at h3; omega
    · show List.count u (restsT s) + List.count u more = if stT (setT (setM s m ((mu s m).1, (mu s m).2 ++ [t])) t 1) u = 2 then 1 else 0
      rw [stT_setT (setM s m _) t 1 _ h.here, h.rest u]
      by_cases e : u = t <;> simp [e]
    · rw [M_setT, there_setM]; exact h.mid l hl x hx
theorem give_set (s : Sd) (m t : Int) (r : List Int) (hm : there s.M m = true) (e : (mu s m).2 = t :: r) : give s m = setT (setM s m (t, r)) t 0 := by
  unfold give
  rw [e]
  have hmu : mu (setM s m (-1, r)) m = (-1, r) := by
    have := mu_at (setM s m (-1, r)) m (by rw [there_setM]; exact hm)
    rw [there_iff] at hm
    unfold setM at this
    simp only [List.getElem?_set_self (show m.toNat < s.M.length by omega)] at this
    exact (Option.some.inj this).symm
  simp only [come, hmu, if_true]
  unfold setM
  simp only [List.set_set]
theorem Ok.give {s : Sd} {more : List Int} (h : Ok s more) (m : Int) (hm : there s.M m = true) : Ok (give s m) more := by
  cases hr : (mu s m).2 with
  | nil =>
    have e : Sc.give s m = setM s m (-1, []) := by unfold Sc.give; rw [hr]
    rw [e]
    refine ⟨fun y hy => ?_, fun u => ?_, fun u => h.rest u, fun l hl x hx => by rw [there_setM]; exact h.mid l hl x hx⟩
    · rcases mem_setM hy with hy | rfl
      · exact h.own y hy
      · exact .inl ⟨rfl, rfl⟩
    · have := rows_setM s m (-1, []) hm u
      rw [hr] at this
      rw [stT_setM, ← h.row u]; simpa using this
  | cons t r =>
    rw [give_set s m t r hm hr]
    have ht1 : stT s t = 1 := by
      have h1 := rows_setM s m (-1, []) hm t
      have h2 := h.row t
      rw [hr, List.count_cons_self] at h1
      by_cases e : stT s t = 1
      · exact e
      · rw [if_neg e] at h2; simp at h1; omega
    have hth := stT_there s t (by omega)
    refine ⟨fun y hy => ?_, fun u => ?_, fun u => ?_, fun l hl x hx => ?_⟩
    · have hs : ∀ z : Int × List Int, there s.T z.1 = true ∧ (z.1 = t ∨ stT s z.1 ≠ 3) → there (setT (setM s m (t, r)) t 0).T z.1 = true ∧ stT (setT (setM s m (t, r)) t 0) z.1 ≠ 3 := by
        intro z hz
        refine ⟨by rw [there_setT]; exact hz.1, ?_⟩
        rw [stT_setT (setM s m _) t 0 _ hth]
        split
        · omega
        · exact hz.2.resolve_left (by assumption)
      rcases mem_setM hy with hy | rfl
      · exact (h.own y hy).imp id (fun k => hs y ⟨k.1, .inr k.2⟩)
      · exact .inr (hs _ ⟨hth, .inl rfl⟩)
    · have h1 := rows_setM s m (t, r) hm u
      have h2 := h.row u
      rw [hr] at h1
      rw [rows_setT, stT_setT (setM s m _) t 0 _ hth, stT_setM]
      by_cases e : u = t
      · subst e
        rw [if_pos ht1] at h2
        rw [List.count_cons_self] at h1
        simp at h1 ⊢; omega
      · rw [List.count_cons_of_ne (Ne.symm e)] at h1
        rw [if_neg e, ← h2]; simp at h1; omega
    · rw [rests_setT, stT_setT (setM s m _) t 0 _ hth, rests_setM, h.rest u, stT_setM]
      by_cases e : u = t
      · subst e; simp [ht1]
      · simp [e]
    · rw [M_setT, there_setM]; exact h.mid l hl x hx
/-- A task that is ready rests. -/
theorem Ok.lie {s : Sd} {more : List Int} (h : Ok s more) (t c m : Int) (h0 : stT s t = 0) (hc : there s.R c = true) (hm : m = -1 ∨ there s.M m = true) : Ok (setR (setT s t 2) c (s.R.getD c.toNat [] ++ [(t, m)])) more := by
  have hth := stT_there s t (by omega)
  refine ⟨fun x hx => (h.own x hx).imp id (fun k => ⟨by rw [T_setR, there_setT]; exact k.1, ?_⟩), fun u => ?_, fun u => ?_, fun l hl x hx => ?_⟩
  · rw [stT_setR, stT_setT _ t 2 _ hth]
    split
    · omega
    · exact k.2
  · rw [rows_setR, rows_setT, stT_setR, stT_setT _ t 2 _ hth, h.row u]
    by_cases e : u = t
    · subst e; simp [h0]
    · simp [e]
  · have h1 := rests_setR (setT s t 2) c (s.R.getD c.toNat [] ++ [(t, m)]) (by simpa using hc) u
    rw [R_setT, List.map_append, List.count_append, rests_setT] at h1
    have h2 := h.rest u
    rw [stT_setR, stT_setT _ t 2 _ hth]
    by_cases e : u = t
    · subst e
      simp [h0] at h1 h2 ⊢
      omega
    · have e2 : List.count u ([(t, m)].map (·.1)) = 0 := by simp [Ne.symm e]
      rw [e2] at h1
      rw [if_neg e]; omega
  · rw [M_setR, M_setT]
    rcases mem_setR hl with hl | rfl
    · exact h.mid l (by simpa using hl) x hx
    · rcases List.mem_append.1 hx with hx | hx
      · exact h.mid _ (List.mem_of_getElem? (re_at s c hc)) x hx
      · obtain rfl : x = (t, m) := by simpa using hx
        exact hm
theorem first_eq (a b : Bool) : first a b = 0 ↔ a = true ∧ b = true := by cases a <;> cases b <;> decide
theorem first_or (a b : Bool) : first a b = 0 ∨ first a b = 1 ∨ first a b = 12 := by cases a <;> cases b <;> decide
theorem Ok.lock {s : Sd} (h : Ok s []) (t m : Int) : Ok (lock s t m).1 [] := by
  unfold Sc.lock
  split
  · exact h
  · rename_i e
    have e := (first_eq _ _).1 (Decidable.not_not.1 e)
    simp only [Bool.and_eq_true, decide_eq_true_eq] at e
    exact (h.but t e.2.1).come m e.1.2
theorem Ok.unlock {s : Sd} (h : Ok s []) (t m : Int) : Ok (unlock s t m).1 [] := by
  unfold Sc.unlock
  show Ok (if _ then _ else _) []
  split
  · rename_i e
    have e := (first_eq _ _).1 e
    simp only [Bool.and_eq_true, decide_eq_true_eq] at e
    exact h.give m e.1.2
  · exact h
theorem Ok.wait {s : Sd} (h : Ok s []) (t c m : Int) : Ok (wait s t c m).1 [] := by
  unfold Sc.wait
  show Ok (if _ then _ else _) []
  split
  · rename_i e
    have e := (first_eq _ _).1 e
    simp only [Bool.and_eq_true, decide_eq_true_eq] at e
    exact (h.lie t c m e.2.1 e.1.2 (.inr e.1.1.2)).give m (by simpa using e.1.1.2)
  · exact h
theorem Ok.restS {s : Sd} (h : Ok s []) (t c : Int) : Ok (Sc.rest s t c).1 [] := by
  unfold Sc.rest
  show Ok (if _ then _ else _) []
  split
  · rename_i e
    have e := (first_eq _ _).1 e
    simp only [Bool.and_eq_true, decide_eq_true_eq] at e
    exact h.lie t c (-1) e.2 e.1.2 (.inl rfl)
  · exact h
/-- What is the same of two schedules: how many. -/
def Size (s s' : Sd) : Prop := s'.T.length = s.T.length ∧ s'.M.length = s.M.length ∧ s'.R.length = s.R.length
theorem Size.refl (s : Sd) : Size s s := ⟨rfl, rfl, rfl⟩
theorem Size.trans {a b c : Sd} (h : Size a b) (k : Size b c) : Size a c := ⟨k.1.trans h.1, k.2.1.trans h.2.1, k.2.2.trans h.2.2⟩
theorem size_setT (s : Sd) (t v : Int) : Size s (setT s t v) := ⟨by simp [setT], rfl, rfl⟩
theorem size_setM (s : Sd) (m : Int) (x : Int × List Int) : Size s (setM s m x) := ⟨rfl, by simp [setM], rfl⟩
theorem size_setR (s : Sd) (m : Int) (x : List (Int × Int)) : Size s (setR s m x) := ⟨rfl, rfl, by simp [setR]⟩
theorem size_come (s : Sd) (t m : Int) : Size s (come s t m).1 := by unfold come; split <;> exact (size_setM _ _ _).trans (size_setT _ _ _)
theorem size_give (s : Sd) (m : Int) : Size s (give s m) := by
  unfold give
  split
  · exact size_setM _ _ _
  · exact (size_setM _ _ _).trans (size_come _ _ _)
theorem size_wakeOne (s : Sd) (x : Int × Int) : Size s (wakeOne s x) := by unfold wakeOne; split <;> first | exact size_setT _ _ _ | exact size_come _ _ _
theorem there_size {s s' : Sd} (h : Size s s') (m : Int) : there s'.M m = there s.M m := by unfold there; rw [h.2.1]
theorem Ok.wakeOne {s : Sd} {x : Int × Int} {more : List Int} (h : Ok s (x.1 :: more)) (hx : x.2 = -1 ∨ there s.M x.2 = true) : Ok (Sc.wakeOne s x) more := by
  unfold Sc.wakeOne
  split
  · exact h.butRest.ready
  · rename_i e
    exact h.butRest.come x.2 (hx.resolve_left e)
theorem Ok.wakes : ∀ (l : List (Int × Int)) {s : Sd}, Ok s (l.map (·.1)) → (∀ x ∈ l, x.2 = -1 ∨ there s.M x.2 = true) → Ok (l.foldl Sc.wakeOne s) []
  | [], _, h, _ => h
  | x :: l, s, h, hx => by
    refine Ok.wakes l (h.wakeOne (hx x (by simp))) (fun y hy => ?_)
    rw [there_size (size_wakeOne s x)]
    exact hx y (by simp [hy])
theorem Ok.taken {s : Sd} (h : Ok s []) (c : Int) (hc : there s.R c = true) : Ok (setR s c []) ((s.R.getD c.toNat []).map (·.1)) := by
  refine ⟨h.own, h.row, fun u => ?_, fun l hl x hx => ?_⟩
  · have h1 := rests_setR s c [] hc u
    have h2 := h.rest u
    rw [stT_setR, ← h2]
    simp only [List.map_nil, List.count_nil] at h1 ⊢
    omega
  · rcases mem_setR hl with hl | rfl
    · exact h.mid l hl x hx
    · cases hx
theorem Ok.midAt {s : Sd} {more : List Int} (h : Ok s more) (c : Int) (hc : there s.R c = true) : ∀ x ∈ s.R.getD c.toNat [], x.2 = -1 ∨ there s.M x.2 = true := fun x hx => h.mid _ (List.mem_of_getElem? (re_at s c hc)) x hx
theorem Ok.wake {s : Sd} (h : Ok s []) (c : Int) : Ok (wake s c).1 [] := by
  unfold Sc.wake
  split
  · rename_i hc
    exact Ok.wakes _ (h.taken c hc) (h.midAt c hc)
  · exact h
theorem Ok.endT {s : Sd} (h : Ok s []) (t : Int) : Ok (endT s t).1 [] := by
  unfold Sc.endT
  show Ok (if _ then _ else _) []
  split
  · rename_i e
    have e := (first_eq _ _).1 e
    simp only [Bool.and_eq_true, decide_eq_true_eq, Bool.not_eq_true', List.any_eq_false] at e
    have hth := stT_there s t (by omega)
    refine ⟨fun x hx => (h.own x hx).imp id (fun k => ⟨by rw [there_setT]; exact k.1, ?_⟩), fun u => ?_, fun u => ?_, h.mid⟩
    · rw [stT_setT _ t 3 _ hth, if_neg (e.2.2 x hx)]
      exact k.2
    · rw [rows_setT, stT_setT _ t 3 _ hth, h.row u]
      by_cases e3 : u = t
      · subst e3; simp [e.2.1]
      · simp [e3]
    · rw [rests_setT, stT_setT _ t 3 _ hth, h.rest u]
      by_cases e3 : u = t
      · subst e3; simp [e.2.1]
      · simp [e3]
  · exact h
theorem Ok.new (t m c : Int) : Ok (newS t m c) [] := by
  have hrow : ∀ k, ((List.replicate k ((-1 : Int), ([] : List Int))).map (·.2)).flatten = [] := by intro k; induction k with
    | zero => rfl
    | succ k ih => rw [List.replicate_succ, List.map_cons, List.flatten_cons, ih]; rfl
  have hres : ∀ k, ((List.replicate k ([] : List (Int × Int))).map fun l => l.map (·.1)).flatten = [] := by intro k; induction k with
    | zero => rfl
    | succ k ih => rw [List.replicate_succ, List.map_cons, List.flatten_cons, ih]; rfl
  have hst : ∀ u, stT (newS t m c) u = 0 ∨ stT (newS t m c) u = -1 := by
    intro u
    unfold stT
    split
    · left
      show (List.replicate t.toNat (0 : Int)).getD u.toNat 0 = 0
      rw [List.getD_eq_getElem?_getD, List.getElem?_replicate]; split <;> rfl
    · right; rfl
  refine ⟨fun x hx => .inl ?_, fun u => ?_, fun u => ?_, fun l hl x hx => ?_⟩
  · have := List.eq_of_mem_replicate (show x ∈ List.replicate m.toNat ((-1 : Int), ([] : List Int)) from hx)
    rw [this]; exact ⟨rfl, rfl⟩
  · have e : rowsT (newS t m c) = [] := hrow _
    rw [e]; rcases hst u with e | e <;> rw [e] <;> rfl
  · have e : restsT (newS t m c) = [] := hres _
    rw [e]; rcases hst u with e | e <;> rw [e] <;> rfl
  · have := List.eq_of_mem_replicate (show l ∈ List.replicate c.toNat ([] : List (Int × Int)) from hl)
    rw [this] at hx; cases hx
/-- As many as may be. -/
theorem few_of : ∀ (n : Nat) (l : List Int), (∀ t, l.count t ≤ 1) → (∀ t ∈ l, 0 ≤ t ∧ t < (n : Int)) → l.length ≤ n
  | 0, l, _, h => by
    cases l with
    | nil => simp
    | cons x l => have := h x (by simp); omega
  | n + 1, l, hc, h => by
    have ih := few_of n (l.filter fun t => decide (t ≠ (n : Int))) (fun t => Nat.le_trans (List.Sublist.count_le _ List.filter_sublist) (hc t)) (fun t ht => by
      rw [List.mem_filter] at ht
      have := h t ht.1
      have h2 : t ≠ (n : Int) := by simpa using ht.2
      omega)
    have h1 := List.length_eq_countP_add_countP (p := fun t : Int => decide (t ≠ (n : Int))) (l := l)
    rw [List.countP_eq_length_filter] at h1
    have h2 : l.countP (fun t => decide ¬(decide (t ≠ (n : Int))) = true) = l.count (n : Int) := by
      unfold List.count
      apply List.countP_congr
      intro t _
      by_cases e : t = (n : Int) <;> simp [e]
    rw [h2] at h1
    have := hc (n : Int)
    omega
theorem Ok.rowsFew {s : Sd} {more : List Int} (h : Ok s more) : (rowsT s).length ≤ s.T.length := by
  refine few_of _ _ (fun t => by rw [h.row t]; split <;> omega) (fun t ht => ?_)
  have h1 := h.row t
  have h2 := List.count_pos_iff.2 ht
  by_cases e : stT s t = 1
  · exact (there_iff _ _).1 (stT_there s t (by omega))
  · rw [if_neg e] at h1; omega
theorem mem_len {l : List (List Int)} {r : List Int} (h : r ∈ l) : r.length ≤ l.flatten.length := by
  induction l with
  | nil => cases h
  | cons x l ih =>
    rw [List.flatten_cons, List.length_append]
    rcases List.mem_cons.1 h with rfl | h
    · omega
    · have := ih h; omega
theorem Ok.rowFew {s : Sd} {more : List Int} (h : Ok s more) (x : Int × List Int) (hx : x ∈ s.M) : x.2.length ≤ s.T.length :=
  Nat.le_trans (mem_len (List.mem_map.2 ⟨x, hx, rfl⟩)) h.rowsFew
theorem Ok.restsFew {s : Sd} {more : List Int} (h : Ok s more) : (restsT s).length ≤ s.T.length := by
  refine few_of _ _ (fun t => by have := h.rest t; split at this <;> omega) (fun t ht => ?_)
  have h1 := h.rest t
  have h2 := List.count_pos_iff.2 ht
  by_cases e : stT s t = 2
  · exact (there_iff _ _).1 (stT_there s t (by omega))
  · rw [if_neg e] at h1; omega
theorem Ok.restFew {s : Sd} {more : List Int} (h : Ok s more) (l : List (Int × Int)) (hl : l ∈ s.R) : l.length ≤ s.T.length := by
  have := mem_len (List.mem_map.2 ⟨l, hl, rfl⟩ : l.map (·.1) ∈ s.R.map fun l => l.map (·.1))
  rw [List.length_map] at this
  exact Nat.le_trans this h.restsFew
end Go.Proofs.Ytcfkmhmgappckaa.Sc

/- All that rest are woken, plain. No condition. -/
namespace Go.Proofs.Ytcfkmhmgappckaa.Sc
def wk1 (n : Nat) : Nat → Sd
  | 0 => newS ((n : Int) + 1) 1 1
  | t + 1 => (wait (lock (wk1 n t) t 0).1 t 0 0).1
def wk2 (n : Nat) : Nat → Sd
  | 0 => (wake (wk1 n n) 0).1
  | t + 1 => (endT (unlock (wk2 n t) t 0).1 t).1
def chk1 (n t : Nat) : Bool := decide ((lock (wk1 n t) t 0).2 = (true, 0)) && decide ((wait (lock (wk1 n t) t 0).1 t 0 0).2 = 0) && decide (stT (wk1 n (t + 1)) t = 2)
def chk2 (n : Nat) : Bool := decide ((wake (wk1 n n) 0).2 = ((n : Int), 0)) && decide (owner (wk2 n 0) 0 = 0) && decide ((rowM (wk2 n 0) 0).length = n - 1) && !stuck (wk2 n 0)
def chk3 (n t : Nat) : Bool := decide (owner (wk2 n t) 0 = t) && decide ((unlock (wk2 n t) t 0).2 = 0) && decide ((endT (unlock (wk2 n t) t 0).1 t).2 = 0)
def chk4 (n : Nat) : Bool := decide ((wake (wk2 n n) 0).2.1 = 0) && !stuck (wake (wk2 n n) 0).1 && decide ((endT (wake (wk2 n n) 0).1 n).2 = 0) && !stuck (endT (wake (wk2 n n) 0).1 n).1
def chk (n : Nat) : Bool := (List.range n).all (fun t => chk1 n t) && chk2 n && (List.range n).all (fun t => chk3 n t) && chk4 n
theorem chk_all : ∀ n : Fin 9, 1 ≤ n.val → chk n.val = true := by decide +kernel
theorem size_wakes : ∀ (l : List (Int × Int)) (s : Sd), Size s (l.foldl wakeOne s)
  | [], s => Size.refl s
  | x :: l, s => (size_wakeOne s x).trans (size_wakes l _)
theorem size_wake (s : Sd) (c : Int) : Size s (wake s c).1 := by
  unfold wake; split
  · exact (size_setR _ _ _).trans (size_wakes _ _)
  · exact Size.refl _
theorem size_unlock (s : Sd) (t m : Int) : Size s (unlock s t m).1 := by
  unfold unlock
  show Size _ (if _ then _ else _)
  split
  · exact size_give _ _
  · exact Size.refl _
theorem size_end (s : Sd) (t : Int) : Size s (endT s t).1 := by
  unfold endT
  show Size _ (if _ then _ else _)
  split
  · exact size_setT _ _ _
  · exact Size.refl _
theorem size_lock (s : Sd) (t m : Int) : Size s (lock s t m).1 := by
  unfold lock; split
  · exact Size.refl _
  · exact size_come _ _ _
theorem size_wait (s : Sd) (t c m : Int) : Size s (wait s t c m).1 := by
  unfold wait
  show Size _ (if _ then _ else _)
  split
  · exact ((size_setT _ _ _).trans (size_setR _ _ _)).trans (size_give _ _)
  · exact Size.refl _
theorem size_rest (s : Sd) (t c : Int) : Size s (Sc.rest s t c).1 := by
  unfold Sc.rest
  show Size _ (if _ then _ else _)
  split
  · exact (size_setT _ _ _).trans (size_setR _ _ _)
  · exact Size.refl _
theorem wk_ok1 (n : Nat) : ∀ t, Ok (wk1 n t) [] ∧ Size (newS ((n : Int) + 1) 1 1) (wk1 n t)
  | 0 => ⟨Ok.new _ _ _, Size.refl _⟩
  | t + 1 => by
    obtain ⟨h, hs⟩ := wk_ok1 n t
    exact ⟨(h.lock (t : Int) 0).wait (t : Int) 0 0, hs.trans ((size_lock _ _ _).trans (size_wait _ _ _ _))⟩
theorem wk_ok2 (n : Nat) : ∀ t, Ok (wk2 n t) [] ∧ Size (newS ((n : Int) + 1) 1 1) (wk2 n t)
  | 0 => ⟨(wk_ok1 n n).1.wake 0, (wk_ok1 n n).2.trans (size_wake _ _)⟩
  | t + 1 => by
    obtain ⟨h, hs⟩ := wk_ok2 n t
    exact ⟨(h.unlock (t : Int) 0).endT (t : Int), hs.trans ((size_unlock _ _ _).trans (size_end _ _))⟩
theorem chk_at (n : Nat) (h1 : 1 ≤ n) (h2 : n ≤ 8) : (∀ t, t < n → chk1 n t = true) ∧ chk2 n = true ∧ (∀ t, t < n → chk3 n t = true) ∧ chk4 n = true := by
  have h := chk_all ⟨n, by omega⟩ h1
  unfold chk at h
  simp only [Bool.and_eq_true, List.all_eq_true, List.mem_range] at h
  exact ⟨h.1.1.1, h.1.1.2, h.1.2, h.2⟩
theorem len_of (n : Nat) (h2 : n ≤ 8) (s : Sd) (h : Size (newS ((n : Int) + 1) 1 1) s) : s.T.length ≤ 1000 ∧ s.M.length ≤ 1000 ∧ s.R.length ≤ 1000 := by
  obtain ⟨a, b, c⟩ := h
  rw [a, b, c]
  simp [newS]; omega
end Go.Proofs.Ytcfkmhmgappckaa.Sc

/- A schedule in memory: states, mutexes, rests, each in a block of its own. No condition. -/
namespace Go.Proofs.Ytcfkmhmgappckaa
open Go.RowKit Go.Proofs.Ytcfkmhmgappckaa.Sc Go.Proofs.Ytcfkmhmgappckaa.PAll Go.Proofs.YtcfkmhmgappckaaW.PrintWords Go.Proofs.YtcfkmhmgappckaaW.PrintLast Go.Proofs.YtcfkmhmgappckaaW.PrintMore

/-- A row of cells (elements of a type, each of so many cells) in a block of its own, or none. -/
def RowIn (w : World) (base : Nat) (t sz : Nat) (ob : Option Nat) (v : Value) (l : List (List Value)) : Prop :=
  (∀ c ∈ l, c.length = sz) ∧
  ((ob = none ∧ v = .slice none 0 0 ∧ l = []) ∨
   ∃ b off cap cs, ob = some b ∧ v = .slice (some ⟨b, off * sz, none⟩) l.length cap ∧ base ≤ b ∧ w.heap[b]? = some (.cells cs t (0, 0)) ∧ l.length ≤ cap ∧ (off + cap) * sz ≤ cs.size ∧ ∀ i, i < l.length * sz → cs[off * sz + i]? = l.flatten[i]?)
theorem RowIn.same {w w1 : World} {base t sz : Nat} {ob : Option Nat} {v : Value} {l : List (List Value)} (h : RowIn w base t sz ob v l) (hs : ∀ b, ob = some b → w1.heap[b]? = w.heap[b]?) : RowIn w1 base t sz ob v l := by
  refine ⟨h.1, ?_⟩
  rcases h.2 with h | ⟨b, off, cap, cs, e, hv, hb, hc, h1, h2, h3⟩
  · exact .inl h
  · exact .inr ⟨b, off, cap, cs, e, hv, hb, (hs b e).trans hc, h1, h2, h3⟩
def ints (l : List Int) : List (List Value) := l.map fun x => [.int .i64 x]
def pairs (l : List (Int × Int)) : List (List Value) := l.map fun x => [.int .i64 x.1, .int .i64 x.2]
/-- A schedule at block g. -/
structure IsS (w : World) (base g bT bM bR : Nat) (vs : List (Option Nat × Value)) (us : List (Option Nat × Value)) (S : Sd) : Prop where
  ge : base ≤ g
  cell : w.heap[g]? = some (.cells #[.slice (some ⟨bT, 0, none⟩) S.T.length S.T.length, .slice (some ⟨bM, 0, none⟩) S.M.length S.M.length, .slice (some ⟨bR, 0, none⟩) S.R.length S.R.length] 58 (0, 0))
  geT : base ≤ bT
  geM : base ≤ bM
  geR : base ≤ bR
  T : w.heap[bT]? = some (.cells (S.T.map (Value.int .i64)).toArray 3 (0, 0))
  lenV : vs.length = S.M.length
  M : w.heap[bM]? = some (.cells ((List.zipWith (fun (x : Int × List Int) (v : Option Nat × Value) => [Value.int .i64 x.1, v.2]) S.M vs).flatten).toArray 55 (0, 0))
  rows : ∀ (i : Nat) x v, S.M[i]? = some x → vs[i]? = some v → RowIn w base 3 1 v.1 v.2 (ints x.2)
  lenU : us.length = S.R.length
  R : w.heap[bR]? = some (.cells (us.map (·.2)).toArray 65 (0, 0))
  rests : ∀ (i : Nat) x u, S.R[i]? = some x → us[i]? = some u → RowIn w base 67 2 u.1 u.2 (pairs x)
  apart : ([some g, some bT, some bM, some bR] ++ (vs ++ us).map (·.1)).Pairwise (fun a b => a = none ∨ b = none ∨ a ≠ b)
end Go.Proofs.Ytcfkmhmgappckaa

/- sched: is there such a place? No condition. -/
namespace Go.Proofs.Ytcfkmhmgappckaa
open Go.RowKit Go.Proofs.Ytcfkmhmgappckaa.Sc

theorem ret_bool {a b : Bool} (h : a = b) : Ending.returned (.bool a) = .returned (.bool b) := by rw [h]
def inB (n : Nat) (i : Int) : Bool := decide (0 ≤ i) && decide (i < n)
set_option maxHeartbeats 400000 in
theorem in_int (A : Option Addr) (n c : Nat) (i : Int) (w : World) (hn : n ≤ 1000000000000) :
    Calls Try.prog 29 #[.slice A n c, .int .i64 i] w fun e w' => e = .returned (.bool (inB n i)) ∧ w' = w := by
  go_enter Try.func29, Try.ntmps29
  go_wp2
  all_goals
    go_ret
    exact ⟨ret_bool (by unfold inB; rw [Bool.eq_iff_iff]; simp; try omega), rfl⟩
set_option maxHeartbeats 400000 in
theorem in_mutex (A : Option Addr) (n c : Nat) (i : Int) (w : World) (hn : n ≤ 1000000000000) :
    Calls Try.prog 30 #[.slice A n c, .int .i64 i] w fun e w' => e = .returned (.bool (inB n i)) ∧ w' = w := by
  go_enter Try.func30, Try.ntmps30
  go_wp2
  all_goals
    go_ret
    exact ⟨ret_bool (by unfold inB; rw [Bool.eq_iff_iff]; simp; try omega), rfl⟩
set_option maxHeartbeats 400000 in
theorem in_rests (A : Option Addr) (n c : Nat) (i : Int) (w : World) (hn : n ≤ 1000000000000) :
    Calls Try.prog 33 #[.slice A n c, .int .i64 i] w fun e w' => e = .returned (.bool (inB n i)) ∧ w' = w := by
  go_enter Try.func33, Try.ntmps33
  go_wp2
  all_goals
    go_ret
    exact ⟨ret_bool (by unfold inB; rw [Bool.eq_iff_iff]; simp; try omega), rfl⟩
end Go.Proofs.Ytcfkmhmgappckaa

/- What a task is, whose a mutex is. No condition but on size. -/
namespace Go.Proofs.Ytcfkmhmgappckaa
open Go.RowKit Go.Proofs.Ytcfkmhmgappckaa.Sc Go.Proofs.Ytcfkmhmgappckaa.PAll Go.Proofs.YtcfkmhmgappckaaW.PrintWords Go.Proofs.YtcfkmhmgappckaaW.PrintLast Go.Proofs.YtcfkmhmgappckaaW.PrintMore

section
variable {w : World} {base g bT bM bR : Nat} {vs us : List (Option Nat × Value)} {S : Sd}
theorem IsS.c0 (h : IsS w base g bT bM bR vs us S) : w.cell? ⟨g, 0, none⟩ = some (.slice (some ⟨bT, 0, none⟩) S.T.length S.T.length) := by simp [World.cell?, h.cell]
theorem IsS.c1 (h : IsS w base g bT bM bR vs us S) : w.cell? ⟨g, 1, none⟩ = some (.slice (some ⟨bM, 0, none⟩) S.M.length S.M.length) := by simp [World.cell?, h.cell]
theorem IsS.c2 (h : IsS w base g bT bM bR vs us S) : w.cell? ⟨g, 2, none⟩ = some (.slice (some ⟨bR, 0, none⟩) S.R.length S.R.length) := by simp [World.cell?, h.cell]
theorem IsS.cT (h : IsS w base g bT bM bR vs us S) (i : Nat) (hi : i < S.T.length) : w.cell? ⟨bT, i, none⟩ = some (.int .i64 S.T[i]) := by simp [World.cell?, h.T, hi]
theorem flat2 {α : Type} : ∀ (l : List (List α)), (∀ c ∈ l, c.length = 2) → ∀ i j, j < 2 → l.flatten[2 * i + j]? = (l[i]?).bind (·[j]?)
  | [], _, i, j, _ => by simp
  | c :: l, h, 0, j, hj => by
    have := h c (by simp)
    rw [List.flatten_cons, List.getElem?_append_left (by omega)]
    simp
  | c :: l, h, i + 1, j, hj => by
    have hc := h c (by simp)
    rw [List.flatten_cons, List.getElem?_append_right (by omega), hc, show 2 * (i + 1) + j - 2 = 2 * i + j by omega, flat2 l (fun d hd => h d (by simp [hd])) i j hj]
    simp
theorem IsS.cM (h : IsS w base g bT bM bR vs us S) (i : Nat) (hi : i < S.M.length) : w.cell? ⟨bM, 2 * i, none⟩ = some (.int .i64 (S.M[i]).1) ∧ ∃ v, vs[i]? = some v ∧ w.cell? ⟨bM, 2 * i + 1, none⟩ = some v.2 := by
  have hv : i < vs.length := by have := h.lenV; omega
  have hz : (List.zipWith (fun (x : Int × List Int) (v : Option Nat × Value) => [Value.int .i64 x.1, v.2]) S.M vs)[i]? = some [Value.int .i64 (S.M[i]).1, (vs[i]).2] := by
    rw [List.getElem?_zipWith, List.getElem?_eq_getElem hi, List.getElem?_eq_getElem hv]
  have hall : ∀ c ∈ List.zipWith (fun (x : Int × List Int) (v : Option Nat × Value) => [Value.int .i64 x.1, v.2]) S.M vs, c.length = 2 := by
    intro c hc
    obtain ⟨k, hk, rfl⟩ := List.getElem_of_mem hc
    simp
  have f0 := flat2 _ hall i 0 (by omega)
  have f1 := flat2 _ hall i 1 (by omega)
  rw [hz] at f0 f1
  refine ⟨?_, vs[i], List.getElem?_eq_getElem hv, ?_⟩
  · simp only [World.cell?, h.M, Option.bind_some]
    simpa using f0
  · simp only [World.cell?, h.M, Option.bind_some]
    simpa using f1
end
set_option maxHeartbeats 400000 in
theorem state_any {w : World} {base g bT bM bR : Nat} {vs us : List (Option Nat × Value)} {S : Sd} (h : IsS w base g bT bM bR vs us S) (hn : S.T.length ≤ 1000) (t : Int) :
    Calls Try.prog 16 #[.pointer (some ⟨g, 0, none⟩), .int .i64 t] w fun e w' => e = .returned (.int .i64 (stT S t)) ∧ w' = w := by
  have d0 := h.c0
  by_cases hi : 0 ≤ t ∧ t < S.T.length
  · have e1 : inB S.T.length t = true := by unfold inB; simp [hi.1, hi.2]
    have e2 : there S.T t = true := by unfold there; simp [hi.1, hi.2]
    have d1 := h.cT t.toNat (by omega)
    have e3 : stT S t = S.T[t.toNat]'(by omega) := by unfold stT; rw [e2, if_pos rfl, List.getD_eq_getElem?_getD, List.getElem?_eq_getElem (by omega)]; rfl
    rw [e3]
    obtain ⟨x, hx⟩ : ∃ x, S.T[t.toNat]'(by omega) = x := ⟨_, rfl⟩
    rw [hx] at d1 ⊢
    have g1 := hi.1
    have g2 := hi.2
    clear h e2 e3 hx hi
    go_enter Try.func16, Try.ntmps16
    go_wp2_with fail
    refine (in_int _ _ _ _ _ (by omega)).mono ?_
    rintro e w' ⟨rfl, rfl⟩
    rw [e1]
    go_wp2_with fail
    go_ret
    exact ⟨rfl, rfl⟩
  · have e1 : inB S.T.length t = false := by unfold inB; rw [Bool.and_eq_false_iff, decide_eq_false_iff_not, decide_eq_false_iff_not]; omega
    have e2 : there S.T t = false := by unfold there; rw [Bool.and_eq_false_iff, decide_eq_false_iff_not, decide_eq_false_iff_not]; omega
    have e3 : stT S t = -1 := by unfold stT; rw [e2]; rfl
    rw [e3]
    clear h e2 e3 hi
    go_enter Try.func16, Try.ntmps16
    go_wp2_with fail
    refine (in_int _ _ _ _ _ (by omega)).mono ?_
    rintro e w' ⟨rfl, rfl⟩
    rw [e1]
    go_wp2_with fail
    go_ret
    exact ⟨rfl, rfl⟩
set_option maxHeartbeats 400000 in
theorem owner_any {w : World} {base g bT bM bR : Nat} {vs us : List (Option Nat × Value)} {S : Sd} (h : IsS w base g bT bM bR vs us S) (hn : S.M.length ≤ 1000) (t : Int) :
    Calls Try.prog 11 #[.pointer (some ⟨g, 0, none⟩), .int .i64 t] w fun e w' => e = .returned (.int .i64 (owner S t)) ∧ w' = w := by
  have d0 := h.c1
  by_cases hi : 0 ≤ t ∧ t < S.M.length
  · have e1 : inB S.M.length t = true := by unfold inB; simp [hi.1, hi.2]
    have e2 : there S.M t = true := by unfold there; simp [hi.1, hi.2]
    have d1 := (h.cM t.toNat (by omega)).1
    have e3 : owner S t = (S.M[t.toNat]'(by omega)).1 := by unfold owner mu; rw [e2, if_pos rfl, List.getD_eq_getElem?_getD, List.getElem?_eq_getElem (by omega)]; rfl
    rw [e3]
    obtain ⟨x, hx⟩ : ∃ x, S.M[t.toNat]'(by omega) = x := ⟨_, rfl⟩
    rw [hx] at d1 ⊢
    have d2 : w.cell? ⟨bM, t.toNat * 2, none⟩ = some (.int .i64 x.1) := by rw [Nat.mul_comm]; exact d1
    have g1 := hi.1
    have g2 := hi.2
    clear h e2 e3 hx hi
    go_enter Try.func11, Try.ntmps11
    go_wp2_with fail
    refine (in_mutex _ _ _ _ _ (by omega)).mono ?_
    rintro e w' ⟨rfl, rfl⟩
    rw [e1]
    go_wp2_with fail
    go_ret
    exact ⟨rfl, rfl⟩
  · have e1 : inB S.M.length t = false := by unfold inB; rw [Bool.and_eq_false_iff, decide_eq_false_iff_not, decide_eq_false_iff_not]; omega
    have e2 : there S.M t = false := by unfold there; rw [Bool.and_eq_false_iff, decide_eq_false_iff_not, decide_eq_false_iff_not]; omega
    have e3 : owner S t = -1 := by unfold owner; rw [e2]; rfl
    rw [e3]
    clear h e2 e3 hi
    go_enter Try.func11, Try.ntmps11
    go_wp2_with fail
    refine (in_mutex _ _ _ _ _ (by omega)).mono ?_
    rintro e w' ⟨rfl, rfl⟩
    rw [e1]
    go_wp2_with fail
    go_ret
    exact ⟨rfl, rfl⟩
end Go.Proofs.Ytcfkmhmgappckaa

/- The ready ones. No condition but on size. -/
namespace Go.Proofs.Ytcfkmhmgappckaa
open Go.RowKit Go.Proofs.Ytcfkmhmgappckaa.Sc Go.Proofs.Ytcfkmhmgappckaa.PAll Go.Proofs.YtcfkmhmgappckaaW.PrintWords Go.Proofs.YtcfkmhmgappckaaW.PrintLast Go.Proofs.YtcfkmhmgappckaaW.PrintMore

theorem heap_lt {w : World} {b : Nat} {o : Obj} (h : w.heap[b]? = some o) : b < w.heap.size := (Array.getElem?_eq_some_iff.1 h).1
section
variable {w w1 : World} {base g bT bM bR : Nat} {vs us : List (Option Nat × Value)} {S : Sd}
/-- What lies as it lay. -/
theorem IsS.kept (h : IsS w base g bT bM bR vs us S) (hs : ∀ k, k < w.heap.size → w1.heap[k]? = w.heap[k]?) : IsS w1 base g bT bM bR vs us S := by
  have hr : ∀ {t sz : Nat} {ob : Option Nat} {v : Value} {l : List (List Value)}, RowIn w base t sz ob v l → RowIn w1 base t sz ob v l := by
    intro t sz ob v l hR
    refine hR.same (fun b hb => ?_)
    rcases hR.2 with ⟨e, _⟩ | ⟨b2, off, cap, cs, e, _, _, hc, _⟩
    · rw [e] at hb; cases hb
    · rw [e] at hb; cases hb; exact hs _ (heap_lt hc)
  exact ⟨h.ge, (hs _ (heap_lt h.cell)).trans h.cell, h.geT, h.geM, h.geR, (hs _ (heap_lt h.T)).trans h.T, h.lenV, (hs _ (heap_lt h.M)).trans h.M, fun i x v a b => hr (h.rows i x v a b), h.lenU, (hs _ (heap_lt h.R)).trans h.R, fun i x u a b => hr (h.rests i x u a b), h.apart⟩
theorem IsS.below (h : IsS w base g bT bM bR vs us S) (hb : Below w.heap.size w w1) : IsS w1 base g bT bM bR vs us S := h.kept (fun k hk => hb.block k hk)
end
theorem readyF_snoc : ∀ (l : List Int) (x : Int) (k : Nat), readyF (l ++ [x]) k = readyF l k ++ (if x = 0 then [((k + l.length : Nat) : Int)] else [])
  | [], x, k => by simp only [List.nil_append, readyF]; split <;> simp
  | y :: l, x, k => by
    have ih := readyF_snoc l x (k + 1)
    have e : k + 1 + l.length = k + (y :: l).length := by simp; omega
    rw [e] at ih
    simp only [List.cons_append, readyF, ih]
    split <;> simp
def IntsR (base : Nat) (w : World) (v : Value) (l : List Int) : Prop := w.ownsRow base 3 1 v l.length (l.map (Value.int .i64))
theorem infoInt : (Try.prog.info? 3).map (fun i => (i.zero, i.size, i.bytes)) = some (some (.int .i64 0), 1, 8) := by kernel_rfl
set_option maxHeartbeats 1000000 in
set_option maxRecDepth 100000 in
theorem ready_any {w : World} {base g bT bM bR : Nat} {vs us : List (Option Nat × Value)} {S : Sd} (h : IsS w base g bT bM bR vs us S) (hn : S.T.length ≤ 1000) :
    Calls Try.prog 12 #[.pointer (some ⟨g, 0, none⟩)] w fun e w' => ∃ v, e = .returned v ∧ IntsR w.heap.size w' v (ready S) ∧ Below w.heap.size w w' := by
  obtain ⟨i0, hi, hz0, hz1, hz2⟩ := info_parts infoInt
  have d0 := h.c0
  have HS := Lib.hid h
  clear h
  go_enter Try.func12, Try.ntmps12
  go_wp2
  go_loopw [3, 11] (fun v vi wr => ∃ i : Nat, vi = .int .i64 i ∧ i ≤ S.T.length ∧ IntsR w.heap.size wr v (readyF (S.T.take i) 0) ∧ Below w.heap.size w wr) (fun _ vi _ => S.T.length - (intOf vi).toNat)
  case atStart => exact ⟨0, rfl, Nat.zero_le _, World.ownsRow_nil _ _ _ _, Below.refl _ w⟩
  case round =>
    obtain ⟨i, rfl, hi2, hrow, hbw⟩ := hrel
    have hlen : (readyF (S.T.take i) 0).length ≤ 1000 := by
      rw [readyF_len]
      have := List.countP_le_length (p := fun x : Int => decide (x = 0)) (l := S.T.take i)
      rw [List.length_take] at this
      omega
    by_cases hlt : i < S.T.length
    · have hst := readyF_snoc (S.T.take i) S.T[i] 0
      rw [← List.take_succ_eq_append_getElem hlt, List.length_take, Nat.min_eq_left (by omega), Nat.zero_add] at hst
      have d1 := (HS.out.below hbw).cT i hlt
      obtain ⟨x, hx⟩ : ∃ x, S.T[i] = x := ⟨_, rfl⟩
      rw [hx] at hst d1
      have g1 : ((i : Nat) : Int) < (S.T.length : Int) := by omega
      have HST := Lib.hid hst
      clear hst hx
      by_cases h0 : x = 0
      · subst h0
        go_wp2_with (at_builtin; refine wpList_append_own _ rfl _ _ 22 rfl w.heap.size 3 i0 (.int .i64 0) 1 8 Try.underlying22 hi hz0 hz1 hz2 rfl (by decide) _ _ _ rfl (World.ownsRow.alloc hrow _) ⟨wr.heap.size, 0, none⟩ 1 1 [.int .i64 (i : Int)] rfl rfl ?c1 ?c2 ?c3 ?c4 ?c5 ?_)
        case c2 => simp [Value.oneCell']
        case c3 => unfold maxLen; omega
        case c4 => omega
        case c5 => have := hbw.size; omega
        intro v' w1 hown' hgrow _
        have hbw3 : Below w.heap.size w w1 := (hbw.alloc (by have := hbw.size; omega) _).grown hgrow (by simp; have := hbw.size; omega) (fun k hk => (hrow.lt k hk).1)
        clear hrow hbw hgrow
        go_wp2
        go_roundw
        case rel =>
          refine ⟨i + 1, by simp, by omega, ?_, hbw3⟩
          rw [HST.out]
          unfold IntsR
          simpa using hown'
        case measure => simp [intOf]; omega
      · have hne : (x == 0) = false := by simpa using h0
        go_wp2
        go_roundw
        case rel =>
          refine ⟨i + 1, by simp, by omega, ?_, hbw⟩
          rw [HST.out, if_neg h0, List.append_nil]
          exact hrow
        case measure => simp [intOf]; omega
    · go_wp2
      go_ret
      have e : S.T.take i = S.T := List.take_of_length_le (by omega)
      rw [e] at hrow
      exact ⟨_, rfl, hrow, hbw⟩
end Go.Proofs.Ytcfkmhmgappckaa

/- A schedule behind a store: a state, an owner. No condition. -/
namespace Go.Proofs.Ytcfkmhmgappckaa
open Go.RowKit Go.Proofs.Ytcfkmhmgappckaa.Sc Go.Proofs.Ytcfkmhmgappckaa.PAll Go.Proofs.YtcfkmhmgappckaaW.PrintWords Go.Proofs.YtcfkmhmgappckaaW.PrintLast Go.Proofs.YtcfkmhmgappckaaW.PrintMore
section
variable {w w1 : World} {base g bT bM bR : Nat} {vs us : List (Option Nat × Value)} {S : Sd}
theorem IsS.ne3 (h : IsS w base g bT bM bR vs us S) : bT ≠ g ∧ bM ≠ g ∧ bR ≠ g ∧ bT ≠ bM ∧ bT ≠ bR ∧ bM ≠ bR := by
  have hap := (List.pairwise_append.1 h.apart).1
  simp at hap
  omega
theorem IsS.far (h : IsS w base g bT bM bR vs us S) {b : Nat} (hb : b = g ∨ b = bT ∨ b = bM ∨ b = bR) (x : Option Nat × Value) (hx : x ∈ vs ++ us) : x.1 ≠ some b := by
  have hap := (List.pairwise_append.1 h.apart).2.2
  have h2 : some b ∈ [some g, some bT, some bM, some bR] := by rcases hb with rfl | rfl | rfl | rfl <;> simp
  intro e
  rcases hap _ h2 _ (List.mem_map_of_mem (f := (·.1)) hx) with h3 | h3 | h3
  · cases h3
  · rw [h3] at e; cases e
  · exact h3 e.symm
theorem IsS.setT (h : IsS w base g bT bM bR vs us S) (t : Nat) (ht : t < S.T.length) (x : Int) : IsS (w.setCell ⟨bT, t, none⟩ (.int .i64 x)) base g bT bM bR vs us (Sc.setT S t x) := by
  have hs : ∀ k, k ≠ bT → (w.setCell ⟨bT, t, none⟩ (.int .i64 x)).heap[k]? = w.heap[k]? := fun k hk => Below.heap_setCell w ⟨bT, t, none⟩ _ k hk
  obtain ⟨n1, n2, n3, n4, n5, n6⟩ := h.ne3
  refine ⟨h.ge, ?_, h.geT, h.geM, h.geR, ?_, h.lenV, (hs _ (Ne.symm n4)).trans h.M, fun i a v p q => ?_, h.lenU, (hs _ (Ne.symm n5)).trans h.R, fun i a u p q => ?_, h.apart⟩
  · rw [hs _ (Ne.symm n1), h.cell]
    simp [Sc.setT]
  · simp [World.setCell, h.T, Array.getElem?_modify, Sc.setT, List.map_set]
  · exact (h.rows i a v p q).same (fun b e => hs b (fun e2 => h.far (b := bT) (by simp) v (by have := List.mem_of_getElem? q; simp [this]) (by rw [e, e2])))
  · exact (h.rests i a u p q).same (fun b e => hs b (fun e2 => h.far (b := bT) (by simp) u (by have := List.mem_of_getElem? q; simp [this]) (by rw [e, e2])))
theorem flat2_set {α : Type} (v : α) (j : Nat) (hj : j < 2) : ∀ (l : List (List α)), (∀ c ∈ l, c.length = 2) → ∀ m c, l[m]? = some c → l.flatten.set (m * 2 + j) v = (l.set m (c.set j v)).flatten
  | [], _, m, c, h => by simp at h
  | d :: l, hl, 0, c, h => by
    obtain rfl : d = c := by simpa using h
    have hd := hl d (by simp)
    simp only [List.flatten_cons, Nat.zero_mul, Nat.zero_add, List.set_cons_zero]
    rw [List.set_append_left _ _ (by omega)]
  | d :: l, hl, m + 1, c, h => by
    have hd := hl d (by simp)
    have ih := flat2_set v j hj l (fun e he => hl e (by simp [he])) m c (by simpa using h)
    simp only [List.flatten_cons, List.set_cons_succ]
    rw [List.set_append_right _ _ (by omega), hd, show (m + 1) * 2 + j - 2 = m * 2 + j by omega, ih]
def cellsM (M : List (Int × List Int)) (vs : List (Option Nat × Value)) : List (List Value) := List.zipWith (fun (x : Int × List Int) (v : Option Nat × Value) => [Value.int .i64 x.1, v.2]) M vs
theorem cellsM_two (M : List (Int × List Int)) (vs : List (Option Nat × Value)) : ∀ c ∈ cellsM M vs, c.length = 2 := by
  intro c hc
  obtain ⟨k, hk, rfl⟩ := List.getElem_of_mem hc
  simp [cellsM]
theorem cellsM_set (M : List (Int × List Int)) (vs : List (Option Nat × Value)) (m : Nat) (hm : m < M.length) (hv : m < vs.length) (x : Int) (r : List Int) :
    cellsM (M.set m (x, r)) vs = (cellsM M vs).set m [Value.int .i64 x, (vs[m]).2] := by
  apply List.ext_getElem
  · simp [cellsM]
  · intro k h1 h2
    simp only [cellsM, List.getElem_zipWith, List.getElem_set]
    by_cases e : m = k
    · subst e; simp
    · simp [e]
theorem IsS.setO (h : IsS w base g bT bM bR vs us S) (m : Nat) (hm : m < S.M.length) (x : Int) : IsS (w.setCell ⟨bM, m * 2, none⟩ (.int .i64 x)) base g bT bM bR vs us (Sc.setM S m (x, (S.M[m]).2)) := by
  have hs : ∀ k, k ≠ bM → (w.setCell ⟨bM, m * 2, none⟩ (.int .i64 x)).heap[k]? = w.heap[k]? := fun k hk => Below.heap_setCell w ⟨bM, m * 2, none⟩ _ k hk
  obtain ⟨n1, n2, n3, n4, n5, n6⟩ := h.ne3
  have hv : m < vs.length := by have := h.lenV; omega
  have hz : (cellsM S.M vs)[m]? = some [Value.int .i64 (S.M[m]).1, (vs[m]).2] := by
    unfold cellsM
    rw [List.getElem?_zipWith, List.getElem?_eq_getElem hm, List.getElem?_eq_getElem hv]
  have hfl := flat2_set (Value.int .i64 x) 0 (by omega) (cellsM S.M vs) (cellsM_two _ _) m _ hz
  refine ⟨h.ge, ?_, h.geT, h.geM, h.geR, (hs _ n4).trans h.T, ?_, ?_, fun i a v p q => ?_, h.lenU, (hs _ (Ne.symm n6)).trans h.R, fun i a u p q => ?_, h.apart⟩
  · rw [hs _ (Ne.symm n2), h.cell]
    simp [Sc.setM]
  · rw [h.lenV]; simp [Sc.setM]
  · have hM := h.M
    rw [show List.zipWith (fun (x : Int × List Int) (v : Option Nat × Value) => [Value.int .i64 x.1, v.2]) S.M vs = cellsM S.M vs from rfl] at hM
    have e1 : (Sc.setM S m (x, (S.M[m]).2)).M = S.M.set m (x, (S.M[m]).2) := by simp [Sc.setM]
    rw [show List.zipWith (fun (x : Int × List Int) (v : Option Nat × Value) => [Value.int .i64 x.1, v.2]) (Sc.setM S m (x, (S.M[m]).2)).M vs = cellsM (Sc.setM S m (x, (S.M[m]).2)).M vs from rfl, e1, cellsM_set _ _ m hm hv]
    rw [Nat.add_zero, List.set_cons_zero] at hfl
    rw [← hfl]
    simp [World.setCell, hM, Array.getElem?_modify]
  · refine RowIn.same (w := w) ?_ (fun b e => hs b (fun e2 => h.far (b := bM) (by simp) v (by have := List.mem_of_getElem? q; simp [this]) (by rw [e, e2])))
    have p' : (S.M.set m (x, (S.M[m]).2))[i]? = some a := by simpa [Sc.setM] using p
    rw [List.getElem?_set] at p'
    split at p'
    · rename_i e
      subst e
      obtain rfl := Option.some.inj p'
      exact h.rows m (S.M[m]) v (List.getElem?_eq_getElem hm) q
    · exact h.rows i a v p' q
  · exact (h.rests i a u p q).same (fun b e => hs b (fun e2 => h.far (b := bM) (by simp) u (by have := List.mem_of_getElem? q; simp [this]) (by rw [e, e2])))
end
end Go.Proofs.Ytcfkmhmgappckaa

/- One more behind a row, wherever the row lies in its block. No condition but on size. -/
namespace Go.Proofs.Ytcfkmhmgappckaa
open Go.RowKit Go.Proofs.Ytcfkmhmgappckaa.Sc Go.Proofs.Ytcfkmhmgappckaa.PAll Go.Proofs.YtcfkmhmgappckaaW.PrintWords Go.Proofs.YtcfkmhmgappckaaW.PrintLast Go.Proofs.YtcfkmhmgappckaaW.PrintMore

theorem RowIn.flat_len {w : World} {base t sz : Nat} {ob : Option Nat} {v : Value} {l : List (List Value)} (h : RowIn w base t sz ob v l) : l.flatten.length = l.length * sz := by
  have := h.1
  clear h
  induction l with
  | nil => simp
  | cons c l ih =>
    rw [List.flatten_cons, List.length_append, this c (by simp), ih (fun d hd => this d (by simp [hd])), List.length_cons, Nat.add_mul, Nat.one_mul, Nat.add_comm]
theorem RowIn.of_owns {w : World} {base t sz : Nat} {v : Value} {l : List (List Value)} (hl : ∀ c ∈ l, c.length = sz) (hn : 0 < l.length) (h : w.ownsRow base t sz v l.length l.flatten) : ∃ b, base ≤ b ∧ RowIn w base t sz (some b) v l := by
  rcases h.2 with ⟨_, h0⟩ | ⟨g, cap, cur, hv, hb, hc, h1, h2, h3, h4⟩
  · omega
  · refine ⟨g, hb, hl, .inr ⟨g, 0, cap, cur, rfl, by rw [Nat.zero_mul]; exact hv, hb, hc, h1, by rw [Nat.zero_add, h3]; exact Nat.le_refl _, fun i hi => ?_⟩⟩
    rw [← h4, List.getElem?_take_of_lt hi]
    simp
theorem grown_any {w w1 : World} (h : w.grownBy w1 none) (row : Option Nat) : w.grownBy w1 row := ⟨h.os, h.tape, h.output, h.size, fun k hk _ => h.block k hk (by simp)⟩
theorem grown_cells (w : World) (b o : Nat) (vs : List Value) : w.grownBy (w.setCells b o vs) (some b) := by
  obtain ⟨h1, h2, h3, h4⟩ := setCells_same b vs o w
  exact ⟨h1, h2, h3, by rw [h4]; exact Nat.le_refl _, fun k _ hk => setCells_far vs o k (fun e => hk (by rw [e]))⟩
theorem RowIn.slice {w : World} {base t sz : Nat} {ob : Option Nat} {v : Value} {l : List (List Value)} (h : RowIn w base t sz ob v l) : ∃ A n c, v = .slice A n c := by
  rcases h.2 with ⟨_, e, _⟩ | ⟨b, off, cap, cs, _, e, _⟩
  · exact ⟨_, _, _, e⟩
  · exact ⟨_, _, _, e⟩
/-- 'append(row, x)', both arms, as a run. -/
theorem run_push (w : World) (t ty e : TypeId) (i : TypeInfo) (z : Value) (size bytes : Nat) (h1 : Try.prog.underlying t = some (.slice e)) (h2 : Try.prog.info? e = some i) (h3 : i.zero = some z) (h4 : i.size = size) (h5 : i.bytes = bytes) (h6 : z.cells.size = size) (h7 : 0 < size)
    {base : Nat} {ob : Option Nat} {v : Value} {l : List (List Value)} (hR : RowIn w base e size ob v l)
    (ad : Addr) (c : Nat) (news : List Value) (hn : news.length = size) (hc : ∀ j u, news[j]? = some u → w.cell? (ad.add j) = some u) (h1c : ∀ u ∈ news, u.oneCell' = true)
    (b1 : l.length + 1 ≤ maxLen) (b2 : (l.length + 1) * bytes ≤ 140737488355328) (hbase : base ≤ w.heap.size) :
    ∃ ob' v' w', (Builtin.append_ #[t, t] ty #[v, .slice (some ad) 1 c]).run Try.prog w = .ok v' w' ∧ RowIn w' base e size ob' v' (l ++ [news]) ∧ w.grownBy w' ob ∧ (ob' = ob ∨ ∃ k, ob' = some k ∧ w.heap.size ≤ k) := by
  have hall : ∀ d ∈ l ++ [news], d.length = size := by
    intro d hd
    rcases List.mem_append.1 hd with hd | hd
    · exact hR.1 d hd
    · obtain rfl : d = news := by simpa using hd
      exact hn
  have hfl := hR.flat_len
  have hgrow : ∀ v' w', w'.ownsRow w.heap.size e size v' (l.length + 1) (l.flatten ++ news) → w.grownBy w' none → ∃ ob', RowIn w' base e size ob' v' (l ++ [news]) ∧ w.grownBy w' ob ∧ (ob' = ob ∨ ∃ k, ob' = some k ∧ w.heap.size ≤ k) := by
    intro v' w' ho hgr
    have ho' : w'.ownsRow w.heap.size e size v' (l ++ [news]).length (l ++ [news]).flatten := by simpa using ho
    obtain ⟨b, hb, hr⟩ := RowIn.of_owns hall (by simp) ho'
    refine ⟨some b, ⟨hr.1, ?_⟩, grown_any hgr ob, .inr ⟨b, rfl, hb⟩⟩
    rcases hr.2 with ⟨e1, _⟩ | ⟨b2', off, cap, cs, e1, e2, e3, e4⟩
    · cases e1
    · exact .inr ⟨b2', off, cap, cs, e1, e2, by omega, e4⟩
  have hone : news.length = 1 * size := by rw [hn, Nat.one_mul]
  rcases hR.2 with ⟨rfl, rfl, rfl⟩ | ⟨b, off, cap, cs, rfl, rfl, hb, hcs, hle, hsz, hcell⟩
  · obtain ⟨v', w', hrun, r1, r2, _⟩ := run_append_own (P := Try.prog) w w.heap.size t ty e i z size bytes h1 h2 h3 h4 h5 h6 h7 (.slice none 0 0) 0 [] (World.ownsRow_nil w _ e size) ad 1 c news hone hc h1c (by simpa using b1) (by simpa using b2) (Nat.le_refl _)
    obtain ⟨ob', q⟩ := hgrow v' w' (by simpa using r1) r2
    exact ⟨ob', v', w', by simpa using hrun, q⟩
  · have hmul : (off + l.length) * size = off * size + l.length * size := Nat.add_mul _ _ _
    by_cases hr : l.length + 1 ≤ cap
    · have h8 : (off + (l.length + 1)) * size ≤ (off + cap) * size := Nat.mul_le_mul_right _ (by omega)
      have h9 : (off + (l.length + 1)) * size = off * size + l.length * size + size := by rw [Nat.add_mul, Nat.add_mul, Nat.one_mul]; omega
      have h11 : off * size + l.length * size ≤ cs.toList.length := by
        have h12 : cs.toList.length = cs.size := Array.length_toList (xs := cs)
        omega
      subst h4
      have hrun := run_append_room_cells (P := Try.prog) w t ty e i h1 h2 b (off * i.size) l.length cap ad 1 c news hone hc h1c hr (fun j hj => by
        have h10 : off * i.size + l.length * i.size + j < cs.size := by omega
        simp [World.cell?, hcs, h10]) (fun j hj => by simp [World.frozen?, hcs])
      obtain ⟨cur', q1, q2, q3⟩ := setCells_row news (off * i.size + l.length * i.size) w cs hcs (by omega)
      refine ⟨some b, _, _, hrun, ⟨hall, .inr ⟨b, off, cap, cur', rfl, by simp, hb, q1, by simp; omega, by omega, fun k hk => ?_⟩⟩, grown_cells w b _ news, .inl rfl⟩
      have hk2 : k < l.length * i.size + i.size := by rw [List.length_append, List.length_singleton, Nat.add_mul, Nat.one_mul] at hk; exact hk
      have hfe : (l ++ [news]).flatten = l.flatten ++ news := by simp
      rw [← Array.getElem?_toList, q3, hfe]
      have htl : (cs.toList.take (off * i.size + l.length * i.size)).length = off * i.size + l.length * i.size := by rw [List.length_take]; exact Nat.min_eq_left h11
      rw [List.append_assoc]
      by_cases hk3 : k < l.length * i.size
      · have hk4 : k < l.flatten.length := by rw [hfl]; exact hk3
        rw [List.getElem?_append_left (l₁ := l.flatten) hk4, List.getElem?_append_left (l₁ := cs.toList.take (off * i.size + l.length * i.size)) (by rw [htl]; omega), List.getElem?_take_of_lt (by omega), Array.getElem?_toList]
        exact hcell k hk3
      · have hk4 : l.flatten.length ≤ k := by rw [hfl]; omega
        rw [List.getElem?_append_right (l₁ := l.flatten) hk4, List.getElem?_append_right (l₁ := cs.toList.take (off * i.size + l.length * i.size)) (by rw [htl]; omega), htl, hfl, List.getElem?_append_left (l₁ := news) (by omega)]
        congr 1
        omega
    · obtain ⟨v', w', hrun, r1, r2⟩ := run_append_arg_grows (P := Try.prog) w t ty e i z size bytes h1 h2 h3 h4 h5 h6 h7 ⟨b, off * size, none⟩ l.length cap l.flatten hfl (fun j u hu => by
        have hj : j < l.length * size := by rw [← hfl]; exact (List.getElem?_eq_some_iff.1 hu).1
        have := hcell j hj
        rw [Addr.add_lit]
        simp [World.cell?, hcs, this, hu]) ad 1 c news hone hc (by omega) b1 b2
      obtain ⟨ob', q⟩ := hgrow v' w' r1 r2
      exact ⟨ob', v', w', hrun, q⟩
theorem wpList_push {ops : Array Oper} {rest : List Oper} {o : Oper} {a : Act} {Q : Exit → Act → World → Prop} (w : World)
    (hg : o.guard = none) (s x : Operand) (t : TypeId) (hop : o.op = Op.call { callee := Callee.builtin Builtin.append, args := #[s, x], argTypes := #[t, t] })
    (e : TypeId) (i : TypeInfo) (z : Value) (size bytes : Nat) (h1 : Try.prog.underlying t = some (.slice e)) (h2 : Try.prog.info? e = some i) (h3 : i.zero = some z) (h4 : i.size = size) (h5 : i.bytes = bytes) (h6 : z.cells.size = size) (h7 : 0 < size)
    {base : Nat} {ob : Option Nat} {v : Value} {l : List (List Value)} (hR : RowIn w base e size ob v l) (hs : a.eval s = v)
    (ad : Addr) (c : Nat) (news : List Value) (hx : a.eval x = .slice (some ad) 1 c) (hn : news.length = size) (hc : ∀ j u, news[j]? = some u → w.cell? (ad.add j) = some u) (h1c : ∀ u ∈ news, u.oneCell' = true)
    (b1 : l.length + 1 ≤ maxLen) (b2 : (l.length + 1) * bytes ≤ 140737488355328) (hbase : base ≤ w.heap.size)
    (K : ∀ ob' A' n' c' w', RowIn w' base e size ob' (.slice A' n' c') (l ++ [news]) → w.grownBy w' ob → (ob' = ob ∨ ∃ k, ob' = some k ∧ w.heap.size ≤ k) → wpList Try.prog ops Q rest (a.put o.dst (.slice A' n' c')) w') :
    wpList Try.prog ops Q (o :: rest) a w := by
  obtain ⟨ob', v', w', hrun, q1, q2, q3⟩ := run_push w t o.type e i z size bytes h1 h2 h3 h4 h5 h6 h7 hR ad c news hn hc h1c b1 b2 hbase
  obtain ⟨A', n', c', rfl⟩ := q1.slice
  refine wpList_plain hg fun K' hK' => ?_
  unfold Oper.wp
  simp [execOp, hop, resolve, invoke, builtin, hs, hx, hrun, Result.andThen]
  exact hK' _ _ (K ob' A' n' c' w' q1 q2 q3)
theorem step_push {ops : Array Oper} {o : Oper} {a : Act} {w : World} {K : Act → World → Prop} {Q : Exit → Act → World → Prop} {E : Prop}
    (hg : o.guard = none) (s x : Operand) (t : TypeId) (hop : o.op = Op.call { callee := Callee.builtin Builtin.append, args := #[s, x], argTypes := #[t, t] })
    (e : TypeId) (i : TypeInfo) (z : Value) (size bytes : Nat) (h1 : Try.prog.underlying t = some (.slice e)) (h2 : Try.prog.info? e = some i) (h3 : i.zero = some z) (h4 : i.size = size) (h5 : i.bytes = bytes) (h6 : z.cells.size = size) (h7 : 0 < size)
    {base : Nat} {ob : Option Nat} {v : Value} {l : List (List Value)} (hR : RowIn w base e size ob v l) (hs : a.eval s = v)
    (ad : Addr) (c : Nat) (news : List Value) (hx : a.eval x = .slice (some ad) 1 c) (hn : news.length = size) (hc : ∀ j u, news[j]? = some u → w.cell? (ad.add j) = some u) (h1c : ∀ u ∈ news, u.oneCell' = true)
    (b1 : l.length + 1 ≤ maxLen) (b2 : (l.length + 1) * bytes ≤ 140737488355328) (hbase : base ≤ w.heap.size)
    (hK : ∀ ob' A' n' c' w', RowIn w' base e size ob' (.slice A' n' c') (l ++ [news]) → w.grownBy w' ob → (ob' = ob ∨ ∃ k, ob' = some k ∧ w.heap.size ≤ k) → K (a.put o.dst (.slice A' n' c')) w') :
    if Region.wanted o (yielded ops a.tmps) = true then Oper.wp Try.prog o a w K Q else E := by
  obtain ⟨ob', v', w', hrun, q1, q2, q3⟩ := run_push w t o.type e i z size bytes h1 h2 h3 h4 h5 h6 h7 hR ad c news hn hc h1c b1 b2 hbase
  obtain ⟨A', n', c', rfl⟩ := q1.slice
  have hw : Region.wanted o (yielded ops a.tmps) = true := by simp [Region.wanted, hg]
  rw [if_pos hw]
  unfold Oper.wp
  simp [execOp, hop, resolve, invoke, builtin, hs, hx, hrun, Result.andThen]
  exact hK ob' A' n' c' w' q1 q2 q3
end Go.Proofs.Ytcfkmhmgappckaa

/- A schedule's blocks, and what a step leaves alone. No condition. -/
namespace Go.Proofs.Ytcfkmhmgappckaa
open Go.RowKit Go.Proofs.Ytcfkmhmgappckaa.Sc Go.Proofs.Ytcfkmhmgappckaa.PAll Go.Proofs.YtcfkmhmgappckaaW.PrintWords Go.Proofs.YtcfkmhmgappckaaW.PrintLast Go.Proofs.YtcfkmhmgappckaaW.PrintMore

theorem RowIn.lt {w : World} {base t sz : Nat} {ob : Option Nat} {v : Value} {l : List (List Value)} (h : RowIn w base t sz ob v l) (k : Nat) (hk : ob = some k) : base ≤ k ∧ k < w.heap.size := by
  rcases h.2 with ⟨e, _⟩ | ⟨b, off, cap, cs, e, _, hb, hc, _⟩
  · rw [e] at hk; cases hk
  · rw [e] at hk; cases hk; exact ⟨hb, heap_lt hc⟩
theorem pairwise_set {α : Type} {R : α → α → Prop} (hs : ∀ a b, R a b → R b a) : ∀ (l : List α) (i : Nat) (x : α), l.Pairwise R → (∀ z ∈ l, R x z) → (l.set i x).Pairwise R
  | [], _, _, _, _ => by simp
  | y :: l, 0, x, h, hx => by
    rw [List.set_cons_zero]
    exact List.pairwise_cons.2 ⟨fun z hz => hx z (by simp [hz]), (List.pairwise_cons.1 h).2⟩
  | y :: l, i + 1, x, h, hx => by
    rw [List.set_cons_succ]
    refine List.pairwise_cons.2 ⟨fun z hz => ?_, pairwise_set hs l i x (List.pairwise_cons.1 h).2 (fun z hz => hx z (by simp [hz]))⟩
    rcases List.mem_or_eq_of_mem_set hz with hz | rfl
    · exact (List.pairwise_cons.1 h).1 z hz
    · exact hs _ _ (hx y (by simp))
theorem apart_symm (a b : Option Nat) (h : a = none ∨ b = none ∨ a ≠ b) : b = none ∨ a = none ∨ b ≠ a := by
  rcases h with h | h | h
  · exact .inr (.inl h)
  · exact .inl h
  · exact .inr (.inr (Ne.symm h))
theorem set_self' {α : Type} (l : List α) (i : Nat) (x : α) (h : l[i]? = some x) : l.set i x = l := by
  apply List.ext_getElem?
  intro j
  rw [List.getElem?_set]
  split
  · rename_i e; subst e; split
    · exact h.symm
    · rename_i e2; rw [List.getElem?_eq_none (by omega)] at h; cases h
  · rfl
section
variable {w w1 : World} {base g bT bM bR : Nat} {vs us : List (Option Nat × Value)} {S : Sd}
theorem IsS.ltV (h : IsS w base g bT bM bR vs us S) (x : Option Nat × Value) (hx : x ∈ vs ++ us) (k : Nat) (hk : x.1 = some k) : base ≤ k ∧ k < w.heap.size := by
  rcases List.mem_append.1 hx with hx | hx
  · obtain ⟨i, hi, rfl⟩ := List.getElem_of_mem hx
    have hi2 : i < S.M.length := by have := h.lenV; omega
    exact (h.rows i _ _ (List.getElem?_eq_getElem hi2) (List.getElem?_eq_getElem hi)).lt k hk
  · obtain ⟨i, hi, rfl⟩ := List.getElem_of_mem hx
    have hi2 : i < S.R.length := by have := h.lenU; omega
    exact (h.rests i _ _ (List.getElem?_eq_getElem hi2) (List.getElem?_eq_getElem hi)).lt k hk
theorem IsS.blocks (h : IsS w base g bT bM bR vs us S) {b : Nat} (hb : b = g ∨ b = bT ∨ b = bM ∨ b = bR) : base ≤ b ∧ b < w.heap.size := by
  rcases hb with rfl | rfl | rfl | rfl
  · exact ⟨h.ge, heap_lt h.cell⟩
  · exact ⟨h.geT, heap_lt h.T⟩
  · exact ⟨h.geM, heap_lt h.M⟩
  · exact ⟨h.geR, heap_lt h.R⟩
theorem cellsM_setV (M : List (Int × List Int)) (vs : List (Option Nat × Value)) (m : Nat) (hm : m < M.length) (hv : m < vs.length) (r : List Int) (y : Option Nat × Value) :
    cellsM (M.set m ((M[m]).1, r)) (vs.set m y) = (cellsM M vs).set m [Value.int .i64 (M[m]).1, y.2] := by
  apply List.ext_getElem
  · simp [cellsM]
  · intro k h1 h2
    simp only [cellsM, List.getElem_zipWith, List.getElem_set]
    by_cases e : m = k
    · subst e; simp
    · simp [e]
/-- Another row for a mutex. -/
theorem IsS.setV (h : IsS w base g bT bM bR vs us S) (m : Nat) (hm : m < S.M.length) {ob : Option Nat} {v0 : Value} (hv : vs[m]? = some (ob, v0)) (hg : w.grownBy w1 ob) {ob' : Option Nat} {v' : Value} {r' : List Int}
    (hR : RowIn w1 base 3 1 ob' v' (ints r')) (hob : ob' = none ∨ ob' = ob ∨ ∃ k, ob' = some k ∧ w.heap.size ≤ k) :
    IsS (w1.setCell ⟨bM, m * 2 + 1, none⟩ v') base g bT bM bR (vs.set m (ob', v')) us (Sc.setM S m ((S.M[m]).1, r')) := by
  have hvl : m < vs.length := by have := h.lenV; omega
  have hmem : (ob, v0) ∈ vs ++ us := by have := List.mem_of_getElem? hv; simp [this]
  have hfar : ∀ b, (b = g ∨ b = bT ∨ b = bM ∨ b = bR) → w1.heap[b]? = w.heap[b]? := fun b hb => hg.block b (h.blocks hb).2 (fun e => h.far hb _ hmem e.symm)
  have hs : ∀ k, k ≠ bM → (w1.setCell ⟨bM, m * 2 + 1, none⟩ v').heap[k]? = w1.heap[k]? := fun k hk => Below.heap_setCell w1 ⟨bM, m * 2 + 1, none⟩ _ k hk
  obtain ⟨n1, n2, n3, n4, n5, n6⟩ := h.ne3
  have hz : (cellsM S.M vs)[m]? = some [Value.int .i64 (S.M[m]).1, v0] := by
    unfold cellsM
    rw [List.getElem?_zipWith, List.getElem?_eq_getElem hm, hv]
  have hfl := flat2_set v' 1 (by omega) (cellsM S.M vs) (cellsM_two _ _) m _ hz
  have hbM : ob' ≠ some bM := by
    rcases hob with e | e | ⟨k, e, hk⟩
    · rw [e]; simp
    · rw [e]; exact h.far (by simp) _ hmem
    · rw [e]; have := (h.blocks (b := bM) (by simp)).2; intro e2; cases e2; omega
  have hap := h.apart
  have hothers : ∀ (i : Nat) (x : Option Nat × Value), (vs ++ us)[i]? = some x → i ≠ m → ∀ b, x.1 = some b → ob ≠ some b := by
    intro i x hi hne b hb e
    have hp := (List.pairwise_append.1 hap).2.1
    rw [List.pairwise_iff_getElem] at hp
    obtain ⟨hi2, hi3⟩ := List.getElem?_eq_some_iff.1 hi
    have hm2 : m < (vs ++ us).length := by simp; omega
    have hm3 : (vs ++ us)[m] = (ob, v0) := by
      have : (vs ++ us)[m]? = some (ob, v0) := by rw [List.getElem?_append_left hvl]; exact hv
      exact (List.getElem?_eq_some_iff.1 this).2
    rcases Nat.lt_or_gt_of_ne hne with hlt | hlt
    · have := hp i m (by simpa using hi2) (by simpa using hm2) hlt
      simp only [List.getElem_map, hi3, hm3, hb, e] at this
      simp at this
    · have := hp m i (by simpa using hm2) (by simpa using hi2) hlt
      simp only [List.getElem_map, hi3, hm3, hb, e] at this
      simp at this
  have hkeep : ∀ (i : Nat) (x : Option Nat × Value), (vs ++ us)[i]? = some x → i ≠ m → ∀ b, x.1 = some b → (w1.setCell ⟨bM, m * 2 + 1, none⟩ v').heap[b]? = w.heap[b]? := by
    intro i x hi hne b hb
    have hx := List.mem_of_getElem? hi
    rw [hs b (fun e => h.far (b := bM) (by simp) x hx (by rw [hb, e]))]
    exact hg.block b (h.ltV x hx b hb).2 (fun e => hothers i x hi hne b hb e.symm)
  refine ⟨h.ge, ?_, h.geT, h.geM, h.geR, (hs _ n4).trans ((hfar bT (by simp)).trans h.T), ?_, ?_, fun i a v p q => ?_, h.lenU, (hs _ (Ne.symm n6)).trans ((hfar bR (by simp)).trans h.R), fun i a u p q => ?_, ?_⟩
  · rw [hs _ (Ne.symm n2), hfar g (by simp), h.cell]
    simp [Sc.setM]
  · rw [List.length_set, h.lenV]; simp [Sc.setM]
  · have hM := (hfar bM (by simp)).trans h.M
    rw [show List.zipWith (fun (x : Int × List Int) (v : Option Nat × Value) => [Value.int .i64 x.1, v.2]) S.M vs = cellsM S.M vs from rfl] at hM
    have e1 : (Sc.setM S m ((S.M[m]).1, r')).M = S.M.set m ((S.M[m]).1, r') := by simp [Sc.setM]
    rw [show List.zipWith (fun (x : Int × List Int) (v : Option Nat × Value) => [Value.int .i64 x.1, v.2]) (Sc.setM S m ((S.M[m]).1, r')).M (vs.set m (ob', v')) = cellsM (Sc.setM S m ((S.M[m]).1, r')).M (vs.set m (ob', v')) from rfl, e1, cellsM_setV _ _ m hm hvl]
    rw [List.set_cons_succ, List.set_cons_zero] at hfl
    rw [← hfl]
    simp [World.setCell, hM, Array.getElem?_modify]
  · have p' : (S.M.set m ((S.M[m]).1, r'))[i]? = some a := by simpa [Sc.setM] using p
    by_cases e : m = i
    · subst e
      rw [List.getElem?_set_self hm] at p'
      rw [List.getElem?_set_self hvl] at q
      obtain rfl := Option.some.inj p'
      obtain rfl := Option.some.inj q
      exact hR.same (fun b e => hs b (fun e2 => hbM (by rw [← e2, ← e])))
    · rw [List.getElem?_set_ne e] at p' q
      exact (h.rows i a v p' q).same (hkeep i v (by rw [List.getElem?_append_left (by have := (List.getElem?_eq_some_iff.1 q).1; exact this)]; exact q) (Ne.symm e))
  · exact (h.rests i a u p q).same (hkeep (vs.length + i) u (by rw [List.getElem?_append_right (by omega), Nat.add_sub_cancel_left]; exact q) (by omega))
  · have e1 : [some g, some bT, some bM, some bR] ++ (vs.set m (ob', v') ++ us).map (·.1) = ([some g, some bT, some bM, some bR] ++ (vs ++ us).map (·.1)).set (4 + m) ob' := by
      rw [List.set_append_right _ _ (by simp), ← List.set_append_left _ _ hvl, List.map_set]
      congr 2
      simp
    rw [e1]
    rcases hob with rfl | rfl | ⟨k, rfl, hk⟩
    · exact pairwise_set (R := fun a b => a = none ∨ b = none ∨ a ≠ b) apart_symm _ _ _ hap (fun z _ => .inl rfl)
    · rw [set_self' _ _ _ (by
        rw [List.getElem?_append_right (by simp)]
        simp only [List.length_cons, List.length_nil, Nat.add_sub_cancel_left, List.getElem?_map, List.getElem?_append_left hvl, hv, Option.map_some])]
      exact hap
    · refine pairwise_set (R := fun a b => a = none ∨ b = none ∨ a ≠ b) apart_symm _ _ _ hap (fun z hz => ?_)
      cases z with
      | none => exact .inr (.inl rfl)
      | some b =>
        refine .inr (.inr fun e => ?_)
        cases e
        rcases List.mem_append.1 hz with hz | hz
        · have := (h.blocks (b := k) (by simpa using hz)).2; omega
        · obtain ⟨x, hx, e⟩ := List.mem_map.1 hz
          have := (h.ltV x hx k e).2; omega
end
/-- What a step that owns the blocks F leaves alone. -/
structure Moves (F : Nat → Prop) (w w' : World) : Prop where
  os : w'.os = w.os
  tape : w'.tape = w.tape
  output : w'.output = w.output
  size : w.heap.size ≤ w'.heap.size
  block : ∀ k, k < w.heap.size → ¬ F k → w'.heap[k]? = w.heap[k]?
/-- F, and what is new. -/
def Plus (F : Nat → Prop) (w w' : World) (k : Nat) : Prop := F k ∨ (w.heap.size ≤ k ∧ k < w'.heap.size)
theorem Moves.refl (F : Nat → Prop) (w : World) : Moves F w w := ⟨rfl, rfl, rfl, Nat.le_refl _, fun _ _ _ => rfl⟩
theorem Moves.trans {F : Nat → Prop} {a b c : World} (h : Moves F a b) (k : Moves (Plus F a b) b c) : Moves F a c :=
  ⟨k.os.trans h.os, k.tape.trans h.tape, k.output.trans h.output, Nat.le_trans h.size k.size, fun i hi hF => (k.block i (Nat.lt_of_lt_of_le hi h.size) (fun hp => hp.elim hF (fun e => by omega))).trans (h.block i hi hF)⟩
theorem Moves.trans' {F : Nat → Prop} {a b c : World} (h : Moves F a b) (k : Moves F b c) : Moves F a c :=
  ⟨k.os.trans h.os, k.tape.trans h.tape, k.output.trans h.output, Nat.le_trans h.size k.size, fun i hi hF => (k.block i (Nat.lt_of_lt_of_le hi h.size) hF).trans (h.block i hi hF)⟩
theorem Moves.store {F : Nat → Prop} {w w' : World} (h : Moves F w w') (a : Addr) (v : Value) (hF : F a.block) : Moves F w (w'.setCell a v) :=
  ⟨h.os, h.tape, h.output, by have := h.size; simpa [World.setCell] using this, fun k hk hn => (Below.heap_setCell w' a v k (fun e => hn (e ▸ hF))).trans (h.block k hk hn)⟩
theorem Moves.grown {F : Nat → Prop} {w w' w1 : World} {ob : Option Nat} (h : Moves F w w') (hg : w'.grownBy w1 ob) (hF : ∀ k, ob = some k → F k ∨ w.heap.size ≤ k) : Moves F w w1 :=
  ⟨hg.os.trans h.os, hg.tape.trans h.tape, hg.output.trans h.output, Nat.le_trans h.size hg.size, fun k hk hn => (hg.block k (Nat.lt_of_lt_of_le hk h.size) (fun e => (hF k e.symm).elim hn (fun e => by omega))).trans (h.block k hk hn)⟩
theorem Moves.below {F : Nat → Prop} {w w' w1 : World} (h : Moves F w w') (hb : Below w.heap.size w' w1) : Moves F w w1 :=
  ⟨hb.os.trans h.os, hb.tape.trans h.tape, hb.output.trans h.output, Nat.le_trans h.size hb.size, fun k hk hn => (hb.block k hk).trans (h.block k hk hn)⟩
/-- A schedule that owns no other blocks than F. -/
def Sch (w : World) (base g : Nat) (F : Nat → Prop) (S : Sd) : Prop :=
  (∀ k, F k → base ≤ k ∧ k < w.heap.size) ∧ ∃ bT bM bR vs us, IsS w base g bT bM bR vs us S ∧ F g ∧ F bT ∧ F bM ∧ F bR ∧ ∀ x ∈ vs ++ us, ∀ k, x.1 = some k → F k
def Next (w : World) (base g : Nat) (F : Nat → Prop) (S : Sd) (w' : World) : Prop := Sch w' base g (Plus F w w') S ∧ Moves F w w'
theorem Sch.next {w w' : World} {base g : Nat} {F : Nat → Prop} {S S' : Sd} (h : Sch w base g F S) (hb : base ≤ w.heap.size) {bT bM bR : Nat} {vs us : List (Option Nat × Value)} (h1 : IsS w' base g bT bM bR vs us S') (hm : Moves F w w')
    (hF : F g ∧ F bT ∧ F bM ∧ F bR) (hx : ∀ x ∈ vs ++ us, ∀ k, x.1 = some k → F k ∨ w.heap.size ≤ k) : Next w base g F S' w' :=
  ⟨⟨fun k hk => hk.elim (fun hk => ⟨(h.1 k hk).1, Nat.lt_of_lt_of_le (h.1 k hk).2 hm.size⟩) (fun hk => ⟨Nat.le_trans hb hk.1, hk.2⟩), bT, bM, bR, vs, us, h1, .inl hF.1, .inl hF.2.1, .inl hF.2.2.1, .inl hF.2.2.2, fun x hxm k hk => (hx x hxm k hk).elim .inl (fun e => .inr ⟨e, (h1.ltV x hxm k hk).2⟩)⟩, hm⟩
end Go.Proofs.Ytcfkmhmgappckaa

/- A task comes for a mutex. No condition but on size. -/
namespace Go.Proofs.Ytcfkmhmgappckaa
open Go.RowKit Go.Proofs.Ytcfkmhmgappckaa.Sc Go.Proofs.Ytcfkmhmgappckaa.PAll Go.Proofs.YtcfkmhmgappckaaW.PrintWords Go.Proofs.YtcfkmhmgappckaaW.PrintLast Go.Proofs.YtcfkmhmgappckaaW.PrintMore

set_option maxHeartbeats 1000000 in
set_option maxRecDepth 100000 in
theorem come_free {w : World} {base g bT bM bR : Nat} {vs us : List (Option Nat × Value)} {S : Sd} (h : IsS w base g bT bM bR vs us S) (t m : Nat) (ht : t < S.T.length) (hm : m < S.M.length) (hf : (S.M[m]).1 = -1) :
    Calls Try.prog 31 #[.pointer (some ⟨g, 0, none⟩), .int .i64 (t : Int), .int .i64 (m : Int)] w fun e w' => e = .returned (.bool true) ∧ IsS w' base g bT bM bR vs us (setT (setM S m (t, (S.M[m]).2)) t 0) ∧ ∀ F : Nat → Prop, (F bM ∧ F bT) → Moves F w w' := by
  have d0 := h.c0
  have d1 := h.c1
  obtain ⟨d2, v, hv, d3⟩ := h.cM m hm
  have d4 := h.cT t ht
  rw [hf] at d2
  have d2' : w.cell? ⟨bM, m * 2, none⟩ = some (.int .i64 (-1)) := by rw [Nat.mul_comm]; exact d2
  have g1 : ((m : Nat) : Int) < (S.M.length : Int) := by omega
  have g2 : ((t : Nat) : Int) < (S.T.length : Int) := by omega
  have hap := List.pairwise_append.1 h.apart
  have n1 : ¬ bM = g := fun e => by have := hap.1; simp [e] at this
  have n2 : ¬ bT = g := fun e => by have := hap.1; simp [e] at this
  have n3 : ¬ bT = bM := fun e => by have := hap.1; simp [e] at this
  have n1' : ¬ g = bM := fun e => n1 e.symm
  have n2' : ¬ g = bT := fun e => n2 e.symm
  have n3' : ¬ bM = bT := fun e => n3 e.symm
  have z1 : w.frozen? ⟨bM, m * 2, none⟩ = false := by simp [World.frozen?, h.M]
  have z2 : w.frozen? ⟨bT, t, none⟩ = false := by simp [World.frozen?, h.T]
  clear hap
  have HS := Lib.hid h
  clear h d2
  go_enter Try.func31, Try.ntmps31
  go_upto_region 3 with fail
  go_wp2_with fail
  go_ret
  have h := HS.out
  refine ⟨rfl, ?_, fun F hF => ((Moves.refl F w).store ⟨bM, m * 2, none⟩ _ hF.1).store ⟨bT, t, none⟩ _ hF.2⟩
  exact (h.setO m hm t).setT t (by simpa [Sc.setM] using ht) 0
end Go.Proofs.Ytcfkmhmgappckaa

/- A task comes for a mutex that is held. No condition but on size. -/
namespace Go.Proofs.Ytcfkmhmgappckaa
open Go.RowKit Go.Proofs.Ytcfkmhmgappckaa.Sc Go.Proofs.Ytcfkmhmgappckaa.PAll Go.Proofs.YtcfkmhmgappckaaW.PrintWords Go.Proofs.YtcfkmhmgappckaaW.PrintLast Go.Proofs.YtcfkmhmgappckaaW.PrintMore

theorem cell_new (w : World) (c : Array Value) (t : TypeId) (v : Value) (h : c[0]? = some v) : (w.drew.alloc (.cells c t (0, 0))).cell? ⟨w.heap.size, 0, none⟩ = some v := by
  have : (w.drew.alloc (.cells c t (0, 0))).heap[w.heap.size]? = some (.cells c t (0, 0)) := heap_alloc_new w.drew _
  unfold World.cell?
  simp only [this]
  exact h
set_option maxHeartbeats 1000000 in
set_option maxRecDepth 100000 in
theorem come_held {w : World} {base g bT bM bR : Nat} {vs us : List (Option Nat × Value)} {S : Sd} (h : IsS w base g bT bM bR vs us S) (hb : base ≤ w.heap.size) (t m : Nat) (ht : t < S.T.length) (hm : m < S.M.length) (hf : (S.M[m]).1 ≠ -1) (hl : (S.M[m]).2.length ≤ 1000) :
    Calls Try.prog 31 #[.pointer (some ⟨g, 0, none⟩), .int .i64 (t : Int), .int .i64 (m : Int)] w fun e w' => e = .returned (.bool false) ∧ ∃ ob ob' v', (∃ v0, vs[m]? = some (ob, v0)) ∧ (ob' = ob ∨ ∃ k, ob' = some k ∧ w.heap.size ≤ k) ∧ IsS w' base g bT bM bR (vs.set m (ob', v')) us (setT (setM S m ((S.M[m]).1, (S.M[m]).2 ++ [(t : Int)])) t 1) ∧
      ∀ F : Nat → Prop, (F bM ∧ F bT) → (∀ k, ob = some k → F k) → Moves F w w' := by
  obtain ⟨i0, hi, hz0, hz1, hz2⟩ := info_parts infoInt
  have d0 := h.c0
  have d1 := h.c1
  obtain ⟨d2, v, hv, d3⟩ := h.cM m hm
  have d4 := h.cT t ht
  have hR := h.rows m _ v (List.getElem?_eq_getElem hm) hv
  obtain ⟨ob, v0⟩ := v
  have d2' : w.cell? ⟨bM, m * 2, none⟩ = some (.int .i64 (S.M[m]).1) := by rw [Nat.mul_comm]; exact d2
  have d3' : w.cell? ⟨bM, m * 2 + 1, none⟩ = some v0 := by rw [Nat.mul_comm]; exact d3
  have g1 : ((m : Nat) : Int) < (S.M.length : Int) := by omega
  have g2 : ((t : Nat) : Int) < (S.T.length : Int) := by omega
  have hf2 : ((S.M[m]).1 == -1) = false := by simpa using hf
  obtain ⟨n1, n2, n3, n4, n5, n6⟩ := h.ne3
  have n4' : ¬ bM = bT := fun e => n4 e.symm
  have hmem : (ob, v0) ∈ vs ++ us := by have := List.mem_of_getElem? hv; simp [this]
  have hsz : (ints (S.M[m]).2).length = (S.M[m]).2.length := by simp [ints]
  have q1 := (World.cell?_alloc_some w _ (Obj.cells #[Value.int IntKind.i64 ↑t] 3 (0, 0)) (by rw [d0]; rfl)).trans d0
  have q2 := (World.cell?_alloc_some w _ (Obj.cells #[Value.int IntKind.i64 ↑t] 3 (0, 0)) (by rw [d3']; rfl)).trans d3'
  have HS := Lib.hid h
  have HV := Lib.hid hv
  clear h d2 d3 hv
  go_enter Try.func31, Try.ntmps31
  go_upto_region 5 with fail
  have hk1 : ∀ o : Obj, (w.drew.alloc o).heap.size = w.heap.size + 1 := fun o => by simp
  have hk2 : ∀ (o : Obj) k, k < w.heap.size → (w.drew.alloc o).heap[k]? = w.heap[k]? := fun o k hk => (Below.refl w.heap.size w.drew).alloc (Nat.le_refl _) o |>.block k hk
  have hW : ∀ o : Obj, IsS (w.drew.alloc o) base g bT bM bR vs us S := fun o => HS.out.kept (hk2 o)
  have hRW : ∀ o : Obj, RowIn (w.drew.alloc o) base 3 1 ob v0 (ints (S.M[m]).2) := fun o => (hW o).rows m _ _ (List.getElem?_eq_getElem hm) HV.out
  have hbW : ∀ o : Obj, base ≤ (w.drew.alloc o).heap.size := fun o => by rw [hk1]; omega
  have HW := Lib.hid hW
  have HRW := Lib.hid hRW
  have HBW := Lib.hid hbW
  have HK1 := Lib.hid hk1
  have HK2 := Lib.hid hk2
  clear hW hRW hbW hR hk1 hk2
  have hc0 : ∀ j u, [Value.int .i64 (t : Int)][j]? = some u → (w.drew.alloc (Obj.cells #[Value.int IntKind.i64 ↑t] 3 (0, 0))).cell? ((⟨w.heap.size, 0, none⟩ : Addr).add j) = some u := by
    intro j u hj
    cases j with
    | zero => simp at hj; subst hj; rw [Addr.add_lit]; exact cell_new _ _ _ _ rfl
    | succ j => simp at hj
  have hone : ∀ u ∈ [Value.int .i64 (t : Int)], u.oneCell' = true := by simp [Value.oneCell']
  have hb1 : (ints (S.M[m]).2).length + 1 ≤ maxLen := by unfold maxLen; omega
  have hb2 : ((ints (S.M[m]).2).length + 1) * 8 ≤ 140737488355328 := by omega
  have HC0 := Lib.hid hc0
  clear hc0
  have hF : ∀ (o : Obj) (w1 : World), (w.drew.alloc o).grownBy w1 ob → w1.cell? ⟨bM, m * 2 + 1, none⟩ = some v0 ∧ w1.frozen? ⟨bM, m * 2 + 1, none⟩ = false ∧ w1.cell? ⟨bT, t, none⟩ = some (.int .i64 S.T[t]) ∧ w1.frozen? ⟨bT, t, none⟩ = false ∧ w1.cell? ⟨g, 0, none⟩ = some (.slice (some ⟨bT, 0, none⟩) S.T.length S.T.length) := by
    intro o w1 hgr
    have hx : ∀ b, (b = g ∨ b = bT ∨ b = bM ∨ b = bR) → w1.heap[b]? = w.heap[b]? := fun b hb2 =>
      (hgr.block b (by rw [HK1.out]; exact Nat.lt_succ_of_lt (HS.out.blocks hb2).2) (fun e => HS.out.far hb2 _ hmem e.symm)).trans (HK2.out o b (HS.out.blocks hb2).2)
    refine ⟨?_, ?_, ?_, ?_, ?_⟩
    · rw [← d3']; unfold World.cell?; simp only [hx bM (by simp)]
    · unfold World.frozen?; simp only [hx bM (by simp), HS.out.M]; rfl
    · rw [← d4]; unfold World.cell?; simp only [hx bT (by simp)]
    · unfold World.frozen?; simp only [hx bT (by simp), HS.out.T]; rfl
    · rw [← d0]; unfold World.cell?; simp only [hx g (by simp)]
  have HF := Lib.hid hF
  clear hF
  go_region_law ((refine step_push rfl (.tmp 38) (.tmp 40) 22 rfl 3 i0 (.int .i64 0) 1 8 Try.underlying22 hi hz0 hz1 hz2 rfl (by decide) (HRW.out _) rfl ⟨w.heap.size, 0, none⟩ 1 [.int .i64 (t : Int)] rfl rfl HC0.out hone hb1 hb2 (HBW.out _) ?_; intro ob' A' n' c' w1 hR1 hgrow hob; obtain ⟨y1, y2, y3, y4, y5⟩ := HF.out _ _ hgrow))
  all_goals
    have h0 := HW.out (Obj.cells #[Value.int IntKind.i64 ↑t] 3 (0, 0))
    have hr : ints (S.M[m]).2 ++ [[Value.int .i64 (t : Int)]] = ints ((S.M[m]).2 ++ [(t : Int)]) := by simp [ints]
    rw [hr] at hR1
    have h1 := h0.setV m hm HV.out hgrow hR1 (.inr (hob.imp id (fun ⟨k, e1, e2⟩ => ⟨k, e1, e2⟩)))
    have h2 := h1.setT t (by simpa [Sc.setM] using ht) 1
    have hmv : ∀ F : Nat → Prop, (F bM ∧ F bT) → (∀ k, ob = some k → F k) → Moves F w ((w1.setCell ⟨bM, m * 2 + 1, none⟩ (.slice A' n' c')).setCell ⟨bT, t, none⟩ (.int .i64 1)) := fun F hF1 hF2 =>
      ((((Moves.refl F w).below ((Below.refl w.heap.size w).drew.alloc (Nat.le_refl _) (Obj.cells #[Value.int IntKind.i64 ↑t] 3 (0, 0)))).grown hgrow (fun k hk => .inl (hF2 k hk))).store _ _ hF1.1).store _ _ hF1.2
    have hob2 : ob' = ob ∨ ∃ k, ob' = some k ∧ w.heap.size ≤ k := hob.imp id (fun ⟨k, e1, e2⟩ => ⟨k, e1, Nat.le_of_succ_le (Nat.le_trans (Nat.le_of_eq (HK1.out _).symm) e2)⟩)
    have H2 := Lib.hid h2
    have HM := Lib.hid hmv
    have HO := Lib.hid hob2
    clear h0 h1 h2 hmv hob2 hob hR1 hgrow
    go_wp2_with fail
    go_ret
    exact ⟨rfl, _, _, _, ⟨_, HV.out⟩, HO.out, H2.out, HM.out⟩
end Go.Proofs.Ytcfkmhmgappckaa

/- A mutex is given up. No condition but on size. -/
namespace Go.Proofs.Ytcfkmhmgappckaa
open Go.RowKit Go.Proofs.Ytcfkmhmgappckaa.Sc Go.Proofs.Ytcfkmhmgappckaa.PAll Go.Proofs.YtcfkmhmgappckaaW.PrintWords Go.Proofs.YtcfkmhmgappckaaW.PrintLast Go.Proofs.YtcfkmhmgappckaaW.PrintMore

theorem mem_set_or {α : Type} {l : List α} {i : Nat} {x y : α} (h : y ∈ l.set i x) : y ∈ l ∨ y = x := List.mem_or_eq_of_mem_set h
theorem come_any {w : World} {base g : Nat} {F : Nat → Prop} {S : Sd} (h : Sch w base g F S) (hb : base ≤ w.heap.size) (t m : Int) (ht : there S.T t = true) (hm : there S.M m = true) (hl : (mu S m).2.length ≤ 1000) :
    Calls Try.prog 31 #[.pointer (some ⟨g, 0, none⟩), .int .i64 t, .int .i64 m] w fun e w' => e = .returned (.bool (come S t m).2) ∧ Next w base g F (come S t m).1 w' := by
  have ht1 := (there_iff _ _).1 ht
  have hm1 := (there_iff _ _).1 hm
  obtain ⟨t, rfl⟩ := Int.eq_ofNat_of_zero_le ht1.1
  obtain ⟨m, rfl⟩ := Int.eq_ofNat_of_zero_le hm1.1
  have hm2 : m < S.M.length := by omega
  have ht2 : t < S.T.length := by omega
  have hmu : mu S (m : Int) = S.M[m] := by
    unfold mu; rw [Int.toNat_natCast, List.getD_eq_getElem?_getD, List.getElem?_eq_getElem hm2]; rfl
  rw [hmu] at hl
  obtain ⟨hF0, bT, bM, bR, vs, us, hS, f1, f2, f3, f4, f5⟩ := id h
  unfold come
  rw [hmu]
  by_cases hf : (S.M[m]).1 = -1
  · rw [if_pos hf]
    refine (come_free hS t m ht2 hm2 hf).mono ?_
    rintro e w' ⟨rfl, h1, h2⟩
    exact ⟨rfl, h.next hb h1 (h2 F ⟨f3, f2⟩) ⟨f1, f2, f3, f4⟩ (fun x hx k hk => .inl (f5 x hx k hk))⟩
  · rw [if_neg hf]
    refine (come_held hS hb t m ht2 hm2 hf hl).mono ?_
    rintro e w' ⟨rfl, ob, ob', v', ⟨v0, hv⟩, hob, h1, h2⟩
    have hobF : ∀ k, ob = some k → F k := fun k hk => f5 (ob, v0) (List.mem_append.2 (.inl (List.mem_of_getElem? hv))) k hk
    refine ⟨rfl, h.next hb h1 (h2 F ⟨f3, f2⟩ hobF) ⟨f1, f2, f3, f4⟩ (fun x hx k hk => ?_)⟩
    rcases List.mem_append.1 hx with hx | hx
    · rcases mem_set_or hx with hx | rfl
      · exact .inl (f5 x (List.mem_append.2 (.inl hx)) k hk)
      · rcases hob with e | ⟨k2, e, hk2⟩
        · exact .inl (hobF k (by rw [← e]; exact hk))
        · refine .inr ?_
          have : some k2 = some k := e.symm.trans hk
          cases this; exact hk2
    · exact .inl (f5 x (List.mem_append.2 (.inr hx)) k hk)
theorem RowIn.tail {w : World} {base t : Nat} {b o n cap : Nat} {x : List Value} {l : List (List Value)} (h : RowIn w base t 1 (some b) (.slice (some ⟨b, o, none⟩) n cap) (x :: l)) :
    RowIn w base t 1 (some b) (.slice (some ⟨b, if cap = 1 then o else o + 1, none⟩) (n - 1) (cap - 1)) l := by
  refine ⟨fun c hc => h.1 c (by simp [hc]), ?_⟩
  rcases h.2 with ⟨e, _⟩ | ⟨b', off, cap', cs, e, ev, hb, hc, h1, h2, h3⟩
  · cases e
  · cases e
    simp only [Value.slice.injEq, Option.some.injEq, Addr.mk.injEq, true_and, and_true, List.length_cons] at ev
    obtain ⟨rfl, rfl, rfl⟩ := ev
    rw [List.length_cons] at h1
    by_cases e1 : cap = 1
    · subst e1
      have hl : l = [] := List.eq_nil_of_length_eq_zero (by omega)
      subst hl
      exact .inr ⟨b, off, 0, cs, rfl, by simp, hb, hc, by simp, by omega, fun i hi => by simp at hi⟩
    · refine .inr ⟨b, off + 1, cap - 1, cs, rfl, by rw [if_neg e1]; simp, hb, hc, by omega, by omega, fun i hi => ?_⟩
      have hx := h.1 x (by simp)
      have := h3 (i + 1) (by rw [List.length_cons]; omega)
      rw [List.flatten_cons, List.getElem?_append_right (by omega), hx] at this
      rw [show (off + 1) * 1 + i = off * 1 + (i + 1) by omega]
      simpa using this
theorem RowIn.head {w : World} {base t : Nat} {b o n cap : Nat} {x : Value} {l : List (List Value)} (h : RowIn w base t 1 (some b) (.slice (some ⟨b, o, none⟩) n cap) ([x] :: l)) : w.cell? ⟨b, o, none⟩ = some x := by
  rcases h.2 with ⟨e, _⟩ | ⟨b', off, cap', cs, e, ev, hb, hc, h1, h2, h3⟩
  · cases e
  · cases e
    simp only [Value.slice.injEq, Option.some.injEq, Addr.mk.injEq, true_and, and_true, List.length_cons] at ev
    obtain ⟨rfl, rfl, rfl⟩ := ev
    have := h3 0 (by simp)
    unfold World.cell?
    simp only [hc]
    simpa using this
theorem RowIn.form {w : World} {base t : Nat} {ob : Option Nat} {v : Value} {x : List Value} {l : List (List Value)} (h : RowIn w base t 1 ob v (x :: l)) : ∃ b o cap, ob = some b ∧ v = .slice (some ⟨b, o, none⟩) (l.length + 1) cap ∧ l.length + 1 ≤ cap := by
  rcases h.2 with ⟨_, _, e⟩ | ⟨b, off, cap, cs, e, ev, hb, hc, h1, h2, h3⟩
  · cases e
  · exact ⟨b, _, cap, e, by simpa using ev, by simpa using h1⟩
theorem RowIn.formNil {w : World} {base t : Nat} {ob : Option Nat} {v : Value} (h : RowIn w base t 1 ob v []) : ∃ A cap, v = .slice A 0 cap := by
  rcases h.2 with ⟨_, e, _⟩ | ⟨b, off, cap, cs, e, ev, hb, hc, h1, h2, h3⟩
  · exact ⟨_, _, e⟩
  · exact ⟨_, cap, by simpa using ev⟩
set_option maxHeartbeats 1000000 in
set_option maxRecDepth 100000 in
theorem give_nil {w : World} {base g bT bM bR : Nat} {vs us : List (Option Nat × Value)} {S : Sd} (h : IsS w base g bT bM bR vs us S) (m : Nat) (hm : m < S.M.length) (hr : (S.M[m]).2 = []) :
    Calls Try.prog 32 #[.pointer (some ⟨g, 0, none⟩), .int .i64 (m : Int)] w fun e w' => e = .returned (.tuple #[]) ∧ IsS w' base g bT bM bR vs us (setM S m (-1, [])) ∧ ∀ F : Nat → Prop, F bM → Moves F w w' := by
  have d1 := h.c1
  obtain ⟨d2, ⟨ob, v0⟩, hv, d3⟩ := h.cM m hm
  have hR := h.rows m _ _ (List.getElem?_eq_getElem hm) hv
  rw [hr] at hR
  obtain ⟨A, cap, e0⟩ := RowIn.formNil (show RowIn w base 3 1 ob v0 [] from hR)
  have d2' : w.cell? ⟨bM, m * 2, none⟩ = some (.int .i64 (S.M[m]).1) := by rw [Nat.mul_comm]; exact d2
  have d3' : w.cell? ⟨bM, m * 2 + 1, none⟩ = some (.slice A 0 cap) := by rw [Nat.mul_comm]; rw [d3, e0]
  have g1 : ((m : Nat) : Int) < (S.M.length : Int) := by omega
  obtain ⟨n1, n2, n3, n4, n5, n6⟩ := h.ne3
  have n2' : ¬ g = bM := fun e => n2 e.symm
  have z1 : w.frozen? ⟨bM, m * 2, none⟩ = false := by simp [World.frozen?, h.M]
  have h1 := h.setO m hm (-1)
  rw [hr] at h1
  have HS := Lib.hid h1
  clear h h1 d2 d3 hv hR e0
  go_enter Try.func32, Try.ntmps32
  go_wp2_with fail
  go_end0
  exact ⟨rfl, HS.out, fun F hF => (Moves.refl F w).store ⟨bM, m * 2, none⟩ _ hF⟩
end Go.Proofs.Ytcfkmhmgappckaa
