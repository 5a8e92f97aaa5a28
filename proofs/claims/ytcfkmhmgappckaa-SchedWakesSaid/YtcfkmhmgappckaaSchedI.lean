/- A schedule that may be: what holds of it always, plain. No condition. -/
import Derived.Test.YtcfkmhmgappckaaSchedP
namespace Go.Proofs.Ytcfkmhmgappckaa.Sc

theorem there_iff {α : Type} (l : List α) (i : Int) : there l i = true ↔ 0 ≤ i ∧ i < l.length := by unfold there; simp
theorem getD_set (l : List Int) (i j : Nat) (v : Int) (h : i < l.length) : (l.set i v).getD j 0 = if j = i then v else l.getD j 0 := by
  simp only [List.getD_eq_getElem?_getD, List.getElem?_set]
  by_cases e : i = j
  · subst e; simp [h]
  · rw [if_neg e, if_neg (Ne.symm e)]
theorem stT_setT (s : Sd) (t v u : Int) (h : there s.T t = true) : stT (setT s t v) u = if u = t then v else stT s u := by
  rw [there_iff] at h
  unfold stT setT there
  simp only [List.length_set]
  by_cases e : u = t
  · subst e
    simp only [h.1, h.2, decide_true, Bool.and_self, if_true]
    rw [getD_set _ _ _ _ (by omega), if_pos rfl]
  · rw [if_neg e]
    split
    · rename_i hu
      simp only [Bool.and_eq_true, decide_eq_true_eq] at hu
      rw [getD_set _ _ _ _ (by omega), if_neg (by omega)]
    · rfl
@[simp] theorem stT_setM (s : Sd) (m : Int) (x : Int × List Int) (u : Int) : stT (setM s m x) u = stT s u := rfl
@[simp] theorem stT_setR (s : Sd) (m : Int) (x : List (Int × Int)) (u : Int) : stT (setR s m x) u = stT s u := rfl
@[simp] theorem T_setM (s : Sd) (m : Int) (x : Int × List Int) : (setM s m x).T = s.T := rfl
@[simp] theorem T_setR (s : Sd) (m : Int) (x : List (Int × Int)) : (setR s m x).T = s.T := rfl
@[simp] theorem M_setT (s : Sd) (t v : Int) : (setT s t v).M = s.M := rfl
@[simp] theorem R_setT (s : Sd) (t v : Int) : (setT s t v).R = s.R := rfl
@[simp] theorem M_setR (s : Sd) (m : Int) (x : List (Int × Int)) : (setR s m x).M = s.M := rfl
@[simp] theorem R_setM (s : Sd) (m : Int) (x : Int × List Int) : (setM s m x).R = s.R := rfl
theorem stT_there (s : Sd) (t : Int) (h : stT s t ≠ -1) : there s.T t = true := by
  unfold stT at h
  by_cases e : there s.T t = true
  · exact e
  · rw [if_neg e] at h; exact absurd rfl h
@[simp] theorem there_setT (s : Sd) (t v : Int) (u : Int) : there (setT s t v).T u = there s.T u := by simp [there, setT]

/-- Those that wait; those that rest. -/
def rowsT (s : Sd) : List Int := (s.M.map (·.2)).flatten
def restsT (s : Sd) : List Int := (s.R.map fun l => l.map (·.1)).flatten
structure Ok (s : Sd) (more : List Int) : Prop where
  own : ∀ x ∈ s.M, (x.1 = -1 ∧ x.2 = []) ∨ (there s.T x.1 = true ∧ stT s x.1 ≠ 3)
  row : ∀ t, (rowsT s).count t = if stT s t = 1 then 1 else 0
  rest : ∀ t, (restsT s).count t + more.count t = if stT s t = 2 then 1 else 0
  mid : ∀ l ∈ s.R, ∀ x ∈ l, x.2 = -1 ∨ there s.M x.2 = true
/-- As Ok, but for one task, that stands nowhere. -/
structure OkBut (s : Sd) (u : Int) (more : List Int) : Prop where
  here : there s.T u = true
  own : ∀ x ∈ s.M, (x.1 = -1 ∧ x.2 = []) ∨ (there s.T x.1 = true ∧ (x.1 = u ∨ stT s x.1 ≠ 3))
  row : ∀ t, (rowsT s).count t = if t ≠ u ∧ stT s t = 1 then 1 else 0
  rest : ∀ t, (restsT s).count t + more.count t = if t ≠ u ∧ stT s t = 2 then 1 else 0
  mid : ∀ l ∈ s.R, ∀ x ∈ l, x.2 = -1 ∨ there s.M x.2 = true

theorem count_set {α : Type} (f : α → List Int) : ∀ (l : List α) (i : Nat) (x y : α) (t : Int), l[i]? = some y → ((l.set i x).map f).flatten.count t + (f y).count t = (l.map f).flatten.count t + (f x).count t
  | [], i, x, y, t, h => by simp at h
  | z :: l, 0, x, y, t, h => by
    obtain rfl : z = y := by simpa using h
    simp only [List.set_cons_zero, List.map_cons, List.flatten_cons, List.count_append]; omega
  | z :: l, i + 1, x, y, t, h => by
    have := count_set f l i x y t (by simpa using h)
    simp only [List.set_cons_succ, List.map_cons, List.flatten_cons, List.count_append]; omega
theorem mu_at (s : Sd) (m : Int) (h : there s.M m = true) : s.M[m.toNat]? = some (mu s m) := by
  rw [there_iff] at h
  unfold mu
  rw [List.getD_eq_getElem?_getD, List.getElem?_eq_getElem (by omega)]; rfl
theorem re_at (s : Sd) (c : Int) (h : there s.R c = true) : s.R[c.toNat]? = some (s.R.getD c.toNat []) := by
  rw [there_iff] at h
  rw [List.getD_eq_getElem?_getD, List.getElem?_eq_getElem (by omega)]; rfl
theorem rows_setM (s : Sd) (m : Int) (x : Int × List Int) (h : there s.M m = true) (t : Int) : (rowsT (setM s m x)).count t + (mu s m).2.count t = (rowsT s).count t + x.2.count t :=
  count_set (fun x : Int × List Int => x.2) s.M m.toNat x _ t (mu_at s m h)
theorem rests_setR (s : Sd) (c : Int) (x : List (Int × Int)) (h : there s.R c = true) (t : Int) : (restsT (setR s c x)).count t + ((s.R.getD c.toNat []).map (·.1)).count t = (restsT s).count t + (x.map (·.1)).count t :=
  count_set (fun l : List (Int × Int) => l.map (fun x : Int × Int => x.1)) s.R c.toNat x _ t (re_at s c h)
@[simp] theorem rows_setT (s : Sd) (t v : Int) : rowsT (setT s t v) = rowsT s := rfl
@[simp] theorem rests_setT (s : Sd) (t v : Int) : restsT (setT s t v) = restsT s := rfl
@[simp] theorem rows_setR (s : Sd) (c : Int) (x : List (Int × Int)) : rowsT (setR s c x) = rowsT s := rfl
@[simp] theorem rests_setM (s : Sd) (m : Int) (x : Int × List Int) : restsT (setM s m x) = restsT s := rfl
theorem mem_setM {s : Sd} {m : Int} {x y : Int × List Int} (h : y ∈ (setM s m x).M) : y ∈ s.M ∨ y = x := List.mem_or_eq_of_mem_set h
theorem mem_setR {s : Sd} {c : Int} {x y : List (Int × Int)} (h : y ∈ (setR s c x).R) : y ∈ s.R ∨ y = x := List.mem_or_eq_of_mem_set h
theorem mu_mem (s : Sd) (m : Int) (h : there s.M m = true) : mu s m ∈ s.M := List.mem_of_getElem? (mu_at s m h)
@[simp] theorem there_setM (s : Sd) (m : Int) (x : Int × List Int) (u : Int) : there (setM s m x).M u = there s.M u := by simp [there, setM]

theorem Ok.but {s : Sd} {more : List Int} (h : Ok s more) (t : Int) (h0 : stT s t = 0) : OkBut s t more := by
  refine ⟨stT_there s t (by omega), fun x hx => (h.own x hx).imp id (fun k => ⟨k.1, .inr k.2⟩), fun u => ?_, fun u => ?_, h.mid⟩
  · rw [h.row u]
    by_cases e : u = t
    · subst e; simp [h0]
    · simp [e]
  · rw [h.rest u]
    by_cases e : u = t
    · subst e; simp [h0]
    · simp [e]
theorem Ok.butRest {s : Sd} {t : Int} {more : List Int} (h : Ok s (t :: more)) : OkBut s t more := by
  have h2 : stT s t = 2 := by
    have := h.rest t
    rw [List.count_cons_self] at this
    by_cases e : stT s t = 2
    · exact e
    · rw [if_neg e] at this; omega
  refine ⟨stT_there s t (by omega), fun x hx => (h.own x hx).imp id (fun k => ⟨k.1, .inr k.2⟩), fun u => ?_, fun u => ?_, h.mid⟩
  · rw [h.row u]
    by_cases e : u = t
    · subst e; simp [h2]
    · simp [e]
  · have h3 := h.rest u
    by_cases e : u = t
    · subst e
      rw [List.count_cons_self, if_pos h2] at h3
      simp; omega
    · rw [List.count_cons_of_ne (Ne.symm e)] at h3
      rw [h3]; simp [e]
/-- A task that stands nowhere is ready. -/
theorem OkBut.ready {s : Sd} {t : Int} {more : List Int} (h : OkBut s t more) : Ok (setT s t 0) more := by
  refine ⟨fun x hx => (h.own x hx).imp id (fun k => ⟨by rw [there_setT]; exact k.1, ?_⟩), fun u => ?_, fun u => ?_, h.mid⟩
  · rw [stT_setT s t 0 _ h.here]
    split
    · omega
    · exact k.2.resolve_left (by assumption)
  · rw [stT_setT s t 0 _ h.here, rows_setT, h.row u]
    by_cases e : u = t <;> simp [e]
  · rw [stT_setT s t 0 _ h.here, rests_setT, h.rest u]
    by_cases e : u = t <;> simp [e]
theorem OkBut.own_set {s : Sd} {t : Int} {more : List Int} (h : OkBut s t more) (m : Int) (x : Int × List Int) (hm : there s.M m = true) (hx : there s.T x.1 = true ∧ (x.1 = t ∨ stT s x.1 ≠ 3)) (hr : x.2 = (mu s m).2) : OkBut (setM s m x) t more := by
  refine ⟨h.here, fun y hy => ?_, fun u => ?_, fun u => ?_, fun l hl x hx => by rw [there_setM]; exact h.mid l hl x hx⟩
  · rcases mem_setM hy with hy | rfl
    · exact h.own y hy
    · exact .inr hx
  · have := rows_setM s m x hm u
    rw [hr] at this
    rw [stT_setM, ← h.row u]; omega
  · exact h.rest u
theorem OkBut.come {s : Sd} {t : Int} {more : List Int} (h : OkBut s t more) (m : Int) (hm : there s.M m = true) : Ok (come s t m).1 more := by
  unfold Sc.come
  split
  · exact (h.own_set m (t, (mu s m).2) hm ⟨h.here, .inl rfl⟩ rfl).ready
  · rename_i hn
    have ho := (h.own _ (mu_mem s m hm)).resolve_left (fun k => hn k.1)
    refine ⟨fun y hy => ?_, fun u => ?_, fun u => ?_, fun l hl x hx => ?_⟩
    · have hs : ∀ z : Int × List Int, there s.T z.1 = true ∧ (z.1 = t ∨ stT s z.1 ≠ 3) → there (setT (setM s m ((mu s m).1, (mu s m).2 ++ [t])) t 1).T z.1 = true ∧ stT (setT (setM s m ((mu s m).1, (mu s m).2 ++ [t])) t 1) z.1 ≠ 3 := by
        intro z hz
        refine ⟨by rw [there_setT]; exact hz.1, ?_⟩
        rw [stT_setT (setM s m _) t 1 _ h.here]
        split
        · omega
        · exact hz.2.resolve_left (by assumption)
      rcases mem_setM hy with hy | rfl
      · exact (h.own y hy).imp id (hs y)
      · exact .inr (hs _ ho)
    · have := rows_setM s m ((mu s m).1, (mu s m).2 ++ [t]) hm u
      show List.count u (rowsT (setM s m ((mu s m).1, (mu s m).2 ++ [t]))) = if stT (setT (setM s m ((mu s m).1, (mu s m).2 ++ [t])) t 1) u = 1 then 1 else 0
      rw [stT_setT (setM s m _) t 1 _ h.here]
      have h3 := h.row u
      simp only [List.count_append] at this
      by_cases e : u = t
      · subst e
        simp at h3 this ⊢; omega
      · have e2 : List.count u [t] = 0 := by simp [Ne.symm e]
        rw [e2] at this
        rw [if_neg e, stT_setM]
        simp [e] at h3; omega
    · show List.count u (restsT s) + List.count u more = if stT (setT (setM s m ((mu s m).1, (mu s m).2 ++ [t])) t 1) u = 2 then 1 else 0
      rw [stT_setT (setM s m _) t 1 _ h.here, h.rest u]
      by_cases e : u = t <;> simp [e]
    · rw [M_setT, there_setM]; exact h.mid l hl x hx
theorem give_set (s : Sd) (m t : Int) (r : List Int) (hm : there s.M m = true) (e : (mu s m).2 = t :: r) : give s m = setT (setM s m (t, r)) t 0 := by
  unfold give
  rw [e]
  have hmu : mu (setM s m (-1, r)) m = (-1, r) := by
    have := mu_at (setM s m (-1, r)) m (by rw [there_setM]; exact hm)
    rw [there_iff] at hm
    unfold setM at this
    simp only [List.getElem?_set_self (show m.toNat < s.M.length by omega)] at this
    exact (Option.some.inj this).symm
  simp only [come, hmu, if_true]
  unfold setM
  simp only [List.set_set]
theorem Ok.give {s : Sd} {more : List Int} (h : Ok s more) (m : Int) (hm : there s.M m = true) : Ok (give s m) more := by
  cases hr : (mu s m).2 with
  | nil =>
    have e : Sc.give s m = setM s m (-1, []) := by unfold Sc.give; rw [hr]
    rw [e]
    refine ⟨fun y hy => ?_, fun u => ?_, fun u => h.rest u, fun l hl x hx => by rw [there_setM]; exact h.mid l hl x hx⟩
    · rcases mem_setM hy with hy | rfl
      · exact h.own y hy
      · exact .inl ⟨rfl, rfl⟩
    · have := rows_setM s m (-1, []) hm u
      rw [hr] at this
      rw [stT_setM, ← h.row u]; simpa using this
  | cons t r =>
    rw [give_set s m t r hm hr]
    have ht1 : stT s t = 1 := by
      have h1 := rows_setM s m (-1, []) hm t
      have h2 := h.row t
      rw [hr, List.count_cons_self] at h1
      by_cases e : stT s t = 1
      · exact e
      · rw [if_neg e] at h2; simp at h1; omega
    have hth := stT_there s t (by omega)
    refine ⟨fun y hy => ?_, fun u => ?_, fun u => ?_, fun l hl x hx => ?_⟩
    · have hs : ∀ z : Int × List Int, there s.T z.1 = true ∧ (z.1 = t ∨ stT s z.1 ≠ 3) → there (setT (setM s m (t, r)) t 0).T z.1 = true ∧ stT (setT (setM s m (t, r)) t 0) z.1 ≠ 3 := by
        intro z hz
        refine ⟨by rw [there_setT]; exact hz.1, ?_⟩
        rw [stT_setT (setM s m _) t 0 _ hth]
        split
        · omega
        · exact hz.2.resolve_left (by assumption)
      rcases mem_setM hy with hy | rfl
      · exact (h.own y hy).imp id (fun k => hs y ⟨k.1, .inr k.2⟩)
      · exact .inr (hs _ ⟨hth, .inl rfl⟩)
    · have h1 := rows_setM s m (t, r) hm u
      have h2 := h.row u
      rw [hr] at h1
      rw [rows_setT, stT_setT (setM s m _) t 0 _ hth, stT_setM]
      by_cases e : u = t
      · subst e
        rw [if_pos ht1] at h2
        rw [List.count_cons_self] at h1
        simp at h1 ⊢; omega
      · rw [List.count_cons_of_ne (Ne.symm e)] at h1
        rw [if_neg e, ← h2]; simp at h1; omega
    · rw [rests_setT, stT_setT (setM s m _) t 0 _ hth, rests_setM, h.rest u, stT_setM]
      by_cases e : u = t
      · subst e; simp [ht1]
      · simp [e]
    · rw [M_setT, there_setM]; exact h.mid l hl x hx
/-- A task that is ready rests. -/
theorem Ok.lie {s : Sd} {more : List Int} (h : Ok s more) (t c m : Int) (h0 : stT s t = 0) (hc : there s.R c = true) (hm : m = -1 ∨ there s.M m = true) : Ok (setR (setT s t 2) c (s.R.getD c.toNat [] ++ [(t, m)])) more := by
  have hth := stT_there s t (by omega)
  refine ⟨fun x hx => (h.own x hx).imp id (fun k => ⟨by rw [T_setR, there_setT]; exact k.1, ?_⟩), fun u => ?_, fun u => ?_, fun l hl x hx => ?_⟩
  · rw [stT_setR, stT_setT _ t 2 _ hth]
    split
    · omega
    · exact k.2
  · rw [rows_setR, rows_setT, stT_setR, stT_setT _ t 2 _ hth, h.row u]
    by_cases e : u = t
    · subst e; simp [h0]
    · simp [e]
  · have h1 := rests_setR (setT s t 2) c (s.R.getD c.toNat [] ++ [(t, m)]) (by simpa using hc) u
    rw [R_setT, List.map_append, List.count_append, rests_setT] at h1
    have h2 := h.rest u
    rw [stT_setR, stT_setT _ t 2 _ hth]
    by_cases e : u = t
    · subst e
      simp [h0] at h1 h2 ⊢
      omega
    · have e2 : List.count u ([(t, m)].map (·.1)) = 0 := by simp [Ne.symm e]
      rw [e2] at h1
      rw [if_neg e]; omega
  · rw [M_setR, M_setT]
    rcases mem_setR hl with hl | rfl
    · exact h.mid l (by simpa using hl) x hx
    · rcases List.mem_append.1 hx with hx | hx
      · exact h.mid _ (List.mem_of_getElem? (re_at s c hc)) x hx
      · obtain rfl : x = (t, m) := by simpa using hx
        exact hm
theorem first_eq (a b : Bool) : first a b = 0 ↔ a = true ∧ b = true := by cases a <;> cases b <;> decide
theorem first_or (a b : Bool) : first a b = 0 ∨ first a b = 1 ∨ first a b = 12 := by cases a <;> cases b <;> decide
theorem Ok.lock {s : Sd} (h : Ok s []) (t m : Int) : Ok (lock s t m).1 [] := by
  unfold Sc.lock
  split
  · exact h
  · rename_i e
    have e := (first_eq _ _).1 (Decidable.not_not.1 e)
    simp only [Bool.and_eq_true, decide_eq_true_eq] at e
    exact (h.but t e.2.1).come m e.1.2
theorem Ok.unlock {s : Sd} (h : Ok s []) (t m : Int) : Ok (unlock s t m).1 [] := by
  unfold Sc.unlock
  show Ok (if _ then _ else _) []
  split
  · rename_i e
    have e := (first_eq _ _).1 e
    simp only [Bool.and_eq_true, decide_eq_true_eq] at e
    exact h.give m e.1.2
  · exact h
theorem Ok.wait {s : Sd} (h : Ok s []) (t c m : Int) : Ok (wait s t c m).1 [] := by
  unfold Sc.wait
  show Ok (if _ then _ else _) []
  split
  · rename_i e
    have e := (first_eq _ _).1 e
    simp only [Bool.and_eq_true, decide_eq_true_eq] at e
    exact (h.lie t c m e.2.1 e.1.2 (.inr e.1.1.2)).give m (by simpa using e.1.1.2)
  · exact h
theorem Ok.restS {s : Sd} (h : Ok s []) (t c : Int) : Ok (Sc.rest s t c).1 [] := by
  unfold Sc.rest
  show Ok (if _ then _ else _) []
  split
  · rename_i e
    have e := (first_eq _ _).1 e
    simp only [Bool.and_eq_true, decide_eq_true_eq] at e
    exact h.lie t c (-1) e.2 e.1.2 (.inl rfl)
  · exact h
/-- What is the same of two schedules: how many. -/
def Size (s s' : Sd) : Prop := s'.T.length = s.T.length ∧ s'.M.length = s.M.length ∧ s'.R.length = s.R.length
theorem Size.refl (s : Sd) : Size s s := ⟨rfl, rfl, rfl⟩
theorem Size.trans {a b c : Sd} (h : Size a b) (k : Size b c) : Size a c := ⟨k.1.trans h.1, k.2.1.trans h.2.1, k.2.2.trans h.2.2⟩
theorem size_setT (s : Sd) (t v : Int) : Size s (setT s t v) := ⟨by simp [setT], rfl, rfl⟩
theorem size_setM (s : Sd) (m : Int) (x : Int × List Int) : Size s (setM s m x) := ⟨rfl, by simp [setM], rfl⟩
theorem size_setR (s : Sd) (m : Int) (x : List (Int × Int)) : Size s (setR s m x) := ⟨rfl, rfl, by simp [setR]⟩
theorem size_come (s : Sd) (t m : Int) : Size s (come s t m).1 := by unfold come; split <;> exact (size_setM _ _ _).trans (size_setT _ _ _)
theorem size_give (s : Sd) (m : Int) : Size s (give s m) := by
  unfold give
  split
  · exact size_setM _ _ _
  · exact (size_setM _ _ _).trans (size_come _ _ _)
theorem size_wakeOne (s : Sd) (x : Int × Int) : Size s (wakeOne s x) := by unfold wakeOne; split <;> first | exact size_setT _ _ _ | exact size_come _ _ _
theorem there_size {s s' : Sd} (h : Size s s') (m : Int) : there s'.M m = there s.M m := by unfold there; rw [h.2.1]
theorem Ok.wakeOne {s : Sd} {x : Int × Int} {more : List Int} (h : Ok s (x.1 :: more)) (hx : x.2 = -1 ∨ there s.M x.2 = true) : Ok (Sc.wakeOne s x) more := by
  unfold Sc.wakeOne
  split
  · exact h.butRest.ready
  · rename_i e
    exact h.butRest.come x.2 (hx.resolve_left e)
theorem Ok.wakes : ∀ (l : List (Int × Int)) {s : Sd}, Ok s (l.map (·.1)) → (∀ x ∈ l, x.2 = -1 ∨ there s.M x.2 = true) → Ok (l.foldl Sc.wakeOne s) []
  | [], _, h, _ => h
  | x :: l, s, h, hx => by
    refine Ok.wakes l (h.wakeOne (hx x (by simp))) (fun y hy => ?_)
    rw [there_size (size_wakeOne s x)]
    exact hx y (by simp [hy])
theorem Ok.taken {s : Sd} (h : Ok s []) (c : Int) (hc : there s.R c = true) : Ok (setR s c []) ((s.R.getD c.toNat []).map (·.1)) := by
  refine ⟨h.own, h.row, fun u => ?_, fun l hl x hx => ?_⟩
  · have h1 := rests_setR s c [] hc u
    have h2 := h.rest u
    rw [stT_setR, ← h2]
    simp only [List.map_nil, List.count_nil] at h1 ⊢
    omega
  · rcases mem_setR hl with hl | rfl
    · exact h.mid l hl x hx
    · cases hx
theorem Ok.midAt {s : Sd} {more : List Int} (h : Ok s more) (c : Int) (hc : there s.R c = true) : ∀ x ∈ s.R.getD c.toNat [], x.2 = -1 ∨ there s.M x.2 = true := fun x hx => h.mid _ (List.mem_of_getElem? (re_at s c hc)) x hx
theorem Ok.wake {s : Sd} (h : Ok s []) (c : Int) : Ok (wake s c).1 [] := by
  unfold Sc.wake
  split
  · rename_i hc
    exact Ok.wakes _ (h.taken c hc) (h.midAt c hc)
  · exact h
theorem Ok.endT {s : Sd} (h : Ok s []) (t : Int) : Ok (endT s t).1 [] := by
  unfold Sc.endT
  show Ok (if _ then _ else _) []
  split
  · rename_i e
    have e := (first_eq _ _).1 e
    simp only [Bool.and_eq_true, decide_eq_true_eq, Bool.not_eq_true', List.any_eq_false] at e
    have hth := stT_there s t (by omega)
    refine ⟨fun x hx => (h.own x hx).imp id (fun k => ⟨by rw [there_setT]; exact k.1, ?_⟩), fun u => ?_, fun u => ?_, h.mid⟩
    · rw [stT_setT _ t 3 _ hth, if_neg (e.2.2 x hx)]
      exact k.2
    · rw [rows_setT, stT_setT _ t 3 _ hth, h.row u]
      by_cases e3 : u = t
      · subst e3; simp [e.2.1]
      · simp [e3]
    · rw [rests_setT, stT_setT _ t 3 _ hth, h.rest u]
      by_cases e3 : u = t
      · subst e3; simp [e.2.1]
      · simp [e3]
  · exact h
theorem Ok.new (t m c : Int) : Ok (newS t m c) [] := by
  have hrow : ∀ k, ((List.replicate k ((-1 : Int), ([] : List Int))).map (·.2)).flatten = [] := by intro k; induction k with
    | zero => rfl
    | succ k ih => rw [List.replicate_succ, List.map_cons, List.flatten_cons, ih]; rfl
  have hres : ∀ k, ((List.replicate k ([] : List (Int × Int))).map fun l => l.map (·.1)).flatten = [] := by intro k; induction k with
    | zero => rfl
    | succ k ih => rw [List.replicate_succ, List.map_cons, List.flatten_cons, ih]; rfl
  have hst : ∀ u, stT (newS t m c) u = 0 ∨ stT (newS t m c) u = -1 := by
    intro u
    unfold stT
    split
    · left
      show (List.replicate t.toNat (0 : Int)).getD u.toNat 0 = 0
      rw [List.getD_eq_getElem?_getD, List.getElem?_replicate]; split <;> rfl
    · right; rfl
  refine ⟨fun x hx => .inl ?_, fun u => ?_, fun u => ?_, fun l hl x hx => ?_⟩
  · have := List.eq_of_mem_replicate (show x ∈ List.replicate m.toNat ((-1 : Int), ([] : List Int)) from hx)
    rw [this]; exact ⟨rfl, rfl⟩
  · have e : rowsT (newS t m c) = [] := hrow _
    rw [e]; rcases hst u with e | e <;> rw [e] <;> rfl
  · have e : restsT (newS t m c) = [] := hres _
    rw [e]; rcases hst u with e | e <;> rw [e] <;> rfl
  · have := List.eq_of_mem_replicate (show l ∈ List.replicate c.toNat ([] : List (Int × Int)) from hl)
    rw [this] at hx; cases hx
/-- As many as may be. -/
theorem few_of : ∀ (n : Nat) (l : List Int), (∀ t, l.count t ≤ 1) → (∀ t ∈ l, 0 ≤ t ∧ t < (n : Int)) → l.length ≤ n
  | 0, l, _, h => by
    cases l with
    | nil => simp
    | cons x l => have := h x (by simp); omega
  | n + 1, l, hc, h => by
    have ih := few_of n (l.filter fun t => decide (t ≠ (n : Int))) (fun t => Nat.le_trans (List.Sublist.count_le _ List.filter_sublist) (hc t)) (fun t ht => by
      rw [List.mem_filter] at ht
      have := h t ht.1
      have h2 : t ≠ (n : Int) := by simpa using ht.2
      omega)
    have h1 := List.length_eq_countP_add_countP (p := fun t : Int => decide (t ≠ (n : Int))) (l := l)
    rw [List.countP_eq_length_filter] at h1
    have h2 : l.countP (fun t => decide ¬(decide (t ≠ (n : Int))) = true) = l.count (n : Int) := by
      unfold List.count
      apply List.countP_congr
      intro t _
      by_cases e : t = (n : Int) <;> simp [e]
    rw [h2] at h1
    have := hc (n : Int)
    omega
theorem Ok.rowsFew {s : Sd} {more : List Int} (h : Ok s more) : (rowsT s).length ≤ s.T.length := by
  refine few_of _ _ (fun t => by rw [h.row t]; split <;> omega) (fun t ht => ?_)
  have h1 := h.row t
  have h2 := List.count_pos_iff.2 ht
  by_cases e : stT s t = 1
  · exact (there_iff _ _).1 (stT_there s t (by omega))
  · rw [if_neg e] at h1; omega
theorem mem_len {l : List (List Int)} {r : List Int} (h : r ∈ l) : r.length ≤ l.flatten.length := by
  induction l with
  | nil => cases h
  | cons x l ih =>
    rw [List.flatten_cons, List.length_append]
    rcases List.mem_cons.1 h with rfl | h
    · omega
    · have := ih h; omega
theorem Ok.rowFew {s : Sd} {more : List Int} (h : Ok s more) (x : Int × List Int) (hx : x ∈ s.M) : x.2.length ≤ s.T.length :=
  Nat.le_trans (mem_len (List.mem_map.2 ⟨x, hx, rfl⟩)) h.rowsFew
theorem Ok.restsFew {s : Sd} {more : List Int} (h : Ok s more) : (restsT s).length ≤ s.T.length := by
  refine few_of _ _ (fun t => by have := h.rest t; split at this <;> omega) (fun t ht => ?_)
  have h1 := h.rest t
  have h2 := List.count_pos_iff.2 ht
  by_cases e : stT s t = 2
  · exact (there_iff _ _).1 (stT_there s t (by omega))
  · rw [if_neg e] at h1; omega
theorem Ok.restFew {s : Sd} {more : List Int} (h : Ok s more) (l : List (Int × Int)) (hl : l ∈ s.R) : l.length ≤ s.T.length := by
  have := mem_len (List.mem_map.2 ⟨l, hl, rfl⟩ : l.map (·.1) ∈ s.R.map fun l => l.map (·.1))
  rw [List.length_map] at this
  exact Nat.le_trans this h.restsFew
end Go.Proofs.Ytcfkmhmgappckaa.Sc
