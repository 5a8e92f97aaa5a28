/- All that rest are woken, plain. No condition. -/
import Derived.Test.YtcfkmhmgappckaaSchedI
namespace Go.Proofs.Ytcfkmhmgappckaa.Sc
def wk1 (n : Nat) : Nat → Sd
  | 0 => newS ((n : Int) + 1) 1 1
  | t + 1 => (wait (lock (wk1 n t) t 0).1 t 0 0).1
def wk2 (n : Nat) : Nat → Sd
  | 0 => (wake (wk1 n n) 0).1
  | t + 1 => (endT (unlock (wk2 n t) t 0).1 t).1
def chk1 (n t : Nat) : Bool := decide ((lock (wk1 n t) t 0).2 = (true, 0)) && decide ((wait (lock (wk1 n t) t 0).1 t 0 0).2 = 0) && decide (stT (wk1 n (t + 1)) t = 2)
def chk2 (n : Nat) : Bool := decide ((wake (wk1 n n) 0).2 = ((n : Int), 0)) && decide (owner (wk2 n 0) 0 = 0) && decide ((rowM (wk2 n 0) 0).length = n - 1) && !stuck (wk2 n 0)
def chk3 (n t : Nat) : Bool := decide (owner (wk2 n t) 0 = t) && decide ((unlock (wk2 n t) t 0).2 = 0) && decide ((endT (unlock (wk2 n t) t 0).1 t).2 = 0)
def chk4 (n : Nat) : Bool := decide ((wake (wk2 n n) 0).2.1 = 0) && !stuck (wake (wk2 n n) 0).1 && decide ((endT (wake (wk2 n n) 0).1 n).2 = 0) && !stuck (endT (wake (wk2 n n) 0).1 n).1
def chk (n : Nat) : Bool := (List.range n).all (fun t => chk1 n t) && chk2 n && (List.range n).all (fun t => chk3 n t) && chk4 n
theorem chk_all : ∀ n : Fin 9, 1 ≤ n.val → chk n.val = true := by decide +kernel
theorem size_wakes : ∀ (l : List (Int × Int)) (s : Sd), Size s (l.foldl wakeOne s)
  | [], s => Size.refl s
  | x :: l, s => (size_wakeOne s x).trans (size_wakes l _)
theorem size_wake (s : Sd) (c : Int) : Size s (wake s c).1 := by
  unfold wake; split
  · exact (size_setR _ _ _).trans (size_wakes _ _)
  · exact Size.refl _
theorem size_unlock (s : Sd) (t m : Int) : Size s (unlock s t m).1 := by
  unfold unlock
  show Size _ (if _ then _ else _)
  split
  · exact size_give _ _
  · exact Size.refl _
theorem size_end (s : Sd) (t : Int) : Size s (endT s t).1 := by
  unfold endT
  show Size _ (if _ then _ else _)
  split
  · exact size_setT _ _ _
  · exact Size.refl _
theorem size_lock (s : Sd) (t m : Int) : Size s (lock s t m).1 := by
  unfold lock; split
  · exact Size.refl _
  · exact size_come _ _ _
theorem size_wait (s : Sd) (t c m : Int) : Size s (wait s t c m).1 := by
  unfold wait
  show Size _ (if _ then _ else _)
  split
  · exact ((size_setT _ _ _).trans (size_setR _ _ _)).trans (size_give _ _)
  · exact Size.refl _
theorem size_rest (s : Sd) (t c : Int) : Size s (Sc.rest s t c).1 := by
  unfold Sc.rest
  show Size _ (if _ then _ else _)
  split
  · exact (size_setT _ _ _).trans (size_setR _ _ _)
  · exact Size.refl _
theorem wk_ok1 (n : Nat) : ∀ t, Ok (wk1 n t) [] ∧ Size (newS ((n : Int) + 1) 1 1) (wk1 n t)
  | 0 => ⟨Ok.new _ _ _, Size.refl _⟩
  | t + 1 => by
    obtain ⟨h, hs⟩ := wk_ok1 n t
    exact ⟨(h.lock (t : Int) 0).wait (t : Int) 0 0, hs.trans ((size_lock _ _ _).trans (size_wait _ _ _ _))⟩
theorem wk_ok2 (n : Nat) : ∀ t, Ok (wk2 n t) [] ∧ Size (newS ((n : Int) + 1) 1 1) (wk2 n t)
  | 0 => ⟨(wk_ok1 n n).1.wake 0, (wk_ok1 n n).2.trans (size_wake _ _)⟩
  | t + 1 => by
    obtain ⟨h, hs⟩ := wk_ok2 n t
    exact ⟨(h.unlock (t : Int) 0).endT (t : Int), hs.trans ((size_unlock _ _ _).trans (size_end _ _))⟩
theorem chk_at (n : Nat) (h1 : 1 ≤ n) (h2 : n ≤ 8) : (∀ t, t < n → chk1 n t = true) ∧ chk2 n = true ∧ (∀ t, t < n → chk3 n t = true) ∧ chk4 n = true := by
  have h := chk_all ⟨n, by omega⟩ h1
  unfold chk at h
  simp only [Bool.and_eq_true, List.all_eq_true, List.mem_range] at h
  exact ⟨h.1.1.1, h.1.1.2, h.1.2, h.2⟩
theorem len_of (n : Nat) (h2 : n ≤ 8) (s : Sd) (h : Size (newS ((n : Int) + 1) 1 1) s) : s.T.length ≤ 1000 ∧ s.M.length ≤ 1000 ∧ s.R.length ≤ 1000 := by
  obtain ⟨a, b, c⟩ := h
  rw [a, b, c]
  simp [newS]; omega
end Go.Proofs.Ytcfkmhmgappckaa.Sc
