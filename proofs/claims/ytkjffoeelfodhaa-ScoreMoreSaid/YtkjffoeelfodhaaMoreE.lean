/- ScoreMore: the printed function answers true. Condition: the numbers are of 64 bits. -/
import Derived.Test.YtkjffoeelfodhaaOpenRanks
import Derived.Test.YtkjffoeelfodhaaPAllx7
namespace Go.Proofs.Ytkjffoeelfodhaa
open Go.RowKit Go.Proofs.Ytkjffoeelfodhaa.Sc Go.Proofs.Ytkjffoeelfodhaa.PAll Go.Proofs.YtkjffoeelfodhaaW.PrintWords Go.Proofs.YtkjffoeelfodhaaW.PrintLast

def trip (x : S23) : Rk := (x.f0, x.f1, x.f2)
/-- In their row. -/
def Rows23 (b : List S23) : Prop := ∀ i, 0 < i → ∀ h : i < b.length, bet (trip b[i]) (trip (b[i - 1]'(by omega))) = false
theorem best_rows (x : List S28) (k : Int) : Rows23 ((bestD x k).map ofD) := by
  intro i h0 hi
  have hr : Row (bestR (x.map toR) k.toNat) := (sortR_row _).sublist (List.take_sublist _ _)
  have e : ((bestD x k).map ofD) = (bestR (x.map toR) k.toNat).map (fun r => ofD (ofR r)) := by unfold bestD; rw [List.map_map]; rfl
  have e2 : ∀ j (hj : j < (bestR (x.map toR) k.toNat).length) (hj2 : j < ((bestD x k).map ofD).length), trip (((bestD x k).map ofD)[j]'hj2) = (bestR (x.map toR) k.toNat)[j]'hj := by
    intro j hj hj2
    simp only [e, List.getElem_map]
    rfl
  have hl : ((bestD x k).map ofD).length = (bestR (x.map toR) k.toNat).length := by rw [e, List.length_map]
  rw [e2 i (by omega), e2 (i - 1) (by omega)]
  exact List.pairwise_iff_getElem.1 hr (i - 1) i (by omega) (by omega) (by omega)
theorem best_take (x : List S28) {k m : Int} (h : k ≤ m) : ((bestD x m).map ofD).take ((bestD x k).map ofD).length = (bestD x k).map ofD := by
  have e1 : bestD x k = (bestD x m).take k.toNat := by
    unfold bestD bestR
    rw [← List.map_take, List.take_take, show min k.toNat m.toNat = k.toNat by omega]
  rw [e1, List.map_take, List.length_take]
  by_cases hk : k.toNat ≤ ((bestD x m).map ofD).length
  · rw [Nat.min_eq_left hk]
  · rw [Nat.min_eq_right (by omega), List.take_length, List.take_of_length_le (by omega)]
theorem more_loop (k : Int) (x : List S28) (a b : List S23) (hab : b.take a.length = a) (hal : a.length = min k.toNat x.length) (hle : a.length ≤ b.length) (hb : b.length ≤ 1000) (hr : Rows23 b) : ∀ d i : Nat, 0 < i → (i + d = b.length ∨ (d = 0 ∧ b.length ≤ i)) →
    Ev (fun n => concordancelaw14_ScoreMore.l0 n k x a b (i : Int)) true
  | 0, i, _, hi => by
    refine Ev.step (fun n => by rw [concordancelaw14_ScoreMore.l0]) (Ev.neg (by omega) (Ev.pos (by omega) (Ev.pos (by omega) ?_)))
    rw [Int.toNat_natCast, hab]
    exact Ev.bind (same_ev a (by omega)) (Ev.pos rfl (Ev.pos (by rw [mn_eq, mx_eq, hal]; omega) (Ev.const lives_f (Ev.ret rfl))))
  | d + 1, i, h0, hi => by
    have ih := more_loop k x a b hab hal hle hb hr d (i + 1) (by omega) (by omega)
    have e1 : (i : Int) - 1 = ((i - 1 : Nat) : Int) := by omega
    refine Ev.step (fun n => by rw [concordancelaw14_ScoreMore.l0, wrap_small (i + 1) (by omega), wrap_small (i - 1) (by omega), e1, rd23_at b i (by omega), rd23_at b (i - 1) (by omega)]) ?_
    refine Ev.pos (by omega) (Ev.pos (by omega) (Ev.pos (by omega) (Ev.pos (by omega) ?_)))
    have hs : score_Better.f (b[i]'(by omega)).f0 (b[i]'(by omega)).f1 (b[i]'(by omega)).f2 (b[i - 1]'(by omega)).f0 (b[i - 1]'(by omega)).f1 (b[i - 1]'(by omega)).f2 = some false := by
      unfold score_Better.f
      exact congrArg some (hr i h0 (by omega))
    exact Ev.const hs (Ev.neg (by simp) (by exact_mod_cast ih))
theorem more_ev (l : List S23) (a k : Int) (ha1 : -9223372036854775808 ≤ a) (ha2 : a ≤ 9223372036854775807) (hk1 : -9223372036854775808 ≤ k) (hk2 : k ≤ 9223372036854775807) : Ev (fun n => concordancelaw14_ScoreMore.f n l a k) true := by
  obtain ⟨m, hm, hm1, hm2⟩ := size_f a ha1 ha2
  obtain ⟨q, hq, hq1, hq2⟩ := size_f k hk1 hk2
  unfold concordancelaw14_ScoreMore.f
  have hx := fewL_len l
  refine Ev.bind (few_ev l) (Ev.const hm (Ev.const hq (Ev.const (best_f _ m (by omega)) (Ev.bind (as_ev _ (by rw [bestD_len]; omega)) (Ev.const (best_f _ (mx q m) (by rw [mx_eq]; omega)) (Ev.bind (as_ev _ (by rw [bestD_len]; omega)) ?_))))))
  have hmx : m ≤ mx q m := by rw [mx_eq]; omega
  have h1 := best_take (fewL l) hmx
  have h2 := best_rows (fewL l) (mx q m)
  have hl1 : ((bestD (fewL l) m).map ofD).length = min m.toNat (fewL l).length := by rw [List.length_map, bestD_len]
  have hl2 : ((bestD (fewL l) (mx q m)).map ofD).length = min (mx q m).toNat (fewL l).length := by rw [List.length_map, bestD_len]
  have hle : ((bestD (fewL l) m).map ofD).length ≤ ((bestD (fewL l) (mx q m)).map ofD).length := by rw [hl1, hl2]; omega
  refine Ev.neg (by omega) ?_
  exact more_loop m (fewL l) _ _ h1 hl1 hle (by rw [hl2]; omega) h2 (((bestD (fewL l) (mx q m)).map ofD).length - 1) 1 (by omega) (by omega)
theorem i64_bounds_m {n : Int} (h : (Lit.int .i64 n).wf = true) : -9223372036854775808 ≤ n ∧ n ≤ 9223372036854775807 := by
  have hnb : IntKind.i64.min ≤ n ∧ n ≤ IntKind.i64.max := by simpa [Lit.wf] using h
  exact hnb
theorem scoreMore_walk (A0 : Option Addr) (c0 : Nat) (l : List S23) (a k : Int) (w : World) (hr0 : Kd.C k23 w A0 l.length l) (hc0 : l.length ≤ c0) (ha : (Lit.int .i64 a).wf = true) (hk : (Lit.int .i64 k).wf = true) :
    Calls Try.prog 5 #[.slice A0 l.length c0, .int .i64 a, .int .i64 k] w fun e w' => e = .returned (.bool true) ∧ Below w.heap.size w w' := by
  obtain ⟨n, hn⟩ := (more_ev l a k (i64_bounds_m ha).1 (i64_bounds_m ha).2 (i64_bounds_m hk).1 (i64_bounds_m hk).2).rounds
  exact concordancelaw14_ScoreMore.calls n A0 c0 l a k true w hr0 hc0 hn
end Go.Proofs.Ytkjffoeelfodhaa
