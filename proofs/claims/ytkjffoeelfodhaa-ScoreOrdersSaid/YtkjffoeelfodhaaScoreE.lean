/- Ranks: what the printed functions answer, in plain words. No condition. -/
import Derived.Test.YtkjffoeelfodhaaPAllx5
import Derived.Test.YtkjffoeelfodhaaPAllx4
import Derived.Test.YtkjffoeelfodhaaPAllx3
import Derived.Test.YtkjffoeelfodhaaJoin
import Derived.Test.YtkjffoeelfodhaaEv
namespace Go.Proofs.Ytkjffoeelfodhaa
open Go.RowKit Go.Proofs.Ytkjffoeelfodhaa.Sc Go.Proofs.Ytkjffoeelfodhaa.PAll Go.Proofs.YtkjffoeelfodhaaW.PrintWords Go.Proofs.YtkjffoeelfodhaaW.PrintLast

def ofD (x : S28) : S23 := ⟨x.f0, x.f1, x.f2⟩
def toD (x : S23) : S28 := ⟨x.f0, x.f1, x.f2⟩
theorem toD_of (x : S28) : toD (ofD x) = x := rfl
theorem ofD_to (x : S23) : ofD (toD x) = x := rfl
theorem rd28_at (l : List S28) (i : Nat) (h : i < l.length) : rd_T28 l (i : Int) = l[i] := by unfold rd_T28; rw [Int.toNat_natCast, List.getD_eq_getElem?_getD, List.getElem?_eq_getElem h]; rfl
theorem rd23_at (l : List S23) (i : Nat) (h : i < l.length) : rd_T23 l (i : Int) = l[i] := by unfold rd_T23; rw [Int.toNat_natCast, List.getD_eq_getElem?_getD, List.getElem?_eq_getElem h]; rfl
/-- The first 30. -/
def fewL (l : List S23) : List S28 := (l.take 30).map toD
theorem fewL_len (l : List S23) : (fewL l).length ≤ 30 := by unfold fewL; rw [List.length_map, List.length_take]; omega
theorem few_loop (l : List S23) : ∀ d i : Nat, i + d = min l.length 30 → Ev (fun k => concordancelaw14_few.l0 k l ((l.take i).map toD) (i : Int)) (fewL l)
  | 0, i, hi => by
    have e : fewL l = (l.take i).map toD := by
      unfold fewL
      by_cases h : l.length ≤ 30
      · rw [List.take_of_length_le h, List.take_of_length_le (by omega)]
      · rw [show i = 30 by omega]
    rw [e]
    refine Ev.step (fun k => by rw [concordancelaw14_few.l0]) ?_
    by_cases h : (i : Int) < (l.length : Int)
    · exact Ev.pos h (Ev.neg (by omega) (Ev.ret rfl))
    · exact Ev.neg h (Ev.ret rfl)
  | d + 1, i, hi => by
    have ih := few_loop l d (i + 1) (by omega)
    rw [List.take_succ_eq_append_getElem (by omega), List.map_append] at ih
    refine Ev.step (fun k => by rw [concordancelaw14_few.l0, wrap_small (i + 1) (by omega), rd23_at l i (by omega)]) ?_
    refine Ev.pos (by omega) (Ev.pos (by omega) (Ev.pos (by omega) (Ev.pos (by rw [List.length_map, List.length_take]; omega) ?_)))
    exact_mod_cast ih
theorem few_ev (l : List S23) : Ev (fun k => concordancelaw14_few.f k l) (fewL l) := few_loop l (min l.length 30) 0 (by omega)
theorem as_loop (l : List S28) (hl : l.length ≤ 100000) : ∀ d i : Nat, i + d = l.length → Ev (fun k => concordancelaw14_as.l0 k l ((l.take i).map ofD) (i : Int)) (l.map ofD)
  | 0, i, hi => by
    rw [List.take_of_length_le (by omega)]
    exact Ev.step (fun k => by rw [concordancelaw14_as.l0]) (Ev.neg (by omega) (Ev.ret rfl))
  | d + 1, i, hi => by
    have ih := as_loop l hl d (i + 1) (by omega)
    rw [List.take_succ_eq_append_getElem (by omega), List.map_append] at ih
    refine Ev.step (fun k => by rw [concordancelaw14_as.l0, wrap_small (i + 1) (by omega), rd28_at l i (by omega)]) ?_
    refine Ev.pos (by omega) (Ev.pos (by omega) (Ev.pos (by rw [List.length_map, List.length_take]; omega) ?_))
    exact_mod_cast ih
theorem as_ev (l : List S28) (hl : l.length ≤ 100000) : Ev (fun k => concordancelaw14_as.f k l) (l.map ofD) := as_loop l hl l.length 0 (by omega)
theorem same_loop (l : List S23) (hl : l.length ≤ 100000) : ∀ d i : Nat, i + d = l.length → Ev (fun k => concordanceref14_Same.l0 k l l (i : Int)) true
  | 0, i, hi => Ev.step (fun k => by rw [concordanceref14_Same.l0]) (Ev.neg (by omega) (Ev.ret rfl))
  | d + 1, i, hi => by
    have ih := same_loop l hl d (i + 1) (by omega)
    refine Ev.step (fun k => by rw [concordanceref14_Same.l0, wrap_small (i + 1) (by omega)]) ?_
    exact Ev.pos (by omega) (Ev.pos (by omega) (Ev.pos (by omega) (Ev.neg (by simp) (by exact_mod_cast ih))))
theorem same_ev (l : List S23) (hl : l.length ≤ 100000) : Ev (fun k => concordanceref14_Same.f k l l) true := by
  unfold concordanceref14_Same.f
  exact Ev.pos rfl (same_loop l hl l.length 0 (by omega))
/-- A number, cut. -/
theorem size_f (n : Int) (h1 : -9223372036854775808 ≤ n) (h2 : n ≤ 9223372036854775807) : ∃ m, concordancelaw14_size.f n = some m ∧ -1 ≤ m ∧ m ≤ 20 := by
  unfold concordancelaw14_size.f
  by_cases h : n < -1
  · rw [if_pos h]
    refine ⟨_, rfl, ?_⟩
    rw [wrap_small (n + 1) (by omega), wrap_small _ (by omega), Int.tmod_eq_emod_of_nonneg (by omega)]
    omega
  · rw [if_neg h]
    refine ⟨_, rfl, ?_⟩
    by_cases h0 : n = -1
    · subst h0; decide
    · rw [Int.tmod_eq_emod_of_nonneg (by omega)]; omega
/-- The best k of ranks. -/
def bestD (l : List S28) (k : Int) : List S28 := (bestR (l.map toR) k.toNat).map ofR
theorem bestR_len (l : List Rk) (k : Nat) : (bestR l k).length = min k l.length := by unfold bestR; rw [List.length_take, sortR_len]
theorem bestD_len (l : List S28) (k : Int) : (bestD l k).length = min k.toNat l.length := by unfold bestD; rw [List.length_map, bestR_len, List.length_map]
theorem best_f (l : List S28) (k : Int) (hk : k ≤ 1000) : score_Best.f l k = some (bestD l k) := by unfold score_Best.f; rw [if_pos hk]; rfl
theorem join_f (l : List (List S28)) (k : Int) (hk : k ≤ 1000) : score_Join.f l k = some (bestD l.flatten k) := by unfold score_Join.f; rw [if_pos hk]; rfl
theorem bestD_perm {l m : List S28} (h : l.Perm m) (k : Int) : bestD l k = bestD m k := by unfold bestD bestR; rw [sortR_of_perm (h.map toR)]
theorem bestD_join (a b : List S28) (k : Int) : bestD (bestD a k ++ bestD b k) k = bestD (a ++ b) k := by
  unfold bestD
  have e : ∀ l : List Rk, (l.map ofR).map toR = l := fun l => by rw [List.map_map]; exact List.map_id l
  rw [List.map_append, e, e, List.map_append]
  unfold bestR
  rw [best_join]
theorem lives_f : concordancelaw14_lives.f = some true := by
  have h : bestD [(⟨0, 1, 0⟩ : S28), (⟨0, 3, 9⟩ : S28), (⟨0, 3, 2⟩ : S28)] 2 = [⟨0, 3, 2⟩, ⟨0, 3, 9⟩] := by
    unfold bestD
    have h2 : bestR ([(⟨0, 1, 0⟩ : S28), (⟨0, 3, 9⟩ : S28), (⟨0, 3, 2⟩ : S28)].map toR) ((2 : Int).toNat) = [(0, 3, 2), (0, 3, 9)] := by decide +kernel
    rw [h2]; rfl
  unfold concordancelaw14_lives.f
  rw [best_f _ _ (by decide), h]
  rfl

/-! ### ScoreRows -/
theorem rows_end (x : List S28) (hx : x.length ≤ 30) (at_ : Nat) (hat : at_ ≤ x.length) (k : Int) (hk : k ≤ 20) (back : List S28) (hb : back.Perm x) :
    Ev (fun n => (score_Best.f x k).bind fun t158 => ((concordancelaw14_as.f n t158).bind fun t161 => ((score_Best.f back k).bind fun t164 => ((concordancelaw14_as.f n t164).bind fun t167 => (if 0 ≤ (at_ : Int) then (if (at_ : Int) ≤ (x.length : Int) then ((score_Best.f (x.take (at_ : Int).toNat) k).bind fun t175 => ((score_Best.f (x.drop (at_ : Int).toNat) k).bind fun t183 => ((score_Join.f (([t175, t183] : List (List (S28)))) k).bind fun t189 => ((concordancelaw14_as.f n t189).bind fun t192 => ((concordanceref14_Same.f n t161 t167).bind fun t195 => (if t195 = true then ((concordanceref14_Same.f n t161 t192).bind fun t196 => (if t196 = true then ((concordancelaw14_lives.f).bind fun t197 => (some t197)) else (some false))) else (some false))))))) else (none)) else (none)))))) true := by
  have hl : (bestD x k).length ≤ 30 := by rw [bestD_len]; omega
  refine Ev.const (best_f x k (by omega)) (Ev.bind (as_ev _ (by omega)) (Ev.const (best_f back k (by omega)) (Ev.bind (as_ev _ (by rw [bestD_len, hb.length_eq]; omega)) (Ev.pos (by omega) (Ev.pos (by omega) ?_)))))
  rw [Int.toNat_natCast]
  refine Ev.const (best_f _ k (by omega)) (Ev.const (best_f _ k (by omega)) (Ev.const (join_f _ k (by omega)) ?_))
  rw [show ([bestD (x.take at_) k, bestD (x.drop at_) k] : List (List S28)).flatten = bestD (x.take at_) k ++ bestD (x.drop at_) k by simp, bestD_join, List.take_append_drop, bestD_perm hb k]
  refine Ev.bind (as_ev _ (by omega)) (Ev.bind (same_ev _ (by rw [List.length_map]; omega)) (Ev.pos rfl (Ev.bind (same_ev _ (by rw [List.length_map]; omega)) (Ev.pos rfl (Ev.const lives_f (Ev.ret rfl))))))
end Go.Proofs.Ytkjffoeelfodhaa
