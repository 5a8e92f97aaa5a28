/- DictMakes: plain facts. No condition. -/
import Derived.Test.YtlghcfhmfbdidaaFindsPlain
import Derived.Test.YtlghcfhmfbdidaaPAllx2
namespace Go.Proofs.Ytlghcfhmfbdidaa
open Go.RowKit Go.Proofs.Ytlghcfhmfbdidaa.PAll Go.Proofs.YtlghcfhmfbdidaaW.PrintWords Go.Proofs.YtlghcfhmfbdidaaW.PrintLast

/-! ## the first texts, cut -/
def fewM (l : List ByteArray) : Nat → List ByteArray
  | 0 => []
  | i + 1 => fewM l i ++ [(nth l i).extract 0 (min (nth l i).size 8)]
theorem fewM_len (l : List ByteArray) : ∀ i, (fewM l i).length = i
  | 0 => rfl
  | i + 1 => by unfold fewM; rw [List.length_append, fewM_len l i]; rfl
theorem few_loop (l : List ByteArray) : ∀ d i : Nat, i + d = min l.length 20 → Ev (fun k => concordancelaw07_few.l0 k l (fewM l i) (i : Int)) (fewM l (min l.length 20))
  | 0, i, hi => by
    have e : i = min l.length 20 := by omega
    subst e
    refine Ev.step (fun k => by rw [concordancelaw07_few.l0]) ?_
    by_cases h : ((min l.length 20 : Nat) : Int) < (l.length : Int)
    · exact Ev.pos h (Ev.neg (by omega) (Ev.ret rfl))
    · exact Ev.neg h (Ev.ret rfl)
  | d + 1, i, hi => by
    have ih := few_loop l d (i + 1) (by omega)
    have hlen := fewM_len l i
    have hmn : mn ((nth l i).size : Int) 8 = ((min (nth l i).size 8 : Nat) : Int) := by unfold mn; omega
    refine Ev.step (fun k => by rw [concordancelaw07_few.l0, wrap_small (i + 1) (by omega)]) ?_
    refine Ev.pos (by omega) (Ev.pos (by omega) (Ev.pos (by omega) ?_))
    show Ev (fun k => if 0 ≤ mn ((nth l i).size : Int) 8 then (if mn ((nth l i).size : Int) 8 ≤ ((nth l i).size : Int) then (if (fewM l i).length < 8796093022208 then (concordancelaw07_few.l0 k l (fewM l i ++ [(nth l i).extract 0 (mn ((nth l i).size : Int) 8).toNat]) ((i : Int) + 1)) else none) else none) else none) _
    rw [hmn]
    refine Ev.pos (by omega) (Ev.pos (by omega) (Ev.pos (by omega) ?_))
    rw [Int.toNat_natCast]
    exact_mod_cast ih
def fewL (l : List ByteArray) : List ByteArray := fewM l (min l.length 20)
theorem few_ev (l : List ByteArray) : Ev (fun k => concordancelaw07_few.f k l) (fewL l) := few_loop l (min l.length 20) 0 (by omega)
theorem fewL_len (l : List ByteArray) : (fewL l).length ≤ 20 := by unfold fewL; rw [fewM_len]; omega

/-! ## rising, by neighbours: as the program and as the document tell it -/
def riseB (l : List ByteArray) : Nat → Nat → Bool
  | 0, _ => true
  | d + 1, i => if i = 0 then riseB l d 1 else (if lt (nth l (i - 1)) (nth l i) then riseB l d (i + 1) else false)
theorem drises_loop (l : List ByteArray) (hl : l.length ≤ 1000000) : ∀ d i : Nat, i + d = l.length → Ev (fun k => dict_rises.l0 k l l (l.length : Int) (i : Int)) (riseB l d i)
  | 0, i, hi => by
    refine Ev.step (fun k => by rw [dict_rises.l0]) ?_
    exact Ev.neg (by omega) (Ev.ret rfl)
  | d + 1, i, hi => by
    have ih := drises_loop l hl d (i + 1) (by omega)
    refine Ev.step (fun k => by rw [dict_rises.l0, wrap_small (i + 1) (by omega)]) ?_
    refine Ev.pos (by omega) (Ev.pos (by omega) (Ev.pos (by omega) ?_))
    unfold riseB
    by_cases h : i = 0
    · subst h
      rw [if_pos rfl]
      exact Ev.neg (by omega) (by exact_mod_cast ih)
    · rw [if_neg h]
      refine Ev.pos (by omega) ?_
      rw [wrap_small ((i : Int) - 1) (by omega)]
      refine Ev.pos (by omega) (Ev.pos (by omega) ?_)
      have e : (i : Int) - 1 = ((i - 1 : Nat) : Int) := by omega
      rw [e]
      cases hc : lt (nth l (i - 1)) (nth l i)
      · rw [if_neg (by simp)]
        exact Ev.neg (by unfold lt nth at hc; rw [hc]; simp) (Ev.ret rfl)
      · rw [if_pos rfl]
        exact Ev.pos hc (by exact_mod_cast ih)
theorem drises_ev (l : List ByteArray) (hl : l.length ≤ 1000000) : Ev (fun k => dict_rises.f k l) (riseB l l.length 0) := drises_loop l hl l.length 0 (by omega)
theorem rrises_loop (l : List ByteArray) (hl : l.length ≤ 1000000) : ∀ d i : Nat, i + d = l.length → 0 < i → Ev (fun k => concordanceref07_Rises.l0 k l (i : Int)) (riseB l d i)
  | 0, i, hi, _ => by
    refine Ev.step (fun k => by rw [concordanceref07_Rises.l0]) ?_
    exact Ev.neg (by omega) (Ev.ret rfl)
  | d + 1, i, hi, hp => by
    have ih := rrises_loop l hl d (i + 1) (by omega) (by omega)
    refine Ev.step (fun k => by rw [concordanceref07_Rises.l0, wrap_small (i + 1) (by omega), wrap_small ((i : Int) - 1) (by omega)]) ?_
    refine Ev.pos (by omega) (Ev.pos (by omega) (Ev.pos (by omega) (Ev.pos (by omega) ?_)))
    unfold riseB
    rw [if_neg (by omega)]
    have e : (i : Int) - 1 = ((i - 1 : Nat) : Int) := by omega
    rw [e]
    cases hc : lt (nth l (i - 1)) (nth l i)
    · rw [if_neg (by simp)]
      exact Ev.neg (by unfold lt nth at hc; rw [hc]; simp) (Ev.ret rfl)
    · rw [if_pos rfl]
      exact Ev.pos hc (by exact_mod_cast ih)
theorem rrises_ev (l : List ByteArray) (hl : l.length ≤ 1000000) : Ev (fun k => concordanceref07_Rises.f k l) (riseB l l.length 0) := by
  unfold concordanceref07_Rises.f
  cases l with
  | nil =>
    refine Ev.step (fun k => by rw [concordanceref07_Rises.l0]) ?_
    exact Ev.neg (by simp) (Ev.ret rfl)
  | cons a l =>
    have h := rrises_loop (a :: l) hl l.length 1 (by simp; omega) (by omega)
    exact h
end Go.Proofs.Ytlghcfhmfbdidaa
