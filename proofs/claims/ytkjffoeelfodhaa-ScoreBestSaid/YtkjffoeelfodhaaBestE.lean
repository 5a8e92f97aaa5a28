/- The document's best of ranks; ScoreBest: the printed function answers true. Condition: the numbers are of 64 bits. -/
import Derived.Test.YtkjffoeelfodhaaOpenRanks
import Derived.Test.YtkjffoeelfodhaaPAllx8
namespace Go.Proofs.Ytkjffoeelfodhaa
open Go.RowKit Go.Proofs.Ytkjffoeelfodhaa.Sc Go.Proofs.Ytkjffoeelfodhaa.PAll Go.Proofs.YtkjffoeelfodhaaW.PrintWords Go.Proofs.YtkjffoeelfodhaaW.PrintLast

def ofT (r : Rk) : S23 := ⟨r.1, r.2.1, r.2.2⟩
theorem better_ref (a b : Rk) : concordanceref14_Better.f a.1 a.2.1 a.2.2 b.1 b.2.1 b.2.2 = some (bet a b) := by
  unfold concordanceref14_Better.f bet
  by_cases h1 : a.2.1 = b.2.1
  · by_cases h2 : a.2.2 = b.2.2
    · simp [h1, h2]
    · simp [h1, h2]
  · simp [h1]
theorem put_end (L : List Rk) (hL : L.length ≤ 1000) (r : Rk) (p : Nat) (hp : p ≤ L.length) :
    Ev (fun _ : Nat => if 0 ≤ (p : Int) then (if (p : Int) ≤ ((L.map ofT).length : Int) then ((some ((L.map ofT).take (p : Int).toNat : List (S23))).bind fun y231 => (if ([] : List (S23)).length + y231.length < 5864062014805 then ((some (([] : List (S23)) ++ y231 : List (S23))).bind fun y235 => (if y235.length < 5864062014805 then ((some (y235 ++ [(⟨r.1, r.2.1, r.2.2⟩ : S23)] : List (S23))).bind fun y238 => ((some ((L.map ofT).drop (p : Int).toNat : List (S23))).bind fun y241 => (if y238.length + y241.length < 5864062014805 then (some (y238 ++ y241)) else (none)))) else (none))) else (none))) else (none)) else (none)) ((L.take p ++ r :: L.drop p).map ofT) := by
  have h1 : ((L.map ofT).take p).length = p := by rw [List.length_take, List.length_map]; omega
  have h2 : ((L.map ofT).drop p).length = L.length - p := by rw [List.length_drop, List.length_map]
  rw [Int.toNat_natCast]
  refine Ev.pos (by omega) (Ev.pos (by rw [List.length_map]; omega) (Ev.som (Ev.pos (by rw [h1, List.length_nil]; omega) (Ev.som (Ev.pos (by rw [List.length_append, h1, List.length_nil]; omega) (Ev.som (Ev.som (Ev.pos (by simp only [List.length_append, h1, h2, List.length_nil, List.length_singleton]; omega) (Ev.ret ?_)))))))))
  simp [ofT]
theorem put_loop (L : List Rk) (hL : L.length ≤ 1000) (r : Rk) : ∀ i : Nat, i ≤ L.length → Ev (fun n => concordanceref14_Put.l0 n (L.map ofT) (i : Int) r.1 r.2.1 r.2.2) ((L.take (place r L i) ++ r :: L.drop (place r L i)).map ofT)
  | 0, hi => by
    refine Ev.step (fun n => by rw [concordanceref14_Put.l0]) (Ev.neg (by omega) ?_)
    exact put_end L hL r 0 (by omega)
  | i + 1, hi => by
    have e1 : ((i + 1 : Nat) : Int) - 1 = (i : Int) := by omega
    have hg : rd_T23 (L.map ofT) (i : Int) = ofT L[i] := by rw [rd23_at _ i (by rw [List.length_map]; omega), List.getElem_map]
    have hd : L.getD i (0, 0, 0) = L[i] := by rw [List.getD_eq_getElem?_getD, List.getElem?_eq_getElem (by omega)]; rfl
    refine Ev.step (fun n => by rw [concordanceref14_Put.l0, e1, wrap_small i (by omega), hg]) ?_
    refine Ev.pos (by omega) (Ev.pos (by omega) (Ev.pos (by rw [List.length_map]; omega) (Ev.const (better_ref r L[i]) ?_)))
    by_cases hb : bet r L[i] = true
    · rw [show place r L (i + 1) = place r L i by rw [place, hd, if_pos hb]]
      exact Ev.pos hb (put_loop L hL r i (by omega))
    · rw [show place r L (i + 1) = i + 1 by rw [place, hd, if_neg hb]]
      exact Ev.neg hb (put_end L hL r (i + 1) (by omega))
theorem put_ev (L : List Rk) (hL : L.length ≤ 1000) (r : Rk) : Ev (fun n => concordanceref14_Put.f n (L.map ofT) r.1 r.2.1 r.2.2) ((put L r).map ofT) := by
  have := put_loop L hL r L.length (Nat.le_refl _)
  unfold concordanceref14_Put.f
  rw [List.length_map]
  exact this
theorem foldl_put_len (X : List Rk) : (X.foldl put []).length = X.length := by have := (foldl_perm X []).length_eq; simpa using this
theorem bestref_loop (X : List Rk) (hX : X.length ≤ 1000) (k : Int) : ∀ d i : Nat, i + d = X.length → Ev (fun n => concordanceref14_Best.l0 n (X.map ofT) k (((X.take i).foldl put []).map ofT) (i : Int)) ((bestR X k.toNat).map ofT)
  | 0, i, hi => by
    have hl : ((X.foldl put []).map ofT).length = X.length := by rw [List.length_map, foldl_put_len]
    rw [List.take_of_length_le (by omega)]
    refine Ev.step (fun n => by rw [concordanceref14_Best.l0]) (Ev.neg (by rw [List.length_map]; omega) (Ev.pos (by rw [mn_eq, mx_eq]; omega) (Ev.pos (by rw [mn_eq, mx_eq]; omega) (Ev.ret ?_))))
    rw [mn_eq, mx_eq, hl]
    unfold bestR sortR
    rw [← List.map_take]
    congr 1
    by_cases h : k.toNat ≤ X.length
    · congr 1; omega
    · rw [List.take_of_length_le (by rw [foldl_put_len]; omega), List.take_of_length_le (by rw [foldl_put_len]; omega)]
  | d + 1, i, hi => by
    have ih := bestref_loop X hX k d (i + 1) (by omega)
    rw [List.take_succ_eq_append_getElem (by omega), List.foldl_append] at ih
    have hg : rd_T23 (X.map ofT) (i : Int) = ofT X[i] := by rw [rd23_at _ i (by rw [List.length_map]; omega), List.getElem_map]
    refine Ev.step (fun n => by rw [concordanceref14_Best.l0, wrap_small (i + 1) (by omega), hg]) ?_
    refine Ev.pos (by rw [List.length_map]; omega) (Ev.pos (by omega) (Ev.bind (put_ev ((X.take i).foldl put []) (by rw [foldl_put_len, List.length_take]; omega) X[i]) ?_))
    exact_mod_cast ih
theorem bestref_ev (X : List Rk) (hX : X.length ≤ 1000) (k : Int) : Ev (fun n => concordanceref14_Best.f n (X.map ofT) k) ((bestR X k.toNat).map ofT) := bestref_loop X hX k X.length 0 (by omega)
theorem bestref_ofD (x : List S28) (hx : x.length ≤ 1000) (k : Int) : Ev (fun n => concordanceref14_Best.f n (x.map ofD) k) ((bestD x k).map ofD) := by
  have e1 : x.map ofD = (x.map toR).map ofT := by rw [List.map_map]; rfl
  have e2 : (bestD x k).map ofD = (bestR (x.map toR) k.toNat).map ofT := by unfold bestD; rw [List.map_map]; rfl
  rw [e1, e2]
  exact bestref_ev _ (by rw [List.length_map]; exact hx) k
def hit (x : S28) : S43 := ⟨x.f0, x.f1⟩
theorem hits_loop (x : List S28) (hx : x.length ≤ 1000) : ∀ d i : Nat, i + d = x.length → Ev (fun n => score_Hits.l0 n ((x.take i).map hit) x (x.length : Int) (i : Int)) (x.map hit)
  | 0, i, hi => by
    rw [List.take_of_length_le (by omega)]
    exact Ev.step (fun n => by rw [score_Hits.l0]) (Ev.neg (by omega) (Ev.ret rfl))
  | d + 1, i, hi => by
    have ih := hits_loop x hx d (i + 1) (by omega)
    rw [List.take_succ_eq_append_getElem (by omega), List.map_append] at ih
    refine Ev.step (fun n => by rw [score_Hits.l0, wrap_small (i + 1) (by omega), rd28_at x i (by omega)]) ?_
    refine Ev.pos (by omega) (Ev.pos (by omega) (Ev.pos (by omega) (Ev.pos (by rw [List.length_map, List.length_take]; omega) ?_)))
    exact_mod_cast ih
theorem hits_ev (x : List S28) (hx : x.length ≤ 1000) : Ev (fun n => score_Hits.f n x) (x.map hit) := hits_loop x hx x.length 0 (by omega)
theorem rd43_at (l : List S43) (i : Nat) (h : i < l.length) : rd_T43 l (i : Int) = l[i] := by unfold rd_T43; rw [Int.toNat_natCast, List.getD_eq_getElem?_getD, List.getElem?_eq_getElem h]; rfl
theorem bestlaw_loop (x : List S28) (hx : x.length ≤ 30) (at_ : Nat) (hat : at_ ≤ x.length) (k : Int) (hk : k ≤ 20) : ∀ d i : Nat, i + d = x.length →
    Ev (fun n => concordancelaw14_ScoreBest.l0 n (at_ : Int) k x ((bestD x k).map ofD) (x.map hit) (i : Int)) true
  | 0, i, hi => by
    have hl : (bestD x k).length ≤ 30 := by rw [bestD_len]; omega
    have hs := same_ev ((bestD x k).map ofD) (by rw [List.length_map]; omega)
    refine Ev.step (fun n => by rw [concordancelaw14_ScoreBest.l0]) (Ev.neg (by rw [List.length_map]; omega) ?_)
    refine Ev.const (best_f x k (by omega)) (Ev.bind (as_ev _ (by omega)) (Ev.bind hs (Ev.pos rfl (Ev.pos (by omega) (Ev.pos (by omega) ?_)))))
    rw [Int.toNat_natCast]
    refine Ev.const (join_f _ k (by omega)) ?_
    rw [show ([x.take at_, [], x.drop at_] : List (List S28)).flatten = x by simp]
    exact Ev.bind (as_ev _ (by omega)) (Ev.bind hs (Ev.pos rfl (Ev.const lives_f (Ev.ret rfl))))
  | d + 1, i, hi => by
    have ih := bestlaw_loop x hx at_ hat k hk d (i + 1) (by omega)
    have e1 : rd_T43 (x.map hit) (i : Int) = hit x[i] := by rw [rd43_at _ i (by rw [List.length_map]; omega), List.getElem_map]
    refine Ev.step (fun n => by rw [concordancelaw14_ScoreBest.l0, wrap_small (i + 1) (by omega), rd28_at x i (by omega), e1]) ?_
    refine Ev.pos (by rw [List.length_map]; omega) (Ev.pos (by omega) (Ev.pos (by omega) (Ev.pos rfl (Ev.pos rfl ?_))))
    exact_mod_cast ih
theorem bestlaw_j (x : List S28) (hx : x.length ≤ 30) (a : Int) (ha : 0 ≤ a) (k : Int) (hk : k ≤ 20) : Ev (fun n => concordancelaw14_ScoreBest.j0 n a k x (x.map ofD)) true := by
  have e1 : Int.tmod a ((x.length : Int) + 1) = ((a.toNat % (x.length + 1) : Nat) : Int) := by
    rw [Int.tmod_eq_emod_of_nonneg ha, Int.natCast_emod, Int.toNat_of_nonneg ha, Int.natCast_add]; rfl
  have hm := Nat.mod_lt a.toNat (show 0 < x.length + 1 by omega)
  refine Ev.step (fun n => by rw [concordancelaw14_ScoreBest.j0, wrap_small ((x.length : Int) + 1) (by omega), e1]) (Ev.neg (by omega) ?_)
  refine Ev.bind (bestref_ofD x (by omega) k) (Ev.bind (hits_ev x (by omega)) (Ev.pos (by rw [List.length_map]) ?_))
  exact bestlaw_loop x hx _ (by omega) k hk x.length 0 (by omega)
theorem bestlaw_ev (l : List S23) (a k : Int) (ha1 : -9223372036854775808 ≤ a) (hk1 : -9223372036854775808 ≤ k) (hk2 : k ≤ 9223372036854775807) : Ev (fun n => concordancelaw14_ScoreBest.f n l a k) true := by
  obtain ⟨m, hm, hm1, hm2⟩ := size_f k hk1 hk2
  have hx := fewL_len l
  unfold concordancelaw14_ScoreBest.f
  refine Ev.bind (few_ev l) (Ev.bind (as_ev _ (by omega)) (Ev.const hm ?_))
  by_cases h : a < 0
  · refine Ev.pos h ?_
    rw [wrap_small (a + 1) (by omega), wrap_small _ (by omega)]
    exact bestlaw_j _ (fewL_len l) _ (by omega) m (by omega)
  · exact Ev.neg h (bestlaw_j _ (fewL_len l) _ (by omega) m (by omega))
theorem i64_bounds_b {n : Int} (h : (Lit.int .i64 n).wf = true) : -9223372036854775808 ≤ n ∧ n ≤ 9223372036854775807 := by
  have hnb : IntKind.i64.min ≤ n ∧ n ≤ IntKind.i64.max := by simpa [Lit.wf] using h
  exact hnb
theorem scoreBest_walk (A0 : Option Addr) (c0 : Nat) (l : List S23) (a k : Int) (w : World) (hr0 : Kd.C k23 w A0 l.length l) (hc0 : l.length ≤ c0) (ha : (Lit.int .i64 a).wf = true) (hk : (Lit.int .i64 k).wf = true) :
    Calls Try.prog 6 #[.slice A0 l.length c0, .int .i64 a, .int .i64 k] w fun e w' => e = .returned (.bool true) ∧ Below w.heap.size w w' := by
  obtain ⟨n, hn⟩ := (bestlaw_ev l a k (i64_bounds_b ha).1 (i64_bounds_b hk).1 (i64_bounds_b hk).2).rounds
  exact concordancelaw14_ScoreBest.calls n A0 c0 l a k true w hr0 hc0 hn
end Go.Proofs.Ytkjffoeelfodhaa
