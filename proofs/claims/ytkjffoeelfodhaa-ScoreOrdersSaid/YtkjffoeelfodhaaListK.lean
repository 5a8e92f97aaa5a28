/- The best of many: List: a clone, sorted. No condition but on size. -/
import Derived.Test.YtkjffoeelfodhaaTop
import Derived.Sort.OwnSorted
import Derived.Shelf.SlSortCmp.NoneTotal
namespace Go.Proofs.Ytkjffoeelfodhaa
open Go.RowKit Go.Shelf Go.Sort Go.Proofs.Ytkjffoeelfodhaa.Sc Go.Proofs.Ytkjffoeelfodhaa.PAll Go.Proofs.YtkjffoeelfodhaaW.PrintWords Go.Proofs.YtkjffoeelfodhaaW.PrintLast Go.Proofs.YtkjffoeelfodhaaW.PrintMore

theorem encK_len (x : Rk) : (encK x).length = 3 := rfl
theorem swoR : SWO (ltOf cfR) where
  irrefl x := by show decide (cfR x x < 0) = false; rw [cfR_lt]; exact bet_irrefl x
  trans x y z h1 h2 := by
    have h1 : bet x y = true := by rw [← cfR_lt]; exact h1
    have h2 : bet y z = true := by rw [← cfR_lt]; exact h2
    show decide (cfR x z < 0) = true
    rw [cfR_lt]; exact bet_trans h1 h2
  ntrans x y z h1 h2 := by
    have h1 : bet x y = false := by rw [← cfR_lt]; exact h1
    have h2 : bet y z = false := by rw [← cfR_lt]; exact h2
    show decide (cfR x z < 0) = false
    rw [cfR_lt]; exact bet_le_le h2 h1
theorem totR (x y : Rk) (h1 : ltOf cfR x y = false) (h2 : ltOf cfR y x = false) : x = y := by
  have h1 : bet x y = false := by rw [← cfR_lt]; exact h1
  have h2 : bet y x = false := by rw [← cfR_lt]; exact h2
  exact bet_total h1 h2
theorem sort_merge (l : List Rk) : (l.mergeSort fun x y => !(ltOf cfR) y x) = sortR l := by
  refine sortR_eq ?_ (List.mergeSort_perm l _)
  have hs := List.pairwise_mergeSort (le := fun x y => !(ltOf cfR) y x) ?_ ?_ l
  · refine List.Pairwise.imp ?_ hs
    intro a b h
    have h2 : ltOf cfR b a = false := by simpa using h
    rw [← cfR_lt]; exact h2
  · intro a b c h1 h2
    have h1 : bet b a = false := by rw [← cfR_lt]; simpa [ltOf] using h1
    have h2 : bet c b = false := by rw [← cfR_lt]; simpa [ltOf] using h2
    have h3 := bet_le_le h1 h2
    rw [← cfR_lt] at h3
    simpa [ltOf] using h3
  · intro a b
    show (!decide (cfR b a < 0) || !decide (cfR a b < 0)) = true
    rw [cfR_lt, cfR_lt]
    cases h : bet b a
    · rfl
    · rw [bet_asymm h]; rfl
theorem cmpLaysR (blk off size : Nat) (w : World) : CmpLays Try.prog 18 #[] encK 3 cfR blk off size w :=
  fun _ _ _ _ x y => compare_any x y _

/-- What a row's cells are. -/
theorem flat_get (ys : List Rk) (j i : Nat) (hj : j < ys.length) (hi : i < 3) : (flatK encK 3 ys.toArray)[j * 3 + i]? = (encK ys[j])[i]? := by
  have hsz : (flatK encK 3 ys.toArray).size = ys.length * 3 := by simp
  have ht : j * 3 + i < ys.toArray.size * 3 := by simp; omega
  have h := get_flatK encK 3 ys.toArray (j * 3 + i) ht
  have e1 : (j * 3 + i) / 3 = j := by omega
  have e2 : (j * 3 + i) % 3 = i := by omega
  rw [e1, e2] at h
  rw [Array.getElem?_eq_getElem (by rw [hsz]; omega)]
  rw [getElem!_pos _ _ (by rw [hsz]; omega)] at h
  rw [h]
  have e3 : ys.toArray[j]! = ys[j] := by simp [getElem!_pos, hj]
  rw [e3]
  rw [List.getElem?_eq_getElem (by rw [encK_len]; exact hi), getElem!_pos _ _ (by rw [encK_len]; exact hi)]
theorem take_putCells_id (cur F : Array Value) (h : F.size ≤ cur.size) : (putCells id 0 F cur).toList.take F.size = F.toList := by
  apply List.ext_getElem?
  intro j
  by_cases hj : j < F.size
  · rw [List.getElem?_take_of_lt hj, Array.getElem?_toList, Array.getElem?_toList]
    simp [putCells, hj, show j < cur.size by omega]
  · rw [List.getElem?_take_eq_none (by omega), Array.getElem?_toList, Array.getElem?_eq_none (by omega)]
/-- Behind the sort. -/
theorem sorted_row {w : World} {base gb cap m : Nat} {os : Array Obj} {K ys : List Rk} (hR : Kd.R k28 28 w base (fun _ => True) (.slice (some ⟨gb, 0, none⟩) K.length cap) (K.map ofR)) (hl : ys.length = K.length) :
    Kd.R k28 28 (sortWorldK encK 3 w gb 0 m ys.toArray os) base (fun _ => True) (.slice (some ⟨gb, 0, none⟩) K.length cap) (ys.map ofR) ∧ w.grownBy (sortWorldK encK 3 w gb 0 m ys.toArray os) (some gb) := by
  obtain ⟨_, inner, ho, _⟩ := hR
  rw [List.length_map] at ho
  rcases ho.2 with ⟨e0, _⟩ | ⟨g', cap', cur, e0, hge, hb, h1, h2, h3, h4⟩
  · cases e0
  cases e0
  have hgl : gb < w.heap.size := (Array.getElem?_eq_some_iff.1 hb).1
  have hF : (flatK encK 3 ys.toArray).size = K.length * 3 := by simp [hl]
  have hheap : (sortWorldK encK 3 w gb 0 m ys.toArray os).heap[gb]? = some (.cells (putCells id 0 (flatK encK 3 ys.toArray) cur) 28 (0, 0)) := by
    unfold sortWorldK
    rw [heap_grow_old _ _ (by simpa [putRowK, putRow, mapBlock, Sort.ahead] using hgl)]
    simp [putRowK, putRow, mapBlock, Sort.ahead, Array.getElem?_modify, hb, onCells]
  have h3' : cur.size = cap * 3 := h3
  refine ⟨⟨fun _ _ => trivial, (flatK encK 3 ys.toArray).toList, ⟨by simp [hl]; rfl, .inr ⟨gb, cap, _, by rw [List.length_map, hl], hge, hheap, by rw [List.length_map, hl]; exact h1, h2, by simp [putCells, h3']; rfl, ?_⟩⟩, ?_⟩, ?_⟩
  · rw [List.length_map, hl]
    show (putCells id 0 (flatK encK 3 ys.toArray) cur).toList.take (K.length * 3) = _
    rw [← hF]
    exact take_putCells_id cur _ (by rw [hF, h3']; exact Nat.mul_le_mul_right _ h1)
  · refine ⟨by rw [List.length_map, hl]; simp [hl]; rfl, fun j x hx => ?_⟩
    have hj : j < ys.length := by
      have := (List.getElem?_eq_some_iff.1 hx).1
      rwa [List.length_map] at this
    have hxe : ofR ys[j] = x := by
      rw [List.getElem?_map, List.getElem?_eq_getElem hj] at hx
      simpa using hx
    subst hxe
    have he : ((flatK encK 3 ys.toArray).toList.drop (j * 3)).take 3 = encK ys[j] := by
      apply List.ext_getElem?
      intro i
      by_cases hi : i < 3
      · rw [List.getElem?_take_of_lt hi, List.getElem?_drop, Array.getElem?_toList, flat_get ys j i hj hi]
      · rw [List.getElem?_take_eq_none (by omega), List.getElem?_eq_none (by rw [encK_len]; omega)]
    show k28.M _ _ _ _ (((flatK encK 3 ys.toArray).toList.drop (j * 3)).take 3)
    rw [he]
    exact k28_mkM _ _ _ (ofR ys[j])
  · refine ⟨rfl, rfl, rfl, by simp [sortWorldK, grow, putRowK, putRow, mapBlock, Sort.ahead], fun k hk hne => ?_⟩
    unfold sortWorldK
    rw [heap_grow_old _ _ (by simpa [putRowK, putRow, mapBlock, Sort.ahead] using hk)]
    have : gb ≠ k := fun e => hne (by rw [e])
    simp [putRowK, putRow, mapBlock, Sort.ahead, Array.getElem?_modify, this]

theorem add_zero' (b j : Nat) : (⟨b, 0, none⟩ : Addr).add j = ⟨b, j, none⟩ := by unfold Addr.add; split <;> simp_all
theorem ranks_clone (A : Option Addr) (n c : Nat) (l : List S28) (w : World) (hn : l.length = n) (hr : Kd.C k28 w A n l) (hl : n ≤ 1000000) :
    Calls Try.prog 28 #[.slice A n c] w fun e w' => ∃ v, e = .returned v ∧ Kd.R k28 28 w' w.heap.size (fun _ => True) v l ∧ Below w.heap.size w w' := by
  have heq := fun w => Lib.run_eql_slice_nil (P := Try.prog) w 24 28 A n c 0 0 Try.underlying24
  cases A with
  | none =>
    have h0 : n = 0 := by
      rcases Nat.eq_zero_or_pos n with h | h
      · exact h
      · obtain ⟨ad, e, _⟩ := hr.2.2 h; cases e
    have hl0 : l = [] := List.eq_nil_of_length_eq_zero (by omega)
    subst hl0
    clear hn h0
    go_enter Try.func28, Try.ntmps28
    go_wp2_with fail
    go_ret
    exact ⟨_, rfl, Kd.R_nil _ _ _ _ _, Below.refl _ _⟩
  | some ad =>
    clear hn
    go_enter Try.func28, Try.ntmps28
    go_wp2_with (at_builtin; refine Kd.R_append_rows k28 (w0 := w) w.heap.size rfl (.tmp 5) (.tmp 6) 24 28 (.agg #[.int .i64 0, .int .i64 0, .int .i64 0]) 24 rfl Try.underlying24 info28 rfl (by decide) (by decide) _ [] l (some ad) n c (fun _ => True) (fun _ => False) rfl rfl ?c1 ?c2 (fun _ _ h => h) (fun _ h => h.elim) (fun _ _ => trivial) ?c3 ?c4 ?c5 ?_)
    case c1 => exact ⟨fun _ _ => trivial, [], World.ownsRow_made w #[] 0 (Nat.le_refl _) (Nat.zero_le _) rfl, Reps.none _ _⟩
    case c2 => exact Kd.C_below hr ((Below.refl _ w).alloc (Nat.le_refl _) _)
    case c3 => exact (Below.refl _ w).alloc (Nat.le_refl _) _
    case c4 => simp
    case c5 => rw [List.length_nil]; omega
    intro v1 w1 hR hb _ _
    go_wp2
    go_ret
    exact ⟨_, rfl, hR, hb⟩

set_option maxHeartbeats 1000000 in
set_option maxRecDepth 100000 in
theorem list_any (base g : Nat) (v : Value) (k tot : Int) (K : List Rk) (w : World) (hT : IsTop w base g v k tot K) (hl : K.length ≤ 10000) :
    Calls Try.prog 21 #[.pointer (some ⟨g, 0, none⟩)] w fun e w' => ∃ v, e = .returned v ∧ Kd.R k28 28 w' w.heap.size (fun _ => True) v ((sortR K).map ofR) ∧ Below w.heap.size w w' := by
  obtain ⟨A, c, e0, hc, hC⟩ := Kd.R_reads hT.row
  subst e0
  have d2 := hT.c2
  have hcl := ranks_clone A _ c (K.map ofR) w rfl hC (by rw [List.length_map]; omega)
  rw [List.length_map] at hcl d2
  have HC := Lib.hid hcl
  have HS := Lib.hid (sortR_len K)
  clear hT hC hcl hc
  go_enter Try.func21, Try.ntmps21
  go_wp2_with fail
  refine HC.out.mono ?_
  rintro e w1 ⟨v1, rfl, hR, hb⟩
  rcases Nat.eq_zero_or_pos K.length with h0 | h0
  · obtain rfl : K = [] := List.eq_nil_of_length_eq_zero h0
    obtain ⟨A1, c1, rfl⟩ := Kd.R_slice hR
    have HR := Lib.hid hR
    clear hR h0
    go_wp2_with fail
    refine (AnyF.slices_SortFunc_none Try.sortRank A1 c1 _ w1).mono ?_
    rintro e w2 ⟨rfl, rfl⟩
    go_wp2_with fail
    go_ret
    exact ⟨_, rfl, HR.out, hb⟩
  · obtain ⟨gb, cap, rfl, hge, hgl, cells, hcell⟩ := Kd.R_form hR (by simpa using h0)
    rw [List.length_map] at hR ⊢
    have hH : HoldsK encK 3 w1 gb 0 K.toArray := by
      intro t ht
      simp at ht
      obtain ⟨hn, _, hC⟩ := Kd.R_reads' hR
      have hj : t / 3 < K.length := by omega
      obtain ⟨ad, e, c0, c1, c2⟩ := at_T28 hC ((t / 3 : Nat) : Int) (by omega) (by rw [List.length_map]; omega)
      cases e
      have hrd : rd_T28 (K.map ofR) ((t / 3 : Nat) : Int) = ofR K[t / 3] := by
        unfold rd_T28
        rw [Int.toNat_natCast, List.getD_eq_getElem?_getD, List.getElem?_map, List.getElem?_eq_getElem hj]; rfl
      rw [hrd, Int.toNat_natCast] at c0 c1 c2
      rw [add_zero' gb (t / 3 * 3)] at c0 c1 c2
      have hfl := flat_get K (t / 3) (t % 3) hj (by omega)
      rw [show t / 3 * 3 + t % 3 = t by omega] at hfl
      have hsz : (flatK encK 3 K.toArray).size = K.length * 3 := by simp
      refine ⟨?_, by simp [World.frozen?, hcell]⟩
      rw [getElem!_pos _ _ (by rw [hsz]; omega)]
      rw [Array.getElem?_eq_getElem (by rw [hsz]; omega)] at hfl
      rw [Nat.zero_add]
      have h3 : t % 3 = 0 ∨ t % 3 = 1 ∨ t % 3 = 2 := by omega
      show w1.cell? ⟨gb, t, none⟩ = some (flatK encK 3 K.toArray)[t]
      rcases h3 with h3 | h3 | h3
      · rw [h3] at hfl
        rw [hfl]
        have : t / 3 * 3 = t := by omega
        rw [this] at c0
        exact c0
      · rw [h3] at hfl
        rw [hfl]
        have : t / 3 * 3 + 1 = t := by omega
        rw [this] at c1
        exact c1
      · rw [h3] at hfl
        rw [hfl]
        have : t / 3 * 3 + 2 = t := by omega
        rw [this] at c2
        exact c2
    have eg : ∀ args w, (callFunc 18 args).run Try.prog w = .ok (.enter 18 args) w := enters_of Try.func18 (by kernel_rfl) rfl
    have hsort := AnyQ.slices_SortFunc_total Try.sortRank 3 Try.isAgg28 Try.sizeOf28 encK (fun _ => rfl) (fun x v hv => by simp [encK] at hv; rcases hv with rfl | rfl | rfl <;> rfl) cfR swoR 18 #[] gb 0 cap K.toArray w1 eg (cmpLaysR gb 0 _ w1) hH hgl (by simp; omega) totR
    simp only [List.size_toArray, sort_merge] at hsort
    have HSO := Lib.hid hsort
    have HR := Lib.hid hR
    clear hsort hH eg hR hcell
    go_wp2_with fail
    refine HSO.out.mono ?_
    rintro e w2 ⟨rfl, m, os, rfl⟩
    obtain ⟨s1, s2⟩ := sorted_row (m := m) (os := os) (ys := sortR K) HR.out HS.out
    have hb2 := hb.grown s2 hb.size (fun j hj => by cases hj; exact hge)
    have HX := Lib.hid (And.intro s1 hb2)
    clear s1 s2 hb2
    go_wp2_with fail
    go_ret
    exact ⟨_, rfl, HX.out.1, HX.out.2⟩
end Go.Proofs.Ytkjffoeelfodhaa
