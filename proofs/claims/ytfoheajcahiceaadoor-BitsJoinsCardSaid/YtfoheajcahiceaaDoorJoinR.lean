/- Sets of numbers as bits: the document's Join and Not. No condition but on size. -/
import Derived.Test.YtfoheajcahiceaaDoorJoin
namespace Go.Proofs.YtfoheajcahiceaaDoor
open Go.RowKit Go.Shelf Go.Proofs.YtfoheajcahiceaaDoor.PAll Go.Proofs.YtfoheajcahiceaaDoorW.PrintWords Go.Proofs.YtfoheajcahiceaaDoorW.PrintLast Go.Proofs.YtfoheajcahiceaaDoorW.PrintMore

/-- The first i are as f says, the others not. -/
def firstB (f : Nat → Bool) (n i : Nat) : List Bool := (List.range n).map (fun j => decide (j < i) && f j)
theorem firstB_len (f : Nat → Bool) (n i : Nat) : (firstB f n i).length = n := by unfold firstB; simp
theorem firstB_get (f : Nat → Bool) (n i k : Nat) (h : k < n) : (firstB f n i)[k]? = some (decide (k < i) && f k) := by unfold firstB; simp [h]
theorem firstB_zero (f : Nat → Bool) (n : Nat) : List.replicate n false = firstB f n 0 := by
  apply List.ext_getElem?
  intro k
  by_cases hk : k < n
  · rw [firstB_get f n 0 k hk]; simp [hk]
  · rw [List.getElem?_eq_none (by simp; omega), List.getElem?_eq_none (by rw [firstB_len]; omega)]
theorem firstB_succ (f : Nat → Bool) (n i : Nat) (h : i < n) : (firstB f n i).set i (f i) = firstB f n (i + 1) := by
  apply List.ext_getElem?
  intro k
  by_cases hk : k < n
  · rw [firstB_get f n (i + 1) k hk, List.getElem?_set]
    by_cases hki : i = k
    · subst hki; rw [if_pos rfl, if_pos (by rw [firstB_len]; exact h)]; simp
    · rw [if_neg hki, firstB_get f n i k hk]
      have : (k < i + 1) ↔ (k < i) := by omega
      simp only [this]
  · rw [List.getElem?_eq_none (by rw [List.length_set, firstB_len]; omega), List.getElem?_eq_none (by rw [firstB_len]; omega)]
theorem firstB_not (r : List Bool) : firstB (fun j => !bit r j) r.length r.length = notB r := by
  apply List.ext_getElem?
  intro k
  by_cases hk : k < r.length
  · rw [firstB_get _ _ _ k hk]; unfold notB bit; simp [hk]
  · rw [List.getElem?_eq_none (by rw [firstB_len]; omega), List.getElem?_eq_none (by rw [notB_len]; omega)]
theorem firstB_join (a b : List Bool) (or : Bool) : firstB (fun i => (bit a i && bit b i) || (or && (bit a i || bit b i))) (max a.length b.length) (max a.length b.length) = joinB a b or := by
  unfold firstB joinB
  apply List.map_congr_left
  intro k hk
  rw [List.mem_range] at hk
  rw [decide_eq_true hk, Bool.true_and]

theorem ref_not_go (r : List Bool) (hl : r.length ≤ 100000) : ∀ (m i k : Nat), i + m = r.length → m < k → concordanceref03_Not.l0 k r (firstB (fun j => !bit r j) r.length i) (i : Int) = some (notB r) := by
  intro m
  induction m with
  | zero =>
    intro i k hi hk
    obtain ⟨k, rfl⟩ : ∃ k', k = k' + 1 := ⟨k - 1, by omega⟩
    obtain rfl : i = r.length := by omega
    unfold concordanceref03_Not.l0
    rw [firstB_len, if_neg (by omega), firstB_not]
  | succ m ih =>
    intro i k hi hk
    obtain ⟨k, rfl⟩ : ∃ k', k = k' + 1 := ⟨k - 1, by omega⟩
    unfold concordanceref03_Not.l0
    rw [firstB_len, if_pos (by omega), if_pos (by omega), if_pos (by omega), rdOf_bit, Int.toNat_natCast, show (!bit r i) = (fun j => !bit r j) i from rfl, firstB_succ _ _ i (by omega), show wrap64 ((i : Int) + 1) = ((i + 1 : Nat) : Int) by unfold wrap64; omega]
    exact ih (i + 1) k (by omega) (by omega)
theorem ref_not (r : List Bool) (hl : r.length ≤ 100000) : ∃ k, concordanceref03_Not.f k r = some (notB r) := by
  refine ⟨r.length + 1, ?_⟩
  unfold concordanceref03_Not.f
  rw [if_pos (by omega), if_pos (by omega), Int.toNat_natCast, firstB_zero (fun j => !bit r j)]
  exact ref_not_go r hl r.length 0 (r.length + 1) (by omega) (by omega)
theorem hasB_nat (r : List Bool) (i : Nat) : hasB r (i : Int) = bit r i := by
  unfold hasB
  by_cases h : i < r.length
  · rw [decide_eq_true (by omega), decide_eq_true (by omega)]; rfl
  · rw [bit_out (by omega), decide_eq_false (show ¬ (i : Int) < r.length by omega)]; simp [bit_out (show r.length ≤ i by omega)]

set_option maxHeartbeats 2000000 in
set_option maxRecDepth 100000 in
theorem ref_join (A B : Option Addr) (a b : List Bool) (ca cb : Nat) (or : Bool) (w : World) (hA : Kd.C Kd.bool w A a.length a) (hB : Kd.C Kd.bool w B b.length b) (hca : a.length ≤ ca) (hcb : b.length ≤ cb) (hla : a.length ≤ 100000) (hlb : b.length ≤ 100000) :
    Calls Tryd.prog 27 #[.slice A a.length ca, .slice B b.length cb, .bool or] w fun e w' => ∃ v, e = .returned v ∧ Kd.R Kd.bool 4 w' w.heap.size (fun _ => True) v (joinB a b or) ∧ Below w.heap.size w w' := by
  obtain ⟨q, hq⟩ : ∃ q : Nat, max a.length b.length = q := ⟨_, rfl⟩
  have HJ := Lib.hid (firstB_join a b or)
  obtain ⟨F, hF⟩ : ∃ F : Nat → Bool, F = fun i => (bit a i && bit b i) || (or && (bit a i || bit b i)) := ⟨_, rfl⟩
  rw [hq, ← hF] at HJ
  have HM := Lib.hid (show (if a.length < b.length then (b.length : Int) else (a.length : Int)) = (q : Int) by split <;> omega)
  have HF := Lib.hid hF
  have hq2 : q ≤ 100000 := by omega
  have HC := Lib.hid (And.intro hA (And.intro hB (And.intro hca hcb)))
  clear hF hq hA hB hca hcb
  revert HJ HF
  cases or
  all_goals
    intro HJ HF
    go_enter Tryd.func27, Tryd.ntmps27
    go_upto_region 1 with fail
    go_cut [7] (fun v7 wx => ∃ A1 c1, v7 = .slice A1 q c1 ∧ Kd.R Kd.bool 4 wx w.heap.size (fun _ => True) (.slice A1 q c1) (firstB F q 0) ∧ Below w.heap.size w wx)
    case first =>
      by_cases hab : a.length < b.length
      all_goals
        have hM := HM.out
        first | rw [if_pos hab] at hM | rw [if_neg hab] at hM
        have hbig : (q : Int).toNat * 1 ≤ 281474976710656 := by omega
        have hnn : 0 ≤ (q : Int) := by omega
        go_wp2_with (at_make; go_loud (refine Kd.R_make Kd.bool (w0 := w) w.heap.size 4 rfl rfl 24 (.tmp 15) (.tmp 15) rfl (q : Int) rfl rfl Tryd.underlying24 (.bool false) 1 infoBool rfl (by decide) (by decide) false (ok := fun _ => True) (okp := fun _ => True) rfl (fun _ _ => trivial) trivial hnn hbig (Below.refl _ _) (Nat.le_refl _) ?_))
        intro v1 w1 hR hb1 hg1 kb hk1 hk2
        rw [firstB_zero F] at hR
        obtain ⟨A1, c1, rfl⟩ := Kd.R_slice hR
        rw [firstB_len] at hR ⊢
        clear hM hk1 hk2 hg1 hnn hbig
        go_wp2_with fail
        go_meet
        exact ⟨A1, c1, rfl, hR, hb1⟩
    case rest =>
    obtain ⟨A1, c1, rfl, hR, hb1⟩ := hcut
    go_wp2_with fail
    go_loopw [8] (fun vk wr => ∃ i : Nat, i ≤ q ∧ vk = .int .i64 i ∧ Kd.R Kd.bool 4 wr w.heap.size (fun _ => True) (.slice A1 q c1) (firstB F q i) ∧ Below w.heap.size w wr) (fun vk _ => q - (intOf vk).toNat)
    case atStart => exact ⟨0, by omega, rfl, hR, hb1⟩
    case round =>
      clear hR hb1
      obtain ⟨i, hi, rfl, hR, hb⟩ := hrel
      by_cases hlt : i < q
      · have hCa := Kd.C_below HC.out.1 hb
        have hCb := Kd.C_below HC.out.2.1 hb
        have p0 := eq_true (show (0 : Int) ≤ (i : Int) by omega)
        have p1 := eq_true (show (i : Int) < (q : Int) by omega)
        go_wp2_with fail
        refine (concordanceref03_Has.calls A ca a i _ wr hCa HC.out.2.2.1 (ref_has a i)).mono ?_
        rintro e w2 ⟨rfl, hd2⟩
        have hb2 := below_drawn hd2
        have hB2 := hb.trans (hb2.mono hb.size)
        have hR2 := Kd.R_below hR hb2
        have hC2 := Kd.C_below hCb hb2
        clear hR hb2 hd2 hCa hCb hb
        go_wp2_with fail
        refine (concordanceref03_Has.calls B cb b i _ w2 hC2 HC.out.2.2.2 (ref_has b i)).mono ?_
        rintro e w3 ⟨rfl, hd3⟩
        have hb3 := below_drawn hd3
        have hB3 := hB2.trans (hb3.mono hB2.size)
        have hR3 := Kd.R_below hR2 hb3
        rw [hasB_nat, hasB_nat]
        clear hR2 hb3 hd3 hC2 hB2
        obtain ⟨gq, cap, hA1, hge, -, -⟩ := Kd.R_form hR3 (by rw [firstB_len]; omega)
        rw [firstB_len] at hA1
        cases hA1
        obtain ⟨hp, hgr⟩ := Kd.R_putg hR3 (i : Int) (F i)
        obtain ⟨hy, hfz⟩ := Kd.R_celln false hR3 (i : Int) (by omega) (by omega)
        rw [Int.toNat_natCast] at hp hy hfz
        rw [firstB_succ F q i hlt] at hp
        have hb2 : Below w.heap.size w (w3.setCell ⟨gq, i, none⟩ (.bool (F i))) := hB3.setCell (p := ⟨gq, i, none⟩) hge _
        have hFi := congrFun HF.out i
        rw [hFi] at hp hb2
        have HP := Lib.hid (show Kd.R Kd.bool 4 _ w.heap.size (fun _ => True) (.slice (some ⟨gq, 0, none⟩) q c1) (firstB F q (i + 1)) from hp)
        have HB2 := Lib.hid hb2
        clear hp hgr hb2 hge hB3 hR3 hFi
        generalize bit a i = X at *
        generalize bit b i = Y at *
        cases X <;> cases Y
        all_goals
          go_wp2_with fail
          go_roundw
          case rel => exact ⟨i + 1, by omega, by go_num, by simpa using HP.out, by simpa using HB2.out⟩
          case measure => simp [intOf]; omega
      · obtain rfl : i = q := by omega
        rw [HJ.out] at hR
        go_wp2_with fail
        go_ret
        exact ⟨_, rfl, hR, hb⟩
end Go.Proofs.YtfoheajcahiceaaDoor
