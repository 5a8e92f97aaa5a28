/- A mutex is given up, and one has it that waited. No condition but on size. -/
import Derived.Test.YtcfkmhmgappckaaGive
namespace Go.Proofs.Ytcfkmhmgappckaa
open Go.RowKit Go.Proofs.Ytcfkmhmgappckaa.Sc Go.Proofs.Ytcfkmhmgappckaa.PAll Go.Proofs.YtcfkmhmgappckaaW.PrintWords Go.Proofs.YtcfkmhmgappckaaW.PrintLast Go.Proofs.YtcfkmhmgappckaaW.PrintMore

theorem grown_refl (w : World) (ob : Option Nat) : w.grownBy w ob := ⟨rfl, rfl, rfl, Nat.le_refl _, fun _ _ _ => rfl⟩
set_option maxHeartbeats 1000000 in
set_option maxRecDepth 100000 in
theorem give_cons {w : World} {base g bT bM bR : Nat} {vs us : List (Option Nat × Value)} {S : Sd} (h : IsS w base g bT bM bR vs us S) (m t : Nat) (r : List Int) (hm : m < S.M.length) (hr : (S.M[m]).2 = (t : Int) :: r) (ht : t < S.T.length) :
    Calls Try.prog 32 #[.pointer (some ⟨g, 0, none⟩), .int .i64 (m : Int)] w fun e w' => e = .returned (.tuple #[]) ∧ ∃ ob ob' v' v0, vs[m]? = some (ob, v0) ∧ ob' = ob ∧ IsS w' base g bT bM bR (vs.set m (ob', v')) us (setT (setM S m ((t : Int), r)) t 0) ∧ ∀ F : Nat → Prop, (F bM ∧ F bT) → Moves F w w' := by
  have d0 := h.c1
  obtain ⟨d2, ⟨ob, v0⟩, hv, d3⟩ := h.cM m hm
  have hR := h.rows m _ _ (List.getElem?_eq_getElem hm) hv
  rw [hr] at hR
  have hR0 : RowIn w base 3 1 ob v0 ([.int .i64 (t : Int)] :: ints r) := hR
  obtain ⟨b, o, cap, e1, e2, hcap⟩ := RowIn.form hR0
  rw [e1, e2] at hR0
  have dh := RowIn.head hR0
  have d2' : w.cell? ⟨bM, m * 2, none⟩ = some (.int .i64 (S.M[m]).1) := by rw [Nat.mul_comm]; exact d2
  have hil : (ints r).length = r.length := by simp [ints]
  rw [hil] at hR0 hcap e2
  have d3' : w.cell? ⟨bM, m * 2 + 1, none⟩ = some (.slice (some ⟨b, o, none⟩) (r.length + 1) cap) := by rw [Nat.mul_comm]; rw [d3, e2]
  have g1 : ((m : Nat) : Int) < (S.M.length : Int) := by omega
  obtain ⟨n1, n2, n3, n4, n5, n6⟩ := h.ne3
  have n2' : ¬ g = bM := fun e => n2 e.symm
  have hmem : (ob, v0) ∈ vs ++ us := by have := List.mem_of_getElem? hv; simp [this]
  have nb1 : ¬ bM = b := fun e => h.far (b := bM) (by simp) _ hmem (by rw [e, ← e1])
  have nb2 : ¬ b = bM := fun e => nb1 e.symm
  have z1 : w.frozen? ⟨bM, m * 2, none⟩ = false := by simp [World.frozen?, h.M]
  have z2 : w.frozen? ⟨bM, m * 2 + 1, none⟩ = false := by simp [World.frozen?, h.M]
  have h1 := h.setO m hm (-1)
  have hR1 : RowIn (w.setCell ⟨bM, m * 2, none⟩ (.int .i64 (-1))) base 3 1 (some b) (.slice (some ⟨b, o, none⟩) (r.length + 1) cap) ([.int .i64 (t : Int)] :: ints r) := hR0.same (fun k hk => Below.heap_setCell w ⟨bM, m * 2, none⟩ _ k (fun e => nb2 (by cases hk; exact e)))
  have hR2 := RowIn.tail hR1
  have hv1 := hv
  rw [e1] at hv1
  have hmS : m < (setM S (m : Int) (-1, (S.M[m]).2)).M.length := by simpa [Sc.setM] using hm
  have h2 := h1.setV m hmS (r' := r) hv1 (grown_refl _ _) hR2 (.inr (.inl rfl))
  have hS2 : (setM (setM S (m : Int) (-1, (S.M[m]).2)) (m : Int) (((setM S (m : Int) (-1, (S.M[m]).2)).M[m]'hmS).1, r)) = setM S m (-1, r) := by simp [Sc.setM]
  rw [hS2] at h2
  have hmu : ((setM S m (-1, r)).M[m]'(by simpa [Sc.setM] using hm)) = (-1, r) := by simp [Sc.setM]
  have h3 := fun w' (hw : IsS w' base g bT bM bR (vs.set m (some b, .slice (some ⟨b, if cap = 1 then o else o + 1, none⟩) (r.length + 1 - 1) (cap - 1))) us (setM S m (-1, r))) => come_free hw t m (by simpa [Sc.setM] using ht) (by simpa [Sc.setM] using hm) (by rw [hmu])
  rw [hmu] at h3
  have hS3 : setT (setM (setM S m (-1, r)) m ((t : Int), r)) t 0 = setT (setM S m ((t : Int), r)) t 0 := by simp [Sc.setM]
  rw [hS3] at h3
  have H1 := Lib.hid h2
  have H3 := Lib.hid h3
  have HV := Lib.hid hv
  have HE := Lib.hid e1
  clear h h1 h2 h3 hS2 hS3 hmu hv1 hR1 hR2 hR0 hR e1 e2 d2 d3 hil hv hmS
  by_cases hc1 : cap = 1
  · have hr0 : r.length = 0 := by omega
    subst hc1
    have hr1 : r = [] := List.eq_nil_of_length_eq_zero hr0
    subst hr1
    rw [if_pos rfl] at H1 H3
    clear hr0
    go_enter Try.func32, Try.ntmps32
    go_wp2_with fail
    refine (H3.out _ H1.out).mono ?_
    rintro e w' ⟨rfl, h5, h6⟩
    have H5 := Lib.hid h5
    have H6 := Lib.hid h6
    clear h5 h6
    go_wp2_with fail
    go_end0
    exact ⟨rfl, ob, some b, _, v0, HV.out, HE.out.symm, H5.out, fun F hF => (((Moves.refl F w).store ⟨bM, m * 2, none⟩ _ hF.1).store ⟨bM, m * 2 + 1, none⟩ _ hF.1).trans' (H6.out F hF)⟩
  · rw [if_neg hc1] at H1 H3
    have g5 : 2 ≤ cap := by omega
    go_enter Try.func32, Try.ntmps32
    go_wp2_with fail
    trace_state
    refine (H3.out _ H1.out).mono ?_
    rintro e w' ⟨rfl, h5, h6⟩
    have H5 := Lib.hid h5
    have H6 := Lib.hid h6
    clear h5 h6
    go_wp2_with fail
    go_end0
    exact ⟨rfl, ob, some b, _, v0, HV.out, HE.out.symm, H5.out, fun F hF => (((Moves.refl F w).store ⟨bM, m * 2, none⟩ _ hF.1).store ⟨bM, m * 2 + 1, none⟩ _ hF.1).trans' (H6.out F hF)⟩
end Go.Proofs.Ytcfkmhmgappckaa
