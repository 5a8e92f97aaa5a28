/- A task comes for a mutex. No condition but on size. -/
import Derived.Test.YtcfkmhmgappckaaFoot
import Derived.BigRegion
import Derived.ArgAppend
namespace Go.Proofs.Ytcfkmhmgappckaa
open Go.RowKit Go.Proofs.Ytcfkmhmgappckaa.Sc Go.Proofs.Ytcfkmhmgappckaa.PAll Go.Proofs.YtcfkmhmgappckaaW.PrintWords Go.Proofs.YtcfkmhmgappckaaW.PrintLast Go.Proofs.YtcfkmhmgappckaaW.PrintMore

set_option maxHeartbeats 1000000 in
set_option maxRecDepth 100000 in
theorem come_free {w : World} {base g bT bM bR : Nat} {vs us : List (Option Nat × Value)} {S : Sd} (h : IsS w base g bT bM bR vs us S) (t m : Nat) (ht : t < S.T.length) (hm : m < S.M.length) (hf : (S.M[m]).1 = -1) :
    Calls Try.prog 31 #[.pointer (some ⟨g, 0, none⟩), .int .i64 (t : Int), .int .i64 (m : Int)] w fun e w' => e = .returned (.bool true) ∧ IsS w' base g bT bM bR vs us (setT (setM S m (t, (S.M[m]).2)) t 0) ∧ ∀ F : Nat → Prop, (F bM ∧ F bT) → Moves F w w' := by
  have d0 := h.c0
  have d1 := h.c1
  obtain ⟨d2, v, hv, d3⟩ := h.cM m hm
  have d4 := h.cT t ht
  rw [hf] at d2
  have d2' : w.cell? ⟨bM, m * 2, none⟩ = some (.int .i64 (-1)) := by rw [Nat.mul_comm]; exact d2
  have g1 : ((m : Nat) : Int) < (S.M.length : Int) := by omega
  have g2 : ((t : Nat) : Int) < (S.T.length : Int) := by omega
  have hap := List.pairwise_append.1 h.apart
  have n1 : ¬ bM = g := fun e => by have := hap.1; simp [e] at this
  have n2 : ¬ bT = g := fun e => by have := hap.1; simp [e] at this
  have n3 : ¬ bT = bM := fun e => by have := hap.1; simp [e] at this
  have n1' : ¬ g = bM := fun e => n1 e.symm
  have n2' : ¬ g = bT := fun e => n2 e.symm
  have n3' : ¬ bM = bT := fun e => n3 e.symm
  have z1 : w.frozen? ⟨bM, m * 2, none⟩ = false := by simp [World.frozen?, h.M]
  have z2 : w.frozen? ⟨bT, t, none⟩ = false := by simp [World.frozen?, h.T]
  clear hap
  have HS := Lib.hid h
  clear h d2
  go_enter Try.func31, Try.ntmps31
  go_upto_region 3 with fail
  go_wp2_with fail
  go_ret
  have h := HS.out
  refine ⟨rfl, ?_, fun F hF => ((Moves.refl F w).store ⟨bM, m * 2, none⟩ _ hF.1).store ⟨bT, t, none⟩ _ hF.2⟩
  exact (h.setO m hm t).setT t (by simpa [Sc.setM] using ht) 0
end Go.Proofs.Ytcfkmhmgappckaa
