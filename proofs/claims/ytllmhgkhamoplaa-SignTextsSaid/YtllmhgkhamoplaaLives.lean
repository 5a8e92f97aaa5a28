import Derived.Test.YtllmhgkhamoplaaKinds
import Derived.Test.YtllmhgkhamoplaaSigns
namespace Go.Proofs.Ytllmhgkhamoplaa
open Go.RowKit

theorem introw_cases {base : Nat} {w : World} {v : Value} {l : List Int} (h : IntRow base w v l) (n : Nat) (hn : l.length = n) (hl : 0 < n) :
    ∃ g cap, v = .slice (some ⟨g, 0, none⟩) n cap ∧ base ≤ g ∧ n ≤ cap ∧ cap ≤ maxLen ∧ ∀ j, j < n → w.cell? ⟨g, j, none⟩ = some (.int .i64 (l.getD j 0)) := by
  subst hn
  have hc := fun g hg => World.ownsRow.cells h (g := g) hg
  rcases h.2 with ⟨_, h0⟩ | ⟨g, cap, cur, rfl, hb, hgg, hn, hm, _, _⟩
  · omega
  · refine ⟨g, cap, rfl, hb, hn, hm, fun j hj => ?_⟩
    have := hc g rfl j (.int .i64 (l.getD j 0)) (by simp [List.getElem?_map, List.getElem?_eq_getElem hj, List.getD_eq_getElem?_getD])
    have e : (⟨g, 0, none⟩ : Addr).add j = ⟨g, j, none⟩ := by unfold Addr.add; split <;> simp_all
    rwa [e] at this

set_option maxHeartbeats 1000000 in
theorem lives_any (w : World) :
    Calls Try.prog 13 #[] w fun e w' => e = .returned (.bool true) ∧ Below w.heap.size w w' := by
  go_enter Try.func13, Try.ntmps13
  go_wp2_with fail
  refine (signs_any _ _ (by decide)).mono ?_
  rintro e w1 ⟨v, rfl, hrow, hb⟩
  have hl : signs (ByteArray.mk #[97, 255]).data.toList = [97, 65533] := by decide
  rw [hl] at hrow
  obtain ⟨g, cap, rfl, -, -, -, hc⟩ := introw_cases hrow 2 rfl (by decide)
  have hc0 : w1.cell? ⟨g, 0, none⟩ = some (.int .i64 97) := hc 0 (by decide)
  have hc1 : w1.cell? ⟨g, 1, none⟩ = some (.int .i64 65533) := hc 1 (by decide)
  clear hc hl hrow
  have hf : fold 196 = 228 := by decide
  have hg : letterB 196 = true := by decide
  go_wp2_with (first
    | (go_at_call 11; refine (fold_any _ _).mono ?_; rintro e w' ⟨rfl, rfl⟩)
    | (go_at_call 8; refine (letter_any _ _).mono ?_; rintro e w' ⟨rfl, rfl⟩))
  go_ret
  exact ⟨rfl, hb⟩
end Go.Proofs.Ytllmhgkhamoplaa
