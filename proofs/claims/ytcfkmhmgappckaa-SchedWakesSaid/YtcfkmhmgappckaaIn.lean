/- sched: is there such a place? No condition. -/
import Derived.Test.YtcfkmhmgappckaaShelf
import Derived.Test.YtcfkmhmgappckaaRows
import Derived.Test.YtcfkmhmgappckaaSchedP
import Derived.WalkKit
import Derived.WalkSpells
import Derived.WalkLawsBesides
namespace Go.Proofs.Ytcfkmhmgappckaa
open Go.RowKit Go.Proofs.Ytcfkmhmgappckaa.Sc

theorem ret_bool {a b : Bool} (h : a = b) : Ending.returned (.bool a) = .returned (.bool b) := by rw [h]
def inB (n : Nat) (i : Int) : Bool := decide (0 ≤ i) && decide (i < n)
set_option maxHeartbeats 400000 in
theorem in_int (A : Option Addr) (n c : Nat) (i : Int) (w : World) (hn : n ≤ 1000000000000) :
    Calls Try.prog 29 #[.slice A n c, .int .i64 i] w fun e w' => e = .returned (.bool (inB n i)) ∧ w' = w := by
  go_enter Try.func29, Try.ntmps29
  go_wp2
  all_goals
    go_ret
    exact ⟨ret_bool (by unfold inB; rw [Bool.eq_iff_iff]; simp; try omega), rfl⟩
set_option maxHeartbeats 400000 in
theorem in_mutex (A : Option Addr) (n c : Nat) (i : Int) (w : World) (hn : n ≤ 1000000000000) :
    Calls Try.prog 30 #[.slice A n c, .int .i64 i] w fun e w' => e = .returned (.bool (inB n i)) ∧ w' = w := by
  go_enter Try.func30, Try.ntmps30
  go_wp2
  all_goals
    go_ret
    exact ⟨ret_bool (by unfold inB; rw [Bool.eq_iff_iff]; simp; try omega), rfl⟩
set_option maxHeartbeats 400000 in
theorem in_rests (A : Option Addr) (n c : Nat) (i : Int) (w : World) (hn : n ≤ 1000000000000) :
    Calls Try.prog 33 #[.slice A n c, .int .i64 i] w fun e w' => e = .returned (.bool (inB n i)) ∧ w' = w := by
  go_enter Try.func33, Try.ntmps33
  go_wp2
  all_goals
    go_ret
    exact ⟨ret_bool (by unfold inB; rw [Bool.eq_iff_iff]; simp; try omega), rfl⟩
end Go.Proofs.Ytcfkmhmgappckaa
