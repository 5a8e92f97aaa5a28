/- The document's example. No condition. -/
import Derived.Test.YtcfkmhmgappckaaNew
namespace Go.Proofs.Ytcfkmhmgappckaa
open Go.RowKit Go.Proofs.Ytcfkmhmgappckaa.Sc Go.Proofs.Ytcfkmhmgappckaa.PAll Go.Proofs.YtcfkmhmgappckaaW.PrintWords Go.Proofs.YtcfkmhmgappckaaW.PrintLast Go.Proofs.YtcfkmhmgappckaaW.PrintMore

/-- What moves the blocks from B on alone leaves what is below B. -/
theorem movesBelow {B : Nat} {w w' w1 : World} (h : Moves (fun k => B ≤ k ∧ k < w1.heap.size) w w') (hB : B ≤ w.heap.size) : Below B w w' :=
  ⟨h.os, h.tape, h.output, h.size, fun k hk => h.block k (by omega) (fun e => by omega)⟩
theorem ex1 : lock (newS 2 1 0) 0 0 = (⟨[0, 0], [(0, [])], []⟩, true, 0) := rfl
theorem ex2 : lock ⟨[0, 0], [(0, [])], []⟩ 1 0 = (⟨[0, 1], [(0, [1])], []⟩, false, 0) := rfl
theorem ex3 : unlock ⟨[0, 1], [(0, [1])], []⟩ 0 0 = (⟨[0, 0], [(1, [])], []⟩, 0) := rfl
set_option maxHeartbeats 1000000 in
set_option maxRecDepth 100000 in
theorem lives_any (w : World) : Calls Try.prog 14 #[] w fun e w' => e = .returned (.bool true) ∧ Below w.heap.size w w' := by
  have k0 := Ok.new 2 1 0
  have k1 := k0.lock 0 0
  rw [ex1] at k1
  have k2 := k1.lock 1 0
  rw [show (lock (⟨[0, 0], [(0, [])], []⟩ : Sd) 1 0) = _ from ex2] at k2
  go_enter Try.func14, Try.ntmps14
  go_wp2_with fail
  refine (new_any w 2 1 0 (by omega) (by omega) (by omega)).mono ?_
  rintro e w1 ⟨g, rfl, s1, b1⟩
  have H1 := Lib.hid s1
  have B1 := Lib.hid b1
  clear s1 b1
  have c1 := lock_any H1.out B1.out.size k0 (by decide) (by decide) 0 0
  rw [ex1] at c1
  have C1 := Lib.hid c1
  clear c1
  go_wp2_with fail
  refine C1.out.mono ?_
  rintro e w2 ⟨rfl, s2⟩
  have H2 := Lib.hid s2
  clear s2 C1
  have z2 : w.heap.size ≤ w2.heap.size := Nat.le_trans B1.out.size H2.out.2.size
  have c2 := lock_any H2.out.1 z2 k1 (by decide) (by decide) 1 0
  rw [show (lock (⟨[0, 0], [(0, [])], []⟩ : Sd) 1 0) = _ from ex2] at c2
  have C2 := Lib.hid c2
  clear c2
  go_wp2_with fail
  refine C2.out.mono ?_
  rintro e w3 ⟨rfl, s3⟩
  have H3 := Lib.hid (H2.out.trans s3)
  clear s3 C2 H2
  have z3 : w.heap.size ≤ w3.heap.size := Nat.le_trans B1.out.size H3.out.2.size
  go_wp2_with fail
  refine (state_sch H3.out.1 (by decide) 1).mono ?_
  rintro e w4 ⟨rfl, rfl⟩
  have c4 := unlock_any H3.out.1 z3 k2 (by decide) (by decide) (by decide) 0 0
  rw [show (unlock (⟨[0, 1], [(0, [1])], []⟩ : Sd) 0 0) = _ from ex3] at c4
  have C4 := Lib.hid c4
  clear c4
  have es : stT (⟨[0, 1], [(0, [1])], []⟩ : Sd) 1 = 1 := rfl
  rw [es]
  clear es
  go_wp2_with fail
  refine C4.out.mono ?_
  rintro e w5 ⟨rfl, s5⟩
  have H5 := Lib.hid (H3.out.trans s5)
  clear s5 C4 H3
  have o5 : owner (⟨[0, 0], [(1, [])], []⟩ : Sd) 0 = 1 := rfl
  have o6 : stT (⟨[0, 0], [(1, [])], []⟩ : Sd) 1 = 0 := rfl
  have c5 := owner_sch H5.out.1 (by decide) 0
  have c6 := state_sch H5.out.1 (by decide) 1
  rw [o5] at c5
  rw [o6] at c6
  have C5 := Lib.hid c5
  have C6 := Lib.hid c6
  clear c5 c6 o5 o6
  go_wp2_with fail
  refine C5.out.mono ?_
  rintro e w6 ⟨rfl, rfl⟩
  go_wp2_with fail
  refine C6.out.mono ?_
  rintro e w7 ⟨rfl, rfl⟩
  go_wp2_with fail
  go_ret
  exact ⟨rfl, B1.out.trans (movesBelow H5.out.2 B1.out.size)⟩
end Go.Proofs.Ytcfkmhmgappckaa
