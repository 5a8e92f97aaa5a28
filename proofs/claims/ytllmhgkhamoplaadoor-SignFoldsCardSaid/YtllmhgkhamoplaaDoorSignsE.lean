import Derived.Test.YtllmhgkhamoplaaDoorSigns
import Derived.Test.YtllmhgkhamoplaaDoorPAllx0
namespace Go.Proofs.YtllmhgkhamoplaaDoor
open Go.RowKit Go.Proofs.YtllmhgkhamoplaaDoorW.PrintWords

def sign_Signs.f (a0 : ByteArray) : Option (List Int) := if a0.size ≤ 1000000000000 then some (signs a0.data.toList) else none
theorem sign_Signs.calls (a0 : ByteArray) (r : List Int) (w : World) (h : sign_Signs.f a0 = some r) :
    Calls Tryd.prog 7 #[.string a0] w fun e w' => ∃ v0_ : Value, e = .returned (v0_) ∧ Kd.R (Kd.int .i64) 3 w' w.heap.size (fun _ => True) v0_ r ∧ Below w.heap.size w w' := by
  unfold sign_Signs.f at h
  split at h
  · cases h
    refine (signs_any a0 w (by assumption)).mono ?_
    rintro e w' ⟨v, rfl, hrow, hb⟩
    exact ⟨v, rfl, Kd.R_of_own hrow (fun _ _ => trivial), hb⟩
  · cases h
end Go.Proofs.YtllmhgkhamoplaaDoor
