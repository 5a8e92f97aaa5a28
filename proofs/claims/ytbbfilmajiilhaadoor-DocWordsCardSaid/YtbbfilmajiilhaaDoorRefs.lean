import Derived.Test.YtbbfilmajiilhaaDoorBnd0
import Derived.Test.YtbbfilmajiilhaaDoorPAllx3
import Derived.Test.YtbbfilmajiilhaaDoorPAllx4
import Derived.Test.YtbbfilmajiilhaaDoorWNEv
/-! The references of layer 1, as printed: what they tell. -/
set_option linter.unusedVariables false
set_option linter.unusedSimpArgs false
namespace Go.Proofs.YtbbfilmajiilhaaDoor
open Go.RowKit Go.Proofs.YtbbfilmajiilhaaDoor.PAll Go.Proofs.YtbbfilmajiilhaaDoorW.PrintWords Go.Proofs.YtbbfilmajiilhaaDoorW.PrintLast

theorem Ev.pos {α : Type} {c : Prop} [Decidable c] {g f : Nat → Option α} {r : α} (h : c) (k : Ev g r) : Ev (fun n => if c then g n else f n) r := by simpa only [if_pos h] using k
theorem Ev.neg {α : Type} {c : Prop} [Decidable c] {g f : Nat → Option α} {r : α} (h : ¬ c) (k : Ev f r) : Ev (fun n => if c then g n else f n) r := by simpa only [if_neg h] using k
theorem Ev.ret {α : Type} {a r : α} (h : a = r) : Ev (fun _ => some a) r := h ▸ Ev.now a
theorem wrap_small (n : Int) (h : -9223372036854775808 ≤ n ∧ n ≤ 9223372036854775807) : wrap64 n = n := by unfold wrap64; omega

/-! ### Same -/
/-! ### one -/

theorem size_data (s : ByteArray) : s.data.toList.length = s.size := Array.length_toList

/-! ### Signs -/

/-! ### Text -/
def numsOf (l : List UInt8) : List Int := l.map (fun b => (b.toNat : Int))
theorem numsOf_append (a b : List UInt8) : numsOf (a ++ b) = numsOf a ++ numsOf b := List.map_append
theorem numsOf_length (a : List UInt8) : (numsOf a).length = a.length := List.length_map _
theorem str_nums (l : List UInt8) : strOfNums (numsOf l) = ⟨l.toArray⟩ := by
  unfold strOfNums numsOf
  rw [List.map_map]
  congr 2
  refine (List.map_congr_left (fun b _ => ?_)).trans (List.map_id _)
  simp [Function.comp]

end Go.Proofs.YtbbfilmajiilhaaDoor
