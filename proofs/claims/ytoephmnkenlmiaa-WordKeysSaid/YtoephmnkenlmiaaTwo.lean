import Derived.Test.YtoephmnkenlmiaaRows
import Derived.WalkKit
import Derived.Below
import Derived.RangeFuncBox
/-! A block of two cells. -/
namespace Go.Proofs.Ytoephmnkenlmiaa
open Go.RowKit
/-- Block B holds two cells. -/
def Two (w : World) (B t : Nat) (u v : Value) : Prop := w.heap[B]? = some (.cells #[u, v] t (0, 0))
section
variable {w w' : World} {B t : Nat} {u v : Value}
theorem Two.lt (h : Two w B t u v) : B < w.heap.size := (Array.getElem?_eq_some_iff.1 h).1
theorem Two.cell0 (h : Two w B t u v) : w.cell? ⟨B, 0, none⟩ = some u := by simp [World.cell?, show w.heap[B]? = _ from h]
theorem Two.cell1 (h : Two w B t u v) : w.cell? ⟨B, 1, none⟩ = some v := by simp [World.cell?, show w.heap[B]? = _ from h]
theorem Two.frozen0 (h : Two w B t u v) : w.frozen? ⟨B, 0, none⟩ = false := by simp [World.frozen?, show w.heap[B]? = _ from h]
theorem Two.frozen1 (h : Two w B t u v) : w.frozen? ⟨B, 1, none⟩ = false := by simp [World.frozen?, show w.heap[B]? = _ from h]
theorem Two.new (w : World) (t : Nat) (u v : Value) : Two (w.alloc (.cells #[u, v] t)) w.heap.size t u v := World.alloc_heap_new w _
theorem Two.below (h : Two w B t u v) (hb : Below w.heap.size w w') : Two w' B t u v := (hb.block B h.lt).trans h
theorem Two.set (h : Two w B t u v) (u' v' : Value) : Two ((w.setCell ⟨B, 0, none⟩ u').setCell ⟨B, 1, none⟩ v') B t u' v' := by
  unfold Two at *
  unfold World.setCell
  simp [Array.getElem?_modify, h]
end
end Go.Proofs.Ytoephmnkenlmiaa
