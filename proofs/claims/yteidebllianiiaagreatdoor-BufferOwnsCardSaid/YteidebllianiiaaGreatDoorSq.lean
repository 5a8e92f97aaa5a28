/- Shorter words for the printed walks: a world behind draws and new blocks has what lay before. -/
import Derived.Test.YteidebllianiiaaGreatDoorPAllx0
set_option linter.unusedVariables false
namespace Go.Proofs.YteidebllianiiaaGreatDoor.PAll
open Go.RowKit Go.Proofs.YteidebllianiiaaGreatDoorW.PrintWords
/-- The first world is the second one, orders drawn and blocks made. -/
class SqB (w' : World) (c : outParam World) : Prop where out : Below c.heap.size c w'
instance (priority := low) sqRefl (w : World) : SqB w w := ⟨Below.refl _ _⟩
instance sqDrew (w c : World) [h : SqB w c] : SqB w.drew c := ⟨below_drew h.out⟩
instance sqDrewN (w c : World) (n : Nat) [h : SqB w c] : SqB (w.drewN n) c := ⟨pw_below_drewN h.out n⟩
instance sqAlloc (w c : World) (o : Obj) [h : SqB w c] : SqB (w.alloc o) c := ⟨below_alloc h.out o⟩
theorem sA {p : Prop} (h : p) : Aside0 p := ⟨h⟩
theorem sB {w' c : World} {g : Nat} {o : Obj} [k : SqB w' c] (h : c.heap[g]? = some o) : w'.heap[g]? = some o := blk_below h k.out
theorem sF {w' c : World} {g b i : Nat} {u : Value} {t : TypeId} {cs : Array Value} [k : SqB w' (c.setCell ⟨b, i, none⟩ u)] (hn : g ≠ b) (h : c.heap[g]? = some (.cells cs t (0, 0))) : w'.heap[g]? = some (.cells cs t (0, 0)) :=
  blk_below (blk_far h (p := ⟨b, i, none⟩) hn u) k.out
theorem sR {α : Type} {d : Kd α} {e base : Nat} {ok : Nat → Prop} {v : Value} {xs : List α} {w' c : World} [k : SqB w' c] (h : d.R e c base ok v xs) : d.R e w' base ok v xs := Kd.R_below h k.out
theorem sC {α : Type} {d : Kd α} {A : Option Addr} {n : Nat} {xs : List α} {w' c : World} [k : SqB w' c] (h : d.C c A n xs) : d.C w' A n xs := Kd.C_below h k.out
theorem sW {w w' c : World} [k : SqB w' c] (h : Below w.heap.size w c) : Below w.heap.size w w' := below_step h k.out
theorem sS {w w' c : World} {b i : Nat} {u : Value} [k : SqB w' (c.setCell ⟨b, i, none⟩ u)] (h : Below w.heap.size w c) (hg : Aside0 (w.heap.size ≤ b) := by assumption) : Below w.heap.size w w' :=
  below_step (below_set h hg.out) k.out
theorem sK {w w' c : World} {S : Nat → Prop} [k : SqB w' c] (h : Kept w c S) : Kept w w' S := h.below k.out
theorem c0 {w : World} {g : Nat} {t : TypeId} {a : Value} {l : List Value} (h : w.heap[g]? = some (.cells (a :: l).toArray t (0, 0))) : w.cell? ⟨g, 0, none⟩ = some a := (blk_cell h 0).trans rfl
theorem c1 {w : World} {g : Nat} {t : TypeId} {a b : Value} {l : List Value} (h : w.heap[g]? = some (.cells (a :: b :: l).toArray t (0, 0))) : w.cell? ⟨g, 1, none⟩ = some b := (blk_cell h 1).trans rfl
theorem c2 {w : World} {g : Nat} {t : TypeId} {a b c : Value} {l : List Value} (h : w.heap[g]? = some (.cells (a :: b :: c :: l).toArray t (0, 0))) : w.cell? ⟨g, 2, none⟩ = some c := (blk_cell h 2).trans rfl
theorem c3 {w : World} {g : Nat} {t : TypeId} {a b c d : Value} {l : List Value} (h : w.heap[g]? = some (.cells (a :: b :: c :: d :: l).toArray t (0, 0))) : w.cell? ⟨g, 3, none⟩ = some d := (blk_cell h 3).trans rfl
end Go.Proofs.YteidebllianiiaaGreatDoor.PAll
