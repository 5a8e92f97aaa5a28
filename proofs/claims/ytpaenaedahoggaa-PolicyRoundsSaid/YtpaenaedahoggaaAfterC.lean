import Derived.Test.YtpaenaedahoggaaRows
import Derived.Test.YtpaenaedahoggaaPolRefs
import Derived.Test.YtpaenaedahoggaaLibInts
import Derived.Deep.RegionHeld3
import Derived.RangeFuncBox
import Derived.WalkSpells
import Derived.WalkLawsBesides
/-! policy.After: the sizes behind a merge. -/
namespace Go.Proofs.Ytpaenaedahoggaa
open Go.RowKit Go.Proofs.Ytpaenaedahoggaa.PAll Go.Proofs.YtpaenaedahoggaaW.PrintWords Go.Proofs.YtpaenaedahoggaaW.PrintLast Go.Proofs.YtpaenaedahoggaaW.PrintMore

def afterM (l : List Int) (a b : Int) : List Int :=
  if fromP l a = toP l a b then l else l.take (fromP l a) ++ ([wIn l a b] ++ l.drop (toP l a b))

theorem in_eq (l : List Int) (a b : Int) : policy_in.f l a b = some ((fromP l a : Int), (toP l a b : Int)) := by
  have e1 : mn (mx a 0) (l.length : Int) = (fromP l a : Int) := by rw [mx_eq, mn_eq]; unfold fromP; omega
  have e2 : mn (mx b (fromP l a : Int)) (l.length : Int) = (toP l a b : Int) := by rw [mx_eq, mn_eq]; unfold toP; omega
  unfold policy_in.f
  rw [e1, e2]
theorem from_from (l : List Int) (a : Int) : fromP l (fromP l a : Int) = fromP l a := by unfold fromP; omega
theorem to_to (l : List Int) (a b : Int) : toP l (fromP l a : Int) (toP l a b : Int) = toP l a b := by have := from_le_to l a b; have := toP_le l a b; unfold toP at *; rw [from_from]; omega

/-- Block B holds two cells. -/
def Two (w : World) (B t : Nat) (u v : Value) : Prop := w.heap[B]? = some (.cells #[u, v] t (0, 0))
section
variable {w w' : World} {B t : Nat} {u v : Value}
theorem Two.lt (h : Two w B t u v) : B < w.heap.size := (Array.getElem?_eq_some_iff.1 h).1
theorem Two.cell0 (h : Two w B t u v) : w.cell? ⟨B, 0, none⟩ = some u := by simp [World.cell?, show w.heap[B]? = _ from h]
theorem Two.cell1 (h : Two w B t u v) : w.cell? ⟨B, 1, none⟩ = some v := by simp [World.cell?, show w.heap[B]? = _ from h]
theorem Two.frozen0 (h : Two w B t u v) : w.frozen? ⟨B, 0, none⟩ = false := by simp [World.frozen?, show w.heap[B]? = _ from h]
theorem Two.frozen1 (h : Two w B t u v) : w.frozen? ⟨B, 1, none⟩ = false := by simp [World.frozen?, show w.heap[B]? = _ from h]
theorem Two.new (w : World) (t : Nat) (u v : Value) : Two (w.alloc (.cells #[u, v] t)) w.heap.size t u v := World.alloc_heap_new w _
theorem Two.below (h : Two w B t u v) (hb : Below w.heap.size w w') : Two w' B t u v := (hb.block B h.lt).trans h
theorem Two.set (h : Two w B t u v) (u' v' : Value) : Two ((w.setCell ⟨B, 0, none⟩ u').setCell ⟨B, 1, none⟩ v') B t u' v' := by
  unfold Two at *
  unfold World.setCell
  simp [Array.getElem?_modify, h]
end

theorem R_low {e base base' : Nat} {w : World} {v : Value} {l : List Int} (h : Kd.R (Kd.int .i64) e w base (fun _ => True) v l) (hb : base' ≤ base) : Kd.R (Kd.int .i64) e w base' (fun _ => True) v l := Kd.R_of_own (own_weaken (Kd.own_of_R h) hb) (fun _ _ => trivial)
set_option maxHeartbeats 1000000 in
theorem concat3 (w : World) (A1 A2 : Option Addr) (n c m d : Nat) (W : Int) (xs ys : List Int) (hx : Kd.C (Kd.int .i64) w A1 n xs) (hy : Kd.C (Kd.int .i64) w A2 m ys) (hxl : xs.length = n) (hyl : ys.length = m) (hn : n ≤ 1000000) (hm : m ≤ 1000000) :
    Calls Try.prog 25 #[.slice (some ⟨w.heap.size + 1, 0, none⟩) 3 3] ((w.alloc (.cells #[.int .i64 W] 3)).alloc (.cells #[.slice A1 n c, .slice (some ⟨w.heap.size, 0, none⟩) 1 1, .slice A2 m d] 22))
      fun e w' => ∃ v, e = .returned v ∧ Kd.R (Kd.int .i64) 3 w' w.heap.size (fun _ => True) v (xs ++ ([W] ++ ys)) ∧ Below w.heap.size w w' := by
  have hb1 := (Below.refl w.heap.size w).alloc (Nat.le_refl _) (.cells #[.int .i64 W] 3)
  have hb2 := hb1.alloc (by simp) (.cells #[.slice A1 n c, .slice (some ⟨w.heap.size, 0, none⟩) 1 1, .slice A2 m d] 22)
  have hW : Kd.C (Kd.int .i64) (w.alloc (.cells #[.int .i64 W] 3)) (some ⟨w.heap.size, 0, none⟩) 1 [W] :=
    Kd.C_of_reads (d := 0) ⟨rfl, by decide, fun _ => ⟨_, rfl, fun j hj => by
      obtain rfl : j = 0 := by omega
      show (w.alloc _).cell? ⟨w.heap.size, 0, none⟩ = _
      rw [World.cell?_alloc_at _ _ _ _ rfl]; rfl⟩⟩
  have hW2 := Kd.C_below hW ((Below.refl _ _).alloc (Nat.le_refl _) (.cells #[.slice A1 n c, .slice (some ⟨w.heap.size, 0, none⟩) 1 1, .slice A2 m d] 22))
  refine (c_concat (w.heap.size + 1) 3 3 [⟨A1, n, c, xs⟩, ⟨some ⟨w.heap.size, 0, none⟩, 1, 1, [W]⟩, ⟨A2, m, d, ys⟩] _ rfl (by decide) (by simp) ?_ ?_).mono ?_
  · intro i hi
    have hi3 : i < 3 := hi
    rcases (by omega : i = 0 ∨ i = 1 ∨ i = 2) with rfl | rfl | rfl
    · exact ⟨by rw [World.cell?_alloc_at _ _ _ _ (by simp)]; rfl, hxl, by show n ≤ _; omega, Kd.C_below hx hb2⟩
    · exact ⟨by rw [World.cell?_alloc_at _ _ _ _ (by simp)]; rfl, rfl, by show 1 ≤ _; omega, hW2⟩
    · exact ⟨by rw [World.cell?_alloc_at _ _ _ _ (by simp)]; rfl, hyl, by show m ≤ _; omega, Kd.C_below hy hb2⟩
  · intro k
    unfold sizeTo
    rcases k with _ | _ | _ | k <;> simp <;> omega
  · rintro e w' ⟨v, rfl, hR, hb⟩
    refine ⟨v, rfl, by rw [show xs ++ ([W] ++ ys) = joinTo [⟨A1, n, c, xs⟩, ⟨some ⟨w.heap.size, 0, none⟩, 1, 1, [W]⟩, ⟨A2, m, d, ys⟩] 3 by simp [joinTo]]; exact R_low hR hb2.size, hb2.trans (hb.mono hb2.size)⟩
end Go.Proofs.Ytpaenaedahoggaa
