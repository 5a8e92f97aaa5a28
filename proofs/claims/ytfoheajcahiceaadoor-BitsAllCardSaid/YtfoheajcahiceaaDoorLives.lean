/- Sets of numbers as bits: the document's example lives. Condition: the library's table is as its initialiser lays it. -/
import Derived.Test.YtfoheajcahiceaaDoorRefs
namespace Go.Proofs.YtfoheajcahiceaaDoor
open Go.RowKit Go.Proofs.YtfoheajcahiceaaDoor.PAll Go.Proofs.YtfoheajcahiceaaDoorW.PrintWords Go.Proofs.YtfoheajcahiceaaDoorW.PrintLast Go.Proofs.YtfoheajcahiceaaDoorW.PrintMore

theorem IsSet.row_ge {w : World} {base g : Nat} {v : Value} {r : List Bool} (h : IsSet w base g v r) : ∀ k, v.ownBlock = some k → base ≤ k := by
  obtain ⟨inner, ho⟩ := Kd.R_own h.row
  exact fun k hk => own_base ho k hk
/-- A step that writes the words of a set of ours. -/
theorem below_step {w w1 w2 : World} {B base g : Nat} {v : Value} {r : List Bool} (h : Below B w w1) (hS : IsSet w1 base g v r) (hb : B ≤ base) (hBw : B ≤ w1.heap.size) (hg : w1.grownBy w2 v.ownBlock) : Below B w w2 :=
  h.grown hg hBw (fun k hk => Nat.le_trans hb (hS.row_ge k hk))
theorem tab_step {w1 w2 : World} {base g : Nat} {v : Value} {r : List Bool} (h : Tab w1) (hS : IsSet w1 base g v r) (hb : 0 < base) (hg : w1.grownBy w2 v.ownBlock) : Tab w2 :=
  h.grown hg (fun e => by have := hS.row_ge _ e.symm; omega)
def ex1 : List Bool := (turnB (List.replicate 70 false) 3 false).1
def ex2 : List Bool := (turnB ex1 69 false).1

set_option maxHeartbeats 1000000 in
set_option maxRecDepth 100000 in
theorem lives_any (w : World) (hT : Tab w) :
    Calls Tryd.prog 16 #[] w fun e w' => e = .returned (.bool true) ∧ Below w.heap.size w w' := by
  have t1 : (turnB (List.replicate (70 : Int).toNat false) 3 false).2 = true := by decide +kernel
  have t2 : (turnB ex1 69 false).2 = true := by decide +kernel
  have t3 : nextI ex2 4 = 69 := by decide +kernel
  have t4 : ((cnt ex2 (min (69 : Int).toNat ex2.length) : Nat) : Int) = 1 := by decide +kernel
  have t5 : ((cnt ex2 ex2.length : Nat) : Int) = 2 := by decide +kernel
  have l1 : ex1.length ≤ 100000 := by decide +kernel
  have l2 : ex2.length ≤ 100000 := by decide +kernel
  have H := Lib.hid (And.intro t1 (And.intro t2 (And.intro t3 (And.intro t4 (And.intro t5 (And.intro l1 l2))))))
  clear t1 t2 t3 t4 t5 l1 l2
  go_enter Tryd.func16, Tryd.ntmps16
  go_wp2_with fail
  refine (new_any 70 w (by decide)).mono ?_
  rintro e w1 ⟨g, v, rfl, hS, -, hb1⟩
  have hT1 := hT.below hb1
  go_wp2_with fail
  refine (put_any _ g v _ 3 w1 hS (by rw [List.length_replicate]; decide)).mono ?_
  rintro e w2 ⟨rfl, hS2, hg⟩
  have hb2 := below_step hb1 hS (Nat.le_refl _) hb1.size hg
  have hT2 := tab_step hT1 hS hT.lt hg
  rw [H.out.1]
  go_wp2_with fail
  refine (put_any _ g v _ 69 w2 hS2 H.out.2.2.2.2.2.1).mono ?_
  rintro e w3 ⟨rfl, hS3, hg3⟩
  have hb3 := below_step hb2 hS2 (Nat.le_refl _) hb2.size hg3
  have hT3 := tab_step hT2 hS2 hT.lt hg3
  have hS3' : IsSet w3 w.heap.size g v ex2 := hS3
  have e2 : (turnB (turnB (List.replicate (70 : Int).toNat false) 3 false).1 69 false).2 = true := H.out.2.1
  rw [e2]
  clear e2 hS hS2 hS3 hg hg3
  go_wp2_with fail
  refine (next_any _ g v ex2 4 w3 hS3' hT3 H.out.2.2.2.2.2.2).mono ?_
  rintro e w4 ⟨rfl, hb4⟩
  rw [H.out.2.2.1]
  have hS4 := hS3'.below hb4
  have hb4' := hb3.trans (hb4.mono hb3.size)
  go_wp2_with fail
  refine (rank_any _ g v ex2 69 w4 hS4 H.out.2.2.2.2.2.2).mono ?_
  rintro e w5 ⟨rfl, hb5⟩
  rw [H.out.2.2.2.1]
  have hS5 := hS4.below hb5
  have hb5' := hb4'.trans (hb5.mono hb4'.size)
  go_wp2_with fail
  refine (count_any _ g v ex2 w5 hS5 H.out.2.2.2.2.2.2).mono ?_
  rintro e w6 ⟨rfl, hb6⟩
  rw [H.out.2.2.2.2.1]
  have hb6' := hb5'.trans (hb6.mono hb5'.size)
  go_wp2_with fail
  go_ret
  exact ⟨rfl, hb6'⟩
end Go.Proofs.YtfoheajcahiceaaDoor
