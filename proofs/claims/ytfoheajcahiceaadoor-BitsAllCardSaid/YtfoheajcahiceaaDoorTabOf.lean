/- The library's table, read off the row's listed variable; and a start that meets it. -/
import Derived.Test.YtfoheajcahiceaaDoorMade
import Derived.ProofKit
import Derived.LaidMore
import Derived.OpenShut
import Derived.FnData
import Derived.LaidByTextLater
import Derived.Deep.SlicePairs
namespace Go.Proofs.YtfoheajcahiceaaDoor
open Go.RowKit Go.ChangeShapes Go.WideShapes Go.ChangeAt Go.Proofs.YtfoheajcahiceaaDoorW.PrintWords

theorem gTab : Tryd.prog.globalNamed "math/bits.deBruijn64tab" = some 0 := by kernel_rfl
theorem tTab : (Tryd.prog.globals[0]?).map (·.type) = some 64 := by kernel_rfl
theorem laid_eq {H : Type} : (Rows.laid_math_bits_deBruijn64tab : DataW H) = .agg (Lib.deBruijn64tab.map (fun n : Nat => DataW.lit (.int .u8 (n : Int)))) := rfl
theorem tab_of_laid {W : World} (h : laidMetH Tryd.prog [("math/bits.deBruijn64tab", Rows.laid_math_bits_deBruijn64tab)] W) : Tab W := by
  rw [MakeChecks.laidMetH_plain _ _ _ (by kernel_rfl)] at h
  obtain ⟨ps, ⟨g0, t0, cs0, f0, p0, q0, hg0, ht0, hv0, hd0, _, _⟩, _, _⟩ := h
  obtain rfl := Option.some.inj (gTab.symm.trans hg0)
  obtain rfl := Option.some.inj (tTab.symm.trans ht0)
  obtain ⟨xs, m, rfl, hx, hlen, hn, hel⟩ := DataW.trod_array Tryd.underlying64 hd0
  rw [laid_eq] at hx
  simp only [Prod.mk.injEq, DataW.agg.injEq] at hx
  intro j hj
  have hj64 : j < 64 := hj
  have hc := World.var?_cell hg0 hv0 j
  rw [hc]
  have he := hel j hj64
  have c5 : Tryd.prog.cellsOf 5 = 1 := by kernel_rfl
  rw [c5, Nat.mul_one] at he
  have hxj : xs[j]? = some (xs[j]'(by omega)) := List.getElem?_eq_getElem (by omega)
  rw [hxj] at he
  obtain ⟨k, e1, e2, _⟩ := DataW.trod_int Tryd.underlying5 he
  have h1 : (xs.map (·.1))[j]? = some (DataW.lit (.int .u8 k)) := by rw [List.getElem?_map, hxj]; simp [e2]
  rw [← hx.1, List.getElem?_map] at h1
  have hk : k = (Lib.deBruijn64tab.getD j 0 : Int) := by
    rw [List.getD_eq_getElem?_getD]
    cases hq : Lib.deBruijn64tab[j]? with
    | none => rw [hq] at h1; cases h1
    | some y => rw [hq] at h1; simp at h1; simp [h1]
  have h3 : cs0.toList[j]? = some (.int .u8 k) := by
    have : ((cs0.toList.drop j).take 1)[0]? = some (.int .u8 k) := by rw [e1]; rfl
    rw [List.getElem?_take_of_lt (by omega), List.getElem?_drop, Nat.add_zero] at this
    exact this
  rw [← Array.getElem?_toList, h3, hk]
theorem door_met (os : Os) (args : Array Value) : laidMetH Tryd.prog [("math/bits.deBruijn64tab", Rows.laid_math_bits_deBruijn64tab)] ((World.doorLaid Tryd.prog 400 os).forCall (fun _ _ => 0) ⟨#[], args, []⟩).memory :=
  laidMetH_of_parts3 (fuel := 8) (laidMet_of_run' 8 (by kernel_rfl) (by kernel_rfl)) (by kernel_rfl) (by kernel_rfl)

/-- Deeds that are handed in. -/
theorem open_deeds {H : Type} {enc : TypeId × Value → H} {w : World} {base b0 : Nat} {held : Bool} {r : Reach} {v : Value} {d : DataW H} {ps : List MemPlace}
    (hval : Value.okWide Tryd.prog w r b0 22 v) (hd : DataW.Trod enc Tryd.prog w base (fun _ => true) held 22 v d ps) : ∃ (A : Option Addr) (n c : Nat) (l : Nat → Int × Int), v = .slice A n c ∧ Deeds w A n l := by
  obtain ⟨a, len, cap, rfl⟩ := okWide_slice Tryd.underlying22 hval
  obtain ⟨fuel, hf⟩ := hd
  rcases Deep.open_slice_pairs (P := Tryd.prog) Tryd.underlying22 Tryd.underlying43 (by kernel_rfl) rfl rfl (by kernel_rfl) (by kernel_rfl) hf with ⟨hcs, _⟩ | ⟨x, l, c, m, n, V0, V1, D0, D1, P0, P1, hcs, _, hl, hm, hmm, _, hel⟩
  · simp [Value.cells] at hcs
    obtain ⟨rfl, rfl, rfl⟩ := hcs
    exact ⟨none, 0, 0, fun _ => (0, 0), rfl, by simp, fun h => by omega⟩
  · simp [Value.cells] at hcs
    obtain ⟨rfl, rfl, rfl⟩ := hcs
    rw [if_pos rfl] at hmm
    subst hmm
    refine ⟨some x, len, m, fun i => (match V0 i with | .int _ k => k | _ => 0, match V1 i with | .int _ k => k | _ => 0), rfl, by omega, fun _ => ⟨x, rfl, fun i hi => ?_⟩⟩
    obtain ⟨h1, h2, h3, h4⟩ := hel i (by omega)
    obtain ⟨k0, e0, _, _⟩ := DataW.trod_int (k := .i64) (by kernel_rfl) h3
    obtain ⟨k1, e1, _, _⟩ := DataW.trod_int (k := .i64) (by kernel_rfl) h4
    have e0' : V0 i = .int .i64 k0 := by simpa using e0
    have e1' : V1 i = .int .i64 k1 := by simpa using e1
    refine ⟨?_, ?_⟩
    · rw [h1]; simp only [e0']
    · rw [h2]; simp only [e1']
end Go.Proofs.YtfoheajcahiceaaDoor
