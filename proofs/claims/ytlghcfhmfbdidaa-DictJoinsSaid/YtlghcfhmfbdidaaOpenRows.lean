/- A slice of slices of texts that is handed in. No condition. -/
import Derived.Test.YtlghcfhmfbdidaaJoinsE
import Derived.Deep.Slices
import Derived.ProofKit
import Derived.OpenShut
import Derived.Test.YtlghcfhmfbdidaaOpenStrs
namespace Go.Proofs.Ytlghcfhmfbdidaa
open Go.RowKit Go.ChangeShapes Go.WideShapes Go.ChangeAt Go.Deep Go.Proofs.YtlghcfhmfbdidaaW.PrintWords

theorem open_strss {H : Type} {enc : TypeId × Value → H} {P : Program} {w : World} {base b0 : Nat} {held : Bool} {r : Reach} {t e q : TypeId} {v : Value} {d : DataW H} {ps : List MemPlace}
    (ht : P.underlying t = some (.slice e)) (he : P.underlying e = some (.slice q)) (hq : P.underlying q = some .string) (hc : P.cellsOf e = 1) (hc2 : P.cellsOf q = 1)
    (hval : Value.okWide P w r b0 t v) (hd : DataW.Trod enc P w base (fun _ => true) held t v d ps) : ∃ (A : Option Addr) (c : Nat) (l : List (List ByteArray)), v = .slice A l.length c ∧ l.length ≤ c ∧ Kd.C (Kd.slice q Kd.string) w A l.length l := by
  obtain ⟨a, len, cap, rfl⟩ := okWide_slice ht hval
  obtain ⟨fuel, hf⟩ := hd
  rcases open_slice1 ht hc hf with ⟨hcs, _⟩ | ⟨x, l, c, m, n, V, D, Pl, hcs, _, hl, hm, hmm, _, hx⟩
  · simp [Value.cells] at hcs
    obtain ⟨rfl, rfl, rfl⟩ := hcs
    exact ⟨none, 0, [], rfl, by simp, Kd.C_nil _ _⟩
  · simp [Value.cells] at hcs
    obtain ⟨rfl, rfl, rfl⟩ := hcs
    simp only [if_true] at hmm
    subst hmm
    have each : ∀ i, i < m → ∃ y : Option Addr × Nat × List ByteArray, V i = .slice y.1 y.2.2.length y.2.1 ∧ y.2.2.length ≤ y.2.1 ∧ Kd.C Kd.string w y.1 y.2.2.length y.2.2 := by
      intro i hi
      rcases open_strings he hq hc2 (hx i hi).2 with ⟨hcs2, _⟩ | ⟨x2, l2, c2, ss, hcs2, _, hl2, hm2, hz2, _, hcell2, _⟩
      · exact ⟨(none, 0, []), by simpa using hcs2, by simp, Kd.C_nil _ _⟩
      · have hz' : ss.length = c2 := by simpa using hz2
        have hlen : (ss.take l2).length = l2 := by rw [List.length_take]; omega
        refine ⟨(some x2, c2, ss.take l2), by rw [hlen]; simpa using hcs2, by show (ss.take l2).length ≤ c2; omega, ?_⟩
        show Kd.C Kd.string w (some x2) (ss.take l2).length (ss.take l2)
        rw [hlen]
        refine Kd.C_of_reads (d := ByteArray.empty) ⟨hlen, ?_, fun _ => ⟨x2, rfl, fun j hj => ?_⟩⟩
        · unfold maxLen at hm2; omega
        · rw [hcell2 j (by omega)]
          simp [List.getD_eq_getElem?_getD, hj]
    obtain ⟨y, hy⟩ := choose_lt each
    refine ⟨some x, m, (List.range len).map (fun i => (y i).2.2), by simp, by simp; omega, ?_⟩
    have hlen : ((List.range len).map (fun i => (y i).2.2)).length = len := by simp
    rw [hlen]
    refine ⟨hlen, by unfold maxLen at hm; omega, fun _ => ⟨x, rfl, fun j p hj => ?_⟩⟩
    obtain ⟨hjl, hp⟩ := List.getElem?_eq_some_iff.1 hj
    rw [hlen] at hjl
    have hp2 : (y j).2.2 = p := by simpa using hp
    obtain ⟨e1, e2, e3⟩ := hy j (by omega)
    subst hp2
    refine ⟨[.slice (y j).1 (y j).2.2.length (y j).2.1], rfl, ⟨(y j).1, (y j).2.1, rfl, e2, e3⟩, fun i u hu => ?_⟩
    have hi0 : i = 0 := by
      have := (List.getElem?_eq_some_iff.1 hu).1
      simp at this; exact this
    subst hi0
    have hu2 : Value.slice (y j).1 (y j).2.2.length (y j).2.1 = u := by simpa using hu
    show w.cell? (x.add (j * 1 + 0)) = some u
    rw [Nat.mul_one, Nat.add_zero, (hx j (by omega)).1, e1, hu2]
end Go.Proofs.Ytlghcfhmfbdidaa
