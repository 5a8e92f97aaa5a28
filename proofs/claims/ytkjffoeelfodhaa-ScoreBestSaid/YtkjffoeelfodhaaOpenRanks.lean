/- A slice of ranks that is handed in. No condition. -/
import Derived.Test.YtkjffoeelfodhaaScoreE
import Derived.Deep.Slices
import Derived.Deep.Strs
import Derived.ProofKit
import Derived.OpenShut
namespace Go.Proofs.Ytkjffoeelfodhaa
open Go.RowKit Go.ChangeShapes Go.WideShapes Go.ChangeAt Go.Deep Go.Proofs.Ytkjffoeelfodhaa.PAll Go.Proofs.YtkjffoeelfodhaaW.PrintWords

theorem open_ranks {H : Type} {enc : TypeId × Value → H} {w : World} {base b0 : Nat} {held : Bool} {r : Reach} {v : Value} {d : DataW H} {ps : List MemPlace}
    (hval : Value.okWide Try.prog w r b0 26 v) (hd : DataW.Trod enc Try.prog w base (fun _ => true) held 26 v d ps) : ∃ (A : Option Addr) (c : Nat) (l : List S23), v = .slice A l.length c ∧ l.length ≤ c ∧ Kd.C k23 w A l.length l := by
  obtain ⟨a, len, cap, rfl⟩ := okWide_slice Try.underlying26 hval
  obtain ⟨fuel, hf⟩ := hd
  rcases open_slice Try.underlying26 hf with ⟨hcs, _⟩ | ⟨x, l, c, m, n, D, Pl, hcs, _, hl, hm, hmm, _, hx⟩
  · simp [Value.cells] at hcs
    obtain ⟨rfl, rfl, rfl⟩ := hcs
    exact ⟨none, 0, [], rfl, by simp, Kd.C_nil _ _⟩
  · simp [Value.cells] at hcs
    obtain ⟨rfl, rfl, rfl⟩ := hcs
    simp only [if_true] at hmm
    subst hmm
    have each : ∀ i, i < m → ∃ y : Int × Int × Int, w.cell? (x.add (i * 3)) = some (.int .i64 y.1) ∧ w.cell? ((x.add (i * 3)).add 1) = some (.int .i64 y.2.1) ∧ w.cell? ((x.add (i * 3)).add 2) = some (.int .i64 y.2.2) := by
      intro i hi
      obtain ⟨cs', h1, h2⟩ := hx i hi
      have ce : Try.prog.cellsOf 23 = 3 := by kernel_rfl
      rw [ce] at h1
      obtain ⟨_, hlen, hcell⟩ := World.cells?_some h1
      obtain ⟨xs, k, hk, hxy, _, hxl, hfl⟩ := DataW.trod_struct Try.underlying23 h2
      match xs, hxl, cs', hlen with
      | [y0, y1, y2], _, [v0, v1, v2], _ =>
        have g0 := hfl 0 _ rfl
        have g1 := hfl 1 _ rfl
        have g2 := hfl 2 _ rfl
        have c3 : Try.prog.cellsOf 3 = 1 := by kernel_rfl
        simp [c3] at g0 g1 g2
        have e0 := hcell 0 (by omega)
        have e1 := hcell 1 (by omega)
        have e2 := hcell 2 (by omega)
        obtain ⟨z0, q0, -, -⟩ := DataW.trod_int Try.underlying3 g0
        obtain ⟨z1, q1, -, -⟩ := DataW.trod_int Try.underlying3 g1
        obtain ⟨z2, q2, -, -⟩ := DataW.trod_int Try.underlying3 g2
        have q0' : v0 = .int .i64 z0 := by simpa using q0
        have q1' : v1 = .int .i64 z1 := by simpa using q1
        have q2' : v2 = .int .i64 z2 := by simpa using q2
        subst q0' q1' q2'
        exact ⟨(z0, z1, z2), by simpa [Addr.add] using e0, by simpa using e1, by simpa using e2⟩
    obtain ⟨y, hy⟩ := choose_lt each
    refine ⟨some x, m, (List.range len).map (fun i => (⟨(y i).1, (y i).2.1, (y i).2.2⟩ : S23)), by simp, by simp; omega, ?_⟩
    have hlen : ((List.range len).map (fun i => (⟨(y i).1, (y i).2.1, (y i).2.2⟩ : S23))).length = len := by simp
    rw [hlen]
    refine ⟨hlen, by unfold maxLen at hm; omega, fun _ => ⟨x, rfl, fun j p hj => ?_⟩⟩
    obtain ⟨hjl, hp⟩ := List.getElem?_eq_some_iff.1 hj
    rw [hlen] at hjl
    have hp2 : (⟨(y j).1, (y j).2.1, (y j).2.2⟩ : S23) = p := by simpa using hp
    obtain ⟨e0, e1, e2⟩ := hy j (by omega)
    subst hp2
    have ha : ∀ k : Nat, x.add (j * 3 + k) = (x.add (j * 3)).add k := fun k => by
      rw [Deep.add_add]
    refine ⟨[.int .i64 (y j).1, .int .i64 (y j).2.1, .int .i64 (y j).2.2], rfl, k23_mk _ _, fun i u hu => ?_⟩
    match i with
    | 0 => simp at hu; subst hu; exact e0
    | 1 => simp at hu; subst hu; show w.cell? (x.add (j * 3 + 1)) = _; rw [ha]; exact e1
    | 2 => simp at hu; subst hu; show w.cell? (x.add (j * 3 + 2)) = _; rw [ha]; exact e2
    | i + 3 => simp at hu
end Go.Proofs.Ytkjffoeelfodhaa
