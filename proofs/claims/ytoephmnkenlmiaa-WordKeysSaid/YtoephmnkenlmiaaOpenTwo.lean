import Derived.Test.YtoephmnkenlmiaaRows
import Derived.ProofKit
import Derived.OpenShut
import Derived.ShutString
import Derived.ChangeOld
import Derived.Below
import Derived.ChangeSame
/-! How a term that is handed in is read. -/
namespace Go.Proofs.Ytoephmnkenlmiaa
open Go.RowKit Go.ChangeShapes Go.WideShapes Go.ChangeAt

theorem open_two {H : Type} {enc : TypeId × Value → H} {P : Program} {w : World} {base : Nat} {sp : Nat → Bool} {held : Bool} {r : Reach} {b0 : Nat} {t : TypeId} {f0 f1 : Field} {v : Value} {d : DataW H} {ps : List MemPlace}
    (ht : P.underlying t = some (.struct #[f0, f1])) (h0 : P.underlying f0.type = some .string) (h1 : P.underlying f1.type = some .string) (o0 : f0.offset = 0) (o1 : f1.offset = 1) (c0 : P.cellsOf f0.type = 1) (c1 : P.cellsOf f1.type = 1) (ct : P.cellsOf t = 2)
    (hval : Value.okWide P w r b0 t v) (hd : DataW.Trod enc P w base sp held t v d ps) : ∃ s0 s1 : ByteArray, v = .agg #[.string s0, .string s1] := by
  unfold Value.okWide at hval
  rw [ht] at hval
  obtain ⟨cs, rfl, hcs, _⟩ := hval
  rw [ct] at hcs
  obtain ⟨fuel, hf⟩ := hd
  obtain ⟨y0, y1, n, _, _, e0, e1⟩ := trod_struct2 ht hf
  obtain ⟨l, rfl⟩ : ∃ l : List Value, cs = l.toArray := ⟨cs.toList, by simp⟩
  match l, hcs with
  | [u0, u1], _ =>
    rw [o0, c0] at e0
    rw [o1, c1] at e1
    obtain ⟨s0, q0, _⟩ := DataW.trod_string h0 e0
    obtain ⟨s1, q1, _⟩ := DataW.trod_string h1 e1
    simp [Value.cells] at q0 q1
    subst q0; subst q1
    exact ⟨s0, s1, rfl⟩

end Go.Proofs.Ytoephmnkenlmiaa
