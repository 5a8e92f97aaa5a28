/- A document, a term, a slice of texts that are handed in. No condition. -/
import Derived.Test.YtbbfilmajiilhaaDoorOpens
import Derived.Test.YtbbfilmajiilhaaDoorPAllx0
set_option linter.unusedVariables false
set_option linter.unusedSimpArgs false
namespace Go.Proofs.YtbbfilmajiilhaaDoor
open Go.RowKit Go.ChangeShapes Go.WideShapes Go.ChangeAt Go.Proofs.YtbbfilmajiilhaaDoor.PAll Go.Proofs.YtbbfilmajiilhaaDoorW.PrintWords

set_option maxRecDepth 100000 in
theorem opens_str : Opens Tryd.prog 9 Kd.string (fun s => s.size ≤ 9223372036854775807) := opens_string Tryd.underlying9 (by kernel_rfl)
set_option maxRecDepth 100000 in
theorem opens_int3 : Opens Tryd.prog 3 (Kd.int .i64) (fun n => (Lit.int .i64 n).wf = true) := opens_int .i64 Tryd.underlying3 (by kernel_rfl)
set_option maxRecDepth 100000 in
theorem opens_field : Opens Tryd.prog 24 k24 (fun f => f.f0.size ≤ 9223372036854775807 ∧ f.f1.size ≤ 9223372036854775807) :=
  opens_iso (a := Kd.pair Kd.string Kd.string) (oka := fun x => x.1.size ≤ 9223372036854775807 ∧ x.2.size ≤ 9223372036854775807) (fun x : S24 => (x.f0, x.f1)) (fun p => ⟨p.1, p.2⟩) (fun _ => rfl) (opens_struct2 Tryd.underlying24 rfl rfl (by kernel_rfl) opens_str opens_str)

set_option maxRecDepth 100000 in
theorem opens_doc : Opens Tryd.prog 27 (Kd.pair (Kd.int .i64) (Kd.slice 24 k24)) (fun x => (Lit.int .i64 x.1).wf = true ∧ ∀ f ∈ x.2, f.f0.size ≤ 9223372036854775807 ∧ f.f1.size ≤ 9223372036854775807) :=
  opens_struct2 Tryd.underlying27 rfl rfl (by kernel_rfl) opens_int3 (opens_slice Tryd.underlying25 (by kernel_rfl) opens_field (by decide))
set_option maxRecDepth 100000 in
theorem open_doc {H : Type} {enc : TypeId × Value → H} {w : World} {base b0 : Nat} {held : Bool} {r : Reach} {v : Value} {d : DataW H} {ps : List MemPlace}
    (hval : Value.okWide Tryd.prog w r b0 27 v) (hd : DataW.Trod enc Tryd.prog w base (fun _ => true) held 27 v d ps) :
    ∃ (id : Int) (A : Option Addr) (c : Nat) (l : List S24), v = .agg #[.int .i64 id, .slice A l.length c] ∧ Kd.C k24 w A l.length l ∧ l.length ≤ c ∧ ∀ f ∈ l, f.f0.size ≤ 9223372036854775807 ∧ f.f1.size ≤ 9223372036854775807 := by
  obtain ⟨⟨id, l⟩, cs, ⟨_, h2⟩, ⟨c0, c1, rfl, h3, A, c, h4, h5, h6⟩, rfl⟩ := open_arg Tryd.underlying27 opens_doc hval hd
  have h3 : c0 = [.int .i64 id] := h3
  subst h3
  subst h4
  exact ⟨id, A, c, l, rfl, h6, h5, h2⟩

end Go.Proofs.YtbbfilmajiilhaaDoor
