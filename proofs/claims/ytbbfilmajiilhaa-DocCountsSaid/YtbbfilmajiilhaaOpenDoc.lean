/- A document, a term, a slice of texts that are handed in. No condition. -/
import Derived.Test.YtbbfilmajiilhaaOpens
import Derived.Test.YtbbfilmajiilhaaPAllx0
set_option linter.unusedVariables false
set_option linter.unusedSimpArgs false
namespace Go.Proofs.Ytbbfilmajiilhaa
open Go.RowKit Go.ChangeShapes Go.WideShapes Go.ChangeAt Go.Proofs.Ytbbfilmajiilhaa.PAll Go.Proofs.YtbbfilmajiilhaaW.PrintWords

set_option maxRecDepth 100000 in
theorem opens_str : Opens Try.prog 9 Kd.string (fun s => s.size ≤ 9223372036854775807) := opens_string Try.underlying9 (by kernel_rfl)
set_option maxRecDepth 100000 in
theorem opens_int3 : Opens Try.prog 3 (Kd.int .i64) (fun n => (Lit.int .i64 n).wf = true) := opens_int .i64 Try.underlying3 (by kernel_rfl)
set_option maxRecDepth 100000 in
theorem opens_field : Opens Try.prog 29 k29 (fun f => f.f0.size ≤ 9223372036854775807 ∧ f.f1.size ≤ 9223372036854775807) :=
  opens_iso (a := Kd.pair Kd.string Kd.string) (oka := fun x => x.1.size ≤ 9223372036854775807 ∧ x.2.size ≤ 9223372036854775807) (fun x : S29 => (x.f0, x.f1)) (fun p => ⟨p.1, p.2⟩) (fun _ => rfl) (opens_struct2 Try.underlying29 rfl rfl (by kernel_rfl) opens_str opens_str)
set_option maxRecDepth 100000 in
theorem opens_term : Opens Try.prog 39 k39 (fun f => f.f0.size ≤ 9223372036854775807 ∧ f.f1.size ≤ 9223372036854775807) :=
  opens_iso (a := Kd.pair Kd.string Kd.string) (oka := fun x => x.1.size ≤ 9223372036854775807 ∧ x.2.size ≤ 9223372036854775807) (fun x : S39 => (x.f0, x.f1)) (fun p => ⟨p.1, p.2⟩) (fun _ => rfl) (opens_struct2 Try.underlying39 rfl rfl (by kernel_rfl) opens_str opens_str)
set_option maxRecDepth 100000 in
theorem opens_doc : Opens Try.prog 24 (Kd.pair (Kd.int .i64) (Kd.slice 29 k29)) (fun x => (Lit.int .i64 x.1).wf = true ∧ ∀ f ∈ x.2, f.f0.size ≤ 9223372036854775807 ∧ f.f1.size ≤ 9223372036854775807) :=
  opens_struct2 Try.underlying24 rfl rfl (by kernel_rfl) opens_int3 (opens_slice Try.underlying22 (by kernel_rfl) opens_field (by decide))
set_option maxRecDepth 100000 in
theorem open_doc {H : Type} {enc : TypeId × Value → H} {w : World} {base b0 : Nat} {held : Bool} {r : Reach} {v : Value} {d : DataW H} {ps : List MemPlace}
    (hval : Value.okWide Try.prog w r b0 24 v) (hd : DataW.Trod enc Try.prog w base (fun _ => true) held 24 v d ps) :
    ∃ (id : Int) (A : Option Addr) (c : Nat) (l : List S29), v = .agg #[.int .i64 id, .slice A l.length c] ∧ Kd.C k29 w A l.length l ∧ l.length ≤ c ∧ ∀ f ∈ l, f.f0.size ≤ 9223372036854775807 ∧ f.f1.size ≤ 9223372036854775807 := by
  obtain ⟨⟨id, l⟩, cs, ⟨_, h2⟩, ⟨c0, c1, rfl, h3, A, c, h4, h5, h6⟩, rfl⟩ := open_arg Try.underlying24 opens_doc hval hd
  have h3 : c0 = [.int .i64 id] := h3
  subst h3
  subst h4
  exact ⟨id, A, c, l, rfl, h6, h5, h2⟩
set_option maxRecDepth 100000 in
theorem open_term {H : Type} {enc : TypeId × Value → H} {w : World} {base b0 : Nat} {held : Bool} {r : Reach} {v : Value} {d : DataW H} {ps : List MemPlace}
    (hval : Value.okWide Try.prog w r b0 39 v) (hd : DataW.Trod enc Try.prog w base (fun _ => true) held 39 v d ps) :
    ∃ a b : ByteArray, v = .agg #[.string a, .string b] := by
  obtain ⟨⟨a, b⟩, cs, _, h2, rfl⟩ := open_arg Try.underlying39 opens_term hval hd
  have h2 := k39_open h2
  subst h2
  exact ⟨a, b, rfl⟩
set_option maxRecDepth 100000 in
theorem open_texts {H : Type} {enc : TypeId × Value → H} {w : World} {base b0 : Nat} {held : Bool} {r : Reach} {v : Value} {d : DataW H} {ps : List MemPlace}
    (hval : Value.okWide Try.prog w r b0 26 v) (hd : DataW.Trod enc Try.prog w base (fun _ => true) held 26 v d ps) :
    ∃ (l : List ByteArray) (A : Option Addr) (c : Nat), v = .slice A l.length c ∧ (∀ x ∈ l, x.size ≤ 9223372036854775807) ∧ l.length ≤ c ∧ Kd.C Kd.string w A l.length l := open_args Try.underlying26 (by kernel_rfl) opens_str (by decide) hval hd
end Go.Proofs.Ytbbfilmajiilhaa
