/- How what is handed in is read, kind by kind. No condition. -/
import Derived.Test.YtbbfilmajiilhaaDoorRows
import Derived.Test.YtbbfilmajiilhaaDoorWWords
import Derived.Deep.Slices
import Derived.Deep.Strs
import Derived.ProofKit
import Derived.OpenShut
import Derived.ChangeSame
import Derived.ChangeOld
import Derived.Below
set_option linter.unusedVariables false
set_option linter.unusedSimpArgs false
namespace Go.Proofs.YtbbfilmajiilhaaDoor
open Go.RowKit Go.ChangeShapes Go.WideShapes Go.ChangeAt Go.Deep Go.Proofs.YtbbfilmajiilhaaDoorW.PrintWords

/-- Whatever reads as type t has cells of kind d, and is ok. -/
def Opens {α : Type} (P : Program) (t : TypeId) (d : Kd α) (ok : α → Prop) : Prop :=
  P.cellsOf t = d.sz ∧ ∀ {H : Type} (enc : TypeId × Value → H) (w : World) (base : Nat) (held : Bool) (fuel : Nat) (cs : List Value) (y : DataW H × List MemPlace), DataW.trod enc P w base (fun _ => true) held fuel t cs = some y → ∃ x, ok x ∧ d.K w x cs
/-- The fields from an offset on. -/
structure OpensF {α : Type} (P : Program) (fs : List Field) (off : Nat) (d : Kd α) (ok : α → Prop) : Prop where
  out : ∀ {H : Type} (enc : TypeId × Value → H) (w : World) (base : Nat) (held : Bool) (fuel : Nat) (cs : List Value), cs.length = off + d.sz → (∀ f ∈ fs, ∃ y : DataW H × List MemPlace, DataW.trod enc P w base (fun _ => true) held fuel f.type ((cs.drop f.offset).take (P.cellsOf f.type)) = some y) → ∃ x, ok x ∧ d.K w x (cs.drop off)
section
variable {P : Program} {t e : TypeId} {α β : Type} {a : Kd α} {b : Kd β} {oka : α → Prop} {okb : β → Prop}
theorem opens_int (k : IntKind) (ht : P.underlying t = some (.int k)) (hc : P.cellsOf t = 1) : Opens P t (Kd.int k) (fun n => (Lit.int k n).wf = true) :=
  ⟨hc, fun enc w base held fuel cs y h => by
    obtain ⟨n, hn, _, hw⟩ := DataW.trod_int ht h
    exact ⟨n, hw, hn⟩⟩

theorem opens_string (ht : P.underlying t = some .string) (hc : P.cellsOf t = 1) : Opens P t Kd.string (fun s => s.size ≤ 9223372036854775807) :=
  ⟨hc, fun enc w base held fuel cs y h => by
    obtain ⟨s, hs, _, hw⟩ := DataW.trod_string ht h
    exact ⟨s, by unfold maxLen at hw; exact hw, hs⟩⟩

theorem opens_iso (f : β → α) (g : α → β) (hfg : ∀ x, f (g x) = x) (h : Opens P t a oka) : Opens P t (Kd.iso a f) (fun x => oka (f x)) :=
  ⟨h.1, fun enc w base held fuel cs y q => by
    obtain ⟨x, h1, h2⟩ := h.2 enc w base held fuel cs y q
    exact ⟨g x, by show oka (f (g x)); rw [hfg]; exact h1, by show a.K w (f (g x)) cs; rw [hfg]; exact h2⟩⟩
theorem opensF_last {f : Field} {off : Nat} (ho : f.offset = off) (h : Opens P f.type a oka) : OpensF P [f] off a oka := by
  constructor
  intro H enc w base held fuel cs hl hf
  obtain ⟨y, hy⟩ := hf f List.mem_cons_self
  obtain ⟨x, h1, h2⟩ := h.2 enc w base held fuel _ y hy
  rw [ho, h.1, List.take_of_length_le (by rw [List.length_drop]; omega)] at h2
  exact ⟨x, h1, h2⟩
theorem opensF_cons {f : Field} {fs : List Field} {off : Nat} (ho : f.offset = off) (h : Opens P f.type a oka) (hr : OpensF P fs (off + a.sz) b okb) : OpensF P (f :: fs) off (Kd.pair a b) (fun x => oka x.1 ∧ okb x.2) := by
  constructor
  intro H enc w base held fuel cs hl hf
  have hl : cs.length = off + (a.sz + b.sz) := hl
  obtain ⟨y, hy⟩ := hf f List.mem_cons_self
  obtain ⟨x, h1, h2⟩ := h.2 enc w base held fuel _ y hy
  obtain ⟨x2, h3, h4⟩ := hr.out enc w base held fuel cs (by omega) (fun g hg => hf g (List.mem_cons_of_mem _ hg))
  rw [ho, h.1] at h2
  refine ⟨(x, x2), ⟨h1, h3⟩, _, _, ?_, h2, h4⟩
  rw [← List.drop_drop, List.take_append_drop]
theorem opens_struct {fs : Array Field} (ht : P.underlying t = some (.struct fs)) (hc : P.cellsOf t = a.sz) (h : OpensF P fs.toList 0 a oka) : Opens P t a oka :=
  ⟨hc, fun enc w base held fuel cs y q => by
    obtain ⟨xs, n, _, _, hl, hlen, hf⟩ := DataW.trod_struct ht q
    obtain ⟨x, h1, h2⟩ := h.out enc w base held n cs (by omega) (fun f hf2 => by
      obtain ⟨i, hi, e⟩ := List.mem_iff_getElem.1 hf2
      have := hf i f (by rw [← e, ← Array.getElem?_toList]; exact List.getElem?_eq_getElem hi)
      rw [List.getElem?_eq_getElem (by rw [hlen]; simpa using hi)] at this
      exact ⟨_, this⟩)
    exact ⟨x, h1, h2⟩⟩
theorem opens_struct2 {f0 f1 : Field} (ht : P.underlying t = some (.struct #[f0, f1])) (o0 : f0.offset = 0) (o1 : f1.offset = a.sz) (hc : P.cellsOf t = a.sz + b.sz) (h0 : Opens P f0.type a oka) (h1 : Opens P f1.type b okb) : Opens P t (Kd.pair a b) (fun x => oka x.1 ∧ okb x.2) :=
  opens_struct ht hc (opensF_cons o0 h0 (opensF_last (by rw [o1, Nat.zero_add]) h1))
theorem opens_slice (ht : P.underlying t = some (.slice e)) (hc : P.cellsOf t = 1) (h : Opens P e a oka) (hz : 0 < a.sz) : Opens P t (Kd.slice e a) (fun l => ∀ x ∈ l, oka x) :=
  ⟨hc, fun enc w base held fuel cs y q => by
    rcases open_slice ht q with ⟨rfl, _⟩ | ⟨x, l, c, m, n, D, Pl, rfl, _, hl, hm, hmm, _, hx⟩
    · exact ⟨[], by simp, none, 0, rfl, Nat.le_refl _, Kd.C_nil _ _⟩
    · simp only [if_true] at hmm
      subst hmm
      have each : ∀ i, ∃ z : Option α, i < m → ∃ p, z = some p ∧ oka p ∧ ∃ c : List Value, c.length = a.sz ∧ a.K w p c ∧ ∀ k u, c[k]? = some u → w.cell? (x.add (i * a.sz + k)) = some u := by
        intro i
        by_cases hi : i < m
        · obtain ⟨cs', h1, h2⟩ := hx i hi
          obtain ⟨p, h3, h4⟩ := h.2 enc w base held n cs' _ h2
          obtain ⟨_, hlen, hcell⟩ := World.cells?_some h1
          rw [h.1] at h1 hlen hcell
          refine ⟨some p, fun _ => ⟨p, rfl, h3, cs', hlen, h4, fun k u hu => ?_⟩⟩
          have hk : k < a.sz := by have := (List.getElem?_eq_some_iff.1 hu).1; omega
          have h5 := hcell k hk
          rw [← Deep.add_add, ← hu]
          exact h5
        · exact ⟨none, fun q => (hi q).elim⟩
      obtain ⟨z, hz2⟩ := Classical.axiomOfChoice each
      have hget : ∀ i, i < m → ∃ p, z i = some p := fun i hi => by obtain ⟨p, e, _⟩ := hz2 i hi; exact ⟨p, e⟩
      have hlist : ∀ k, k ≤ m → ∃ L : List α, L.length = k ∧ ∀ i, (hi : i < k) → z i = L[i]? := by
        intro k
        induction k with
        | zero => intro _; exact ⟨[], rfl, fun i hi => absurd hi (by omega)⟩
        | succ k ih =>
          intro hk
          obtain ⟨L, h1, h2⟩ := ih (by omega)
          obtain ⟨p, hp⟩ := hget k (by omega)
          refine ⟨L ++ [p], by simp [h1], fun i hi => ?_⟩
          rcases Nat.lt_succ_iff_lt_or_eq.1 hi with q | q
          · rw [List.getElem?_append_left (by omega)]; exact h2 i q
          · rw [q, List.getElem?_append_right (by omega), h1, Nat.sub_self, hp]; rfl
      obtain ⟨L, h1, h2⟩ := hlist l (by omega)
      refine ⟨L, fun p hp => ?_, some x, m, by rw [h1], by omega, rfl, by unfold maxLen at hm; omega, fun _ => ⟨x, rfl, fun j p hj => ?_⟩⟩
      · obtain ⟨i, hi, e⟩ := List.mem_iff_getElem.1 hp
        obtain ⟨q, e1, e2, _⟩ := hz2 i (by omega)
        have := h2 i (by omega)
        rw [e1, List.getElem?_eq_getElem hi, e] at this
        cases this
        exact e2
      · have hjl : j < l := by have := (List.getElem?_eq_some_iff.1 hj).1; omega
        obtain ⟨q, e1, _, c', e3, e4, e5⟩ := hz2 j (by omega)
        have := h2 j hjl
        rw [e1, hj] at this
        cases this
        exact ⟨c', e3, e4, e5⟩⟩
/-- An argument of several cells, by value. -/
theorem open_arg {H : Type} {enc : TypeId × Value → H} {w : World} {base b0 : Nat} {held : Bool} {r : Reach} {v : Value} {d : DataW H} {ps : List MemPlace} {fs : Array Field} (ht : P.underlying t = some (.struct fs)) (h : Opens P t a oka)
    (hval : Value.okWide P w r b0 t v) (hd : DataW.Trod enc P w base (fun _ => true) held t v d ps) : ∃ x cs, oka x ∧ a.K w x cs ∧ v = .agg cs.toArray := by
  obtain ⟨cs, rfl, hcs⟩ := okWide_struct ht hval
  obtain ⟨fuel, hf⟩ := hd
  obtain ⟨x, h1, h2⟩ := h.2 enc w base held fuel _ _ hf
  exact ⟨x, cs.toList, h1, by simpa [Value.cells] using h2, by simp⟩

end
end Go.Proofs.YtbbfilmajiilhaaDoor
