/- slices.Clone at fields. Condition: no more than a million. -/
import Derived.Test.YtbbfilmajiilhaaDoorBnd0
set_option linter.unusedVariables false
set_option linter.unusedSimpArgs false
namespace Go.Proofs.YtbbfilmajiilhaaDoor
open Go.RowKit Go.Proofs.YtbbfilmajiilhaaDoor.PAll Go.Proofs.YtbbfilmajiilhaaDoorW.PrintWords Go.Proofs.YtbbfilmajiilhaaDoorW.PrintLast Go.Proofs.YtbbfilmajiilhaaDoorW.PrintMore

set_option maxHeartbeats 1000000 in
set_option maxRecDepth 100000 in
theorem fields_clone (A : Option Addr) (n c : Nat) (l : List S24) (w : World) (hn : l.length = n) (hr : Kd.C k24 w A n l) (hl : n ≤ 1000000) :
    Calls Tryd.prog 24 #[.slice A n c] w fun e w' => ∃ v, e = .returned v ∧ Kd.R k24 24 w' w.heap.size (fun _ => True) v l ∧ Below w.heap.size w w' := by
  have heq := fun w => Lib.run_eql_slice_nil (P := Tryd.prog) w 25 24 A n c 0 0 Tryd.underlying25
  cases A with
  | none =>
    have h0 : n = 0 := by
      rcases Nat.eq_zero_or_pos n with h | h
      · exact h
      · obtain ⟨ad, e, _⟩ := hr.2.2 h; cases e
    have hl0 : l = [] := List.eq_nil_of_length_eq_zero (by omega)
    subst hl0
    clear hn h0
    go_enter Tryd.func24, Tryd.ntmps24
    go_wp2_with fail
    go_ret
    exact ⟨_, rfl, Kd.R_nil _ _ _ _ _, Below.refl _ _⟩
  | some ad =>
    clear hn
    go_enter Tryd.func24, Tryd.ntmps24
    go_wp2_with (at_builtin; refine Kd.R_append_rows k24 (w0 := w) w.heap.size rfl (.tmp 5) (.tmp 6) 25 24 (.agg #[.string ByteArray.empty, .string ByteArray.empty]) 32 rfl Tryd.underlying25 info24 rfl (by decide) (by decide) _ [] l (some ad) n c (fun _ => True) (fun _ => False) rfl rfl ?c1 ?c2 (fun _ _ h => h) (fun _ h => h.elim) (fun _ _ => trivial) ?c3 ?c4 ?c5 ?_)
    case c1 => exact ⟨fun _ _ => trivial, [], World.ownsRow_made w #[] 0 (Nat.le_refl _) (Nat.zero_le _) rfl, Reps.none _ _⟩
    case c2 => exact Kd.C_below hr ((Below.refl _ w).alloc (Nat.le_refl _) _)
    case c3 => exact (Below.refl _ w).alloc (Nat.le_refl _) _
    case c4 => simp
    case c5 => rw [List.length_nil]; omega
    intro v1 w1 hR hb _ _
    go_wp2
    go_ret
    exact ⟨_, rfl, hR, hb⟩
def api_Field_24.f (l : List S24) : Option (List S24) := if l.length ≤ 1000000 then some l else none
theorem api_Field_24.calls (A0 : Option Addr) (c0 : Nat) (l0 : List S24) (r : List S24) (w : World) (hr0 : Kd.C k24 w A0 l0.length l0) (hc0 : l0.length ≤ c0) (h : api_Field_24.f l0 = some r) :
    Calls Tryd.prog 24 #[.slice A0 l0.length c0] w fun e w' => ∃ v0_ : Value, e = .returned (v0_) ∧ Kd.R k24 24 w' w.heap.size (fun _ => True) v0_ r ∧ Below w.heap.size w w' := by
  unfold api_Field_24.f at h
  split at h
  · rename_i hl
    obtain rfl := Option.some.inj h
    exact fields_clone A0 _ c0 l0 w rfl hr0 hl
  · cases h
end Go.Proofs.YtbbfilmajiilhaaDoor
