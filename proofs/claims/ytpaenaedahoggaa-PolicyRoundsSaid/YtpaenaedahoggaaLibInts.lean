import Derived.Test.YtpaenaedahoggaaRows
import Derived.Test.YtpaenaedahoggaaEv
import Derived.Test.YtpaenaedahoggaaWZeros
import Derived.WalkSpells
import Derived.WalkLawsBesides
/-! slices.Clone, Grow, Concat at []int. -/
namespace Go.Proofs.Ytpaenaedahoggaa
open Go.RowKit Go.Proofs.YtpaenaedahoggaaW.PrintWords Go.Proofs.YtpaenaedahoggaaW.PrintLast Go.Proofs.YtpaenaedahoggaaW.PrintMore

theorem infoInt : (Try.prog.info? 3).map (fun i => (i.zero, i.size, i.bytes)) = some (some (.int .i64 0), 1, 8) := by kernel_rfl

theorem c_clone (A : Option Addr) (n c : Nat) (l : List Int) (w : World) (hn : l.length = n) (hr : Kd.C (Kd.int .i64) w A n l) (hl : n ≤ 1000000000000) :
    Calls Try.prog 24 #[.slice A n c] w fun e w' => ∃ v, e = .returned v ∧ Kd.R (Kd.int .i64) 3 w' w.heap.size (fun _ => True) v l ∧ Below w.heap.size w w' := by
  have heq := fun w => Lib.run_eql_slice_nil (P := Try.prog) w 22 3 A n c 0 0 Try.underlying22
  cases A with
  | none =>
    have h0 : n = 0 := by
      rcases Nat.eq_zero_or_pos n with h | h
      · exact h
      · obtain ⟨ad, e, _⟩ := hr.2.2 h; cases e
    have hl0 : l = [] := List.eq_nil_of_length_eq_zero (by omega)
    subst hl0
    clear hn h0
    go_enter Try.func24, Try.ntmps24
    go_wp2_with fail
    go_ret
    exact ⟨_, rfl, Kd.R_nil _ _ _ _ _, Below.refl _ _⟩
  | some ad =>
    clear hn
    go_enter Try.func24, Try.ntmps24
    go_wp2_with (at_builtin; refine Kd.R_append_rows (Kd.int .i64) (w0 := w) w.heap.size rfl (.tmp 5) (.tmp 6) 22 3 (.int .i64 0) 8 rfl Try.underlying22 infoInt rfl (by decide) (by decide) _ [] l (some ad) n c (fun _ => True) (fun _ => False) rfl rfl ?c1 ?c2 (fun _ _ h => h) (fun _ h => h.elim) (fun _ _ => trivial) ?c3 ?c4 ?c5 ?_)
    case c1 => exact Kd.R_of_own (World.ownsRow_made w #[] 0 (Nat.le_refl _) (Nat.zero_le _) rfl) (fun _ _ => trivial)
    case c2 => exact Kd.C_below hr ((Below.refl _ w).alloc (Nat.le_refl _) _)
    case c3 => exact (Below.refl _ w).alloc (Nat.le_refl _) _
    case c4 => simp
    case c5 => rw [List.length_nil]; omega
    intro v1 w1 hR hb _ _
    go_wp2
    go_ret
    exact ⟨_, rfl, hR, hb⟩

/-- slices.Grow at nil. -/
theorem c_grow (n : Nat) (w : World) (hn : n ≤ 1000000000000) :
    Calls Try.prog 27 #[.slice none 0 0, .int .i64 n] w fun e w' => ∃ v, e = .returned v ∧ Kd.R (Kd.int .i64) 3 w' w.heap.size (fun _ => True) v [] ∧ Below w.heap.size w w' := by
  rcases Nat.eq_zero_or_pos n with rfl | hp
  · go_enter Try.func27, Try.ntmps27
    go_wp2_with fail
    go_ret
    exact ⟨_, rfl, Kd.R_nil _ _ _ _ _, Below.refl _ _⟩
  · go_enter Try.func27, Try.ntmps27
    go_wp2_with (at_builtin; refine Kd.R_append_zeros (Kd.int .i64) (w0 := w) w.heap.size rfl (.tmp 20) (.tmp 21) 22 3 3 (.int .i64 0) 8 rfl Try.underlying22 Try.underlying3 infoInt rfl (by decide) (by decide) _ [] (0 : Int) (n : Int) (fun _ => True) rfl rfl ?c1 (fun _ _ => trivial) (Kd.R_nil _ _ _ _ _) (by omega) (Below.refl _ _) (Nat.le_refl _) ?c2 ?_)
    case c1 => rfl
    case c2 => rw [List.length_nil]; omega
    intro v1 w1 hR hb _ _
    obtain ⟨A1, c1, rfl⟩ := Kd.R_slice hR
    have hT := Kd.R_take (m := 0) hR (Nat.zero_le _)
    rw [List.take_zero] at hT
    rw [List.length_replicate] at hR ⊢
    have hc1 := (Kd.R_reads' hR).2.1
    have hq : (0 : Int) ≤ (c1 : Int) := by omega
    go_wp2_with fail
    go_ret
    exact ⟨_, rfl, hT, hb⟩

/-- A part of what is joined: where it lies, and what it holds. -/
structure Part where
  A : Option Addr
  n : Nat
  c : Nat
  l : List Int
def sizeTo (ps : List Part) (k : Nat) : Nat := ((ps.take k).map (fun p => p.l.length)).sum
def joinTo (ps : List Part) (k : Nat) : List Int := (ps.take k).flatMap (fun p => p.l)
theorem sizeTo_succ (ps : List Part) (k : Nat) (h : k < ps.length) : sizeTo ps (k + 1) = sizeTo ps k + ps[k].l.length := by
  unfold sizeTo; rw [List.take_succ_eq_append_getElem h, List.map_append, List.sum_append]; simp only [List.map_cons, List.map_nil, List.sum_cons, List.sum_nil, Nat.add_zero]
theorem joinTo_succ (ps : List Part) (k : Nat) (h : k < ps.length) : joinTo ps (k + 1) = joinTo ps k ++ ps[k].l := by
  unfold joinTo; rw [List.take_succ_eq_append_getElem h, List.flatMap_append]; simp only [List.flatMap_cons, List.flatMap_nil, List.append_nil]
theorem joinTo_length (ps : List Part) (k : Nat) : (joinTo ps k).length = sizeTo ps k := by
  unfold joinTo sizeTo; induction ps.take k with
  | nil => rfl
  | cons p t ih => simp [ih]

set_option maxRecDepth 100000 in
/-- slices.Concat: all parts, one behind the other. -/
theorem c_concat (B n c : Nat) (ps : List Part) (w : World) (hn : ps.length = n) (hn2 : n ≤ 1000) (hB : B < w.heap.size)
    (hc : ∀ i (h : i < ps.length), w.cell? ⟨B, i, none⟩ = some (.slice ps[i].A ps[i].n ps[i].c) ∧ ps[i].l.length = ps[i].n ∧ ps[i].n ≤ 1000000000 ∧ Kd.C (Kd.int .i64) w ps[i].A ps[i].n ps[i].l)
    (hsz : ∀ k, sizeTo ps k ≤ 1000000000000) :
    Calls Try.prog 25 #[.slice (some ⟨B, 0, none⟩) n c] w fun e w' => ∃ v, e = .returned v ∧ Kd.R (Kd.int .i64) 3 w' w.heap.size (fun _ => True) v (joinTo ps n) ∧ Below w.heap.size w w' := by
  go_enter Try.func25, Try.ntmps25
  go_wp2_with fail
  go_loopw [3, 11] (fun a i wr => ∃ k : Nat, k ≤ n ∧ i = .int .i64 k ∧ a = .int .i64 (sizeTo ps k) ∧ wr = w) (fun _ i _ => n - (intOf i).toNat)
  case atStart => exact ⟨0, by omega, rfl, rfl, rfl⟩
  case round =>
    obtain ⟨k, hk, rfl, rfl, hw⟩ := hrel
    have hw2 := hw.symm
    clear hw
    subst hw2
    by_cases hlt : k < n
    · obtain ⟨h1, h2, h3, h4⟩ := hc k (by omega)
      have HS := Lib.hid (sizeTo_succ ps k (by omega))
      have hb1 := hsz k
      have h2c : (ps[k].l.length : Int) = (ps[k].n : Int) := by rw [h2]
      go_wp2
      go_roundw
      case rel => exact ⟨k + 1, by omega, by go_num, by rw [HS.out, h2]; rfl, trivial⟩
      case measure => simp [intOf]; omega
    · obtain rfl : k = n := by omega
      have hb1 := hsz k
      have hlen := joinTo_length ps k
      go_wp2_with fail
      refine (c_grow _ _ hb1).mono ?_
      rintro e w1 ⟨v, rfl, hR, hb⟩
      obtain ⟨A1, c1, rfl⟩ := Kd.R_slice hR
      go_wp2_with fail
      go_loopw [6, 27] (fun a i ws => ∃ j : Nat, j ≤ k ∧ i = .int .i64 j ∧ Kd.R (Kd.int .i64) 3 ws w.heap.size (fun _ => True) a (joinTo ps j) ∧ Below w.heap.size w ws) (fun _ i _ => k - (intOf i).toNat)
      case atStart => exact ⟨0, by omega, rfl, hR, hb⟩
      case round =>
        obtain ⟨j, hj, rfl, hR2, hb2⟩ := hrel
        by_cases hlt : j < k
        · obtain ⟨h1, h2, h3, h4⟩ := hc j (by omega)
          have h1' := (hb2.cell (p := ⟨B, j, none⟩) hB).trans h1
          have hJ := Lib.hid (joinTo_succ ps j (by omega))
          have hjl := joinTo_length ps j
          have hb3 := hsz j
          obtain ⟨A2, c2, rfl⟩ := Kd.R_slice hR2
          generalize hM : (joinTo ps j).length = M at *
          generalize hI : ps[j].n = I at *
          go_wp2_with (at_builtin; refine Kd.R_append_rows (Kd.int .i64) (w0 := w) w.heap.size rfl (.tmp 31) (.tmp 32) 22 3 (.int .i64 0) 8 rfl Try.underlying22 infoInt rfl (by decide) (by decide) _ (joinTo ps j) ps[j].l _ I _ (fun _ => True) (fun _ => False) rfl rfl ?c1 ?c2 (fun _ _ h => h) (fun _ h => h.elim) (fun _ _ => trivial) ?c3 ?c4 ?c5 ?_)
          case c1 => exact hR2
          case c2 => exact Kd.C_below h4 hb2
          case c3 => exact hb2
          case c4 => exact hb2.size
          case c5 => rw [hM]; omega
          intro v3 w3 hR3 hb4 _ _
          rw [← hJ.out] at hR3
          obtain ⟨A3, c3, rfl⟩ := Kd.R_slice hR3
          go_wp2
          go_roundw
          case rel => exact ⟨j + 1, by omega, by go_num, hR3, hb4⟩
          case measure => simp [intOf]; omega
        · obtain rfl : j = k := by omega
          obtain ⟨A2, c2, rfl⟩ := Kd.R_slice hR2
          go_wp2
          go_ret
          exact ⟨_, rfl, hR2, hb2⟩
end Go.Proofs.Ytpaenaedahoggaa
