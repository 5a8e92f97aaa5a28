/- Dictionaries: Make. No condition. -/
import Derived.Test.YtlghcfhmfbdidaaPlace
namespace Go.Proofs.Ytlghcfhmfbdidaa
open Go.RowKit Go.Proofs.Ytlghcfhmfbdidaa.PAll Go.Proofs.YtlghcfhmfbdidaaW.PrintWords Go.Proofs.YtlghcfhmfbdidaaW.PrintLast Go.Proofs.YtlghcfhmfbdidaaW.PrintMore

/-- A dictionary with all its memory from block 'base' on. -/
def IsDR (w : World) (base g : Nat) (ns : List ByteArray) (vs : List Int) : Prop :=
  ∃ v0 v1, w.heap[g]? = some (.cells #[v0, v1] 58 (0, 0)) ∧ base ≤ g ∧ Kd.R Kd.string 9 w base (fun _ => True) v0 ns ∧ Kd.R (Kd.int .i64) 3 w base (fun _ => True) v1 vs
theorem IsDR.isD {w : World} {base g : Nat} {ns : List ByteArray} {vs : List Int} (h : IsDR w base g ns vs) : IsD w g ns vs := by
  obtain ⟨v0, v1, hg, _, h0, h1⟩ := h
  obtain ⟨A0, c0, rfl, l0, r0⟩ := Kd.R_reads h0
  obtain ⟨A1, c1, rfl, l1, r1⟩ := Kd.R_reads h1
  exact ⟨A0, c0, A1, c1, hg, l0, l1, r0, r1⟩
theorem IsDR.move {w w1 : World} {base g : Nat} {ns : List ByteArray} {vs : List Int} (h : IsDR w base g ns vs) (hm : ∀ k, base ≤ k → k < w.heap.size → w1.heap[k]? = w.heap[k]?) : IsDR w1 base g ns vs := by
  obtain ⟨v0, v1, hg, hb, h0, h1⟩ := h
  refine ⟨v0, v1, (hm g hb (Array.getElem?_eq_some_iff.1 hg).1).trans hg, hb, ?_, ?_⟩
  · exact Kd.R_mono (Kd.R_step (Kd.R_bound h0) (fun k hk hlt => hm k hk.2.1 hlt)) (fun _ _ => trivial)
  · exact Kd.R_mono (Kd.R_step (Kd.R_bound h1) (fun k hk hlt => hm k hk.2.1 hlt)) (fun _ _ => trivial)
theorem IsDR.below {w w1 : World} {base g : Nat} {ns : List ByteArray} {vs : List Int} (h : IsDR w base g ns vs) (hb : Below w.heap.size w w1) : IsDR w1 base g ns vs := h.move (fun k _ hk => hb.block k hk)
theorem IsDR.far {w : World} {base g : Nat} {ns : List ByteArray} {vs : List Int} (h : IsDR w base g ns vs) {p : Addr} (hp : p.block < base) (u : Value) : IsDR (w.setCell p u) base g ns vs := h.move (fun k hk _ => Below.heap_setCell w p u k (by omega))

theorem IsDR.lower {w : World} {base base' g : Nat} {ns : List ByteArray} {vs : List Int} (h : IsDR w base g ns vs) (hb : base' ≤ base) : IsDR w base' g ns vs := by
  obtain ⟨v0, v1, hg, hge, h0, h1⟩ := h
  exact ⟨v0, v1, hg, Nat.le_trans hb hge, Kd.R_lower h0 hb, Kd.R_lower h1 hb⟩
theorem spot_of_cell {w : World} {ad : Addr} {v : Value} (h : w.cell? ad = some v) : ad = ⟨ad.block, ad.off, none⟩ := by
  obtain ⟨b, o, s⟩ := ad
  cases s with
  | none => rfl
  | some x =>
    unfold World.cell? at h
    simp at h
    split at h <;> simp at h
theorem add_none (b o j : Nat) : (⟨b, o, none⟩ : Addr).add j = ⟨b, o + j, none⟩ := by unfold Addr.add; split <;> simp_all

theorem clone_str (A : Option Addr) (c : Nat) (l : List ByteArray) (w : World) (hC : Kd.C Kd.string w A l.length l) (hn : l.length ≤ 1000000) :
    Calls Try.prog 37 #[.slice A l.length c] w fun e w' => ∃ v, e = .returned v ∧ Kd.R Kd.string 9 w' w.heap.size (fun _ => True) v l ∧ Below w.heap.size w w' := by
  cases A with
  | none =>
    have hl : l = [] := by
      rcases Nat.eq_zero_or_pos l.length with h0 | h0
      · exact List.eq_nil_of_length_eq_zero h0
      · obtain ⟨ad, e, _⟩ := hC.2.2 h0; cases e
    subst hl
    refine (Try.slices_Clone_string_nil _ _ w).mono ?_
    rintro e w' ⟨rfl, rfl⟩
    exact ⟨_, rfl, Kd.R_nil _ _ _ _ _, Below.refl _ _⟩
  | some ad =>
    rcases Nat.eq_zero_or_pos l.length with h0 | h0
    · have hl : l = [] := List.eq_nil_of_length_eq_zero h0
      subst hl
      refine (Try.slices_Clone_string_zero ad c w).mono ?_
      rintro e w' ⟨v, rfl, ho, _, hb⟩
      exact ⟨v, rfl, Kd.R_of_own (enc := Value.string) ho (fun _ _ => trivial), hb⟩
    · obtain ⟨_, ⟨⟩, hc⟩ := (Kd.reads_of_C (d := ByteArray.empty) hC).2.2 h0
      have hs := spot_of_cell (hc 0 h0)
      have hs2 : ad = ⟨ad.block, ad.off, none⟩ := hs
      rw [hs2] at hc ⊢
      refine (Try.slices_Clone_string ad.block ad.off l.length c l w (Nat.le_refl _) (by omega) (fun j hj => by have := hc j hj; rwa [add_none] at this)).mono ?_
      rintro e w' ⟨v, rfl, ho, _, hb⟩
      rw [List.take_length] at ho
      exact ⟨v, rfl, Kd.R_of_own (enc := Value.string) ho (fun _ _ => trivial), hb⟩
theorem clone_int (A : Option Addr) (c : Nat) (l : List Int) (w : World) (hC : Kd.C (Kd.int .i64) w A l.length l) (hn : l.length ≤ 1000000) :
    Calls Try.prog 38 #[.slice A l.length c] w fun e w' => ∃ v, e = .returned v ∧ Kd.R (Kd.int .i64) 3 w' w.heap.size (fun _ => True) v l ∧ Below w.heap.size w w' := by
  cases A with
  | none =>
    have hl : l = [] := by
      rcases Nat.eq_zero_or_pos l.length with h0 | h0
      · exact List.eq_nil_of_length_eq_zero h0
      · obtain ⟨ad, e, _⟩ := hC.2.2 h0; cases e
    subst hl
    refine (Try.slices_Clone_int_nil _ _ w).mono ?_
    rintro e w' ⟨rfl, rfl⟩
    exact ⟨_, rfl, Kd.R_nil _ _ _ _ _, Below.refl _ _⟩
  | some ad =>
    rcases Nat.eq_zero_or_pos l.length with h0 | h0
    · have hl : l = [] := List.eq_nil_of_length_eq_zero h0
      subst hl
      refine (Try.slices_Clone_int_zero ad c w).mono ?_
      rintro e w' ⟨v, rfl, ho, _, hb⟩
      exact ⟨v, rfl, Kd.R_of_own (enc := Value.int .i64) ho (fun _ _ => trivial), hb⟩
    · obtain ⟨_, ⟨⟩, hc⟩ := (Kd.reads_of_C (d := (0 : Int)) hC).2.2 h0
      have hs2 : ad = ⟨ad.block, ad.off, none⟩ := spot_of_cell (hc 0 h0)
      rw [hs2] at hc ⊢
      refine (Try.slices_Clone_int ad.block ad.off l.length c l w (Nat.le_refl _) (by omega) (fun j hj => by have := hc j hj; rwa [add_none] at this)).mono ?_
      rintro e w' ⟨v, rfl, ho, _, hb⟩
      rw [List.take_length] at ho
      exact ⟨v, rfl, Kd.R_of_own (enc := Value.int .i64) ho (fun _ _ => trivial), hb⟩

/-- Rising, by neighbours. -/
def upB (l : List ByteArray) : Nat → Bool
  | 0 => true
  | n + 1 => upB l n && (decide (n = 0) || Op.bytesLess (nth l (n - 1)).toList (nth l n).toList)

set_option maxHeartbeats 1000000 in
set_option maxRecDepth 100000 in
/-- Make, of names that rise and as many things. -/
theorem make_ok (A0 A1 : Option Addr) (c0 c1 k : Nat) (ns : List ByteArray) (vs : List Int) (w : World) (h0 : Kd.C Kd.string w A0 ns.length ns) (h1 : Kd.C (Kd.int .i64) w A1 vs.length vs) (hl0 : ns.length ≤ c0) (hl : vs.length = ns.length) (hn : ns.length ≤ 1000000) (hr : dict_rises.f k ns = some true) :
    Calls Try.prog 20 #[.slice A0 ns.length c0, .slice A1 vs.length c1] w fun e w' => ∃ g, e = .returned (.tuple #[.pointer (some ⟨g, 0, none⟩), .int .i64 0]) ∧ IsDR w' w.heap.size g ns vs ∧ Below w.heap.size w w' := by
  go_enter Try.func20, Try.ntmps20
  go_wp2_with fail
  refine (dict_rises.calls k A0 c0 ns true w h0 hl0 hr).mono ?_
  rintro e w1 ⟨rfl, q, rfl⟩
  go_wp2_with fail
  refine (clone_str A0 c0 ns (w.drewN q) (Kd.C_drewN h0 q) hn).mono ?_
  rintro e w2 ⟨v0, rfl, R0, hb2⟩
  have hb2' : Below w.heap.size w w2 := (pw_below_drewN (Below.refl _ w) q).trans hb2
  go_wp2_with fail
  have hcl := clone_int A1 c1 vs w2 (Kd.C_below h1 hb2') (by omega)
  rw [hl] at hcl
  clear hl
  refine hcl.mono ?_
  rintro e w3 ⟨v1, rfl, R1, hb3⟩
  have hb3' : Below w.heap.size w w3 := hb2'.trans (hb3.mono hb2'.size)
  have R0' : Kd.R Kd.string 9 w3 w.heap.size (fun _ => True) v0 ns := Kd.R_below R0 hb3
  have R1' : Kd.R (Kd.int .i64) 3 w3 w.heap.size (fun _ => True) v1 vs := Kd.R_lower R1 hb2'.size
  obtain ⟨A2, c2, rfl⟩ := Kd.R_slice R0'
  obtain ⟨A3, c3, rfl⟩ := Kd.R_slice R1'
  go_wp2_with fail
  go_ret2
  refine ⟨w3.heap.size, rfl, ⟨_, _, World.alloc_heap_new w3 _, hb3'.size, Kd.R_alloc R0' _, Kd.R_alloc R1' _⟩, hb3'.alloc hb3'.size _⟩

set_option maxHeartbeats 1000000 in
set_option maxRecDepth 100000 in
/-- Make, of names that do not rise. -/
theorem make_no (A0 A1 : Option Addr) (c0 c1 k : Nat) (ns : List ByteArray) (vs : List Int) (w : World) (h0 : Kd.C Kd.string w A0 ns.length ns) (hl0 : ns.length ≤ c0) (hl : vs.length = ns.length) (hr : dict_rises.f k ns = some false) :
    Calls Try.prog 20 #[.slice A0 ns.length c0, .slice A1 vs.length c1] w fun e w' => e = .returned (.tuple #[.pointer none, .int .i64 1]) ∧ Below w.heap.size w w' := by
  go_enter Try.func20, Try.ntmps20
  go_wp2_with fail
  refine (dict_rises.calls k A0 c0 ns false w h0 hl0 hr).mono ?_
  rintro e w1 ⟨rfl, q, rfl⟩
  go_wp2_with fail
  go_ret2
  exact ⟨rfl, pw_below_drewN (Below.refl _ w) q⟩

set_option maxHeartbeats 1000000 in
set_option maxRecDepth 100000 in
/-- Make, of too many things, or too few. -/
theorem make_ne (A0 A1 : Option Addr) (c0 c1 n m : Nat) (w : World) (hl : m ≠ n) :
    Calls Try.prog 20 #[.slice A0 n c0, .slice A1 m c1] w fun e w' => e = .returned (.tuple #[.pointer none, .int .i64 1]) ∧ Below w.heap.size w w' := by
  have hne : (decide ((n : Int) = (m : Int))) = false := decide_eq_false (by omega)
  have hne2 : ¬ ((n : Int) = (m : Int)) := by omega
  have hne3 : ¬ n = m := by omega
  go_enter Try.func20, Try.ntmps20
  go_wp2_with fail
  go_ret2
  exact ⟨rfl, Below.refl _ w⟩
end Go.Proofs.Ytlghcfhmfbdidaa
